/- The law FnRunSupply for every input, part 4 of its proof: what the program's functions answer, and the plain law. No condition. -/
import Derived.Test.YtkdfjomhichkoaaMFnRunSupply1
import Derived.Test.YtkdfjomhichkoaaMFnRunSupply2
import Derived.Test.YtkdfjomhichkoaaMFnRunSupply3
namespace Go.Proofs.Ytkdfjomhichkoaa.P
open Go.RowKit Go.Proofs.YtkdfjomhichkoaaW.PrintWords Go.Proofs.YtkdfjomhichkoaaW.PrintLast Go.Proofs.YtkdfjomhichkoaaW.PrintMore
attribute [local go_sem] max2_int min2_int max_two min_two max_three min_three max_four min_four
set_option linter.unusedVariables false
set_option linter.unusedSimpArgs false
mutual
def zl.l0 : Nat → Int → List Bool → Int → List Int → Int → Int → Int → Option (List Bool × Int)
 | 0, _, _, _, _, _, _, _ => none
 | k + 1, x2, x7, x8, x1000, x1001, x634000, x634001 => (zco.f x634000 x634001).bind fun t637 => (if t637 = true then (zl.j1 k x2 x7 x8 (decide (x8 < 120)) x1000 x1001 x634000 x634001) else (zl.j1 k x2 x7 x8 false x1000 x1001 x634000 x634001))
def zl.j1 : Nat → Int → List Bool → Int → Bool → List Int → Int → Int → Int → Option (List Bool × Int)
 | 0, _, _, _, _, _, _, _, _ => none
 | k + 1, x2, x7, x8, x20, x1000, x1001, x634000, x634001 => if x20 = true then ((zb.f k x1000 x1001 3).bind fun bt638 => (zl.l1 k x2 x7 x8 bt638.1 x634000 0 x1000 bt638.2 x634000 x634001)) else ((zbk.f k x1000 x1001 x2).bind fun bt647 => (if bt647.1 = true then ((zb.f k x1000 bt647.2 120).bind fun bt649 => ((zb.f k x1000 bt649.2 2).bind fun bt651 => (if bt651.1 = 0 then (if 0 ≤ bt649.1 then (if bt649.1 ≤ (x7.length : Int) then (some ((x7.take (bt649.1 : Int).toNat), bt651.2)) else (none)) else (none)) else (if 0 ≤ bt649.1 then (if bt649.1 < (x7.length : Int) then (some ((x7.set (bt649.1 : Int).toNat (!(rdOf false x7 bt649.1))), bt651.2)) else (none)) else (none))))) else (some (x7, bt647.2))))
def zl.l1 : Nat → Int → List Bool → Int → Int → Int → Int → List Int → Int → Int → Int → Option (List Bool × Int)
 | 0, _, _, _, _, _, _, _, _, _, _ => none
 | k + 1, x2, x7, x8, x9, x10, x11, x1000, x1001, x634000, x634001 => if x11 < x634001 then (zl.j3 k x2 x7 x8 x9 x10 x11 (decide ((wrap64 (x8 + x11)) < 120)) x1000 x1001 x634000 x634001) else (zl.j3 k x2 x7 x8 x9 x10 x11 false x1000 x1001 x634000 x634001)
def zl.j3 : Nat → Int → List Bool → Int → Int → Int → Int → Bool → List Int → Int → Int → Int → Option (List Bool × Int)
 | 0, _, _, _, _, _, _, _, _, _, _, _ => none
 | k + 1, x2, x7, x8, x9, x10, x11, x38, x1000, x1001, x634000, x634001 => if x38 = true then (if x10 > 0 then (if x9 = 0 then (if 0 ≤ (wrap64 (x8 + x11)) then (if (wrap64 (x8 + x11)) < (x7.length : Int) then (zl.l1 k x2 (x7.set ((wrap64 (x8 + x11)) : Int).toNat true) x8 x9 (wrap64 (x10 - 1)) (wrap64 (x11 + 1)) x1000 x1001 x634000 x634001) else (none)) else (none)) else (if x10 = (wrap64 (x634001 - x11)) then (if 0 ≤ (wrap64 (x8 + x11)) then (if (wrap64 (x8 + x11)) < (x7.length : Int) then (zl.l1 k x2 (x7.set ((wrap64 (x8 + x11)) : Int).toNat true) x8 x9 (wrap64 (x10 - 1)) (wrap64 (x11 + 1)) x1000 x1001 x634000 x634001) else (none)) else (none)) else (if x9 = 2 then ((zb.f k x1000 x1001 2).bind fun bt642 => (if 0 ≤ (wrap64 (x8 + x11)) then (if (wrap64 (x8 + x11)) < (x7.length : Int) then ((some (x7.set ((wrap64 (x8 + x11)) : Int).toNat (bt642.1 == 0) : List Bool)).bind fun y644 => (if bt642.1 = 0 then (zl.l1 k x2 y644 x8 x9 (wrap64 (x10 - 1)) (wrap64 (x11 + 1)) x1000 bt642.2 x634000 x634001) else (zl.l1 k x2 y644 x8 x9 x10 (wrap64 (x11 + 1)) x1000 bt642.2 x634000 x634001))) else (none)) else (none))) else (if 0 ≤ (wrap64 (x8 + x11)) then (if (wrap64 (x8 + x11)) < (x7.length : Int) then (zl.l1 k x2 (x7.set ((wrap64 (x8 + x11)) : Int).toNat false) x8 x9 x10 (wrap64 (x11 + 1)) x1000 x1001 x634000 x634001) else (none)) else (none))))) else (if 0 ≤ (wrap64 (x8 + x11)) then (if (wrap64 (x8 + x11)) < (x7.length : Int) then (zl.l1 k x2 (x7.set ((wrap64 (x8 + x11)) : Int).toNat false) x8 x9 x10 (wrap64 (x11 + 1)) x1000 x1001 x634000 x634001) else (none)) else (none))) else (zl.l0 k x2 x7 (wrap64 (x8 + x634001)) x1000 x1001 x634000 x634001)
end
def zl.f (k : Nat) (s0_0 : List Int) (s0_1 : Int) (a1_0 : Int) (a1_1 : Int) (a2 : Int) : Option (List Bool × Int) := if 120 ≤ 281474976710656 then (zl.l0 k a2 (List.replicate 120 false) 0 s0_0 s0_1 a1_0 a1_1) else (none)
set_option maxHeartbeats 8000000 in
set_option maxRecDepth 100000 in
theorem zl.calls (k : Nat) (g : Nat) (s0_0 : List Int) (s0_1 : Int) (a1_0 : Int) (a1_1 : Int) (a2 : Int) (r1 : List Bool) (r2 : Int) (w0 w : World) (hI : zf w0 w g s0_0 s0_1) (hB : Below w0.heap.size w0 w) (h : zl.f k s0_0 s0_1 a1_0 a1_1 a2 = some (r1, r2)) :
  Calls Try.prog 71 #[.pointer (some ⟨g, 0, none⟩), .agg #[.int .i64 a1_0, .int .i64 a1_1], .int .i64 a2] w fun e w' => ∃ v0_ : Value, e = .returned (v0_) ∧ Kd.R Kd.bool 4 w' w.heap.size (fun _ => True) v0_ r1 ∧ zf w0 w' g s0_0 r2 ∧ Below w0.heap.size w0 w' ∧ zi w w' g none := by
 have hu51 := Try.underlying51
 have HI0 := za.mk hI
 have HK := za.mk (zi.refl w g none)
 have HL := za.mk hB.size
 clear hI
 have HW0 := za.mk hB.size
 have HB := za.mk hB
 clear hB
 have H : (if 120 ≤ 281474976710656 then (zl.l0 k a2 (List.replicate 120 false) 0 s0_0 s0_1 a1_0 a1_1) else (none)) = some (r1, r2) := h
 clear h
 by_cases c4 : 120 ≤ 281474976710656
 ·rw [if_pos c4] at H
  have c4b0 := eq_true c4
  have c4b1 : decide (120 ≤ 281474976710656) = true := decide_eq_true c4
  clear c4
  obtain ⟨y634, hy634⟩ : ∃ y_ : List Bool, y_ = (List.replicate 120 false) := ⟨_, rfl⟩
  replace H : (zl.l0 k a2 y634 0 s0_0 s0_1 a1_0 a1_1) = some (r1, r2) := by first | (rw [hy634]; with_reducible exact H) | (have H2_ := (Option.bind_some _ _).symm.trans H; rw [hy634]; with_reducible exact H2_) | (have H2_ := (Option.bind_some _ _).symm.trans H; with_reducible exact H2_) | with_reducible exact H | (rw [hy634]; exact H) | exact H
  have Ny634 := za.mk hy634
  clear hy634
  have H' := za.mk H
  clear H
  go_enter Try.func71, Try.ntmps71
  go_wp2_with (first | ((with_reducible refine zbp (N := 4) rfl ?_); refine zb1 ?hg (N := 4) ?hd (cs := #[.int .i64 a1_0, .int .i64 a1_1]) (t := 51) ?hr ?_; (case hd => rfl); (case hg => rfl); (case hr => first | (go_simp; done) | (go_simp; rfl)); intro gb633 hg w5 hbox hb; have n0_ := za.mk (zf.below (Zq8 HI0.out) hb); have n1_ := za.mk (zi.trans (Zq9 HK.out) (zi.of_below hb g none) (.inl rfl)); have n2_ := za.mk (zo (Zq5 HB.out (zf.ge HI0.out)) hb); have n3_ := za.mk (hbox); have n4_ := za.mk ((by rw [hg]; exact (zb4 (w := w) (g := g) (row := none) (Zq9 HK.out)) : w.heap.size ≤ gb633)); have n5_ := za.mk ((Nat.le_trans HW0.out (by rw [hg]; exact (zb4 (w := w) (g := g) (row := none) (Zq9 HK.out)) : w.heap.size ≤ gb633) : w0.heap.size ≤ gb633)); have n6_ := za.mk ((by rw [hg]; exact Nat.ne_of_lt (zf.lt (show zf w0 _ g s0_0 s0_1 from Zq8 HI0.out)) : g ≠ gb633)); have n7_ := za.mk ((by rw [hg]; exact Nat.ne_of_gt (zf.lt (show zf w0 _ g s0_0 s0_1 from Zq8 HI0.out)) : gb633 ≠ g)); clear HI0; clear HK; clear HB; have HI0 := n0_; have HK := n1_; have HB := n2_; have BK633 := n3_; have GW633 := n4_; have GE633 := n5_; have NB0_633 := n6_; have NB633_0 := n7_; clear n0_ n1_ n2_ n3_ n4_ n5_ n6_ n7_; clear hb hbox hg) | ((with_reducible refine zbp (N := 14) rfl ?_); refine Kd.R_make Kd.bool _ 4 rfl (N := 14) rfl 52 _ _ rfl 120 rfl rfl Try.underlying52 (.bool false) 1 info4 rfl (by decide) (by omega) false (ok := fun _ => True) (okp := fun _ => True) rfl (fun _ hk => hk) trivial (by omega) (by omega) (Below.refl _ _) (Nat.le_refl _) ?_; intro v635 w6 ho7 hb hg_ hnew_; clear hg_ hnew_; (first | rw [← Ny634.out] at ho7 | (simp only [Int.reduceToNat] at ho7; rw [← Ny634.out] at ho7)); have n0_ := za.mk (Kd.zb2 ho7 (zb4 (w := w) (g := g) (row := none) (Zq11 HK.out GW633.out))); have n1_ := za.mk (zf.below (Zq10 HI0.out NB0_633.out) hb); have n2_ := za.mk (zbg (g := gb633) (o := .cells #[.int .i64 a1_0, .int .i64 a1_1] 51 (0, 0)) (Zq4 BK633.out) hb); have n3_ := za.mk (zi.trans (Zq11 HK.out GW633.out) (zi.of_below hb g none) (.inl rfl)); have n4_ := za.mk (zo (Zq7 HB.out (zf.ge HI0.out) GE633.out) hb); clear HI0; clear BK633; clear HK; clear HB; have HO636 := n0_; have HI0 := n1_; have BK633 := n2_; have HK := n3_; have HB := n4_; clear n0_ n1_ n2_ n3_ n4_; clear hb ho7))
  go_loopg [8] k (fun kq v8 w' => ∃ (x7_1 : List Bool) (x8_1 : Int) (x1001_1 : Int), v8 = .int .i64 x8_1 ∧ za (zl.l0 kq a2 x7_1 x8_1 s0_0 x1001_1 a1_0 a1_1 = some (r1, r2)) ∧ za (kq ≤ k) ∧ za (Kd.R Kd.bool 4 w' w.heap.size (fun _ => True) v635 x7_1) ∧ za (w'.heap[gb633]? = some (.cells #[.int .i64 a1_0, .int .i64 a1_1] 51 (0, 0))) ∧ za (zf w0 w' g s0_0 x1001_1) ∧ za (zi w w' g none) ∧ za (Below w0.heap.size w0 w'))
  case atStart => exact ⟨(y634), (0), (s0_1), Zrs, H', ⟨Nat.le_refl _⟩, ⟨Zq12 HO636.out⟩, ⟨Zq4 BK633.out⟩, ⟨Zq10 HI0.out NB0_633.out⟩, ⟨Zq11 HK.out GW633.out⟩, ⟨Zq7 HB.out (zf.ge HI0.out) GE633.out⟩⟩
  case round =>
   clear H'
   try clear p2
   try clear c4
   try clear c4b0
   try clear c4b1
   try clear c7
   obtain ⟨x7_1, x8_1, x1001_1, rfl, HA, HK1, HO_7, BK633, HI0, HK, HB⟩ := hrel
   cases gk with
   | zero => exact absurd HA.out (by simp [zl.l0])
   | succ k1 =>
    have H := HA.out
    clear HA
    simp only [zl.l0] at H
    have HC8 := za.mk H
    clear H
    go_upto_region 3 with (fail)
    go_cut [20] (fun v20 wc => ∃ (kq : Nat) (x20_7 : Bool), v20 = .bool x20_7 ∧ za (zl.j1 kq a2 x7_1 x8_1 x20_7 s0_0 x1001_1 a1_0 a1_1 = some (r1, r2)) ∧ za (kq ≤ k1) ∧ za (Kd.R Kd.bool 4 wc w.heap.size (fun _ => True) v635 x7_1) ∧ za (wc.heap[gb633]? = some (.cells #[.int .i64 a1_0, .int .i64 a1_1] 51 (0, 0))) ∧ za (zf w0 wc g s0_0 x1001_1) ∧ za (zi w wc g none) ∧ za (Below w0.heap.size w0 wc))
    case first =>
     have H := HC8.out
     clear HC8
     replace H := Option.bind_eq_some_iff.mp H
     obtain ⟨t637, A90, H⟩ := H
     replace H : (if t637 = true then (zl.j1 k1 a2 x7_1 x8_1 (decide (x8_1 < 120)) s0_0 x1001_1 a1_0 a1_1) else (zl.j1 k1 a2 x7_1 x8_1 false s0_0 x1001_1 a1_0 a1_1)) = some (r1, r2) := H
     have A9 := za.mk A90
     clear A90
     by_cases c10 : t637 = true
     ·subst c10
      have H1 : (zl.j1 k1 a2 x7_1 x8_1 (decide (x8_1 < 120)) s0_0 x1001_1 a1_0 a1_1) = some (r1, r2) := by rw [if_pos rfl] at H; exact H
      clear H
      have H := H1
      clear H1
      have H' := za.mk H
      clear H
      have hnb11 := NB633_0.out
      have hnc11 := NB0_633.out
      have hcz12_0 : wr.cell? ⟨gb633, 0, none⟩ = some (.int .i64 a1_0) := (zh BK633.out 0).trans rfl
      have hcz12_1 : wr.cell? ⟨gb633, 1, none⟩ = some (.int .i64 a1_1) := (zh BK633.out 1).trans rfl
      have hfz12_0 := zg BK633.out 0
      have hfz12_1 := zg BK633.out 1
      go_wp2_with (first | ((with_reducible refine zba (f := 107) rfl ?_); refine zbv (some 16) rfl rfl Try.func107 (by kernel_rfl) rfl #[.agg #[.int .i64 a1_0, .int .i64 a1_1]] rfl Zmt ?_; (with_reducible refine (zco.calls a1_0 a1_1 true _ A9.out).mono ?_); rintro e w13 ⟨rfl, hb⟩; refine ⟨_, rfl, ?_⟩; have n0_ := za.mk (Kd.zbl (Zq12 HO_7.out) hb); have n1_ := za.mk (zbg (g := gb633) (o := .cells #[.int .i64 a1_0, .int .i64 a1_1] 51 (0, 0)) (Zq4 BK633.out) hb); have n2_ := za.mk (zf.below (Zq10 HI0.out NB0_633.out) hb); have n3_ := za.mk (zi.trans (Zq11 HK.out GW633.out) (zi.of_below hb g none) (.inl rfl)); have n4_ := za.mk (zo (Zq7 HB.out (zf.ge HI0.out) GE633.out) hb); clear HO_7; clear BK633; clear HI0; clear HK; clear HB; have HO_7 := n0_; have BK633 := n1_; have HI0 := n2_; have HK := n3_; have HB := n4_; clear n0_ n1_ n2_ n3_ n4_; (try clear hb); (try clear hb2); (try clear hk); (try clear hi)))
      go_meet
      case rel => exact ⟨_, (decide (x8_1 < 120)), Zrs, H', ⟨by have := HK1.out; first | omega | exact Nat.le_refl _⟩, ⟨Zq12 HO_7.out⟩, ⟨Zq4 BK633.out⟩, ⟨Zq10 HI0.out NB0_633.out⟩, ⟨Zq11 HK.out GW633.out⟩, ⟨Zq7 HB.out (zf.ge HI0.out) GE633.out⟩⟩
     ·replace c10 := Bool.eq_false_iff.mpr c10
      subst c10
      have H1 : (zl.j1 k1 a2 x7_1 x8_1 false s0_0 x1001_1 a1_0 a1_1) = some (r1, r2) := by rw [if_neg (show ¬ (false = true) by decide)] at H; exact H
      clear H
      have H := H1
      clear H1
      have H' := za.mk H
      clear H
      have hnb14 := NB633_0.out
      have hnc14 := NB0_633.out
      have hcz15_0 : wr.cell? ⟨gb633, 0, none⟩ = some (.int .i64 a1_0) := (zh BK633.out 0).trans rfl
      have hcz15_1 : wr.cell? ⟨gb633, 1, none⟩ = some (.int .i64 a1_1) := (zh BK633.out 1).trans rfl
      have hfz15_0 := zg BK633.out 0
      have hfz15_1 := zg BK633.out 1
      go_wp2_with (first | ((with_reducible refine zba (f := 107) rfl ?_); refine zbv (some 16) rfl rfl Try.func107 (by kernel_rfl) rfl #[.agg #[.int .i64 a1_0, .int .i64 a1_1]] rfl Zmt ?_; (with_reducible refine (zco.calls a1_0 a1_1 false _ A9.out).mono ?_); rintro e w16 ⟨rfl, hb⟩; refine ⟨_, rfl, ?_⟩; have n0_ := za.mk (Kd.zbl (Zq12 HO_7.out) hb); have n1_ := za.mk (zbg (g := gb633) (o := .cells #[.int .i64 a1_0, .int .i64 a1_1] 51 (0, 0)) (Zq4 BK633.out) hb); have n2_ := za.mk (zf.below (Zq10 HI0.out NB0_633.out) hb); have n3_ := za.mk (zi.trans (Zq11 HK.out GW633.out) (zi.of_below hb g none) (.inl rfl)); have n4_ := za.mk (zo (Zq7 HB.out (zf.ge HI0.out) GE633.out) hb); clear HO_7; clear BK633; clear HI0; clear HK; clear HB; have HO_7 := n0_; have BK633 := n1_; have HI0 := n2_; have HK := n3_; have HB := n4_; clear n0_ n1_ n2_ n3_ n4_; (try clear hb); (try clear hb2); (try clear hk); (try clear hi)))
      go_meet
      case rel => exact ⟨_, (false), Zrs, H', ⟨by have := HK1.out; first | omega | exact Nat.le_refl _⟩, ⟨Zq12 HO_7.out⟩, ⟨Zq4 BK633.out⟩, ⟨Zq10 HI0.out NB0_633.out⟩, ⟨Zq11 HK.out GW633.out⟩, ⟨Zq7 HB.out (zf.ge HI0.out) GE633.out⟩⟩
    case rest =>
     clear HC8
     try clear c1
     try clear p2
     try clear c4
     try clear c4b0
     try clear c4b1
     try clear c7
     try clear c10
     try clear c11
     try clear c14
     try clear hcz12_0
     try clear hcz12_1
     try clear hcz15_0
     try clear hcz15_1
     try clear hfz12_0
     try clear hfz12_1
     try clear hfz15_0
     try clear hfz15_1
     try clear p2
     obtain ⟨kq, x20_7, rfl, HA, HJ7, HO_7, BK633, HI0, HK, HB⟩ := hcut
     cases kq with
     | zero => exact absurd HA.out (by simp [zl.j1])
     | succ kj7 =>
      have H := HA.out
      clear HA
      simp only [zl.j1] at H
      by_cases c17 : x20_7 = true
      ·subst c17
       have H1 : ((zb.f kj7 s0_0 x1001_1 3).bind fun bt638 => (zl.l1 kj7 a2 x7_1 x8_1 bt638.1 a1_0 0 s0_0 bt638.2 a1_0 a1_1)) = some (r1, r2) := by rw [if_pos rfl] at H; exact H
       clear H
       have H := H1
       clear H1
       replace H := Option.bind_eq_some_iff.mp H
       obtain ⟨⟨t638, t639⟩, A180, H⟩ := H
       replace H : (zl.l1 kj7 a2 x7_1 x8_1 t638 a1_0 0 s0_0 t639 a1_0 a1_1) = some (r1, r2) := H
       have A18 := za.mk A180
       clear A180
       have H' := za.mk H
       clear H
       go_wp2_with (first | ((with_reducible refine zba (f := 68) rfl ?_); refine zbv (some 26) rfl rfl Try.func68 (by kernel_rfl) rfl #[.pointer (some ⟨g, 0, none⟩), .int .i64 3] rfl Zmt ?_; (with_reducible refine (zb.calls kj7 g s0_0 x1001_1 3 t638 t639 w0 _ ?side1 ?side2 A18.out).mono ?_); (case side1 => exact Zq10 HI0.out NB0_633.out); (case side2 => exact Zq7 HB.out (zf.ge HI0.out) GE633.out); rintro e w19 ⟨rfl, hi, hb, hk⟩; refine ⟨_, rfl, ?_⟩; have n0_ := za.mk (Kd.zy (Kd.zbo (zf.apart (show zf w0 _ g s0_0 x1001_1 from Zq10 HI0.out NB0_633.out) (Zq12 HO_7.out) (by decide)) hk (fun _ h => h.2)) (fun _ h => h.1)); have n1_ := za.mk (zi.blk hk (g' := gb633) (o := .cells #[.int .i64 a1_0, .int .i64 a1_1] 51 (0, 0)) (Zq4 BK633.out) NB633_0.out (by simp)); have n2_ := za.mk (zi.trans (Zq11 HK.out GW633.out) hk (.inl rfl)); have n3_ := za.mk (hb); have n4_ := za.mk (hi); clear HO_7; clear BK633; clear HK; clear HB; clear HI0; have HO_7 := n0_; have BK633 := n1_; have HK := n2_; have HB := n3_; have HI0 := n4_; clear n0_ n1_ n2_ n3_ n4_; (try clear hb); (try clear hb2); (try clear hk); (try clear hi); have hnb20 := NB633_0.out; have hnc20 := NB0_633.out; have hcz21_0 : w19.cell? ⟨gb633, 0, none⟩ = some (.int .i64 a1_0) := (zh BK633.out 0).trans rfl; have hcz21_1 : w19.cell? ⟨gb633, 1, none⟩ = some (.int .i64 a1_1) := (zh BK633.out 1).trans rfl; have hfz21_0 := zg BK633.out 0; have hfz21_1 := zg BK633.out 1))
       go_loopg [10, 11] kj7 (fun kq v10 v11 w' => ∃ (x7_3 : List Bool) (x10_3 : Int) (x11_3 : Int) (x1001_3 : Int), v10 = .int .i64 x10_3 ∧ v11 = .int .i64 x11_3 ∧ za (zl.l1 kq a2 x7_3 x8_1 t638 x10_3 x11_3 s0_0 x1001_3 a1_0 a1_1 = some (r1, r2)) ∧ za (kq ≤ kj7) ∧ za (Kd.R Kd.bool 4 w' w.heap.size (fun _ => True) v635 x7_3) ∧ za (w'.heap[gb633]? = some (.cells #[.int .i64 a1_0, .int .i64 a1_1] 51 (0, 0))) ∧ za (zf w0 w' g s0_0 x1001_3) ∧ za (zi w w' g none) ∧ za (Below w0.heap.size w0 w'))
       case atStart => exact ⟨(x7_1), (a1_0), (0), (t639), Zrs, Zrs, H', ⟨Nat.le_refl _⟩, ⟨Zq12 HO_7.out⟩, ⟨Zq4 BK633.out⟩, ⟨Zq10 HI0.out NB0_633.out⟩, ⟨Zq11 HK.out GW633.out⟩, ⟨Zq7 HB.out (zf.ge HI0.out) GE633.out⟩⟩
       case round =>
        clear H'
        try clear c1
        try clear c2
        try clear p2
        try clear c4
        try clear c4b0
        try clear c4b1
        try clear c6
        try clear c7
        try clear c10
        try clear c11
        try clear c14
        try clear c17
        try clear c20
        try clear hcz12_0
        try clear hcz12_1
        try clear hcz15_0
        try clear hcz15_1
        try clear hcz21_0
        try clear hcz21_1
        try clear hfz12_0
        try clear hfz12_1
        try clear hfz15_0
        try clear hfz15_1
        try clear hfz21_0
        try clear hfz21_1
        try clear p2
        obtain ⟨x7_3, x10_3, x11_3, x1001_3, rfl, rfl, HA, HK3, HO_7, BK633, HI0, HK, HB⟩ := hrel
        cases gk with
        | zero => exact absurd HA.out (by simp [zl.l1])
        | succ k3 =>
         have H := HA.out
         clear HA
         simp only [zl.l1] at H
         have HC22 := za.mk H
         clear H
         go_upto_region 8 with (fail)
         go_cut [38] (fun v38 wc => ∃ (kq : Nat) (x38_21 : Bool), v38 = .bool x38_21 ∧ za (zl.j3 kq a2 x7_3 x8_1 t638 x10_3 x11_3 x38_21 s0_0 x1001_3 a1_0 a1_1 = some (r1, r2)) ∧ za (kq ≤ k3) ∧ za (Kd.R Kd.bool 4 wc w.heap.size (fun _ => True) v635 x7_3) ∧ za (wc.heap[gb633]? = some (.cells #[.int .i64 a1_0, .int .i64 a1_1] 51 (0, 0))) ∧ za (zf w0 wc g s0_0 x1001_3) ∧ za (zi w wc g none) ∧ za (Below w0.heap.size w0 wc))
         case first =>
          have H := HC22.out
          clear HC22
          by_cases c23 : x11_3 < a1_1
          ·rw [if_pos c23] at H
           have c23b0 : decide (x11_3 < a1_1) = true := decide_eq_true c23
           clear c23
           (first | rw [c23b0] | (simp only [zbq, zbt]; rw [c23b0]) | skip)
           have H' := za.mk H
           clear H
           have hnb24 := NB633_0.out
           have hnc24 := NB0_633.out
           have hcz25_0 : wr.cell? ⟨gb633, 0, none⟩ = some (.int .i64 a1_0) := (zh BK633.out 0).trans rfl
           have hcz25_1 : wr.cell? ⟨gb633, 1, none⟩ = some (.int .i64 a1_1) := (zh BK633.out 1).trans rfl
           have hfz25_0 := zg BK633.out 0
           have hfz25_1 := zg BK633.out 1
           go_wp2
           go_meet
           case rel => exact ⟨_, (decide ((wrap64 (x8_1 + x11_3)) < 120)), Zrs, H', ⟨by have := HK1.out; have := HJ7.out; have := HK3.out; first | omega | exact Nat.le_refl _⟩, ⟨Zq12 HO_7.out⟩, ⟨Zq4 BK633.out⟩, ⟨Zq10 HI0.out NB0_633.out⟩, ⟨Zq11 HK.out GW633.out⟩, ⟨Zq7 HB.out (zf.ge HI0.out) GE633.out⟩⟩
          ·rw [if_neg c23] at H
           have c23b0 : decide (x11_3 < a1_1) = false := decide_eq_false c23
           clear c23
           (first | rw [c23b0] | (simp only [zbq, zbt]; rw [c23b0]) | skip)
           have H' := za.mk H
           clear H
           have hnb26 := NB633_0.out
           have hnc26 := NB0_633.out
           have hcz27_0 : wr.cell? ⟨gb633, 0, none⟩ = some (.int .i64 a1_0) := (zh BK633.out 0).trans rfl
           have hcz27_1 : wr.cell? ⟨gb633, 1, none⟩ = some (.int .i64 a1_1) := (zh BK633.out 1).trans rfl
           have hfz27_0 := zg BK633.out 0
           have hfz27_1 := zg BK633.out 1
           go_wp2
           go_meet
           case rel => exact ⟨_, (false), Zrs, H', ⟨by have := HK1.out; have := HJ7.out; have := HK3.out; first | omega | exact Nat.le_refl _⟩, ⟨Zq12 HO_7.out⟩, ⟨Zq4 BK633.out⟩, ⟨Zq10 HI0.out NB0_633.out⟩, ⟨Zq11 HK.out GW633.out⟩, ⟨Zq7 HB.out (zf.ge HI0.out) GE633.out⟩⟩
         case rest =>
          clear HC22
          try clear c1
          try clear c2
          try clear p2
          try clear c4
          try clear c4b0
          try clear c4b1
          try clear c6
          try clear p6
          try clear c7
          try clear c10
          try clear c11
          try clear c14
          try clear c17
          try clear c20
          try clear c23
          try clear c23b0
          try clear c24
          try clear c26
          try clear hcz12_0
          try clear hcz12_1
          try clear hcz15_0
          try clear hcz15_1
          try clear hcz21_0
          try clear hcz21_1
          try clear hcz25_0
          try clear hcz25_1
          try clear hcz27_0
          try clear hcz27_1
          try clear hfz12_0
          try clear hfz12_1
          try clear hfz15_0
          try clear hfz15_1
          try clear hfz21_0
          try clear hfz21_1
          try clear hfz25_0
          try clear hfz25_1
          try clear hfz27_0
          try clear hfz27_1
          try clear p2
          obtain ⟨kq, x38_21, rfl, HA, HJ21, HO_7, BK633, HI0, HK, HB⟩ := hcut
          cases kq with
          | zero => exact absurd HA.out (by simp [zl.j3])
          | succ kj21 =>
           have H := HA.out
           clear HA
           simp only [zl.j3] at H
           by_cases c28 : x38_21 = true
           ·subst c28
            have H1 : (if x10_3 > 0 then (if t638 = 0 then (if 0 ≤ (wrap64 (x8_1 + x11_3)) then (if (wrap64 (x8_1 + x11_3)) < (x7_3.length : Int) then (zl.l1 kj21 a2 (x7_3.set ((wrap64 (x8_1 + x11_3)) : Int).toNat true) x8_1 t638 (wrap64 (x10_3 - 1)) (wrap64 (x11_3 + 1)) s0_0 x1001_3 a1_0 a1_1) else (none)) else (none)) else (if x10_3 = (wrap64 (a1_1 - x11_3)) then (if 0 ≤ (wrap64 (x8_1 + x11_3)) then (if (wrap64 (x8_1 + x11_3)) < (x7_3.length : Int) then (zl.l1 kj21 a2 (x7_3.set ((wrap64 (x8_1 + x11_3)) : Int).toNat true) x8_1 t638 (wrap64 (x10_3 - 1)) (wrap64 (x11_3 + 1)) s0_0 x1001_3 a1_0 a1_1) else (none)) else (none)) else (if t638 = 2 then ((zb.f kj21 s0_0 x1001_3 2).bind fun bt642 => (if 0 ≤ (wrap64 (x8_1 + x11_3)) then (if (wrap64 (x8_1 + x11_3)) < (x7_3.length : Int) then ((some (x7_3.set ((wrap64 (x8_1 + x11_3)) : Int).toNat (bt642.1 == 0) : List Bool)).bind fun y644 => (if bt642.1 = 0 then (zl.l1 kj21 a2 y644 x8_1 t638 (wrap64 (x10_3 - 1)) (wrap64 (x11_3 + 1)) s0_0 bt642.2 a1_0 a1_1) else (zl.l1 kj21 a2 y644 x8_1 t638 x10_3 (wrap64 (x11_3 + 1)) s0_0 bt642.2 a1_0 a1_1))) else (none)) else (none))) else (if 0 ≤ (wrap64 (x8_1 + x11_3)) then (if (wrap64 (x8_1 + x11_3)) < (x7_3.length : Int) then (zl.l1 kj21 a2 (x7_3.set ((wrap64 (x8_1 + x11_3)) : Int).toNat false) x8_1 t638 x10_3 (wrap64 (x11_3 + 1)) s0_0 x1001_3 a1_0 a1_1) else (none)) else (none))))) else (if 0 ≤ (wrap64 (x8_1 + x11_3)) then (if (wrap64 (x8_1 + x11_3)) < (x7_3.length : Int) then (zl.l1 kj21 a2 (x7_3.set ((wrap64 (x8_1 + x11_3)) : Int).toNat false) x8_1 t638 x10_3 (wrap64 (x11_3 + 1)) s0_0 x1001_3 a1_0 a1_1) else (none)) else (none))) = some (r1, r2) := by rw [if_pos rfl] at H; exact H
            clear H
            have H := H1
            clear H1
            by_cases c29 : x10_3 > 0
            ·rw [if_pos c29] at H
             have c29b0 : decide (0 < x10_3) = true := decide_eq_true c29
             clear c29
             by_cases c30 : t638 = 0
             ·rw [if_pos c30] at H
              have c30b0 : (t638 == 0) = true := beq_iff_eq.mpr c30
              have c30b1 : (t638 != 0) = false := bne_eq_false_iff_eq.mpr c30
              clear c30
              obtain ⟨ji31, hji31⟩ : ∃ j_ : Int, (wrap64 (x8_1 + x11_3)) = j_ := ⟨_, rfl⟩
              replace H : (if 0 ≤ (ji31) then (if (ji31) < (x7_3.length : Int) then (zl.l1 kj21 a2 (x7_3.set ((ji31) : Int).toNat true) x8_1 t638 (wrap64 (x10_3 - 1)) (wrap64 (x11_3 + 1)) s0_0 x1001_3 a1_0 a1_1) else (none)) else (none)) = some (r1, r2) := by first | (rw [hji31] at H; exact H) | (simp only [hji31] at H ⊢; exact H)
              have hji31w : (IntKind.i64.wrap (x8_1 + x11_3)) = ji31 := (zbq _).trans hji31
              by_cases c32 : 0 ≤ (ji31)
              ·rw [if_pos c32] at H
               have c32b0 : decide (0 ≤ (ji31)) = true := decide_eq_true c32
               clear c32
               by_cases c33 : (ji31) < (x7_3.length : Int)
               ·rw [if_pos c33] at H
                have c33b0 : decide ((ji31) < (x7_3.length : Int)) = true := decide_eq_true c33
                clear c33
                obtain ⟨y640, hy640⟩ : ∃ y_ : List Bool, y_ = (x7_3.set ((ji31) : Int).toNat true) := ⟨_, rfl⟩
                replace H : (zl.l1 kj21 a2 y640 x8_1 t638 (wrap64 (x10_3 - 1)) (wrap64 (x11_3 + 1)) s0_0 x1001_3 a1_0 a1_1) = some (r1, r2) := by first | (rw [hy640]; with_reducible exact H) | (have H2_ := (Option.bind_some _ _).symm.trans H; rw [hy640]; with_reducible exact H2_) | (have H2_ := (Option.bind_some _ _).symm.trans H; with_reducible exact H2_) | with_reducible exact H | (rw [hy640]; exact H) | exact H
                have Ny640 := za.mk hy640
                clear hy640
                have H' := za.mk H
                clear H
                have p34 : 0 ≤ ((ji31) : Int) := of_decide_eq_true Zas
                have q34 : ((ji31) : Int) < ((x7_3.length : Int) : Int) := of_decide_eq_true Zas
                obtain ⟨go34, co34, eo34, gb34, gl34, cl34, HG34⟩ := Kd.zdo HO_7.out (by omega)
                (first | cases eo34 | (injection eo34 with ea_ en_ ec_; (first | subst ea_ | (injection ea_ with ea_; subst ea_)); subst ec_; clear en_))
                have GB34 := za.mk gb34
                have GG34 := za.mk HG34
                clear gb34 gl34 HG34
                obtain ⟨hx34_0, hf34_0⟩ := Kd.zcw false HO_7.out ((ji31) : Int) p34 q34
                replace p34 := eq_true p34
                replace q34 := eq_true q34
                have HP35 := Kd.zc1 HO_7.out ((ji31) : Int) true
                go_wp2_with (first | ((with_reducible refine zcf (t := 4) (p := 69) rfl ?_); refine zcc (t := 4) (p := 69) (v := ?vo_w36) (w1 := (wc.setCell ⟨go34, ((ji31) : Int).toNat, none⟩ (.bool true))) ?hg ?ho ?hn ?hr ?_; (case ho => rfl); (case hg => rfl); (case hn => rfl); (case hr => first | (go_simp; done) | (go_simp; rfl)); intro w36 hw; have hg : wc.grownBy w36 (some go34) := (by rw [hw]; exact HP35.2); have hp_ : Kd.R Kd.bool 4 w36 w.heap.size (fun _ => True) (.slice (some ⟨go34, 0, none⟩) x7_3.length co34) y640 := (by rw [hw, Ny640.out]; exact HP35.1); clear HP35; have n0_ := za.mk (hp_); have n1_ := za.mk (zbr (g := gb633) (o := .cells #[.int .i64 a1_0, .int .i64 a1_1] 51 (0, 0)) (Zq4 BK633.out) hg (Kd.R_ne HO_7.out BK633.out (by decide))); have n2_ := za.mk (zf.grown (Zq10 HI0.out NB0_633.out) hg (zf.own_ne HI0.out HO_7.out (by decide))); have n3_ := za.mk ((by rw [hw]; exact zb3 (HB.out) (Nat.le_trans HL.out GB34.out) : Below w0.heap.size w0 w36)); have n4_ := za.mk (zi.trans (Zq11 HK.out GW633.out) (zi.zcy hg g) (Kd.zdi HO_7.out)); clear HO_7; clear BK633; clear HI0; clear HB; clear HK; have HO_7 := n0_; have BK633 := n1_; have HI0 := n2_; have HB := n3_; have HK := n4_; clear n0_ n1_ n2_ n3_ n4_; clear hg hw hp_))
                go_roundg kj21
                case measure => have := HK1.out; have := HJ7.out; have := HK3.out; have := HJ21.out; omega
                case rel => exact ⟨(y640), (wrap64 (x10_3 - 1)), (wrap64 (x11_3 + 1)), (x1001_3), Zrs, Zrs, H', ⟨by have := HK1.out; have := HJ7.out; have := HK3.out; have := HJ21.out; omega⟩, ⟨Zq12 HO_7.out⟩, ⟨Zq4 BK633.out⟩, ⟨Zq10 HI0.out NB0_633.out⟩, ⟨Zq11 HK.out GW633.out⟩, ⟨Zq7 HB.out (zf.ge HI0.out) GE633.out⟩⟩
               ·rw [if_neg c33] at H
                exact absurd H (by simp)
              ·rw [if_neg c32] at H
               exact absurd H (by simp)
             ·rw [if_neg c30] at H
              have c30b0 : (t638 == 0) = false := beq_eq_false_iff_ne.mpr c30
              have c30b1 : (t638 != 0) = true := bne_iff_ne.mpr c30
              by_cases c37 : x10_3 = (wrap64 (a1_1 - x11_3))
              ·rw [if_pos c37] at H
               have c37b0 : (x10_3 == (wrap64 (a1_1 - x11_3))) = true := beq_iff_eq.mpr c37
               have c37b1 : (x10_3 != (wrap64 (a1_1 - x11_3))) = false := bne_eq_false_iff_eq.mpr c37
               clear c37
               obtain ⟨ji38, hji38⟩ : ∃ j_ : Int, (wrap64 (x8_1 + x11_3)) = j_ := ⟨_, rfl⟩
               replace H : (if 0 ≤ (ji38) then (if (ji38) < (x7_3.length : Int) then (zl.l1 kj21 a2 (x7_3.set ((ji38) : Int).toNat true) x8_1 t638 (wrap64 (x10_3 - 1)) (wrap64 (x11_3 + 1)) s0_0 x1001_3 a1_0 a1_1) else (none)) else (none)) = some (r1, r2) := by first | (rw [hji38] at H; exact H) | (simp only [hji38] at H ⊢; exact H)
               have hji38w : (IntKind.i64.wrap (x8_1 + x11_3)) = ji38 := (zbq _).trans hji38
               by_cases c39 : 0 ≤ (ji38)
               ·rw [if_pos c39] at H
                have c39b0 : decide (0 ≤ (ji38)) = true := decide_eq_true c39
                clear c39
                by_cases c40 : (ji38) < (x7_3.length : Int)
                ·rw [if_pos c40] at H
                 have c40b0 : decide ((ji38) < (x7_3.length : Int)) = true := decide_eq_true c40
                 clear c40
                 obtain ⟨y641, hy641⟩ : ∃ y_ : List Bool, y_ = (x7_3.set ((ji38) : Int).toNat true) := ⟨_, rfl⟩
                 replace H : (zl.l1 kj21 a2 y641 x8_1 t638 (wrap64 (x10_3 - 1)) (wrap64 (x11_3 + 1)) s0_0 x1001_3 a1_0 a1_1) = some (r1, r2) := by first | (rw [hy641]; with_reducible exact H) | (have H2_ := (Option.bind_some _ _).symm.trans H; rw [hy641]; with_reducible exact H2_) | (have H2_ := (Option.bind_some _ _).symm.trans H; with_reducible exact H2_) | with_reducible exact H | (rw [hy641]; exact H) | exact H
                 have Ny641 := za.mk hy641
                 clear hy641
                 have H' := za.mk H
                 clear H
                 have hnb42 := NB633_0.out
                 have hnc42 := NB0_633.out
                 have hcz43_0 : wc.cell? ⟨gb633, 0, none⟩ = some (.int .i64 a1_0) := (zh BK633.out 0).trans rfl
                 have hcz43_1 : wc.cell? ⟨gb633, 1, none⟩ = some (.int .i64 a1_1) := (zh BK633.out 1).trans rfl
                 have hfz43_0 := zg BK633.out 0
                 have hfz43_1 := zg BK633.out 1
                 have p41 : 0 ≤ ((ji38) : Int) := of_decide_eq_true Zas
                 have q41 : ((ji38) : Int) < ((x7_3.length : Int) : Int) := of_decide_eq_true Zas
                 obtain ⟨go41, co41, eo41, gb41, gl41, cl41, HG41⟩ := Kd.zdo HO_7.out (by omega)
                 (first | cases eo41 | (injection eo41 with ea_ en_ ec_; (first | subst ea_ | (injection ea_ with ea_; subst ea_)); subst ec_; clear en_))
                 have GB41 := za.mk gb41
                 have GG41 := za.mk HG41
                 clear gb41 gl41 HG41
                 obtain ⟨hx41_0, hf41_0⟩ := Kd.zcw false HO_7.out ((ji38) : Int) p41 q41
                 replace p41 := eq_true p41
                 replace q41 := eq_true q41
                 have HP44 := Kd.zc1 HO_7.out ((ji38) : Int) true
                 go_wp2_with (first | ((with_reducible refine zcf (t := 4) (p := 69) rfl ?_); refine zcc (t := 4) (p := 69) (v := ?vo_w45) (w1 := (wc.setCell ⟨go41, ((ji38) : Int).toNat, none⟩ (.bool true))) ?hg ?ho ?hn ?hr ?_; (case ho => rfl); (case hg => rfl); (case hn => rfl); (case hr => first | (go_simp; done) | (go_simp; rfl)); intro w45 hw; have hg : wc.grownBy w45 (some go41) := (by rw [hw]; exact HP44.2); have hp_ : Kd.R Kd.bool 4 w45 w.heap.size (fun _ => True) (.slice (some ⟨go41, 0, none⟩) x7_3.length co41) y641 := (by rw [hw, Ny641.out]; exact HP44.1); clear HP44; have n0_ := za.mk (hp_); have n1_ := za.mk (zbr (g := gb633) (o := .cells #[.int .i64 a1_0, .int .i64 a1_1] 51 (0, 0)) (Zq4 BK633.out) hg (Kd.R_ne HO_7.out BK633.out (by decide))); have n2_ := za.mk (zf.grown (Zq10 HI0.out NB0_633.out) hg (zf.own_ne HI0.out HO_7.out (by decide))); have n3_ := za.mk ((by rw [hw]; exact zb3 (HB.out) (Nat.le_trans HL.out GB41.out) : Below w0.heap.size w0 w45)); have n4_ := za.mk (zi.trans (Zq11 HK.out GW633.out) (zi.zcy hg g) (Kd.zdi HO_7.out)); clear HO_7; clear BK633; clear HI0; clear HB; clear HK; have HO_7 := n0_; have BK633 := n1_; have HI0 := n2_; have HB := n3_; have HK := n4_; clear n0_ n1_ n2_ n3_ n4_; clear hg hw hp_))
                 go_roundg kj21
                 case measure => have := HK1.out; have := HJ7.out; have := HK3.out; have := HJ21.out; omega
                 case rel => exact ⟨(y641), (wrap64 (x10_3 - 1)), (wrap64 (x11_3 + 1)), (x1001_3), Zrs, Zrs, H', ⟨by have := HK1.out; have := HJ7.out; have := HK3.out; have := HJ21.out; omega⟩, ⟨Zq12 HO_7.out⟩, ⟨Zq4 BK633.out⟩, ⟨Zq10 HI0.out NB0_633.out⟩, ⟨Zq11 HK.out GW633.out⟩, ⟨Zq7 HB.out (zf.ge HI0.out) GE633.out⟩⟩
                ·rw [if_neg c40] at H
                 exact absurd H (by simp)
               ·rw [if_neg c39] at H
                exact absurd H (by simp)
              ·rw [if_neg c37] at H
               have c37b0 : (x10_3 == (wrap64 (a1_1 - x11_3))) = false := beq_eq_false_iff_ne.mpr c37
               have c37b1 : (x10_3 != (wrap64 (a1_1 - x11_3))) = true := bne_iff_ne.mpr c37
               by_cases c46 : t638 = 2
               ·rw [if_pos c46] at H
                have c46b0 : (t638 == 2) = true := beq_iff_eq.mpr c46
                have c46b1 : (t638 != 2) = false := bne_eq_false_iff_eq.mpr c46
                clear c46
                replace H := Option.bind_eq_some_iff.mp H
                obtain ⟨⟨t642, t643⟩, A470, H⟩ := H
                replace H : (if 0 ≤ (wrap64 (x8_1 + x11_3)) then (if (wrap64 (x8_1 + x11_3)) < (x7_3.length : Int) then ((some (x7_3.set ((wrap64 (x8_1 + x11_3)) : Int).toNat (t642 == 0) : List Bool)).bind fun y644 => (if t642 = 0 then (zl.l1 kj21 a2 y644 x8_1 t638 (wrap64 (x10_3 - 1)) (wrap64 (x11_3 + 1)) s0_0 t643 a1_0 a1_1) else (zl.l1 kj21 a2 y644 x8_1 t638 x10_3 (wrap64 (x11_3 + 1)) s0_0 t643 a1_0 a1_1))) else (none)) else (none)) = some (r1, r2) := H
                have A47 := za.mk A470
                clear A470
                obtain ⟨ji48, hji48⟩ : ∃ j_ : Int, (wrap64 (x8_1 + x11_3)) = j_ := ⟨_, rfl⟩
                replace H : (if 0 ≤ (ji48) then (if (ji48) < (x7_3.length : Int) then ((some (x7_3.set ((ji48) : Int).toNat (t642 == 0) : List Bool)).bind fun y644 => (if t642 = 0 then (zl.l1 kj21 a2 y644 x8_1 t638 (wrap64 (x10_3 - 1)) (wrap64 (x11_3 + 1)) s0_0 t643 a1_0 a1_1) else (zl.l1 kj21 a2 y644 x8_1 t638 x10_3 (wrap64 (x11_3 + 1)) s0_0 t643 a1_0 a1_1))) else (none)) else (none)) = some (r1, r2) := by first | (rw [hji48] at H; exact H) | (simp only [hji48] at H ⊢; exact H)
                (try rw [hji48] at A47)
                have hji48w : (IntKind.i64.wrap (x8_1 + x11_3)) = ji48 := (zbq _).trans hji48
                by_cases c49 : 0 ≤ (ji48)
                ·rw [if_pos c49] at H
                 have c49b0 : decide (0 ≤ (ji48)) = true := decide_eq_true c49
                 clear c49
                 by_cases c50 : (ji48) < (x7_3.length : Int)
                 ·rw [if_pos c50] at H
                  have c50b0 : decide ((ji48) < (x7_3.length : Int)) = true := decide_eq_true c50
                  clear c50
                  obtain ⟨y644, hy644⟩ : ∃ y_ : List Bool, y_ = (x7_3.set ((ji48) : Int).toNat (t642 == 0)) := ⟨_, rfl⟩
                  replace H : (if t642 = 0 then (zl.l1 kj21 a2 y644 x8_1 t638 (wrap64 (x10_3 - 1)) (wrap64 (x11_3 + 1)) s0_0 t643 a1_0 a1_1) else (zl.l1 kj21 a2 y644 x8_1 t638 x10_3 (wrap64 (x11_3 + 1)) s0_0 t643 a1_0 a1_1)) = some (r1, r2) := by first | (rw [hy644]; with_reducible exact H) | (have H2_ := (Option.bind_some _ _).symm.trans H; rw [hy644]; with_reducible exact H2_) | (have H2_ := (Option.bind_some _ _).symm.trans H; with_reducible exact H2_) | with_reducible exact H | (rw [hy644]; exact H) | exact H
                  have Ny644 := za.mk hy644
                  clear hy644
                  by_cases c52 : t642 = 0
                  ·rw [if_pos c52] at H
                   have c52b0 : (t642 == 0) = true := beq_iff_eq.mpr c52
                   have c52b1 : (t642 != 0) = false := bne_eq_false_iff_eq.mpr c52
                   clear c52
                   have H' := za.mk H
                   clear H
                   have hnb53 := NB633_0.out
                   have hnc53 := NB0_633.out
                   have hcz54_0 : wc.cell? ⟨gb633, 0, none⟩ = some (.int .i64 a1_0) := (zh BK633.out 0).trans rfl
                   have hcz54_1 : wc.cell? ⟨gb633, 1, none⟩ = some (.int .i64 a1_1) := (zh BK633.out 1).trans rfl
                   have hfz54_0 := zg BK633.out 0
                   have hfz54_1 := zg BK633.out 1
                   go_wp2_with (first | (go_at_call 68; (with_reducible refine (zb.calls kj21 g s0_0 x1001_3 2 t642 t643 w0 _ ?side1 ?side2 A47.out).mono ?_); (case side1 => exact Zq10 HI0.out NB0_633.out); (case side2 => exact Zq7 HB.out (zf.ge HI0.out) GE633.out); rintro e w55 ⟨rfl, hi, hb, hk⟩; have n0_ := za.mk (Kd.zy (Kd.zbo (zf.apart (show zf w0 _ g s0_0 x1001_3 from Zq10 HI0.out NB0_633.out) (Zq12 HO_7.out) (by decide)) hk (fun _ h => h.2)) (fun _ h => h.1)); have n1_ := za.mk (zi.blk hk (g' := gb633) (o := .cells #[.int .i64 a1_0, .int .i64 a1_1] 51 (0, 0)) (Zq4 BK633.out) NB633_0.out (by simp)); have n2_ := za.mk (zi.trans (Zq11 HK.out GW633.out) hk (.inl rfl)); have n3_ := za.mk (hb); have n4_ := za.mk (hi); clear HO_7; clear BK633; clear HK; clear HB; clear HI0; have HO_7 := n0_; have BK633 := n1_; have HK := n2_; have HB := n3_; have HI0 := n4_; clear n0_ n1_ n2_ n3_ n4_; (try clear hb); (try clear hb2); (try clear hk); (try clear hi); have p51 : 0 ≤ ((ji48) : Int) := of_decide_eq_true Zas; have q51 : ((ji48) : Int) < ((x7_3.length : Int) : Int) := of_decide_eq_true Zas; obtain ⟨go51, co51, eo51, gb51, gl51, cl51, HG51⟩ := Kd.zdo HO_7.out (by omega); (first | cases eo51 | (injection eo51 with ea_ en_ ec_; (first | subst ea_ | (injection ea_ with ea_; subst ea_)); subst ec_; clear en_)); have GB51 := za.mk gb51; have GG51 := za.mk HG51; clear gb51 gl51 HG51; obtain ⟨hx51_0, hf51_0⟩ := Kd.zcw false HO_7.out ((ji48) : Int) p51 q51; replace p51 := eq_true p51; replace q51 := eq_true q51; obtain ⟨hy56_, hz56_⟩ := Kd.zcw false HO_7.out ((ji48) : Int) (of_decide_eq_true Zas) (of_decide_eq_true Zas); have HP56 := Kd.zc1 HO_7.out ((ji48) : Int) (t642 == 0)) | ((with_reducible refine zcf (t := 4) (p := 69) rfl ?_); refine zcc (t := 4) (p := 69) (v := ?vo_w57) (w1 := (w55.setCell ⟨go51, ((ji48) : Int).toNat, none⟩ (.bool (t642 == 0)))) ?hg ?ho ?hn ?hr ?_; (case ho => rfl); (case hg => rfl); (case hn => rfl); (case hr => first | (go_simp; done) | (go_simp; rfl)); intro w57 hw; have hg : w55.grownBy w57 (some go51) := (by rw [hw]; exact HP56.2); have hp_ : Kd.R Kd.bool 4 w57 w.heap.size (fun _ => True) (.slice (some ⟨go51, 0, none⟩) x7_3.length co51) y644 := (by rw [hw, Ny644.out]; exact HP56.1); clear HP56; have n0_ := za.mk (hp_); have n1_ := za.mk (zbr (g := gb633) (o := .cells #[.int .i64 a1_0, .int .i64 a1_1] 51 (0, 0)) (Zq4 BK633.out) hg (Kd.R_ne HO_7.out BK633.out (by decide))); have n2_ := za.mk (zf.grown (Zq10 HI0.out NB0_633.out) hg (zf.own_ne HI0.out HO_7.out (by decide))); have n3_ := za.mk ((by rw [hw]; exact zb3 (HB.out) (Nat.le_trans HL.out GB51.out) : Below w0.heap.size w0 w57)); have n4_ := za.mk (zi.trans (Zq11 HK.out GW633.out) (zi.zcy hg g) (Kd.zdi HO_7.out)); clear HO_7; clear BK633; clear HI0; clear HB; clear HK; have HO_7 := n0_; have BK633 := n1_; have HI0 := n2_; have HB := n3_; have HK := n4_; clear n0_ n1_ n2_ n3_ n4_; clear hg hw hp_))
                   go_roundg kj21
                   case measure => have := HK1.out; have := HJ7.out; have := HK3.out; have := HJ21.out; omega
                   case rel => exact ⟨(y644), (wrap64 (x10_3 - 1)), (wrap64 (x11_3 + 1)), (t643), Zrs, Zrs, H', ⟨by have := HK1.out; have := HJ7.out; have := HK3.out; have := HJ21.out; omega⟩, ⟨Zq12 HO_7.out⟩, ⟨Zq4 BK633.out⟩, ⟨Zq10 HI0.out NB0_633.out⟩, ⟨Zq11 HK.out GW633.out⟩, ⟨Zq7 HB.out (zf.ge HI0.out) GE633.out⟩⟩
                  ·rw [if_neg c52] at H
                   have c52b0 : (t642 == 0) = false := beq_eq_false_iff_ne.mpr c52
                   have c52b1 : (t642 != 0) = true := bne_iff_ne.mpr c52
                   have H' := za.mk H
                   clear H
                   have hnb58 := NB633_0.out
                   have hnc58 := NB0_633.out
                   have hcz59_0 : wc.cell? ⟨gb633, 0, none⟩ = some (.int .i64 a1_0) := (zh BK633.out 0).trans rfl
                   have hcz59_1 : wc.cell? ⟨gb633, 1, none⟩ = some (.int .i64 a1_1) := (zh BK633.out 1).trans rfl
                   have hfz59_0 := zg BK633.out 0
                   have hfz59_1 := zg BK633.out 1
                   go_wp2_with (first | (go_at_call 68; (with_reducible refine (zb.calls kj21 g s0_0 x1001_3 2 t642 t643 w0 _ ?side1 ?side2 A47.out).mono ?_); (case side1 => exact Zq10 HI0.out NB0_633.out); (case side2 => exact Zq7 HB.out (zf.ge HI0.out) GE633.out); rintro e w60 ⟨rfl, hi, hb, hk⟩; have n0_ := za.mk (Kd.zy (Kd.zbo (zf.apart (show zf w0 _ g s0_0 x1001_3 from Zq10 HI0.out NB0_633.out) (Zq12 HO_7.out) (by decide)) hk (fun _ h => h.2)) (fun _ h => h.1)); have n1_ := za.mk (zi.blk hk (g' := gb633) (o := .cells #[.int .i64 a1_0, .int .i64 a1_1] 51 (0, 0)) (Zq4 BK633.out) NB633_0.out (by simp)); have n2_ := za.mk (zi.trans (Zq11 HK.out GW633.out) hk (.inl rfl)); have n3_ := za.mk (hb); have n4_ := za.mk (hi); clear HO_7; clear BK633; clear HK; clear HB; clear HI0; have HO_7 := n0_; have BK633 := n1_; have HK := n2_; have HB := n3_; have HI0 := n4_; clear n0_ n1_ n2_ n3_ n4_; (try clear hb); (try clear hb2); (try clear hk); (try clear hi); have p51 : 0 ≤ ((ji48) : Int) := of_decide_eq_true Zas; have q51 : ((ji48) : Int) < ((x7_3.length : Int) : Int) := of_decide_eq_true Zas; obtain ⟨go51, co51, eo51, gb51, gl51, cl51, HG51⟩ := Kd.zdo HO_7.out (by omega); (first | cases eo51 | (injection eo51 with ea_ en_ ec_; (first | subst ea_ | (injection ea_ with ea_; subst ea_)); subst ec_; clear en_)); have GB51 := za.mk gb51; have GG51 := za.mk HG51; clear gb51 gl51 HG51; obtain ⟨hx51_0, hf51_0⟩ := Kd.zcw false HO_7.out ((ji48) : Int) p51 q51; replace p51 := eq_true p51; replace q51 := eq_true q51; obtain ⟨hy61_, hz61_⟩ := Kd.zcw false HO_7.out ((ji48) : Int) (of_decide_eq_true Zas) (of_decide_eq_true Zas); have HP61 := Kd.zc1 HO_7.out ((ji48) : Int) (t642 == 0)) | ((with_reducible refine zcf (t := 4) (p := 69) rfl ?_); refine zcc (t := 4) (p := 69) (v := ?vo_w62) (w1 := (w60.setCell ⟨go51, ((ji48) : Int).toNat, none⟩ (.bool (t642 == 0)))) ?hg ?ho ?hn ?hr ?_; (case ho => rfl); (case hg => rfl); (case hn => rfl); (case hr => first | (go_simp; done) | (go_simp; rfl)); intro w62 hw; have hg : w60.grownBy w62 (some go51) := (by rw [hw]; exact HP61.2); have hp_ : Kd.R Kd.bool 4 w62 w.heap.size (fun _ => True) (.slice (some ⟨go51, 0, none⟩) x7_3.length co51) y644 := (by rw [hw, Ny644.out]; exact HP61.1); clear HP61; have n0_ := za.mk (hp_); have n1_ := za.mk (zbr (g := gb633) (o := .cells #[.int .i64 a1_0, .int .i64 a1_1] 51 (0, 0)) (Zq4 BK633.out) hg (Kd.R_ne HO_7.out BK633.out (by decide))); have n2_ := za.mk (zf.grown (Zq10 HI0.out NB0_633.out) hg (zf.own_ne HI0.out HO_7.out (by decide))); have n3_ := za.mk ((by rw [hw]; exact zb3 (HB.out) (Nat.le_trans HL.out GB51.out) : Below w0.heap.size w0 w62)); have n4_ := za.mk (zi.trans (Zq11 HK.out GW633.out) (zi.zcy hg g) (Kd.zdi HO_7.out)); clear HO_7; clear BK633; clear HI0; clear HB; clear HK; have HO_7 := n0_; have BK633 := n1_; have HI0 := n2_; have HB := n3_; have HK := n4_; clear n0_ n1_ n2_ n3_ n4_; clear hg hw hp_))
                   go_roundg kj21
                   case measure => have := HK1.out; have := HJ7.out; have := HK3.out; have := HJ21.out; omega
                   case rel => exact ⟨(y644), (x10_3), (wrap64 (x11_3 + 1)), (t643), Zrs, Zrs, H', ⟨by have := HK1.out; have := HJ7.out; have := HK3.out; have := HJ21.out; omega⟩, ⟨Zq12 HO_7.out⟩, ⟨Zq4 BK633.out⟩, ⟨Zq10 HI0.out NB0_633.out⟩, ⟨Zq11 HK.out GW633.out⟩, ⟨Zq7 HB.out (zf.ge HI0.out) GE633.out⟩⟩
                 ·rw [if_neg c50] at H
                  exact absurd H (by simp)
                ·rw [if_neg c49] at H
                 exact absurd H (by simp)
               ·rw [if_neg c46] at H
                have c46b0 : (t638 == 2) = false := beq_eq_false_iff_ne.mpr c46
                have c46b1 : (t638 != 2) = true := bne_iff_ne.mpr c46
                obtain ⟨ji63, hji63⟩ : ∃ j_ : Int, (wrap64 (x8_1 + x11_3)) = j_ := ⟨_, rfl⟩
                replace H : (if 0 ≤ (ji63) then (if (ji63) < (x7_3.length : Int) then (zl.l1 kj21 a2 (x7_3.set ((ji63) : Int).toNat false) x8_1 t638 x10_3 (wrap64 (x11_3 + 1)) s0_0 x1001_3 a1_0 a1_1) else (none)) else (none)) = some (r1, r2) := by first | (rw [hji63] at H; exact H) | (simp only [hji63] at H ⊢; exact H)
                have hji63w : (IntKind.i64.wrap (x8_1 + x11_3)) = ji63 := (zbq _).trans hji63
                by_cases c64 : 0 ≤ (ji63)
                ·rw [if_pos c64] at H
                 have c64b0 : decide (0 ≤ (ji63)) = true := decide_eq_true c64
                 clear c64
                 by_cases c65 : (ji63) < (x7_3.length : Int)
                 ·rw [if_pos c65] at H
                  have c65b0 : decide ((ji63) < (x7_3.length : Int)) = true := decide_eq_true c65
                  clear c65
                  obtain ⟨y645, hy645⟩ : ∃ y_ : List Bool, y_ = (x7_3.set ((ji63) : Int).toNat false) := ⟨_, rfl⟩
                  replace H : (zl.l1 kj21 a2 y645 x8_1 t638 x10_3 (wrap64 (x11_3 + 1)) s0_0 x1001_3 a1_0 a1_1) = some (r1, r2) := by first | (rw [hy645]; with_reducible exact H) | (have H2_ := (Option.bind_some _ _).symm.trans H; rw [hy645]; with_reducible exact H2_) | (have H2_ := (Option.bind_some _ _).symm.trans H; with_reducible exact H2_) | with_reducible exact H | (rw [hy645]; exact H) | exact H
                  have Ny645 := za.mk hy645
                  clear hy645
                  have H' := za.mk H
                  clear H
                  have hnb67 := NB633_0.out
                  have hnc67 := NB0_633.out
                  have hcz68_0 : wc.cell? ⟨gb633, 0, none⟩ = some (.int .i64 a1_0) := (zh BK633.out 0).trans rfl
                  have hcz68_1 : wc.cell? ⟨gb633, 1, none⟩ = some (.int .i64 a1_1) := (zh BK633.out 1).trans rfl
                  have hfz68_0 := zg BK633.out 0
                  have hfz68_1 := zg BK633.out 1
                  have p66 : 0 ≤ ((ji63) : Int) := of_decide_eq_true Zas
                  have q66 : ((ji63) : Int) < ((x7_3.length : Int) : Int) := of_decide_eq_true Zas
                  obtain ⟨go66, co66, eo66, gb66, gl66, cl66, HG66⟩ := Kd.zdo HO_7.out (by omega)
                  (first | cases eo66 | (injection eo66 with ea_ en_ ec_; (first | subst ea_ | (injection ea_ with ea_; subst ea_)); subst ec_; clear en_))
                  have GB66 := za.mk gb66
                  have GG66 := za.mk HG66
                  clear gb66 gl66 HG66
                  obtain ⟨hx66_0, hf66_0⟩ := Kd.zcw false HO_7.out ((ji63) : Int) p66 q66
                  replace p66 := eq_true p66
                  replace q66 := eq_true q66
                  have HP69 := Kd.zc1 HO_7.out ((ji63) : Int) false
                  go_wp2_with (first | ((with_reducible refine zcf (t := 4) (p := 69) rfl ?_); refine zcc (t := 4) (p := 69) (v := ?vo_w70) (w1 := (wc.setCell ⟨go66, ((ji63) : Int).toNat, none⟩ (.bool false))) ?hg ?ho ?hn ?hr ?_; (case ho => rfl); (case hg => rfl); (case hn => rfl); (case hr => first | (go_simp; done) | (go_simp; rfl)); intro w70 hw; have hg : wc.grownBy w70 (some go66) := (by rw [hw]; exact HP69.2); have hp_ : Kd.R Kd.bool 4 w70 w.heap.size (fun _ => True) (.slice (some ⟨go66, 0, none⟩) x7_3.length co66) y645 := (by rw [hw, Ny645.out]; exact HP69.1); clear HP69; have n0_ := za.mk (hp_); have n1_ := za.mk (zbr (g := gb633) (o := .cells #[.int .i64 a1_0, .int .i64 a1_1] 51 (0, 0)) (Zq4 BK633.out) hg (Kd.R_ne HO_7.out BK633.out (by decide))); have n2_ := za.mk (zf.grown (Zq10 HI0.out NB0_633.out) hg (zf.own_ne HI0.out HO_7.out (by decide))); have n3_ := za.mk ((by rw [hw]; exact zb3 (HB.out) (Nat.le_trans HL.out GB66.out) : Below w0.heap.size w0 w70)); have n4_ := za.mk (zi.trans (Zq11 HK.out GW633.out) (zi.zcy hg g) (Kd.zdi HO_7.out)); clear HO_7; clear BK633; clear HI0; clear HB; clear HK; have HO_7 := n0_; have BK633 := n1_; have HI0 := n2_; have HB := n3_; have HK := n4_; clear n0_ n1_ n2_ n3_ n4_; clear hg hw hp_))
                  go_roundg kj21
                  case measure => have := HK1.out; have := HJ7.out; have := HK3.out; have := HJ21.out; omega
                  case rel => exact ⟨(y645), (x10_3), (wrap64 (x11_3 + 1)), (x1001_3), Zrs, Zrs, H', ⟨by have := HK1.out; have := HJ7.out; have := HK3.out; have := HJ21.out; omega⟩, ⟨Zq12 HO_7.out⟩, ⟨Zq4 BK633.out⟩, ⟨Zq10 HI0.out NB0_633.out⟩, ⟨Zq11 HK.out GW633.out⟩, ⟨Zq7 HB.out (zf.ge HI0.out) GE633.out⟩⟩
                 ·rw [if_neg c65] at H
                  exact absurd H (by simp)
                ·rw [if_neg c64] at H
                 exact absurd H (by simp)
            ·rw [if_neg c29] at H
             have c29b0 : decide (0 < x10_3) = false := decide_eq_false c29
             clear c29
             obtain ⟨ji71, hji71⟩ : ∃ j_ : Int, (wrap64 (x8_1 + x11_3)) = j_ := ⟨_, rfl⟩
             replace H : (if 0 ≤ (ji71) then (if (ji71) < (x7_3.length : Int) then (zl.l1 kj21 a2 (x7_3.set ((ji71) : Int).toNat false) x8_1 t638 x10_3 (wrap64 (x11_3 + 1)) s0_0 x1001_3 a1_0 a1_1) else (none)) else (none)) = some (r1, r2) := by first | (rw [hji71] at H; exact H) | (simp only [hji71] at H ⊢; exact H)
             have hji71w : (IntKind.i64.wrap (x8_1 + x11_3)) = ji71 := (zbq _).trans hji71
             by_cases c72 : 0 ≤ (ji71)
             ·rw [if_pos c72] at H
              have c72b0 : decide (0 ≤ (ji71)) = true := decide_eq_true c72
              clear c72
              by_cases c73 : (ji71) < (x7_3.length : Int)
              ·rw [if_pos c73] at H
               have c73b0 : decide ((ji71) < (x7_3.length : Int)) = true := decide_eq_true c73
               clear c73
               obtain ⟨y646, hy646⟩ : ∃ y_ : List Bool, y_ = (x7_3.set ((ji71) : Int).toNat false) := ⟨_, rfl⟩
               replace H : (zl.l1 kj21 a2 y646 x8_1 t638 x10_3 (wrap64 (x11_3 + 1)) s0_0 x1001_3 a1_0 a1_1) = some (r1, r2) := by first | (rw [hy646]; with_reducible exact H) | (have H2_ := (Option.bind_some _ _).symm.trans H; rw [hy646]; with_reducible exact H2_) | (have H2_ := (Option.bind_some _ _).symm.trans H; with_reducible exact H2_) | with_reducible exact H | (rw [hy646]; exact H) | exact H
               have Ny646 := za.mk hy646
               clear hy646
               have H' := za.mk H
               clear H
               have p74 : 0 ≤ ((ji71) : Int) := of_decide_eq_true Zas
               have q74 : ((ji71) : Int) < ((x7_3.length : Int) : Int) := of_decide_eq_true Zas
               obtain ⟨go74, co74, eo74, gb74, gl74, cl74, HG74⟩ := Kd.zdo HO_7.out (by omega)
               (first | cases eo74 | (injection eo74 with ea_ en_ ec_; (first | subst ea_ | (injection ea_ with ea_; subst ea_)); subst ec_; clear en_))
               have GB74 := za.mk gb74
               have GG74 := za.mk HG74
               clear gb74 gl74 HG74
               obtain ⟨hx74_0, hf74_0⟩ := Kd.zcw false HO_7.out ((ji71) : Int) p74 q74
               replace p74 := eq_true p74
               replace q74 := eq_true q74
               have HP75 := Kd.zc1 HO_7.out ((ji71) : Int) false
               go_wp2_with (first | ((with_reducible refine zcf (t := 4) (p := 69) rfl ?_); refine zcc (t := 4) (p := 69) (v := ?vo_w76) (w1 := (wc.setCell ⟨go74, ((ji71) : Int).toNat, none⟩ (.bool false))) ?hg ?ho ?hn ?hr ?_; (case ho => rfl); (case hg => rfl); (case hn => rfl); (case hr => first | (go_simp; done) | (go_simp; rfl)); intro w76 hw; have hg : wc.grownBy w76 (some go74) := (by rw [hw]; exact HP75.2); have hp_ : Kd.R Kd.bool 4 w76 w.heap.size (fun _ => True) (.slice (some ⟨go74, 0, none⟩) x7_3.length co74) y646 := (by rw [hw, Ny646.out]; exact HP75.1); clear HP75; have n0_ := za.mk (hp_); have n1_ := za.mk (zbr (g := gb633) (o := .cells #[.int .i64 a1_0, .int .i64 a1_1] 51 (0, 0)) (Zq4 BK633.out) hg (Kd.R_ne HO_7.out BK633.out (by decide))); have n2_ := za.mk (zf.grown (Zq10 HI0.out NB0_633.out) hg (zf.own_ne HI0.out HO_7.out (by decide))); have n3_ := za.mk ((by rw [hw]; exact zb3 (HB.out) (Nat.le_trans HL.out GB74.out) : Below w0.heap.size w0 w76)); have n4_ := za.mk (zi.trans (Zq11 HK.out GW633.out) (zi.zcy hg g) (Kd.zdi HO_7.out)); clear HO_7; clear BK633; clear HI0; clear HB; clear HK; have HO_7 := n0_; have BK633 := n1_; have HI0 := n2_; have HB := n3_; have HK := n4_; clear n0_ n1_ n2_ n3_ n4_; clear hg hw hp_))
               go_roundg kj21
               case measure => have := HK1.out; have := HJ7.out; have := HK3.out; have := HJ21.out; omega
               case rel => exact ⟨(y646), (x10_3), (wrap64 (x11_3 + 1)), (x1001_3), Zrs, Zrs, H', ⟨by have := HK1.out; have := HJ7.out; have := HK3.out; have := HJ21.out; omega⟩, ⟨Zq12 HO_7.out⟩, ⟨Zq4 BK633.out⟩, ⟨Zq10 HI0.out NB0_633.out⟩, ⟨Zq11 HK.out GW633.out⟩, ⟨Zq7 HB.out (zf.ge HI0.out) GE633.out⟩⟩
              ·rw [if_neg c73] at H
               exact absurd H (by simp)
             ·rw [if_neg c72] at H
              exact absurd H (by simp)
           ·replace c28 := Bool.eq_false_iff.mpr c28
            subst c28
            have H1 : (zl.l0 kj21 a2 x7_3 (wrap64 (x8_1 + a1_1)) s0_0 x1001_3 a1_0 a1_1) = some (r1, r2) := by rw [if_neg (show ¬ (false = true) by decide)] at H; exact H
            clear H
            have H := H1
            clear H1
            have H' := za.mk H
            clear H
            have hnb77 := NB633_0.out
            have hnc77 := NB0_633.out
            have hcz78_0 : wc.cell? ⟨gb633, 0, none⟩ = some (.int .i64 a1_0) := (zh BK633.out 0).trans rfl
            have hcz78_1 : wc.cell? ⟨gb633, 1, none⟩ = some (.int .i64 a1_1) := (zh BK633.out 1).trans rfl
            have hfz78_0 := zg BK633.out 0
            have hfz78_1 := zg BK633.out 1
            go_wp2
            go_roundg kj21
            case measure => have := HK1.out; have := HJ7.out; have := HK3.out; have := HJ21.out; omega
            case rel => exact ⟨(x7_3), (wrap64 (x8_1 + a1_1)), (x1001_3), Zrs, H', ⟨by have := HK1.out; have := HJ7.out; have := HK3.out; have := HJ21.out; omega⟩, ⟨Zq12 HO_7.out⟩, ⟨Zq4 BK633.out⟩, ⟨Zq10 HI0.out NB0_633.out⟩, ⟨Zq11 HK.out GW633.out⟩, ⟨Zq7 HB.out (zf.ge HI0.out) GE633.out⟩⟩
      ·replace c17 := Bool.eq_false_iff.mpr c17
       subst c17
       have H1 : ((zbk.f kj7 s0_0 x1001_1 a2).bind fun bt647 => (if bt647.1 = true then ((zb.f kj7 s0_0 bt647.2 120).bind fun bt649 => ((zb.f kj7 s0_0 bt649.2 2).bind fun bt651 => (if bt651.1 = 0 then (if 0 ≤ bt649.1 then (if bt649.1 ≤ (x7_1.length : Int) then (some ((x7_1.take (bt649.1 : Int).toNat), bt651.2)) else (none)) else (none)) else (if 0 ≤ bt649.1 then (if bt649.1 < (x7_1.length : Int) then (some ((x7_1.set (bt649.1 : Int).toNat (!(rdOf false x7_1 bt649.1))), bt651.2)) else (none)) else (none))))) else (some (x7_1, bt647.2)))) = some (r1, r2) := by rw [if_neg (show ¬ (false = true) by decide)] at H; exact H
       clear H
       have H := H1
       clear H1
       replace H := Option.bind_eq_some_iff.mp H
       obtain ⟨⟨t647, t648⟩, A790, H⟩ := H
       replace H : (if t647 = true then ((zb.f kj7 s0_0 t648 120).bind fun bt649 => ((zb.f kj7 s0_0 bt649.2 2).bind fun bt651 => (if bt651.1 = 0 then (if 0 ≤ bt649.1 then (if bt649.1 ≤ (x7_1.length : Int) then (some ((x7_1.take (bt649.1 : Int).toNat), bt651.2)) else (none)) else (none)) else (if 0 ≤ bt649.1 then (if bt649.1 < (x7_1.length : Int) then (some ((x7_1.set (bt649.1 : Int).toNat (!(rdOf false x7_1 bt649.1))), bt651.2)) else (none)) else (none))))) else (some (x7_1, t648))) = some (r1, r2) := H
       have A79 := za.mk A790
       clear A790
       by_cases c80 : t647 = true
       ·subst c80
        have H1 : ((zb.f kj7 s0_0 t648 120).bind fun bt649 => ((zb.f kj7 s0_0 bt649.2 2).bind fun bt651 => (if bt651.1 = 0 then (if 0 ≤ bt649.1 then (if bt649.1 ≤ (x7_1.length : Int) then (some ((x7_1.take (bt649.1 : Int).toNat), bt651.2)) else (none)) else (none)) else (if 0 ≤ bt649.1 then (if bt649.1 < (x7_1.length : Int) then (some ((x7_1.set (bt649.1 : Int).toNat (!(rdOf false x7_1 bt649.1))), bt651.2)) else (none)) else (none))))) = some (r1, r2) := by rw [if_pos rfl] at H; exact H
        clear H
        have H := H1
        clear H1
        replace H := Option.bind_eq_some_iff.mp H
        obtain ⟨⟨t649, t650⟩, A810, H⟩ := H
        replace H : ((zb.f kj7 s0_0 t650 2).bind fun bt651 => (if bt651.1 = 0 then (if 0 ≤ t649 then (if t649 ≤ (x7_1.length : Int) then (some ((x7_1.take (t649 : Int).toNat), bt651.2)) else (none)) else (none)) else (if 0 ≤ t649 then (if t649 < (x7_1.length : Int) then (some ((x7_1.set (t649 : Int).toNat (!(rdOf false x7_1 t649))), bt651.2)) else (none)) else (none)))) = some (r1, r2) := H
        have A81 := za.mk A810
        clear A810
        replace H := Option.bind_eq_some_iff.mp H
        obtain ⟨⟨t651, t652⟩, A820, H⟩ := H
        replace H : (if t651 = 0 then (if 0 ≤ t649 then (if t649 ≤ (x7_1.length : Int) then (some ((x7_1.take (t649 : Int).toNat), t652)) else (none)) else (none)) else (if 0 ≤ t649 then (if t649 < (x7_1.length : Int) then (some ((x7_1.set (t649 : Int).toNat (!(rdOf false x7_1 t649))), t652)) else (none)) else (none))) = some (r1, r2) := H
        have A82 := za.mk A820
        clear A820
        by_cases c83 : t651 = 0
        ·rw [if_pos c83] at H
         have c83b0 : (t651 == 0) = true := beq_iff_eq.mpr c83
         have c83b1 : (t651 != 0) = false := bne_eq_false_iff_eq.mpr c83
         clear c83
         by_cases c84 : 0 ≤ t649
         ·rw [if_pos c84] at H
          have c84b0 := eq_true c84
          have c84b1 : decide (0 ≤ t649) = true := decide_eq_true c84
          clear c84
          by_cases c85 : t649 ≤ (x7_1.length : Int)
          ·rw [if_pos c85] at H
           have c85b0 := eq_true c85
           have c85b1 : decide (t649 ≤ (x7_1.length : Int)) = true := decide_eq_true c85
           clear c85
           obtain ⟨y653, hy653⟩ : ∃ y_ : List Bool, y_ = (x7_1.take (t649 : Int).toNat) := ⟨_, rfl⟩
           replace H : (some (y653, t652)) = some (r1, r2) := by first | (rw [hy653]; with_reducible exact H) | (have H2_ := (Option.bind_some _ _).symm.trans H; rw [hy653]; with_reducible exact H2_) | (have H2_ := (Option.bind_some _ _).symm.trans H; with_reducible exact H2_) | with_reducible exact H | (rw [hy653]; exact H) | exact H
           have Ny653 := za.mk hy653
           clear hy653
           simp only [Option.some.injEq, Prod.mk.injEq] at H
           obtain ⟨rfl, rfl⟩ := H
           go_wp2_with (first | ((with_reducible refine zba (f := 89) rfl ?_); refine zbv (some 75) rfl rfl Try.func89 (by kernel_rfl) rfl #[.pointer (some ⟨g, 0, none⟩), .int .i64 a2] rfl Zmt ?_; (with_reducible refine (zbk.calls kj7 g s0_0 x1001_1 a2 true t648 w0 _ ?side1 ?side2 A79.out).mono ?_); (case side1 => exact Zq10 HI0.out NB0_633.out); (case side2 => exact Zq7 HB.out (zf.ge HI0.out) GE633.out); rintro e w86 ⟨rfl, hi, hb, hk⟩; refine ⟨_, rfl, ?_⟩; have n0_ := za.mk (Kd.zy (Kd.zbo (zf.apart (show zf w0 _ g s0_0 x1001_1 from Zq10 HI0.out NB0_633.out) (Zq12 HO_7.out) (by decide)) hk (fun _ h => h.2)) (fun _ h => h.1)); have n1_ := za.mk (zi.blk hk (g' := gb633) (o := .cells #[.int .i64 a1_0, .int .i64 a1_1] 51 (0, 0)) (Zq4 BK633.out) NB633_0.out (by simp)); have n2_ := za.mk (zi.trans (Zq11 HK.out GW633.out) hk (.inl rfl)); have n3_ := za.mk (hb); have n4_ := za.mk (hi); clear HO_7; clear BK633; clear HK; clear HB; clear HI0; have HO_7 := n0_; have BK633 := n1_; have HK := n2_; have HB := n3_; have HI0 := n4_; clear n0_ n1_ n2_ n3_ n4_; (try clear hb); (try clear hb2); (try clear hk); (try clear hi)) | ((with_reducible refine zba (f := 68) rfl ?_); refine zbv (some 77) rfl rfl Try.func68 (by kernel_rfl) rfl #[.pointer (some ⟨g, 0, none⟩), .int .i64 120] rfl Zmt ?_; (with_reducible refine (zb.calls kj7 g s0_0 t648 120 t649 t650 w0 _ ?side1 ?side2 A81.out).mono ?_); (case side1 => exact Zq10 HI0.out NB0_633.out); (case side2 => exact Zq7 HB.out (zf.ge HI0.out) GE633.out); rintro e w87 ⟨rfl, hi, hb, hk⟩; refine ⟨_, rfl, ?_⟩; have n0_ := za.mk (Kd.zy (Kd.zbo (zf.apart (show zf w0 _ g s0_0 t648 from Zq10 HI0.out NB0_633.out) (Zq12 HO_7.out) (by decide)) hk (fun _ h => h.2)) (fun _ h => h.1)); have n1_ := za.mk (zi.blk hk (g' := gb633) (o := .cells #[.int .i64 a1_0, .int .i64 a1_1] 51 (0, 0)) (Zq4 BK633.out) NB633_0.out (by simp)); have n2_ := za.mk (zi.trans (Zq11 HK.out GW633.out) hk (.inl rfl)); have n3_ := za.mk (hb); have n4_ := za.mk (hi); clear HO_7; clear BK633; clear HK; clear HB; clear HI0; have HO_7 := n0_; have BK633 := n1_; have HK := n2_; have HB := n3_; have HI0 := n4_; clear n0_ n1_ n2_ n3_ n4_; (try clear hb); (try clear hb2); (try clear hk); (try clear hi)) | ((with_reducible refine zba (f := 68) rfl ?_); refine zbv (some 79) rfl rfl Try.func68 (by kernel_rfl) rfl #[.pointer (some ⟨g, 0, none⟩), .int .i64 2] rfl Zmt ?_; (with_reducible refine (zb.calls kj7 g s0_0 t650 2 t651 t652 w0 _ ?side1 ?side2 A82.out).mono ?_); (case side1 => exact Zq10 HI0.out NB0_633.out); (case side2 => exact Zq7 HB.out (zf.ge HI0.out) GE633.out); rintro e w88 ⟨rfl, hi, hb, hk⟩; refine ⟨_, rfl, ?_⟩; have n0_ := za.mk (Kd.zy (Kd.zbo (zf.apart (show zf w0 _ g s0_0 t650 from Zq10 HI0.out NB0_633.out) (Zq12 HO_7.out) (by decide)) hk (fun _ h => h.2)) (fun _ h => h.1)); have n1_ := za.mk (zi.blk hk (g' := gb633) (o := .cells #[.int .i64 a1_0, .int .i64 a1_1] 51 (0, 0)) (Zq4 BK633.out) NB633_0.out (by simp)); have n2_ := za.mk (zi.trans (Zq11 HK.out GW633.out) hk (.inl rfl)); have n3_ := za.mk (hb); have n4_ := za.mk (hi); clear HO_7; clear BK633; clear HK; clear HB; clear HI0; have HO_7 := n0_; have BK633 := n1_; have HK := n2_; have HB := n3_; have HI0 := n4_; clear n0_ n1_ n2_ n3_ n4_; (try clear hb); (try clear hb2); (try clear hk); (try clear hi); obtain ⟨Ao89, co89, eo89⟩ := Kd.zbs HO_7.out; subst eo89; have q90 : (t649 : Int) ≤ ((x7_1.length : Int) : Int) := of_decide_eq_true Zas; obtain ⟨i090, hi090, _, hsz90, _⟩ := info_parts info4; have hcut90 := cut_to (P := Try.prog) 52 4 .i64 Try.underlying52 hi090 Ao89 x7_1.length co89 t649 (of_decide_eq_true Zas) q90 (Kd.zbe HO_7.out).2.1; have hr90 := Kd.R_take (m := (t649 : Int).toNat) HO_7.out (by omega); have hy90 : y653.length = (t649 : Int).toNat := (by rw [Ny653.out, List.length_take]; omega); rw [← Ny653.out] at hr90; rw [← hy90] at hr90 hcut90; clear hy90 hi090 hsz90 HO_7; have HO655 := za.mk hr90; clear hr90; replace q90 := eq_true q90))
           go_ret
           exact ⟨_, by first | rfl | (simp [zbc, zbd] <;> rfl) | (simp [*, zbc, zbd] <;> rfl), Zq12 HO655.out, Zq10 HI0.out NB0_633.out, Zq7 HB.out (zf.ge HI0.out) GE633.out, Zq11 HK.out GW633.out⟩
          ·rw [if_neg c85] at H
           exact absurd H (by simp)
         ·rw [if_neg c84] at H
          exact absurd H (by simp)
        ·rw [if_neg c83] at H
         have c83b0 : (t651 == 0) = false := beq_eq_false_iff_ne.mpr c83
         have c83b1 : (t651 != 0) = true := bne_iff_ne.mpr c83
         by_cases c91 : 0 ≤ t649
         ·rw [if_pos c91] at H
          have c91b0 : decide (0 ≤ t649) = true := decide_eq_true c91
          clear c91
          by_cases c92 : t649 < (x7_1.length : Int)
          ·rw [if_pos c92] at H
           have c92b0 : decide (t649 < (x7_1.length : Int)) = true := decide_eq_true c92
           clear c92
           obtain ⟨y657, hy657⟩ : ∃ y_ : List Bool, y_ = (x7_1.set (t649 : Int).toNat (!(rdOf false x7_1 t649))) := ⟨_, rfl⟩
           replace H : (some (y657, t652)) = some (r1, r2) := by first | (rw [hy657]; with_reducible exact H) | (have H2_ := (Option.bind_some _ _).symm.trans H; rw [hy657]; with_reducible exact H2_) | (have H2_ := (Option.bind_some _ _).symm.trans H; with_reducible exact H2_) | with_reducible exact H | (rw [hy657]; exact H) | exact H
           have Ny657 := za.mk hy657
           clear hy657
           simp only [Option.some.injEq, Prod.mk.injEq] at H
           obtain ⟨rfl, rfl⟩ := H
           go_wp2_with (first | ((with_reducible refine zba (f := 89) rfl ?_); refine zbv (some 75) rfl rfl Try.func89 (by kernel_rfl) rfl #[.pointer (some ⟨g, 0, none⟩), .int .i64 a2] rfl Zmt ?_; (with_reducible refine (zbk.calls kj7 g s0_0 x1001_1 a2 true t648 w0 _ ?side1 ?side2 A79.out).mono ?_); (case side1 => exact Zq10 HI0.out NB0_633.out); (case side2 => exact Zq7 HB.out (zf.ge HI0.out) GE633.out); rintro e w94 ⟨rfl, hi, hb, hk⟩; refine ⟨_, rfl, ?_⟩; have n0_ := za.mk (Kd.zy (Kd.zbo (zf.apart (show zf w0 _ g s0_0 x1001_1 from Zq10 HI0.out NB0_633.out) (Zq12 HO_7.out) (by decide)) hk (fun _ h => h.2)) (fun _ h => h.1)); have n1_ := za.mk (zi.blk hk (g' := gb633) (o := .cells #[.int .i64 a1_0, .int .i64 a1_1] 51 (0, 0)) (Zq4 BK633.out) NB633_0.out (by simp)); have n2_ := za.mk (zi.trans (Zq11 HK.out GW633.out) hk (.inl rfl)); have n3_ := za.mk (hb); have n4_ := za.mk (hi); clear HO_7; clear BK633; clear HK; clear HB; clear HI0; have HO_7 := n0_; have BK633 := n1_; have HK := n2_; have HB := n3_; have HI0 := n4_; clear n0_ n1_ n2_ n3_ n4_; (try clear hb); (try clear hb2); (try clear hk); (try clear hi)) | ((with_reducible refine zba (f := 68) rfl ?_); refine zbv (some 77) rfl rfl Try.func68 (by kernel_rfl) rfl #[.pointer (some ⟨g, 0, none⟩), .int .i64 120] rfl Zmt ?_; (with_reducible refine (zb.calls kj7 g s0_0 t648 120 t649 t650 w0 _ ?side1 ?side2 A81.out).mono ?_); (case side1 => exact Zq10 HI0.out NB0_633.out); (case side2 => exact Zq7 HB.out (zf.ge HI0.out) GE633.out); rintro e w95 ⟨rfl, hi, hb, hk⟩; refine ⟨_, rfl, ?_⟩; have n0_ := za.mk (Kd.zy (Kd.zbo (zf.apart (show zf w0 _ g s0_0 t648 from Zq10 HI0.out NB0_633.out) (Zq12 HO_7.out) (by decide)) hk (fun _ h => h.2)) (fun _ h => h.1)); have n1_ := za.mk (zi.blk hk (g' := gb633) (o := .cells #[.int .i64 a1_0, .int .i64 a1_1] 51 (0, 0)) (Zq4 BK633.out) NB633_0.out (by simp)); have n2_ := za.mk (zi.trans (Zq11 HK.out GW633.out) hk (.inl rfl)); have n3_ := za.mk (hb); have n4_ := za.mk (hi); clear HO_7; clear BK633; clear HK; clear HB; clear HI0; have HO_7 := n0_; have BK633 := n1_; have HK := n2_; have HB := n3_; have HI0 := n4_; clear n0_ n1_ n2_ n3_ n4_; (try clear hb); (try clear hb2); (try clear hk); (try clear hi)) | ((with_reducible refine zba (f := 68) rfl ?_); refine zbv (some 79) rfl rfl Try.func68 (by kernel_rfl) rfl #[.pointer (some ⟨g, 0, none⟩), .int .i64 2] rfl Zmt ?_; (with_reducible refine (zb.calls kj7 g s0_0 t650 2 t651 t652 w0 _ ?side1 ?side2 A82.out).mono ?_); (case side1 => exact Zq10 HI0.out NB0_633.out); (case side2 => exact Zq7 HB.out (zf.ge HI0.out) GE633.out); rintro e w96 ⟨rfl, hi, hb, hk⟩; refine ⟨_, rfl, ?_⟩; have n0_ := za.mk (Kd.zy (Kd.zbo (zf.apart (show zf w0 _ g s0_0 t650 from Zq10 HI0.out NB0_633.out) (Zq12 HO_7.out) (by decide)) hk (fun _ h => h.2)) (fun _ h => h.1)); have n1_ := za.mk (zi.blk hk (g' := gb633) (o := .cells #[.int .i64 a1_0, .int .i64 a1_1] 51 (0, 0)) (Zq4 BK633.out) NB633_0.out (by simp)); have n2_ := za.mk (zi.trans (Zq11 HK.out GW633.out) hk (.inl rfl)); have n3_ := za.mk (hb); have n4_ := za.mk (hi); clear HO_7; clear BK633; clear HK; clear HB; clear HI0; have HO_7 := n0_; have BK633 := n1_; have HK := n2_; have HB := n3_; have HI0 := n4_; clear n0_ n1_ n2_ n3_ n4_; (try clear hb); (try clear hb2); (try clear hk); (try clear hi); obtain ⟨Ao97, co97, eo97⟩ := Kd.zbs HO_7.out; subst eo97; have p656 : 0 ≤ (t649 : Int) := of_decide_eq_true Zas; have q656 : t649 < (x7_1.length : Int) := of_decide_eq_true Zas; obtain ⟨ad656, e656, hx656_0⟩ := Kd.at_bool (Kd.zbe HO_7.out).2.2 t649 p656 q656; cases e656; replace p656 := eq_true p656; replace q656 := eq_true q656; have p93 : 0 ≤ (t649 : Int) := of_decide_eq_true Zas; have q93 : (t649 : Int) < ((x7_1.length : Int) : Int) := of_decide_eq_true Zas; obtain ⟨go93, co93, eo93, gb93, gl93, cl93, HG93⟩ := Kd.zdo HO_7.out (by omega); (first | cases eo93 | (injection eo93 with ea_ en_ ec_; (first | subst ea_ | (injection ea_ with ea_; subst ea_)); subst ec_; clear en_)); have GB93 := za.mk gb93; have GG93 := za.mk HG93; clear gb93 gl93 HG93; (first | simp only [add_plain] at hx656_0 | skip); obtain ⟨hx93_0, hf93_0⟩ := Kd.zcw false HO_7.out (t649 : Int) p93 q93; replace p93 := eq_true p93; replace q93 := eq_true q93; obtain ⟨hy98_, hz98_⟩ := Kd.zcw false HO_7.out (t649 : Int) (of_decide_eq_true Zas) (of_decide_eq_true Zas); have HP98 := Kd.zc1 HO_7.out (t649 : Int) (!(rdOf false x7_1 t649))) | ((with_reducible refine zcf (t := 4) (p := 91) rfl ?_); refine zcc (t := 4) (p := 91) (v := ?vo_w99) (w1 := (w96.setCell ⟨go93, (t649 : Int).toNat, none⟩ (.bool (!(rdOf false x7_1 t649))))) ?hg ?ho ?hn ?hr ?_; (case ho => rfl); (case hg => rfl); (case hn => rfl); (case hr => first | (go_simp; done) | (go_simp; rfl)); intro w99 hw; have hg : w96.grownBy w99 (some go93) := (by rw [hw]; exact HP98.2); have hp_ : Kd.R Kd.bool 4 w99 w.heap.size (fun _ => True) (.slice (some ⟨go93, 0, none⟩) x7_1.length co97) y657 := (by rw [hw, Ny657.out]; exact HP98.1); clear HP98; have n0_ := za.mk (hp_); have n1_ := za.mk (zbr (g := gb633) (o := .cells #[.int .i64 a1_0, .int .i64 a1_1] 51 (0, 0)) (Zq4 BK633.out) hg (Kd.R_ne HO_7.out BK633.out (by decide))); have n2_ := za.mk (zf.grown (Zq10 HI0.out NB0_633.out) hg (zf.own_ne HI0.out HO_7.out (by decide))); have n3_ := za.mk ((by rw [hw]; exact zb3 (HB.out) (Nat.le_trans HL.out GB93.out) : Below w0.heap.size w0 w99)); have n4_ := za.mk (zi.trans (Zq11 HK.out GW633.out) (zi.zcy hg g) (Kd.zdi HO_7.out)); clear HO_7; clear BK633; clear HI0; clear HB; clear HK; have HO_7 := n0_; have BK633 := n1_; have HI0 := n2_; have HB := n3_; have HK := n4_; clear n0_ n1_ n2_ n3_ n4_; clear hg hw hp_))
           go_ret
           exact ⟨_, by first | rfl | (simp [zbc, zbd] <;> rfl) | (simp [*, zbc, zbd] <;> rfl), Zq12 HO_7.out, Zq10 HI0.out NB0_633.out, Zq7 HB.out (zf.ge HI0.out) GE633.out, Zq11 HK.out GW633.out⟩
          ·rw [if_neg c92] at H
           exact absurd H (by simp)
         ·rw [if_neg c91] at H
          exact absurd H (by simp)
       ·replace c80 := Bool.eq_false_iff.mpr c80
        subst c80
        have H1 : (some (x7_1, t648)) = some (r1, r2) := by rw [if_neg (show ¬ (false = true) by decide)] at H; exact H
        clear H
        have H := H1
        clear H1
        simp only [Option.some.injEq, Prod.mk.injEq] at H
        obtain ⟨rfl, rfl⟩ := H
        go_wp2_with (first | ((with_reducible refine zba (f := 89) rfl ?_); refine zbv (some 75) rfl rfl Try.func89 (by kernel_rfl) rfl #[.pointer (some ⟨g, 0, none⟩), .int .i64 a2] rfl Zmt ?_; (with_reducible refine (zbk.calls kj7 g s0_0 x1001_1 a2 false t648 w0 _ ?side1 ?side2 A79.out).mono ?_); (case side1 => exact Zq10 HI0.out NB0_633.out); (case side2 => exact Zq7 HB.out (zf.ge HI0.out) GE633.out); rintro e w100 ⟨rfl, hi, hb, hk⟩; refine ⟨_, rfl, ?_⟩; have n0_ := za.mk (Kd.zy (Kd.zbo (zf.apart (show zf w0 _ g s0_0 x1001_1 from Zq10 HI0.out NB0_633.out) (Zq12 HO_7.out) (by decide)) hk (fun _ h => h.2)) (fun _ h => h.1)); have n1_ := za.mk (zi.blk hk (g' := gb633) (o := .cells #[.int .i64 a1_0, .int .i64 a1_1] 51 (0, 0)) (Zq4 BK633.out) NB633_0.out (by simp)); have n2_ := za.mk (zi.trans (Zq11 HK.out GW633.out) hk (.inl rfl)); have n3_ := za.mk (hb); have n4_ := za.mk (hi); clear HO_7; clear BK633; clear HK; clear HB; clear HI0; have HO_7 := n0_; have BK633 := n1_; have HK := n2_; have HB := n3_; have HI0 := n4_; clear n0_ n1_ n2_ n3_ n4_; (try clear hb); (try clear hb2); (try clear hk); (try clear hi)))
        go_ret
        exact ⟨_, by first | rfl | (simp [zbc, zbd] <;> rfl) | (simp [*, zbc, zbd] <;> rfl), Zq12 HO_7.out, Zq10 HI0.out NB0_633.out, Zq7 HB.out (zf.ge HI0.out) GE633.out, Zq11 HK.out GW633.out⟩
 ·rw [if_neg c4] at H
  exact absurd H (by simp)
mutual
def z8.l0 : Nat → List (S88) → Int → List Int → Int → Option ((List (S88)) × (List (S34)) × Int × Int × List Bool)
 | 0, _, _, _, _ => none
 | k + 1, x7, x8, x662000, x662001 => if x8 > 0 then ((zb.f k x662000 x662001 2).bind fun bt667 => ((zb.f k x662000 bt667.2 5).bind fun bt669 => (if x7.length < 5864062014805 then (z8.l0 k (x7 ++ [(⟨wrap64 (1 + bt667.1), wrap64 (8 + bt669.1), 12⟩ : S88)]) (wrap64 (x8 - 1)) x662000 bt669.2) else (none)))) else ((zb.f k x662000 x662001 3).bind fun bt674 => (if bt674.1 = 0 then ((zbz.f k x662000 bt674.2 16).bind fun bt676 => (z8.j1 k bt676.1 x662000 bt676.2)) else (z8.j1 k x7 x662000 bt674.2)))
def z8.j1 : Nat → List (S88) → List Int → Int → Option ((List (S88)) × (List (S34)) × Int × Int × List Bool)
 | 0, _, _, _ => none
 | k + 1, x7, x662000, x662001 => (zde.f k x662000 x662001 20).bind fun bt680 => ((zl.f k x662000 bt680.2.2 bt680.1 bt680.2.1 16).bind fun bt684 => ((zbx.f k x7).bind fun t688 => (if t688 = true then ((zz.f k x662000 bt684.2 x7 16).bind fun bt689 => (some (x7, bt689.1, bt680.1, bt680.2.1, bt684.1))) else (some (x7, (([] : List (S34))), bt680.1, bt680.2.1, bt684.1)))))
end
def z8.f (k : Nat) (l0 : List Int) : Option ((List (S88)) × (List (S34)) × Int × Int × List Bool) := (zdm.f l0).bind fun bt659 => ((zb.f k bt659.1 bt659.2 3).bind fun bt665 => (z8.l0 k (([] : List (S88))) bt665.1 bt659.1 bt665.2))
def z8.T12 : Bool × List (List Nat × List Nat) := (true, [([], []), ([], []), ([], []), ([], []), ([0, 0], [0]), ([1, 4, 0, 1, 4], [1]), ([2, 5, 0, 1, 2, 4, 5], [2]), ([3, 6, 0, 1, 2, 3, 4, 5, 6], [3])])
def z8.B12 : List Nat := [0, 0, 0, 0, 1, 19, 55, 127]
theorem z8.tab12 : rtab .any (opsOf Try.f30 12) = z8.T12 := by kernel_rfl
theorem z8.bits12 : waitsOk z8.T12.2 z8.B12 = true := by kernel_rfl
def z8.T13 : Bool × List (List Nat × List Nat) := (true, [([], []), ([], []), ([], []), ([1, 2], [1, 2]), ([], []), ([], []), ([0, 3, 0], [0]), ([3, 6, 0, 1, 2, 3, 6], [3]), ([4, 7, 0, 1, 2, 3, 4, 6, 7], [4]), ([5, 8, 0, 1, 2, 3, 4, 5, 6, 7, 8], [5])])
def z8.B13 : List Nat := [0, 0, 0, 6, 0, 0, 15, 79, 223, 511]
theorem z8.tab13 : rtab .any (opsOf Try.f30 13) = z8.T13 := by kernel_rfl
theorem z8.bits13 : waitsOk z8.T13.2 z8.B13 = true := by kernel_rfl
set_option maxHeartbeats 8000000 in
set_option maxRecDepth 100000 in
theorem z8.calls (k : Nat) (A0 : Option Addr) (c0 : Nat) (l0 : List Int) (r1 : List (S88)) (r2 : List (S34)) (r3 : Int) (r4 : Int) (r5 : List Bool) (w : World) (hr0 : Kd.C (Kd.int .u8) w A0 l0.length l0) (hc0 : l0.length ≤ c0) (h : z8.f k l0 = some (r1, r2, r3, r4, r5)) :
  Calls Try.prog 30 #[.slice A0 l0.length c0] w fun e w' => ∃ v0_ v1_ v4_ : Value, e = .returned (.tuple #[v0_, v1_, .agg #[.int .i64 r3, .int .i64 r4], v4_]) ∧ Kd.R k88 88 w' w.heap.size (fun _ => True) v0_ r1 ∧ Kd.R k34 34 w' w.heap.size (fun _ => True) v1_ r2 ∧ Kd.R Kd.bool 4 w' w.heap.size (fun _ => True) v4_ r5 ∧ Below w.heap.size w w' := by
 have hu51 := Try.underlying51
 have hu88 := Try.underlying88
 have HR0 := za.mk hr0
 have HC0 := za.mk hc0
 clear hr0 hc0
 have HB := za.mk (Below.refl w.heap.size w)
 have H : ((zdm.f l0).bind fun bt659 => ((zb.f k bt659.1 bt659.2 3).bind fun bt665 => (z8.l0 k (([] : List (S88))) bt665.1 bt659.1 bt665.2))) = some (r1, r2, r3, r4, r5) := h
 clear h
 replace H := Option.bind_eq_some_iff.mp H
 obtain ⟨⟨t659, t660⟩, A20, H⟩ := H
 replace H : ((zb.f k t659 t660 3).bind fun bt665 => (z8.l0 k (([] : List (S88))) bt665.1 t659 bt665.2)) = some (r1, r2, r3, r4, r5) := H
 have A2 := za.mk A20
 clear A20
 obtain ⟨y662, hy662⟩ : ∃ y_ : List (S88), y_ = (([] : List (S88))) := ⟨_, rfl⟩
 replace H : ((zb.f k t659 t660 3).bind fun bt665 => (z8.l0 k y662 bt665.1 t659 bt665.2)) = some (r1, r2, r3, r4, r5) := by first | (rw [hy662]; with_reducible exact H) | (have H2_ := (Option.bind_some _ _).symm.trans H; rw [hy662]; with_reducible exact H2_) | (have H2_ := (Option.bind_some _ _).symm.trans H; with_reducible exact H2_) | with_reducible exact H | (rw [hy662]; exact H) | exact H
 have Ny662 := za.mk hy662
 clear hy662
 replace H := Option.bind_eq_some_iff.mp H
 obtain ⟨⟨t665, t666⟩, A30, H⟩ := H
 replace H : (z8.l0 k y662 t665 t659 t666) = some (r1, r2, r3, r4, r5) := H
 have A3 := za.mk A30
 clear A30
 have H' := za.mk H
 clear H
 go_enter Try.func30, Try.ntmps30
 go_wp2_with (first | ((with_reducible refine zbp (N := 4) rfl ?_); refine zb1 ?hg (N := 4) ?hd (cs := #[.int .i64 0, .int .i64 0]) (t := 51) ?hr ?_; (case hd => rfl); (case hg => rfl); (case hr => first | (go_simp; done) | (go_simp; rfl)); intro gb658 hg w4 hbox hb; have n0_ := za.mk (zo (Zq3 HB.out) hb); have n1_ := za.mk (hbox); have n2_ := za.mk ((by rw [hg]; exact (zbb (Zq3 HB.out)) : w.heap.size ≤ gb658)); have n3_ := za.mk ((by rw [hg]; exact (zbb (Zq3 HB.out)) : w.heap.size ≤ gb658)); clear HB; have HB := n0_; have BK658 := n1_; have GW658 := n2_; have GE658 := n3_; clear n0_ n1_ n2_ n3_; clear hb hbox hg) | ((with_reducible refine zba (f := 44) rfl ?_); refine zbv (some 12) rfl rfl Try.func44 (by kernel_rfl) rfl #[.slice A0 l0.length c0] rfl Zmt ?_; (with_reducible refine (zdm.calls _ _ l0 t659 t660 w _ ?side1 ?side2 ?side3 A2.out).mono ?_); (case side1 => exact Zq5 HB.out GE658.out); (case side2 => exact HR0.out); (case side3 => exact HC0.out); rintro e w5 ⟨g661, rfl, hi, hb, hb2⟩; refine ⟨_, rfl, ?_⟩; have n0_ := za.mk (zbg (g := gb658) (o := .cells #[.int .i64 0, .int .i64 0] 51 (0, 0)) (Zq4 BK658.out) hb2); have n1_ := za.mk (hb); have n2_ := za.mk (hi); have n3_ := za.mk (zf.ne_blk hi (zbg (g := gb658) (o := .cells #[.int .i64 0, .int .i64 0] 51 (0, 0)) (Zq4 BK658.out) hb2) (by decide)); have n4_ := za.mk (Ne.symm (zf.ne_blk hi (zbg (g := gb658) (o := .cells #[.int .i64 0, .int .i64 0] 51 (0, 0)) (Zq4 BK658.out) hb2) (by decide))); clear BK658; clear HB; have BK658 := n0_; have HB := n1_; have HI661 := n2_; have NB661_658 := n3_; have NB658_661 := n4_; clear n0_ n1_ n2_ n3_ n4_; (try clear hb); (try clear hb2); (try clear hk); (try clear hi)) | ((with_reducible refine zbp (N := 13) rfl ?_); refine Kd.R_lit k88 _ 88 ?hg (N := 13) ?hd (xs := ([] : List (S88))) (inner := []) (ok := fun _ => True) (okp := fun _ => True) ?hr ?hp (fun _ hk => hk) trivial (Below.refl _ _) (Nat.le_refl _) (by simp) ?_; (case hd => rfl); (case hg => rfl); (case hr => first | (go_simp; done) | (go_simp; rfl)); (case hp => exact (Reps.none _ _)); intro v663 w6 ho7 hb hg_ hnew_; clear hg_ hnew_; (first | rw [← Ny662.out] at ho7 | (simp only [Int.reduceToNat] at ho7; rw [← Ny662.out] at ho7)); have n0_ := za.mk (Kd.zb2 ho7 (zbb (Zq7 HB.out (zf.ge HI661.out) GE658.out))); have n1_ := za.mk (zbg (g := gb658) (o := .cells #[.int .i64 0, .int .i64 0] 51 (0, 0)) (Zq4 BK658.out) hb); have n2_ := za.mk (zf.below (Zq10 HI661.out NB661_658.out) hb); have n3_ := za.mk (zo (Zq7 HB.out (zf.ge HI661.out) GE658.out) hb); clear BK658; clear HI661; clear HB; have HO664 := n0_; have BK658 := n1_; have HI661 := n2_; have HB := n3_; clear n0_ n1_ n2_ n3_; clear hb ho7) | ((with_reducible refine zba (f := 68) rfl ?_); refine zbv (some 15) rfl rfl Try.func68 (by kernel_rfl) rfl #[.pointer (some ⟨g661, 0, none⟩), .int .i64 3] rfl Zmt ?_; (with_reducible refine (zb.calls k g661 t659 t660 3 t665 t666 w _ ?side1 ?side2 A3.out).mono ?_); (case side1 => exact Zq10 HI661.out NB661_658.out); (case side2 => exact Zq7 HB.out (zf.ge HI661.out) GE658.out); rintro e w8 ⟨rfl, hi, hb, hk⟩; refine ⟨_, rfl, ?_⟩; have n0_ := za.mk (zi.blk hk (g' := gb658) (o := .cells #[.int .i64 0, .int .i64 0] 51 (0, 0)) (Zq4 BK658.out) NB658_661.out (by simp)); have n1_ := za.mk (Kd.zy (Kd.zbo (zf.apart (show zf w _ g661 t659 t660 from Zq10 HI661.out NB661_658.out) (Zq12 HO664.out) (by decide)) hk (fun _ h => h.2)) (fun _ h => h.1)); have n2_ := za.mk (hb); have n3_ := za.mk (hi); clear BK658; clear HO664; clear HB; clear HI661; have BK658 := n0_; have HO664 := n1_; have HB := n2_; have HI661 := n3_; clear n0_ n1_ n2_ n3_; (try clear hb); (try clear hb2); (try clear hk); (try clear hi)))
 go_loopg [7, 8] k (fun kq v7 v8 w' => ∃ (x7_1 : List (S88)) (x8_1 : Int) (x662001_1 : Int), v8 = .int .i64 x8_1 ∧ za (z8.l0 kq x7_1 x8_1 t659 x662001_1 = some (r1, r2, r3, r4, r5)) ∧ za (kq ≤ k) ∧ za (Kd.R k88 88 w' w.heap.size (fun _ => True) v7 x7_1) ∧ za (w'.heap[gb658]? = some (.cells #[.int .i64 0, .int .i64 0] 51 (0, 0))) ∧ za (zf w w' g661 t659 x662001_1) ∧ za (Below w.heap.size w w'))
 case atStart => exact ⟨(y662), (t665), (t666), Zrs, H', ⟨Nat.le_refl _⟩, ⟨Zq12 HO664.out⟩, ⟨Zq4 BK658.out⟩, ⟨Zq10 HI661.out NB661_658.out⟩, ⟨Zq7 HB.out (zf.ge HI661.out) GE658.out⟩⟩
 case round =>
  clear H'
  try clear p2
  try clear c3
  try clear c4
  try clear c6
  obtain ⟨x7_1, x8_1, x662001_1, rfl, HA, HK1, HO_7, BK658, HI661, HB⟩ := hrel
  cases gk with
  | zero => exact absurd HA.out (by simp [z8.l0])
  | succ k1 =>
   have H := HA.out
   clear HA
   simp only [z8.l0] at H
   by_cases c9 : x8_1 > 0
   ·rw [if_pos c9] at H
    have c9b0 : decide (0 < x8_1) = true := decide_eq_true c9
    clear c9
    replace H := Option.bind_eq_some_iff.mp H
    obtain ⟨⟨t667, t668⟩, A100, H⟩ := H
    replace H : ((zb.f k1 t659 t668 5).bind fun bt669 => (if x7_1.length < 5864062014805 then (z8.l0 k1 (x7_1 ++ [(⟨wrap64 (1 + t667), wrap64 (8 + bt669.1), 12⟩ : S88)]) (wrap64 (x8_1 - 1)) t659 bt669.2) else (none))) = some (r1, r2, r3, r4, r5) := H
    have A10 := za.mk A100
    clear A100
    replace H := Option.bind_eq_some_iff.mp H
    obtain ⟨⟨t669, t670⟩, A110, H⟩ := H
    replace H : (if x7_1.length < 5864062014805 then (z8.l0 k1 (x7_1 ++ [(⟨wrap64 (1 + t667), wrap64 (8 + t669), 12⟩ : S88)]) (wrap64 (x8_1 - 1)) t659 t670) else (none)) = some (r1, r2, r3, r4, r5) := H
    have A11 := za.mk A110
    clear A110
    by_cases c12 : x7_1.length < 5864062014805
    ·rw [if_pos c12] at H
     have LMc12 := za.mk c12
     clear c12
     obtain ⟨y671, hy671⟩ : ∃ y_ : List (S88), y_ = (x7_1 ++ [(⟨wrap64 (1 + t667), wrap64 (8 + t669), 12⟩ : S88)]) := ⟨_, rfl⟩
     replace H : (z8.l0 k1 y671 (wrap64 (x8_1 - 1)) t659 t670) = some (r1, r2, r3, r4, r5) := by first | (rw [hy671]; with_reducible exact H) | (have H2_ := (Option.bind_some _ _).symm.trans H; rw [hy671]; with_reducible exact H2_) | (have H2_ := (Option.bind_some _ _).symm.trans H; with_reducible exact H2_) | with_reducible exact H | (rw [hy671]; exact H) | exact H
     have Ny671 := za.mk hy671
     clear hy671
     have H' := za.mk H
     clear H
     go_wp2_with (first | ((with_reducible refine zba (f := 68) rfl ?_); refine zbv (some 22) rfl rfl Try.func68 (by kernel_rfl) rfl #[.pointer (some ⟨g661, 0, none⟩), .int .i64 2] rfl Zmt ?_; (with_reducible refine (zb.calls k1 g661 t659 x662001_1 2 t667 t668 w _ ?side1 ?side2 A10.out).mono ?_); (case side1 => exact Zq10 HI661.out NB661_658.out); (case side2 => exact Zq7 HB.out (zf.ge HI661.out) GE658.out); rintro e w13 ⟨rfl, hi, hb, hk⟩; refine ⟨_, rfl, ?_⟩; have n0_ := za.mk (Kd.zy (Kd.zbo (zf.apart (show zf w _ g661 t659 x662001_1 from Zq10 HI661.out NB661_658.out) (Zq12 HO_7.out) (by decide)) hk (fun _ h => h.2)) (fun _ h => h.1)); have n1_ := za.mk (zi.blk hk (g' := gb658) (o := .cells #[.int .i64 0, .int .i64 0] 51 (0, 0)) (Zq4 BK658.out) NB658_661.out (by simp)); have n2_ := za.mk (hb); have n3_ := za.mk (hi); clear HO_7; clear BK658; clear HB; clear HI661; have HO_7 := n0_; have BK658 := n1_; have HB := n2_; have HI661 := n3_; clear n0_ n1_ n2_ n3_; (try clear hb); (try clear hb2); (try clear hk); (try clear hi)) | ((with_reducible refine zba (f := 68) rfl ?_); refine zbv (some 25) rfl rfl Try.func68 (by kernel_rfl) rfl #[.pointer (some ⟨g661, 0, none⟩), .int .i64 5] rfl Zmt ?_; (with_reducible refine (zb.calls k1 g661 t659 t668 5 t669 t670 w _ ?side1 ?side2 A11.out).mono ?_); (case side1 => exact Zq10 HI661.out NB661_658.out); (case side2 => exact Zq7 HB.out (zf.ge HI661.out) GE658.out); rintro e w14 ⟨rfl, hi, hb, hk⟩; refine ⟨_, rfl, ?_⟩; have n0_ := za.mk (Kd.zy (Kd.zbo (zf.apart (show zf w _ g661 t659 t668 from Zq10 HI661.out NB661_658.out) (Zq12 HO_7.out) (by decide)) hk (fun _ h => h.2)) (fun _ h => h.1)); have n1_ := za.mk (zi.blk hk (g' := gb658) (o := .cells #[.int .i64 0, .int .i64 0] 51 (0, 0)) (Zq4 BK658.out) NB658_661.out (by simp)); have n2_ := za.mk (hb); have n3_ := za.mk (hi); clear HO_7; clear BK658; clear HB; clear HI661; have HO_7 := n0_; have BK658 := n1_; have HB := n2_; have HI661 := n3_; clear n0_ n1_ n2_ n3_; (try clear hb); (try clear hb2); (try clear hk); (try clear hi)) | ((with_reducible refine zcq (b := .append) (xs := #[.tmp 20, .tmp 28]) rfl ?_); at_builtin; refine Kd.zdg k88 (w0 := w) w.heap.size rfl (.tmp 20) (.tmp 28) 23 88 (.agg #[(.int .i64 0), (.int .i64 0), (.int .i64 0)]) 24 rfl Try.underlying23 info88 rfl (by decide) (by omega) u7 x7_1 (⟨wrap64 (1 + t667), wrap64 (8 + t669), 12⟩ : S88) [.int .i64 (wrap64 (1 + t667)), .int .i64 (wrap64 (8 + t669)), .int .i64 12] (fun _ => True) (fun _ => False) rfl rfl ?aP (fun _ hk => hk.elim) ?aF ?aO ?aB ?aS ?aL ?_; (case aP => exact k88_mkM _ _ _ (⟨wrap64 (1 + t667), wrap64 (8 + t669), 12⟩ : S88)); (case aB => exact (Zq7 HB.out (zf.ge HI661.out) GE658.out)); (case aF => exact (fun _ _ => trivial)); (case aO => exact (Zq12 HO_7.out)); (case aS => exact (zbb (Zq7 HB.out (zf.ge HI661.out) GE658.out))); (case aL => have := LMc12.out; omega); intro v672 w15 ho hb hg hat; rw [← Ny671.out] at ho; have n0_ := za.mk (zbr (g := gb658) (o := .cells #[.int .i64 0, .int .i64 0] 51 (0, 0)) (Zq4 BK658.out) hg (Kd.R_ne HO_7.out BK658.out (by decide))); have n1_ := za.mk (zf.grown (Zq10 HI661.out NB661_658.out) hg (zf.own_ne HI661.out HO_7.out (by decide))); have n2_ := za.mk (hb); have n3_ := za.mk (ho); clear BK658; clear HI661; clear HB; clear HO_7; have BK658 := n0_; have HI661 := n1_; have HB := n2_; have HO673 := n3_; clear n0_ n1_ n2_ n3_; clear ho hb hg hat))
     go_roundg k1
     case measure => have := HK1.out; omega
     case rel => exact ⟨(y671), (wrap64 (x8_1 - 1)), (t670), Zrs, H', ⟨by have := HK1.out; omega⟩, ⟨Zq12 HO673.out⟩, ⟨Zq4 BK658.out⟩, ⟨Zq10 HI661.out NB661_658.out⟩, ⟨Zq7 HB.out (zf.ge HI661.out) GE658.out⟩⟩
    ·rw [if_neg c12] at H
     exact absurd H (by simp)
   ·rw [if_neg c9] at H
    have c9b0 : decide (0 < x8_1) = false := decide_eq_false c9
    clear c9
    replace H := Option.bind_eq_some_iff.mp H
    obtain ⟨⟨t674, t675⟩, A160, H⟩ := H
    replace H : (if t674 = 0 then ((zbz.f k1 t659 t675 16).bind fun bt676 => (z8.j1 k1 bt676.1 t659 bt676.2)) else (z8.j1 k1 x7_1 t659 t675)) = some (r1, r2, r3, r4, r5) := H
    have A16 := za.mk A160
    clear A160
    have HC17 := za.mk H
    clear H
    go_upto_if 32 with (first | ((with_reducible refine zba (f := 68) rfl ?_); refine zbv (some 31) rfl rfl Try.func68 (by kernel_rfl) rfl #[.pointer (some ⟨g661, 0, none⟩), .int .i64 3] rfl Zmt ?_; (with_reducible refine (zb.calls k1 g661 t659 x662001_1 3 t674 t675 w _ ?side1 ?side2 A16.out).mono ?_); (case side1 => exact Zq10 HI661.out NB661_658.out); (case side2 => exact Zq7 HB.out (zf.ge HI661.out) GE658.out); rintro e w18 ⟨rfl, hi, hb, hk⟩; refine ⟨_, rfl, ?_⟩; have n0_ := za.mk (Kd.zy (Kd.zbo (zf.apart (show zf w _ g661 t659 x662001_1 from Zq10 HI661.out NB661_658.out) (Zq12 HO_7.out) (by decide)) hk (fun _ h => h.2)) (fun _ h => h.1)); have n1_ := za.mk (zi.blk hk (g' := gb658) (o := .cells #[.int .i64 0, .int .i64 0] 51 (0, 0)) (Zq4 BK658.out) NB658_661.out (by simp)); have n2_ := za.mk (hb); have n3_ := za.mk (hi); clear HO_7; clear BK658; clear HB; clear HI661; have HO_7 := n0_; have BK658 := n1_; have HB := n2_; have HI661 := n3_; clear n0_ n1_ n2_ n3_; (try clear hb); (try clear hb2); (try clear hk); (try clear hi)))
    (try simp only [Act.put, List.setIfInBounds_toArray, List.set_cons_zero, List.set_cons_succ])
    go_cut [7] (fun v7 wc => ∃ (kq : Nat) (x7_16 : List (S88)) (x662001_16 : Int), za (z8.j1 kq x7_16 t659 x662001_16 = some (r1, r2, r3, r4, r5)) ∧ za (kq ≤ k1) ∧ za (Kd.R k88 88 wc w.heap.size (fun _ => True) v7 x7_16) ∧ za (wc.heap[gb658]? = some (.cells #[.int .i64 0, .int .i64 0] 51 (0, 0))) ∧ za (zf w wc g661 t659 x662001_16) ∧ za (Below w.heap.size w wc))
    case first =>
     have H := HC17.out
     clear HC17
     by_cases c19 : t674 = 0
     ·rw [if_pos c19] at H
      have c19b0 : (t674 == 0) = true := beq_iff_eq.mpr c19
      have c19b1 : (t674 != 0) = false := bne_eq_false_iff_eq.mpr c19
      clear c19
      (first | rw [c19b0] | (simp only [zbq, zbt]; rw [c19b0]) | skip)
      replace H := Option.bind_eq_some_iff.mp H
      obtain ⟨⟨t676, t679⟩, A200, H⟩ := H
      replace H : (z8.j1 k1 t676 t659 t679) = some (r1, r2, r3, r4, r5) := H
      have A20 := za.mk A200
      clear A200
      have H' := za.mk H
      clear H
      go_wp2_with (first | ((with_reducible refine zba (f := 69) rfl ?_); refine zbv (some 34) rfl rfl Try.func69 (by kernel_rfl) rfl #[.pointer (some ⟨g661, 0, none⟩), .int .i64 16] rfl Zmt ?_; (with_reducible refine (zbz.calls k1 g661 t659 t675 16 t676 t679 w _ ?side1 ?side2 A20.out).mono ?_); (case side1 => exact Zq10 HI661.out NB661_658.out); (case side2 => exact Zq7 HB.out (zf.ge HI661.out) GE658.out); rintro e w21 ⟨v677, rfl, ho0, hi, hb, hk⟩; refine ⟨_, rfl, ?_⟩; have n0_ := za.mk (Kd.zy (Kd.zdn (Kd.R_oldK (zf.apart (show zf w _ g661 t659 t675 from Zq10 HI661.out NB661_658.out) (Zq12 HO_7.out) (by decide)) hk) (Kd.zch ho0)) (fun _ h_ => h_.1)); have n1_ := za.mk (zi.blk hk (g' := gb658) (o := .cells #[.int .i64 0, .int .i64 0] 51 (0, 0)) (Zq4 BK658.out) NB658_661.out (by simp)); have n2_ := za.mk (Kd.zb2 (Kd.zcm ho0 (Kd.R_lt (Zq12 HO_7.out))) (zbb (Zq7 HB.out (zf.ge HI661.out) GE658.out))); have n3_ := za.mk (hb); have n4_ := za.mk (hi); clear HO_7; clear BK658; clear HB; clear HI661; have HO_7 := n0_; have BK658 := n1_; have HO678 := n2_; have HB := n3_; have HI661 := n4_; clear n0_ n1_ n2_ n3_ n4_; (try clear hb); (try clear hb2); (try clear hk); (try clear hi); (try clear ho0)))
      go_meet
      case rel => exact ⟨_, (t676), (t679), H', ⟨by have := HK1.out; first | omega | exact Nat.le_refl _⟩, ⟨by (with_reducible repeat (first | apply Kd.zbi | apply Kd.zbh | apply Kd.zbj)); exact Kd.zy HO678.out (fun _ hk => trivial)⟩, ⟨Zq4 BK658.out⟩, ⟨Zq10 HI661.out NB661_658.out⟩, ⟨Zq7 HB.out (zf.ge HI661.out) GE658.out⟩⟩
     ·rw [if_neg c19] at H
      have c19b0 : (t674 == 0) = false := beq_eq_false_iff_ne.mpr c19
      have c19b1 : (t674 != 0) = true := bne_iff_ne.mpr c19
      (first | rw [c19b0] | (simp only [zbq, zbt]; rw [c19b0]) | skip)
      have H' := za.mk H
      clear H
      go_wp2
      go_meet
      case rel => exact ⟨_, (x7_1), (t675), H', ⟨by have := HK1.out; first | omega | exact Nat.le_refl _⟩, ⟨Zq12 HO_7.out⟩, ⟨Zq4 BK658.out⟩, ⟨Zq10 HI661.out NB661_658.out⟩, ⟨Zq7 HB.out (zf.ge HI661.out) GE658.out⟩⟩
    case rest =>
     clear HC17
     try clear c1
     try clear p2
     try clear c3
     try clear c4
     try clear c6
     try clear p6
     try clear c9
     try clear c9b0
     try clear c12
     try clear c19
     try clear c19b0
     try clear c19b1
     try clear p2
     obtain ⟨kq, x7_16, x662001_16, HA, HJ16, HO_7, BK658, HI661, HB⟩ := hcut
     cases kq with
     | zero => exact absurd HA.out (by simp [z8.j1])
     | succ kj16 =>
      have H := HA.out
      clear HA
      simp only [z8.j1] at H
      replace H := Option.bind_eq_some_iff.mp H
      obtain ⟨⟨t680, t681, t682⟩, A220, H⟩ := H
      replace H : ((zl.f kj16 t659 t682 t680 t681 16).bind fun bt684 => ((zbx.f kj16 x7_16).bind fun t688 => (if t688 = true then ((zz.f kj16 t659 bt684.2 x7_16 16).bind fun bt689 => (some (x7_16, bt689.1, t680, t681, bt684.1))) else (some (x7_16, (([] : List (S34))), t680, t681, bt684.1))))) = some (r1, r2, r3, r4, r5) := H
      have A22 := za.mk A220
      clear A220
      replace H := Option.bind_eq_some_iff.mp H
      obtain ⟨⟨t684, t687⟩, A230, H⟩ := H
      replace H : ((zbx.f kj16 x7_16).bind fun t688 => (if t688 = true then ((zz.f kj16 t659 t687 x7_16 16).bind fun bt689 => (some (x7_16, bt689.1, t680, t681, t684))) else (some (x7_16, (([] : List (S34))), t680, t681, t684)))) = some (r1, r2, r3, r4, r5) := H
      have A23 := za.mk A230
      clear A230
      replace H := Option.bind_eq_some_iff.mp H
      obtain ⟨t688, A240, H⟩ := H
      replace H : (if t688 = true then ((zz.f kj16 t659 t687 x7_16 16).bind fun bt689 => (some (x7_16, bt689.1, t680, t681, t684))) else (some (x7_16, (([] : List (S34))), t680, t681, t684))) = some (r1, r2, r3, r4, r5) := H
      have A24 := za.mk A240
      clear A240
      by_cases c25 : t688 = true
      ·subst c25
       have H1 : ((zz.f kj16 t659 t687 x7_16 16).bind fun bt689 => (some (x7_16, bt689.1, t680, t681, t684))) = some (r1, r2, r3, r4, r5) := by rw [if_pos rfl] at H; exact H
       clear H
       have H := H1
       clear H1
       replace H := Option.bind_eq_some_iff.mp H
       obtain ⟨⟨t689, t692⟩, A260, H⟩ := H
       replace H : (some (x7_16, t689, t680, t681, t684)) = some (r1, r2, r3, r4, r5) := H
       have A26 := za.mk A260
       clear A260
       simp only [Option.some.injEq, Prod.mk.injEq] at H
       obtain ⟨rfl, rfl, rfl, rfl, rfl⟩ := H
       try go_wp2_with (first | ((with_reducible refine zba (f := 70) rfl ?_); refine zbv (some 36) rfl rfl Try.func70 (by kernel_rfl) rfl #[.pointer (some ⟨g661, 0, none⟩), .int .i64 20] rfl Zmt ?_; (with_reducible refine (zde.calls kj16 g661 t659 x662001_16 20 t680 t681 t682 w _ ?side1 ?side2 A22.out).mono ?_); (case side1 => exact Zq10 HI661.out NB661_658.out); (case side2 => exact Zq7 HB.out (zf.ge HI661.out) GE658.out); rintro e w27 ⟨rfl, hi, hb, hk⟩; refine ⟨_, rfl, ?_⟩; have n0_ := za.mk (Kd.zy (Kd.zbo (zf.apart (show zf w _ g661 t659 x662001_16 from Zq10 HI661.out NB661_658.out) (Zq12 HO_7.out) (by decide)) hk (fun _ h => h.2)) (fun _ h => h.1)); have n1_ := za.mk (zi.blk hk (g' := gb658) (o := .cells #[.int .i64 0, .int .i64 0] 51 (0, 0)) (Zq4 BK658.out) NB658_661.out (by simp)); have n2_ := za.mk (hb); have n3_ := za.mk (hi); clear HO_7; clear BK658; clear HB; clear HI661; have HO_7 := n0_; have BK658 := n1_; have HB := n2_; have HI661 := n3_; clear n0_ n1_ n2_ n3_; (try clear hb); (try clear hb2); (try clear hk); (try clear hi)) | ((with_reducible refine zbp (N := 9) rfl ?_); refine zb1 ?hg (N := 9) ?hd (cs := #[.int .i64 0, .int .i64 0]) (t := 51) ?hr ?_; (case hd => rfl); (case hg => rfl); (case hr => first | (go_simp; done) | (go_simp; rfl)); intro gb683 hg w28 hbox hb; have n0_ := za.mk (Kd.zbl (Zq12 HO_7.out) hb); have n1_ := za.mk (zbg (g := gb658) (o := .cells #[.int .i64 0, .int .i64 0] 51 (0, 0)) (Zq4 BK658.out) hb); have n2_ := za.mk (zf.below (Zq10 HI661.out NB661_658.out) hb); have n3_ := za.mk (zo (Zq7 HB.out (zf.ge HI661.out) GE658.out) hb); have n4_ := za.mk (hbox); have n5_ := za.mk ((by rw [hg]; exact (zbb (Zq7 HB.out (zf.ge HI661.out) GE658.out)) : w.heap.size ≤ gb683)); have n6_ := za.mk ((by rw [hg]; exact (zbb (Zq7 HB.out (zf.ge HI661.out) GE658.out)) : w.heap.size ≤ gb683)); have n7_ := za.mk ((by rw [hg]; exact Nat.ne_of_lt (zcz (g := gb658) (o := .cells #[.int .i64 0, .int .i64 0] 51 (0, 0)) (Zq4 BK658.out)) : gb658 ≠ gb683)); have n8_ := za.mk ((by rw [hg]; exact Nat.ne_of_gt (zcz (g := gb658) (o := .cells #[.int .i64 0, .int .i64 0] 51 (0, 0)) (Zq4 BK658.out)) : gb683 ≠ gb658)); have n9_ := za.mk ((by rw [hg]; exact Nat.ne_of_lt (zf.lt (show zf w _ g661 t659 t682 from Zq10 HI661.out NB661_658.out)) : g661 ≠ gb683)); have n10_ := za.mk ((by rw [hg]; exact Nat.ne_of_gt (zf.lt (show zf w _ g661 t659 t682 from Zq10 HI661.out NB661_658.out)) : gb683 ≠ g661)); clear HO_7; clear BK658; clear HI661; clear HB; have HO_7 := n0_; have BK658 := n1_; have HI661 := n2_; have HB := n3_; have BK683 := n4_; have GW683 := n5_; have GE683 := n6_; have NB658_683 := n7_; have NB683_658 := n8_; have NB661_683 := n9_; have NB683_661 := n10_; clear n0_ n1_ n2_ n3_ n4_ n5_ n6_ n7_ n8_ n9_ n10_; clear hb hbox hg; have hnb29 := NB683_658.out; have hnc29 := NB658_683.out; have hnb30 := NB683_661.out; have hnc30 := NB661_683.out; have hcz31_0 : w28.cell? ⟨gb683, 0, none⟩ = some (.int .i64 0) := (zh BK683.out 0).trans rfl; have hcz31_1 : w28.cell? ⟨gb683, 1, none⟩ = some (.int .i64 0) := (zh BK683.out 1).trans rfl; have hfz31_0 := zg BK683.out 0; have hfz31_1 := zg BK683.out 1) | ((with_reducible refine zba (f := 71) rfl ?_); refine zbv (some 39) rfl rfl Try.func71 (by kernel_rfl) rfl #[.pointer (some ⟨g661, 0, none⟩), .agg #[.int .i64 t680, .int .i64 t681], .int .i64 16] rfl Zmt ?_; (with_reducible refine (zl.calls kj16 g661 t659 t682 t680 t681 16 t684 t687 w _ ?side1 ?side2 A23.out).mono ?_); (case side1 => exact Zq13 HI661.out NB661_658.out NB661_683.out); (case side2 => exact Zq15 HB.out (zf.ge HI661.out) GE658.out GE683.out); rintro e w32 ⟨v685, rfl, ho0, hi, hb, hk⟩; refine ⟨_, rfl, ?_⟩; have n0_ := za.mk (Kd.zy (Kd.zbo (zf.apart (show zf w _ g661 t659 t682 from Zq13 HI661.out NB661_658.out NB661_683.out) (by (with_reducible repeat (first | apply Kd.zbi | apply Kd.zbh | apply Kd.zbj)); exact (Kd.zy (Kd.zb9 (p := ⟨gb683, 1, none⟩) (Kd.zb9 (p := ⟨gb683, 0, none⟩) (Kd.zb5 HO_7.out BK683.out (by decide)) (fun _ hk => hk.2) (.int .i64 t680)) (fun _ hk => hk.2) (.int .i64 t681)) (fun _ h_ => h_.1))) (by decide)) hk (fun _ h => h.2)) (fun _ h => h.1)); have n1_ := za.mk (zi.blk hk (g' := gb658) (o := .cells #[.int .i64 0, .int .i64 0] 51 (0, 0)) (by (with_reducible repeat (first | refine zn ?_ _ | refine zt ?_ | refine zm ?_ _)); refine zcl ?_ NB658_683.out _; (with_reducible repeat (first | refine zn ?_ _ | refine zt ?_ | refine zm ?_ _)); refine zcl ?_ NB658_683.out _; (with_reducible repeat (first | refine zn ?_ _ | refine zt ?_ | refine zm ?_ _)); exact BK658.out) NB658_661.out (by simp)); have n2_ := za.mk (zi.blk hk (g' := gb683) (o := .cells #[.int .i64 t680, .int .i64 t681] 51 (0, 0)) (by (with_reducible repeat (first | refine zn ?_ _ | refine zt ?_ | refine zm ?_ _)); refine zbu (cs := #[.int .i64 t680, .int .i64 0]) ?_ 1 _ rfl; (with_reducible repeat (first | refine zn ?_ _ | refine zt ?_ | refine zm ?_ _)); refine zbu (cs := #[.int .i64 0, .int .i64 0]) ?_ 0 _ rfl; (with_reducible repeat (first | refine zn ?_ _ | refine zt ?_ | refine zm ?_ _)); exact BK683.out) NB683_661.out (by simp)); have n3_ := za.mk (Kd.zb2 ho0 (zbb (Zq15 HB.out (zf.ge HI661.out) GE658.out GE683.out))); have n4_ := za.mk (hb); have n5_ := za.mk (hi); clear HO_7; clear BK658; clear BK683; clear HB; clear HI661; have HO_7 := n0_; have BK658 := n1_; have BK683 := n2_; have HO686 := n3_; have HB := n4_; have HI661 := n5_; clear n0_ n1_ n2_ n3_ n4_ n5_; (try clear hb); (try clear hb2); (try clear hk); (try clear hi); (try clear ho0); obtain ⟨Ao33, co33, eo33⟩ := Kd.zbs HO_7.out; subst eo33) | ((with_reducible refine zba (f := 46) rfl ?_); refine zbv (some 41) rfl rfl Try.func46 (by kernel_rfl) rfl #[.slice Ao33 x7_16.length co33] rfl Zmt ?_; (with_reducible refine (zbx.calls kj16 _ _ x7_16 true _ ?side1 ?side2 A24.out).mono ?_); (case side1 => exact Zq6 ((Kd.zbe HO_7.out).2.2)); (case side2 => exact (Kd.zbe HO_7.out).2.1); rintro e w34 ⟨rfl, hb⟩; refine ⟨_, rfl, ?_⟩; have n0_ := za.mk (Kd.zbl (Zq12 HO_7.out) hb); have n1_ := za.mk (Kd.zbl (Zq12 HO686.out) hb); have n2_ := za.mk (zbg (g := gb658) (o := .cells #[.int .i64 0, .int .i64 0] 51 (0, 0)) (Zq4 BK658.out) hb); have n3_ := za.mk (zf.below (Zq13 HI661.out NB661_658.out NB661_683.out) hb); have n4_ := za.mk (zbg (g := gb683) (o := .cells #[.int .i64 t680, .int .i64 t681] 51 (0, 0)) (Zq4 BK683.out) hb); have n5_ := za.mk (zo (Zq15 HB.out (zf.ge HI661.out) GE658.out GE683.out) hb); clear HO_7; clear HO686; clear BK658; clear HI661; clear BK683; clear HB; have HO_7 := n0_; have HO686 := n1_; have BK658 := n2_; have HI661 := n3_; have BK683 := n4_; have HB := n5_; clear n0_ n1_ n2_ n3_ n4_ n5_; (try clear hb); (try clear hb2); (try clear hk); (try clear hi)))
       have n0_ := za.mk (Kd.zbj HO_7.out)
       have n1_ := za.mk (Kd.zbj HO686.out)
       have n2_ := za.mk (zt BK658.out)
       have n3_ := za.mk (zt BK683.out)
       have n4_ := za.mk (zf.drew HI661.out)
       have n5_ := za.mk (zb6 HB.out)
       clear HO_7
       clear HO686
       clear BK658
       clear BK683
       clear HI661
       clear HB
       have HO_7 := n0_
       have HO686 := n1_
       have BK658 := n2_
       have BK683 := n3_
       have HI661 := n4_
       have HB := n5_
       clear n0_ n1_ n2_ n3_ n4_ n5_
       refine start_ (n := 10) (S := fun w' => w'.cell? ⟨gb683, 0, none⟩ = some (.int .i64 t680) ∧ w'.cell? ⟨gb683, 1, none⟩ = some (.int .i64 t681)) (ds := []) #[false, false, false, false, false, false, false, false, false, false] (by kernel_rfl) rfl rfl ⟨(zh BK683.out 0).trans rfl, (zh BK683.out 1).trans rfl⟩ (fun hHeld => ?_); refine zdq z8.tab13 z8.bits13 (fun HT_ HW_ => ?_)
       generalize w34.drew = w35 at HO_7 HO686 BK658 BK683 HI661 HB hHeld ⊢
       refine zce (i := 0) (N := some 47) (v := ?_) (a' := ?_) #[true, false, false, false, false, false, false, false, false, false] rfl rfl (zby HT_.out (by kernel_rfl)) (fun _ _ _ h => h) (Or.inl ⟨by rfl, ?_⟩) ?_ ?_
       rotate_left
       ·intro w'
        go_simp
        with_reducible rfl
       rotate_left
       ·simp only [Act.put, List.setIfInBounds_toArray, List.set_cons_zero, List.set_cons_succ, zbq, zbt]
        rfl
       refine zce (i := 1) (N := some 48) (v := ?_) (a' := ?_) #[true, true, false, false, false, false, false, false, false, false] rfl rfl (zby HT_.out (by kernel_rfl)) (fun _ _ _ h => h) (Or.inl ⟨by rfl, ?_⟩) ?_ ?_
       rotate_left
       ·intro w'
        go_simp
        with_reducible rfl
       rotate_left
       ·simp only [Act.put, List.setIfInBounds_toArray, List.set_cons_zero, List.set_cons_succ, zbq, zbt]
        rfl
       refine zce (i := 2) (N := some 49) (v := ?_) (a' := ?_) #[true, true, true, false, false, false, false, false, false, false] rfl rfl (zby HT_.out (by kernel_rfl)) (fun _ _ _ h => h) (Or.inl ⟨by rfl, ?_⟩) ?_ ?_
       rotate_left
       ·intro w'
        go_simp
        with_reducible rfl
       rotate_left
       ·simp only [Act.put, List.setIfInBounds_toArray, List.set_cons_zero, List.set_cons_succ, zbq, zbt]
        rfl
       refine zce (i := 5) (N := some 52) (v := ?_) (a' := ?_) #[true, true, true, false, false, true, false, false, false, false] rfl rfl (zby HT_.out (by kernel_rfl)) (fun _ _ _ h => h) (Or.inl ⟨by rfl, ?_⟩) ?_ ?_
       rotate_left
       ·intro w'
        go_simp
        with_reducible rfl
       rotate_left
       ·simp only [Act.put, List.setIfInBounds_toArray, List.set_cons_zero, List.set_cons_succ, zbq, zbt]
        rfl
       refine take_ (i := 4) (N := some 51) (v := ?_) (a' := ?_) #[true, true, true, false, true, true, false, false, false, false] rfl rfl (zc5 HT_.out HW_.out (by kernel_rfl)) (fun _ _ _ h => h) (Or.inl ⟨by rfl, ?_⟩) hHeld ?_ ?_
       rotate_left
       ·rintro w' ⟨s0, s1⟩
        go_simp
        with_reducible rfl
       rotate_left
       ·simp only [Act.put, List.setIfInBounds_toArray, List.set_cons_zero, List.set_cons_succ, zbq, zbt]
        rfl
       refine one_ (i := 3) (N := some 50) #[true, true, true, true, true, true, false, false, false, false] rfl rfl (zc8 HT_.out (by kernel_rfl)) (by decide) (fun K hK => ?_)
       refine goes_ Try.func47 (by kernel_rfl) rfl #[.pointer (some ⟨g661, 0, none⟩), .slice Ao33 x7_16.length co33, .int .i64 16] (by rfl) rfl rfl Zmt ?_
       with_reducible refine (zz.calls kj16 g661 t659 t687 _ _ x7_16 16 t689 t692 w _ ?side1 ?side2 ?side3 ?side4 A26.out).mono ?_
       (case side1 => exact Zq13 HI661.out NB661_658.out NB661_683.out)
       (case side2 => exact Zq15 HB.out (zf.ge HI661.out) GE658.out GE683.out)
       (case side3 => exact Kd.C_foot_own (zf.apart (show zf w _ g661 t659 t687 from Zq13 HI661.out NB661_658.out NB661_683.out) (Zq12 HO_7.out) (by decide)) (fun _ h_ => h_.2))
       (case side4 => exact (Kd.zbe HO_7.out).2.1)
       rintro e w36 ⟨v690, rfl, ho0, hi, hb, hk⟩
       refine ⟨_, rfl, ?_⟩
       have n0_ := za.mk (Kd.zy (Kd.zbo (zf.apart (show zf w _ g661 t659 t687 from Zq13 HI661.out NB661_658.out NB661_683.out) (Zq12 HO_7.out) (by decide)) hk (fun _ h => h.2)) (fun _ h => h.1))
       have n1_ := za.mk (zi.blk hk (g' := gb658) (o := .cells #[.int .i64 0, .int .i64 0] 51 (0, 0)) (Zq4 BK658.out) NB658_661.out (by simp))
       have n2_ := za.mk (zi.blk hk (g' := gb683) (o := .cells #[.int .i64 t680, .int .i64 t681] 51 (0, 0)) (Zq4 BK683.out) NB683_661.out (by simp))
       have n3_ := za.mk (Kd.zy (Kd.zbo (zf.apart (show zf w _ g661 t659 t687 from Zq13 HI661.out NB661_658.out NB661_683.out) (Zq12 HO686.out) (by decide)) hk (fun _ h => h.2)) (fun _ h => h.1))
       have n4_ := za.mk (Kd.zb2 ho0 (zbb (Zq15 HB.out (zf.ge HI661.out) GE658.out GE683.out)))
       have n5_ := za.mk (hb)
       have n6_ := za.mk (hi)
       clear HO_7
       clear BK658
       clear BK683
       clear HO686
       clear HB
       clear HI661
       have HO_7 := n0_
       have BK658 := n1_
       have BK683 := n2_
       have HO686 := n3_
       have HO691 := n4_
       have HB := n5_
       have HI661 := n6_
       clear n0_ n1_ n2_ n3_ n4_ n5_ n6_
       (try clear hb)
       (try clear hb2)
       (try clear hk)
       (try clear hi)
       (try clear ho0)
       refine hK.out _ _ ⟨(zh BK683.out 0).trans rfl, (zh BK683.out 1).trans rfl⟩ (fun hHeld => ?_)
       clear hK K
       refine zc6 (a' := ?_) ?_ ?_
       rotate_left
       ·show Act.put _ (some 50) _ = _
        simp only [Act.put, List.setIfInBounds_toArray, List.set_cons_zero, List.set_cons_succ, zbq, zbt]
        rfl
       refine zce (i := 6) (N := some 2) (v := ?_) (a' := ?_) #[true, true, true, true, true, true, true, false, false, false] rfl rfl (zby HT_.out (by kernel_rfl)) (fun _ _ _ h => h) (Or.inl ⟨by rfl, ?_⟩) ?_ ?_
       rotate_left
       ·intro w'
        go_simp
        with_reducible rfl
       rotate_left
       ·simp only [Act.put, List.setIfInBounds_toArray, List.set_cons_zero, List.set_cons_succ, zbq, zbt]
        rfl
       refine zce (i := 7) (N := some 3) (v := ?_) (a' := ?_) #[true, true, true, true, true, true, true, true, false, false] rfl rfl (zby HT_.out (by kernel_rfl)) (fun _ _ _ h => h) (Or.inl ⟨by rfl, ?_⟩) ?_ ?_
       rotate_left
       ·intro w'
        go_simp
        with_reducible rfl
       rotate_left
       ·simp only [Act.put, List.setIfInBounds_toArray, List.set_cons_zero, List.set_cons_succ, zbq, zbt]
        rfl
       refine one_ (i := 8) (N := none) #[true, true, true, true, true, true, true, true, true, false] rfl rfl (zc8 HT_.out (by kernel_rfl)) (by decide) (fun K hK => ?_)
       have hs37 : w36.cell? ⟨gb658, 0, none⟩ = some (.int .i64 0) := (zh BK658.out 0).trans rfl
       have hfs37 := zg BK658.out 0
       have hns37_1 := NB683_658.out
       have hms37_1 := NB658_683.out
       have hs38 : w36.cell? ⟨gb658, 1, none⟩ = some (.int .i64 0) := (zh BK658.out 1).trans rfl
       have hfs38 := zg BK658.out 1
       have hns38_1 := NB683_658.out
       have hms38_1 := NB658_683.out
       refine skip_ (w1 := ?_) (by rfl) rfl ?_ ?_
       rotate_left
       ·go_simp
        rfl
       refine hK.out _ _ ⟨((cell_far (p := ⟨gb658, _, none⟩) NB683_658.out _).trans (((cell_far (p := ⟨gb658, _, none⟩) NB683_658.out _).trans (hHeld.1)))), ((cell_far (p := ⟨gb658, _, none⟩) NB683_658.out _).trans (((cell_far (p := ⟨gb658, _, none⟩) NB683_658.out _).trans (hHeld.2))))⟩ (fun hHeld => ?_)
       clear hK K
       refine zce (i := 9) (N := some 5) (v := ?_) (a' := ?_) #[true, true, true, true, true, true, true, true, true, true] rfl rfl (zby HT_.out (by kernel_rfl)) (fun _ _ _ h => h) (Or.inl ⟨by rfl, ?_⟩) ?_ ?_
       rotate_left
       ·intro w'
        go_simp
        with_reducible rfl
       rotate_left
       ·simp only [Act.put, List.setIfInBounds_toArray, List.set_cons_zero, List.set_cons_succ, zbq, zbt]
        rfl
       refine done_ (done_of HT_.out (by kernel_rfl)) ?_
       try go_wp2
       refine bodyPost_ret (results_list (rs := [.tmp 2, .tmp 3, .cell 4 51, .tmp 5]) rfl (by simp) (.tmp (.tmp (.cell gb658 51 #[.int .i64 t680, .int .i64 t681] (0, 0) _ rfl (by (with_reducible repeat (first | refine zn ?_ _ | refine zt ?_ | refine zm ?_ _)); refine zbu (cs := #[.int .i64 t680, .int .i64 0]) ?_ 1 _ rfl; (with_reducible repeat (first | refine zn ?_ _ | refine zt ?_ | refine zm ?_ _)); refine zbu (cs := #[.int .i64 0, .int .i64 0]) ?_ 0 _ rfl; (with_reducible repeat (first | refine zn ?_ _ | refine zt ?_ | refine zm ?_ _)); exact BK658.out) Try.underlying51 rfl (by kernel_rfl) (.tmp .nil))))) rfl ?_
       exact ⟨_, _, _, by first | rfl | (simp [zbc, zbd] <;> rfl) | (simp [*, zbc, zbd] <;> rfl), by (with_reducible repeat (first | apply Kd.zbi | apply Kd.zbh | apply Kd.zbj)); exact Kd.zy (Kd.zb9 (p := ⟨gb658, 1, none⟩) (Kd.zb9 (p := ⟨gb658, 0, none⟩) (Kd.zb5 HO_7.out BK658.out (by decide)) (fun _ hk => hk.2) (.int .i64 t680)) (fun _ hk => hk.2) (.int .i64 t681)) (fun _ hk => trivial), by (with_reducible repeat (first | apply Kd.zbi | apply Kd.zbh | apply Kd.zbj)); exact Kd.zy (Kd.zb9 (p := ⟨gb658, 1, none⟩) (Kd.zb9 (p := ⟨gb658, 0, none⟩) (Kd.zb5 HO691.out BK658.out (by decide)) (fun _ hk => hk.2) (.int .i64 t680)) (fun _ hk => hk.2) (.int .i64 t681)) (fun _ hk => trivial), by (with_reducible repeat (first | apply Kd.zbi | apply Kd.zbh | apply Kd.zbj)); exact Kd.zy (Kd.zb9 (p := ⟨gb658, 1, none⟩) (Kd.zb9 (p := ⟨gb658, 0, none⟩) (Kd.zb5 HO686.out BK658.out (by decide)) (fun _ hk => hk.2) (.int .i64 t680)) (fun _ hk => hk.2) (.int .i64 t681)) (fun _ hk => trivial), Zq15 HB.out (zf.ge HI661.out) GE658.out GE683.out⟩
      ·replace c25 := Bool.eq_false_iff.mpr c25
       subst c25
       have H1 : (some (x7_16, (([] : List (S34))), t680, t681, t684)) = some (r1, r2, r3, r4, r5) := by rw [if_neg (show ¬ (false = true) by decide)] at H; exact H
       clear H
       have H := H1
       clear H1
       obtain ⟨y693, hy693⟩ : ∃ y_ : List (S34), y_ = (([] : List (S34))) := ⟨_, rfl⟩
       replace H : (some (x7_16, y693, t680, t681, t684)) = some (r1, r2, r3, r4, r5) := by first | (rw [hy693]; with_reducible exact H) | (have H2_ := (Option.bind_some _ _).symm.trans H; rw [hy693]; with_reducible exact H2_) | (have H2_ := (Option.bind_some _ _).symm.trans H; with_reducible exact H2_) | with_reducible exact H | (rw [hy693]; exact H) | exact H
       have Ny693 := za.mk hy693
       clear hy693
       simp only [Option.some.injEq, Prod.mk.injEq] at H
       obtain ⟨rfl, rfl, rfl, rfl, rfl⟩ := H
       try go_wp2_with (first | ((with_reducible refine zba (f := 70) rfl ?_); refine zbv (some 36) rfl rfl Try.func70 (by kernel_rfl) rfl #[.pointer (some ⟨g661, 0, none⟩), .int .i64 20] rfl Zmt ?_; (with_reducible refine (zde.calls kj16 g661 t659 x662001_16 20 t680 t681 t682 w _ ?side1 ?side2 A22.out).mono ?_); (case side1 => exact Zq10 HI661.out NB661_658.out); (case side2 => exact Zq7 HB.out (zf.ge HI661.out) GE658.out); rintro e w39 ⟨rfl, hi, hb, hk⟩; refine ⟨_, rfl, ?_⟩; have n0_ := za.mk (Kd.zy (Kd.zbo (zf.apart (show zf w _ g661 t659 x662001_16 from Zq10 HI661.out NB661_658.out) (Zq12 HO_7.out) (by decide)) hk (fun _ h => h.2)) (fun _ h => h.1)); have n1_ := za.mk (zi.blk hk (g' := gb658) (o := .cells #[.int .i64 0, .int .i64 0] 51 (0, 0)) (Zq4 BK658.out) NB658_661.out (by simp)); have n2_ := za.mk (hb); have n3_ := za.mk (hi); clear HO_7; clear BK658; clear HB; clear HI661; have HO_7 := n0_; have BK658 := n1_; have HB := n2_; have HI661 := n3_; clear n0_ n1_ n2_ n3_; (try clear hb); (try clear hb2); (try clear hk); (try clear hi)) | ((with_reducible refine zbp (N := 9) rfl ?_); refine zb1 ?hg (N := 9) ?hd (cs := #[.int .i64 0, .int .i64 0]) (t := 51) ?hr ?_; (case hd => rfl); (case hg => rfl); (case hr => first | (go_simp; done) | (go_simp; rfl)); intro gb683 hg w40 hbox hb; have n0_ := za.mk (Kd.zbl (Zq12 HO_7.out) hb); have n1_ := za.mk (zbg (g := gb658) (o := .cells #[.int .i64 0, .int .i64 0] 51 (0, 0)) (Zq4 BK658.out) hb); have n2_ := za.mk (zf.below (Zq10 HI661.out NB661_658.out) hb); have n3_ := za.mk (zo (Zq7 HB.out (zf.ge HI661.out) GE658.out) hb); have n4_ := za.mk (hbox); have n5_ := za.mk ((by rw [hg]; exact (zbb (Zq7 HB.out (zf.ge HI661.out) GE658.out)) : w.heap.size ≤ gb683)); have n6_ := za.mk ((by rw [hg]; exact (zbb (Zq7 HB.out (zf.ge HI661.out) GE658.out)) : w.heap.size ≤ gb683)); have n7_ := za.mk ((by rw [hg]; exact Nat.ne_of_lt (zcz (g := gb658) (o := .cells #[.int .i64 0, .int .i64 0] 51 (0, 0)) (Zq4 BK658.out)) : gb658 ≠ gb683)); have n8_ := za.mk ((by rw [hg]; exact Nat.ne_of_gt (zcz (g := gb658) (o := .cells #[.int .i64 0, .int .i64 0] 51 (0, 0)) (Zq4 BK658.out)) : gb683 ≠ gb658)); have n9_ := za.mk ((by rw [hg]; exact Nat.ne_of_lt (zf.lt (show zf w _ g661 t659 t682 from Zq10 HI661.out NB661_658.out)) : g661 ≠ gb683)); have n10_ := za.mk ((by rw [hg]; exact Nat.ne_of_gt (zf.lt (show zf w _ g661 t659 t682 from Zq10 HI661.out NB661_658.out)) : gb683 ≠ g661)); clear HO_7; clear BK658; clear HI661; clear HB; have HO_7 := n0_; have BK658 := n1_; have HI661 := n2_; have HB := n3_; have BK683 := n4_; have GW683 := n5_; have GE683 := n6_; have NB658_683 := n7_; have NB683_658 := n8_; have NB661_683 := n9_; have NB683_661 := n10_; clear n0_ n1_ n2_ n3_ n4_ n5_ n6_ n7_ n8_ n9_ n10_; clear hb hbox hg; have hnb41 := NB683_658.out; have hnc41 := NB658_683.out; have hnb42 := NB683_661.out; have hnc42 := NB661_683.out; have hcz43_0 : w40.cell? ⟨gb683, 0, none⟩ = some (.int .i64 0) := (zh BK683.out 0).trans rfl; have hcz43_1 : w40.cell? ⟨gb683, 1, none⟩ = some (.int .i64 0) := (zh BK683.out 1).trans rfl; have hfz43_0 := zg BK683.out 0; have hfz43_1 := zg BK683.out 1) | ((with_reducible refine zba (f := 71) rfl ?_); refine zbv (some 39) rfl rfl Try.func71 (by kernel_rfl) rfl #[.pointer (some ⟨g661, 0, none⟩), .agg #[.int .i64 t680, .int .i64 t681], .int .i64 16] rfl Zmt ?_; (with_reducible refine (zl.calls kj16 g661 t659 t682 t680 t681 16 t684 t687 w _ ?side1 ?side2 A23.out).mono ?_); (case side1 => exact Zq13 HI661.out NB661_658.out NB661_683.out); (case side2 => exact Zq15 HB.out (zf.ge HI661.out) GE658.out GE683.out); rintro e w44 ⟨v685, rfl, ho0, hi, hb, hk⟩; refine ⟨_, rfl, ?_⟩; have n0_ := za.mk (Kd.zy (Kd.zbo (zf.apart (show zf w _ g661 t659 t682 from Zq13 HI661.out NB661_658.out NB661_683.out) (by (with_reducible repeat (first | apply Kd.zbi | apply Kd.zbh | apply Kd.zbj)); exact (Kd.zy (Kd.zb9 (p := ⟨gb683, 1, none⟩) (Kd.zb9 (p := ⟨gb683, 0, none⟩) (Kd.zb5 HO_7.out BK683.out (by decide)) (fun _ hk => hk.2) (.int .i64 t680)) (fun _ hk => hk.2) (.int .i64 t681)) (fun _ h_ => h_.1))) (by decide)) hk (fun _ h => h.2)) (fun _ h => h.1)); have n1_ := za.mk (zi.blk hk (g' := gb658) (o := .cells #[.int .i64 0, .int .i64 0] 51 (0, 0)) (by (with_reducible repeat (first | refine zn ?_ _ | refine zt ?_ | refine zm ?_ _)); refine zcl ?_ NB658_683.out _; (with_reducible repeat (first | refine zn ?_ _ | refine zt ?_ | refine zm ?_ _)); refine zcl ?_ NB658_683.out _; (with_reducible repeat (first | refine zn ?_ _ | refine zt ?_ | refine zm ?_ _)); exact BK658.out) NB658_661.out (by simp)); have n2_ := za.mk (zi.blk hk (g' := gb683) (o := .cells #[.int .i64 t680, .int .i64 t681] 51 (0, 0)) (by (with_reducible repeat (first | refine zn ?_ _ | refine zt ?_ | refine zm ?_ _)); refine zbu (cs := #[.int .i64 t680, .int .i64 0]) ?_ 1 _ rfl; (with_reducible repeat (first | refine zn ?_ _ | refine zt ?_ | refine zm ?_ _)); refine zbu (cs := #[.int .i64 0, .int .i64 0]) ?_ 0 _ rfl; (with_reducible repeat (first | refine zn ?_ _ | refine zt ?_ | refine zm ?_ _)); exact BK683.out) NB683_661.out (by simp)); have n3_ := za.mk (Kd.zb2 ho0 (zbb (Zq15 HB.out (zf.ge HI661.out) GE658.out GE683.out))); have n4_ := za.mk (hb); have n5_ := za.mk (hi); clear HO_7; clear BK658; clear BK683; clear HB; clear HI661; have HO_7 := n0_; have BK658 := n1_; have BK683 := n2_; have HO686 := n3_; have HB := n4_; have HI661 := n5_; clear n0_ n1_ n2_ n3_ n4_ n5_; (try clear hb); (try clear hb2); (try clear hk); (try clear hi); (try clear ho0); obtain ⟨Ao45, co45, eo45⟩ := Kd.zbs HO_7.out; subst eo45) | ((with_reducible refine zba (f := 46) rfl ?_); refine zbv (some 41) rfl rfl Try.func46 (by kernel_rfl) rfl #[.slice Ao45 x7_16.length co45] rfl Zmt ?_; (with_reducible refine (zbx.calls kj16 _ _ x7_16 false _ ?side1 ?side2 A24.out).mono ?_); (case side1 => exact Zq6 ((Kd.zbe HO_7.out).2.2)); (case side2 => exact (Kd.zbe HO_7.out).2.1); rintro e w46 ⟨rfl, hb⟩; refine ⟨_, rfl, ?_⟩; have n0_ := za.mk (Kd.zbl (Zq12 HO_7.out) hb); have n1_ := za.mk (Kd.zbl (Zq12 HO686.out) hb); have n2_ := za.mk (zbg (g := gb658) (o := .cells #[.int .i64 0, .int .i64 0] 51 (0, 0)) (Zq4 BK658.out) hb); have n3_ := za.mk (zf.below (Zq13 HI661.out NB661_658.out NB661_683.out) hb); have n4_ := za.mk (zbg (g := gb683) (o := .cells #[.int .i64 t680, .int .i64 t681] 51 (0, 0)) (Zq4 BK683.out) hb); have n5_ := za.mk (zo (Zq15 HB.out (zf.ge HI661.out) GE658.out GE683.out) hb); clear HO_7; clear HO686; clear BK658; clear HI661; clear BK683; clear HB; have HO_7 := n0_; have HO686 := n1_; have BK658 := n2_; have HI661 := n3_; have BK683 := n4_; have HB := n5_; clear n0_ n1_ n2_ n3_ n4_ n5_; (try clear hb); (try clear hb2); (try clear hk); (try clear hi)))
       have n0_ := za.mk (Kd.zbj HO_7.out)
       have n1_ := za.mk (Kd.zbj HO686.out)
       have n2_ := za.mk (zt BK658.out)
       have n3_ := za.mk (zt BK683.out)
       have n4_ := za.mk (zf.drew HI661.out)
       have n5_ := za.mk (zb6 HB.out)
       clear HO_7
       clear HO686
       clear BK658
       clear BK683
       clear HI661
       clear HB
       have HO_7 := n0_
       have HO686 := n1_
       have BK658 := n2_
       have BK683 := n3_
       have HI661 := n4_
       have HB := n5_
       clear n0_ n1_ n2_ n3_ n4_ n5_
       refine start_ (n := 8) (S := fun w' => w'.cell? ⟨gb683, 0, none⟩ = some (.int .i64 t680) ∧ w'.cell? ⟨gb683, 1, none⟩ = some (.int .i64 t681)) (ds := []) #[false, false, false, false, false, false, false, false] (by kernel_rfl) rfl rfl ⟨(zh BK683.out 0).trans rfl, (zh BK683.out 1).trans rfl⟩ (fun hHeld => ?_); refine zdq z8.tab12 z8.bits12 (fun HT_ HW_ => ?_)
       generalize w46.drew = w47 at HO_7 HO686 BK658 BK683 HI661 HB hHeld ⊢
       refine zce (i := 0) (N := some 43) (v := ?_) (a' := ?_) #[true, false, false, false, false, false, false, false] rfl rfl (zby HT_.out (by kernel_rfl)) (fun _ _ _ h => h) (Or.inl ⟨by rfl, ?_⟩) ?_ ?_
       rotate_left
       ·intro w'
        go_simp
        with_reducible rfl
       rotate_left
       ·simp only [Act.put, List.setIfInBounds_toArray, List.set_cons_zero, List.set_cons_succ, zbq, zbt]
        rfl
       refine zce (i := 3) (N := some 46) (v := ?_) (a' := ?_) #[true, false, false, true, false, false, false, false] rfl rfl (zby HT_.out (by kernel_rfl)) (fun _ _ _ h => h) (Or.inl ⟨by rfl, ?_⟩) ?_ ?_
       rotate_left
       ·intro w'
        go_simp
        with_reducible rfl
       rotate_left
       ·simp only [Act.put, List.setIfInBounds_toArray, List.set_cons_zero, List.set_cons_succ, zbq, zbt]
        rfl
       refine zce (i := 4) (N := some 2) (v := ?_) (a' := ?_) #[true, false, false, true, true, false, false, false] rfl rfl (zby HT_.out (by kernel_rfl)) (fun _ _ _ h => h) (Or.inl ⟨by rfl, ?_⟩) ?_ ?_
       rotate_left
       ·intro w'
        go_simp
        with_reducible rfl
       rotate_left
       ·simp only [Act.put, List.setIfInBounds_toArray, List.set_cons_zero, List.set_cons_succ, zbq, zbt]
        rfl
       refine take_ (i := 2) (N := some 45) (v := ?_) (a' := ?_) #[true, false, true, true, true, false, false, false] rfl rfl (zc5 HT_.out HW_.out (by kernel_rfl)) (fun _ _ _ h => h) (Or.inl ⟨by rfl, ?_⟩) hHeld ?_ ?_
       rotate_left
       ·rintro w' ⟨s0, s1⟩
        go_simp
        with_reducible rfl
       rotate_left
       ·simp only [Act.put, List.setIfInBounds_toArray, List.set_cons_zero, List.set_cons_succ, zbq, zbt]
        rfl
       refine one_ (i := 1) (N := some 44) #[true, true, true, true, true, false, false, false] rfl rfl (zc8 HT_.out (by kernel_rfl)) (by decide) (fun K hK => ?_)
       refine Kd.zdj k34 _ 34 ?hg (N := 44) ?hd (xs := ([] : List (S34))) (inner := []) (ok := fun _ => True) (okp := fun _ => True) ?hr ?hp (fun _ hk => hk) trivial (Below.refl _ _) (Nat.le_refl _) (by simp) ?_; (case hd => rfl); (case hg => rfl); (case hr => first | (go_simp; done) | (go_simp; rfl)); (case hp => exact (Reps.none _ _))
       intro v694 w48 ho49 hb hg_ hnew_
       clear hg_ hnew_
       (first | rw [← Ny693.out] at ho49 | (simp only [Int.reduceToNat] at ho49; rw [← Ny693.out] at ho49))
       have n0_ := za.mk (Kd.zbl (Zq12 HO_7.out) hb)
       have n1_ := za.mk (Kd.zbl (Zq12 HO686.out) hb)
       have n2_ := za.mk (Kd.zb2 ho49 (zbb (Zq15 HB.out (zf.ge HI661.out) GE658.out GE683.out)))
       have n3_ := za.mk (zbg (g := gb658) (o := .cells #[.int .i64 0, .int .i64 0] 51 (0, 0)) (Zq4 BK658.out) hb)
       have n4_ := za.mk (zf.below (Zq13 HI661.out NB661_658.out NB661_683.out) hb)
       have n5_ := za.mk (zbg (g := gb683) (o := .cells #[.int .i64 t680, .int .i64 t681] 51 (0, 0)) (Zq4 BK683.out) hb)
       have n6_ := za.mk (zo (Zq15 HB.out (zf.ge HI661.out) GE658.out GE683.out) hb)
       clear HO_7
       clear HO686
       clear BK658
       clear HI661
       clear BK683
       clear HB
       have HO_7 := n0_
       have HO686 := n1_
       have HO695 := n2_
       have BK658 := n3_
       have HI661 := n4_
       have BK683 := n5_
       have HB := n6_
       clear n0_ n1_ n2_ n3_ n4_ n5_ n6_
       clear hb ho49
       refine hK.out _ _ ⟨(zh BK683.out 0).trans rfl, (zh BK683.out 1).trans rfl⟩ (fun hHeld => ?_)
       clear hK K
       refine zc6 (a' := ?_) ?_ ?_
       rotate_left
       ·show Act.put _ (some 44) _ = _
        simp only [Act.put, List.setIfInBounds_toArray, List.set_cons_zero, List.set_cons_succ, zbq, zbt]
        rfl
       refine zce (i := 5) (N := some 3) (v := ?_) (a' := ?_) #[true, true, true, true, true, true, false, false] rfl rfl (zby HT_.out (by kernel_rfl)) (fun _ _ _ h => h) (Or.inl ⟨by rfl, ?_⟩) ?_ ?_
       rotate_left
       ·intro w'
        go_simp
        with_reducible rfl
       rotate_left
       ·simp only [Act.put, List.setIfInBounds_toArray, List.set_cons_zero, List.set_cons_succ, zbq, zbt]
        rfl
       refine one_ (i := 6) (N := none) #[true, true, true, true, true, true, true, false] rfl rfl (zc8 HT_.out (by kernel_rfl)) (by decide) (fun K hK => ?_)
       have hs50 : w48.cell? ⟨gb658, 0, none⟩ = some (.int .i64 0) := (zh BK658.out 0).trans rfl
       have hfs50 := zg BK658.out 0
       have hns50_1 := NB683_658.out
       have hms50_1 := NB658_683.out
       have hs51 : w48.cell? ⟨gb658, 1, none⟩ = some (.int .i64 0) := (zh BK658.out 1).trans rfl
       have hfs51 := zg BK658.out 1
       have hns51_1 := NB683_658.out
       have hms51_1 := NB658_683.out
       refine skip_ (w1 := ?_) (by rfl) rfl ?_ ?_
       rotate_left
       ·go_simp
        rfl
       refine hK.out _ _ ⟨((cell_far (p := ⟨gb658, _, none⟩) NB683_658.out _).trans (((cell_far (p := ⟨gb658, _, none⟩) NB683_658.out _).trans (hHeld.1)))), ((cell_far (p := ⟨gb658, _, none⟩) NB683_658.out _).trans (((cell_far (p := ⟨gb658, _, none⟩) NB683_658.out _).trans (hHeld.2))))⟩ (fun hHeld => ?_)
       clear hK K
       refine zce (i := 7) (N := some 5) (v := ?_) (a' := ?_) #[true, true, true, true, true, true, true, true] rfl rfl (zby HT_.out (by kernel_rfl)) (fun _ _ _ h => h) (Or.inl ⟨by rfl, ?_⟩) ?_ ?_
       rotate_left
       ·intro w'
        go_simp
        with_reducible rfl
       rotate_left
       ·simp only [Act.put, List.setIfInBounds_toArray, List.set_cons_zero, List.set_cons_succ, zbq, zbt]
        rfl
       refine done_ (done_of HT_.out (by kernel_rfl)) ?_
       try go_wp2
       refine bodyPost_ret (results_list (rs := [.tmp 2, .tmp 3, .cell 4 51, .tmp 5]) rfl (by simp) (.tmp (.tmp (.cell gb658 51 #[.int .i64 t680, .int .i64 t681] (0, 0) _ rfl (by (with_reducible repeat (first | refine zn ?_ _ | refine zt ?_ | refine zm ?_ _)); refine zbu (cs := #[.int .i64 t680, .int .i64 0]) ?_ 1 _ rfl; (with_reducible repeat (first | refine zn ?_ _ | refine zt ?_ | refine zm ?_ _)); refine zbu (cs := #[.int .i64 0, .int .i64 0]) ?_ 0 _ rfl; (with_reducible repeat (first | refine zn ?_ _ | refine zt ?_ | refine zm ?_ _)); exact BK658.out) Try.underlying51 rfl (by kernel_rfl) (.tmp .nil))))) rfl ?_
       exact ⟨_, _, _, by first | rfl | (simp [zbc, zbd] <;> rfl) | (simp [*, zbc, zbd] <;> rfl), by (with_reducible repeat (first | apply Kd.zbi | apply Kd.zbh | apply Kd.zbj)); exact Kd.zy (Kd.zb9 (p := ⟨gb658, 1, none⟩) (Kd.zb9 (p := ⟨gb658, 0, none⟩) (Kd.zb5 HO_7.out BK658.out (by decide)) (fun _ hk => hk.2) (.int .i64 t680)) (fun _ hk => hk.2) (.int .i64 t681)) (fun _ hk => trivial), by (with_reducible repeat (first | apply Kd.zbi | apply Kd.zbh | apply Kd.zbj)); exact Kd.zy (Kd.zb9 (p := ⟨gb658, 1, none⟩) (Kd.zb9 (p := ⟨gb658, 0, none⟩) (Kd.zb5 HO695.out BK658.out (by decide)) (fun _ hk => hk.2) (.int .i64 t680)) (fun _ hk => hk.2) (.int .i64 t681)) (fun _ hk => trivial), by (with_reducible repeat (first | apply Kd.zbi | apply Kd.zbh | apply Kd.zbj)); exact Kd.zy (Kd.zb9 (p := ⟨gb658, 1, none⟩) (Kd.zb9 (p := ⟨gb658, 0, none⟩) (Kd.zb5 HO686.out BK658.out (by decide)) (fun _ hk => hk.2) (.int .i64 t680)) (fun _ hk => hk.2) (.int .i64 t681)) (fun _ hk => trivial), Zq15 HB.out (zf.ge HI661.out) GE658.out GE683.out⟩
def zcx.f (a0_0 : Int) (a0_1 : Int) : Option (Bool) := (zcv.f a0_0 1 a0_1).bind fun t697 => (if t697 = true then (some (decide (a0_1 ≤ 12))) else (some false))
set_option maxHeartbeats 8000000 in
set_option maxRecDepth 100000 in
theorem zcx.calls (a0_0 : Int) (a0_1 : Int) (r : Bool) (w : World) (h : zcx.f a0_0 a0_1 = some r) :
  Calls Try.prog 77 #[.agg #[.int .i64 a0_0, .int .i64 a0_1]] w fun e w' => e = .returned (.bool r) ∧ Below w.heap.size w w' := by
 have hu51 := Try.underlying51
 have HB := za.mk (Below.refl w.heap.size w)
 have H : ((zcv.f a0_0 1 a0_1).bind fun t697 => (if t697 = true then (some (decide (a0_1 ≤ 12))) else (some false))) = some r := h
 clear h
 replace H := Option.bind_eq_some_iff.mp H
 obtain ⟨t697, A20, H⟩ := H
 replace H : (if t697 = true then (some (decide (a0_1 ≤ 12))) else (some false)) = some r := H
 have A2 := za.mk A20
 clear A20
 by_cases c3 : t697 = true
 ·subst c3
  have H1 : (some (decide (a0_1 ≤ 12))) = some r := by rw [if_pos rfl] at H; exact H
  clear H
  have H := H1
  clear H1
  obtain rfl := Option.some.inj H
  go_enter Try.func77, Try.ntmps77
  go_wp2_with (first | ((with_reducible refine zbp (N := 1) rfl ?_); refine zb1 ?hg (N := 1) ?hd (cs := #[.int .i64 a0_0, .int .i64 a0_1]) (t := 51) ?hr ?_; (case hd => rfl); (case hg => rfl); (case hr => first | (go_simp; done) | (go_simp; rfl)); intro gb696 hg w4 hbox hb; have n0_ := za.mk (zo (Zq3 HB.out) hb); have n1_ := za.mk (hbox); have n2_ := za.mk ((by rw [hg]; exact (zbb (Zq3 HB.out)) : w.heap.size ≤ gb696)); have n3_ := za.mk ((by rw [hg]; exact (zbb (Zq3 HB.out)) : w.heap.size ≤ gb696)); clear HB; have HB := n0_; have BK696 := n1_; have GW696 := n2_; have GE696 := n3_; clear n0_ n1_ n2_ n3_; clear hb hbox hg; have hcz5_0 : w4.cell? ⟨gb696, 0, none⟩ = some (.int .i64 a0_0) := (zh BK696.out 0).trans rfl; have hcz5_1 : w4.cell? ⟨gb696, 1, none⟩ = some (.int .i64 a0_1) := (zh BK696.out 1).trans rfl; have hfz5_0 := zg BK696.out 0; have hfz5_1 := zg BK696.out 1) | ((with_reducible refine zba (f := 103) rfl ?_); refine zbv (some 7) rfl rfl Try.func103 (by kernel_rfl) rfl #[.int .i64 a0_0, .int .i64 1, .int .i64 a0_1] rfl Zmt ?_; (with_reducible refine (zcv.calls a0_0 1 a0_1 true _ A2.out).mono ?_); rintro e w' ⟨rfl, ⟨nd, rfl⟩⟩; refine ⟨_, rfl, ?_⟩))
  go_ret
  exact ⟨by first | rfl | (simp [zbc, zbd] <;> rfl) | (simp [*, zbc, zbd] <;> rfl), Zq5 HB.out GE696.out⟩
 ·replace c3 := Bool.eq_false_iff.mpr c3
  subst c3
  have H1 : (some false) = some r := by rw [if_neg (show ¬ (false = true) by decide)] at H; exact H
  clear H
  have H := H1
  clear H1
  obtain rfl := Option.some.inj H
  go_enter Try.func77, Try.ntmps77
  go_wp2_with (first | ((with_reducible refine zbp (N := 1) rfl ?_); refine zb1 ?hg (N := 1) ?hd (cs := #[.int .i64 a0_0, .int .i64 a0_1]) (t := 51) ?hr ?_; (case hd => rfl); (case hg => rfl); (case hr => first | (go_simp; done) | (go_simp; rfl)); intro gb696 hg w6 hbox hb; have n0_ := za.mk (zo (Zq3 HB.out) hb); have n1_ := za.mk (hbox); have n2_ := za.mk ((by rw [hg]; exact (zbb (Zq3 HB.out)) : w.heap.size ≤ gb696)); have n3_ := za.mk ((by rw [hg]; exact (zbb (Zq3 HB.out)) : w.heap.size ≤ gb696)); clear HB; have HB := n0_; have BK696 := n1_; have GW696 := n2_; have GE696 := n3_; clear n0_ n1_ n2_ n3_; clear hb hbox hg; have hcz7_0 : w6.cell? ⟨gb696, 0, none⟩ = some (.int .i64 a0_0) := (zh BK696.out 0).trans rfl; have hcz7_1 : w6.cell? ⟨gb696, 1, none⟩ = some (.int .i64 a0_1) := (zh BK696.out 1).trans rfl; have hfz7_0 := zg BK696.out 0; have hfz7_1 := zg BK696.out 1) | ((with_reducible refine zba (f := 103) rfl ?_); refine zbv (some 7) rfl rfl Try.func103 (by kernel_rfl) rfl #[.int .i64 a0_0, .int .i64 1, .int .i64 a0_1] rfl Zmt ?_; (with_reducible refine (zcv.calls a0_0 1 a0_1 false _ A2.out).mono ?_); rintro e w' ⟨rfl, ⟨nd, rfl⟩⟩; refine ⟨_, rfl, ?_⟩))
  go_ret
  exact ⟨by first | rfl | (simp [zbc, zbd] <;> rfl) | (simp [*, zbc, zbd] <;> rfl), Zq5 HB.out GE696.out⟩
mutual
def zx.j0 : Nat → List Bool → Bool → Int → Int → Option (Bool)
 | 0, _, _, _, _ => none
 | k + 1, x1, x16, x699000, x699001 => if x16 = true then (some false) else (zx.l0 k x1 0 x699000 x699001)
def zx.l0 : Nat → List Bool → Int → Int → Int → Option (Bool)
 | 0, _, _, _, _ => none
 | k + 1, x1, x5, x699000, x699001 => if (wrap64 (x5 + x699001)) ≤ 120 then (if 0 ≤ x5 then (if x5 ≤ (wrap64 (x5 + x699001)) then (if (wrap64 (x5 + x699001)) ≤ (x1.length : Int) then (zx.l1 k x1 x5 0 ((x1.take ((wrap64 (x5 + x699001)) : Int).toNat).drop (x5 : Int).toNat) (((x1.take ((wrap64 (x5 + x699001)) : Int).toNat).drop (x5 : Int).toNat).length : Int) 0 x699000 x699001) else (none)) else (none)) else (none)) else (some true)
def zx.l1 : Nat → List Bool → Int → Int → List Bool → Int → Int → Int → Int → Option (Bool)
 | 0, _, _, _, _, _, _, _, _ => none
 | k + 1, x1, x5, x6, x32, x33, x34, x699000, x699001 => if x34 < x33 then (if 0 ≤ x34 then (if x34 < (x32.length : Int) then (if rdOf false x32 x34 = true then (zx.l1 k x1 x5 (wrap64 (x6 + 1)) x32 x33 (wrap64 (x34 + 1)) x699000 x699001) else (zx.l1 k x1 x5 x6 x32 x33 (wrap64 (x34 + 1)) x699000 x699001)) else (none)) else (none)) else (if x6 = x699000 then (zx.l0 k x1 (wrap64 (x5 + x699001)) x699000 x699001) else (some false))
end
def zx.f (k : Nat) (a0_0 : Int) (a0_1 : Int) (l1 : List Bool) : Option (Bool) := (zcx.f a0_0 a0_1).bind fun t699 => (if t699 = true then (zx.j0 k l1 ((l1.length : Int) != 120) a0_0 a0_1) else (zx.j0 k l1 true a0_0 a0_1))
set_option maxHeartbeats 8000000 in
set_option maxRecDepth 100000 in
theorem zx.calls (k : Nat) (a0_0 : Int) (a0_1 : Int) (A1 : Option Addr) (c1 : Nat) (l1 : List Bool) (r : Bool) (w : World) (hr1 : Kd.C Kd.bool w A1 l1.length l1) (hc1 : l1.length ≤ c1) (h : zx.f k a0_0 a0_1 l1 = some r) :
  Calls Try.prog 72 #[.agg #[.int .i64 a0_0, .int .i64 a0_1], .slice A1 l1.length c1] w fun e w' => e = .returned (.bool r) ∧ Below w.heap.size w w' := by
 have hu51 := Try.underlying51
 have HR1 := za.mk hr1
 have HC1 := za.mk hc1
 clear hr1 hc1
 have HB := za.mk (Below.refl w.heap.size w)
 have H : ((zcx.f a0_0 a0_1).bind fun t699 => (if t699 = true then (zx.j0 k l1 ((l1.length : Int) != 120) a0_0 a0_1) else (zx.j0 k l1 true a0_0 a0_1))) = some r := h
 clear h
 have HC3 := za.mk H
 clear H
 go_enter Try.func72, Try.ntmps72
 go_upto_region 1 with (first | ((with_reducible refine zbp (N := 2) rfl ?_); (try (refine zcg (by rfl) ?_; dsimp only)); refine zb1 ?hg (N := 2) ?hd (cs := #[.int .i64 a0_0, .int .i64 a0_1]) (t := 51) ?hr ?_; (case hd => rfl); (case hg => rfl); (case hr => first | (go_simp; done) | (go_simp; rfl)); intro gb698 hg w4 hbox hb; have n0_ := za.mk (zo (Zq3 HB.out) hb); have n1_ := za.mk (hbox); have n2_ := za.mk ((by rw [hg]; exact (zbb (Zq3 HB.out)) : w.heap.size ≤ gb698)); have n3_ := za.mk ((by rw [hg]; exact (zbb (Zq3 HB.out)) : w.heap.size ≤ gb698)); clear HB; have HB := n0_; have BK698 := n1_; have GW698 := n2_; have GE698 := n3_; clear n0_ n1_ n2_ n3_; clear hb hbox hg))
 (try simp only [Act.put, List.setIfInBounds_toArray, List.set_cons_zero, List.set_cons_succ])
 go_cut [16] (fun v16 wc => ∃ (kq : Nat) (x16_2 : Bool), v16 = .bool x16_2 ∧ za (zx.j0 kq l1 x16_2 a0_0 a0_1 = some r) ∧ za (kq ≤ k) ∧ za (wc.heap[gb698]? = some (.cells #[.int .i64 a0_0, .int .i64 a0_1] 51 (0, 0))) ∧ za (Below w.heap.size w wc))
 case first =>
  have H := HC3.out
  clear HC3
  replace H := Option.bind_eq_some_iff.mp H
  obtain ⟨t699, A50, H⟩ := H
  replace H : (if t699 = true then (zx.j0 k l1 ((l1.length : Int) != 120) a0_0 a0_1) else (zx.j0 k l1 true a0_0 a0_1)) = some r := H
  have A5 := za.mk A50
  clear A50
  by_cases c6 : t699 = true
  ·subst c6
   have H1 : (zx.j0 k l1 ((l1.length : Int) != 120) a0_0 a0_1) = some r := by rw [if_pos rfl] at H; exact H
   clear H
   have H := H1
   clear H1
   have H' := za.mk H
   clear H
   have hcz7_0 : w4.cell? ⟨gb698, 0, none⟩ = some (.int .i64 a0_0) := (zh BK698.out 0).trans rfl
   have hcz7_1 : w4.cell? ⟨gb698, 1, none⟩ = some (.int .i64 a0_1) := (zh BK698.out 1).trans rfl
   have hfz7_0 := zg BK698.out 0
   have hfz7_1 := zg BK698.out 1
   go_wp2_with (first | ((with_reducible refine zba (f := 77) rfl ?_); refine zbv (some 10) rfl rfl Try.func77 (by kernel_rfl) rfl #[.agg #[.int .i64 a0_0, .int .i64 a0_1]] rfl Zmt ?_; (with_reducible refine (zcx.calls a0_0 a0_1 true _ A5.out).mono ?_); rintro e w8 ⟨rfl, hb⟩; refine ⟨_, rfl, ?_⟩; have n0_ := za.mk (zbg (g := gb698) (o := .cells #[.int .i64 a0_0, .int .i64 a0_1] 51 (0, 0)) (Zq4 BK698.out) hb); have n1_ := za.mk (zo (Zq5 HB.out GE698.out) hb); clear BK698; clear HB; have BK698 := n0_; have HB := n1_; clear n0_ n1_; (try clear hb); (try clear hb2); (try clear hk); (try clear hi)))
   go_meet
   case rel => exact ⟨_, (((l1.length : Int) != 120)), Zrs, H', ⟨by first | omega | exact Nat.le_refl _⟩, ⟨Zq4 BK698.out⟩, ⟨Zq5 HB.out GE698.out⟩⟩
  ·replace c6 := Bool.eq_false_iff.mpr c6
   subst c6
   have H1 : (zx.j0 k l1 true a0_0 a0_1) = some r := by rw [if_neg (show ¬ (false = true) by decide)] at H; exact H
   clear H
   have H := H1
   clear H1
   have H' := za.mk H
   clear H
   have hcz9_0 : w4.cell? ⟨gb698, 0, none⟩ = some (.int .i64 a0_0) := (zh BK698.out 0).trans rfl
   have hcz9_1 : w4.cell? ⟨gb698, 1, none⟩ = some (.int .i64 a0_1) := (zh BK698.out 1).trans rfl
   have hfz9_0 := zg BK698.out 0
   have hfz9_1 := zg BK698.out 1
   go_wp2_with (first | ((with_reducible refine zba (f := 77) rfl ?_); refine zbv (some 10) rfl rfl Try.func77 (by kernel_rfl) rfl #[.agg #[.int .i64 a0_0, .int .i64 a0_1]] rfl Zmt ?_; (with_reducible refine (zcx.calls a0_0 a0_1 false _ A5.out).mono ?_); rintro e w10 ⟨rfl, hb⟩; refine ⟨_, rfl, ?_⟩; have n0_ := za.mk (zbg (g := gb698) (o := .cells #[.int .i64 a0_0, .int .i64 a0_1] 51 (0, 0)) (Zq4 BK698.out) hb); have n1_ := za.mk (zo (Zq5 HB.out GE698.out) hb); clear BK698; clear HB; have BK698 := n0_; have HB := n1_; clear n0_ n1_; (try clear hb); (try clear hb2); (try clear hk); (try clear hi)))
   go_meet
   case rel => exact ⟨_, (true), Zrs, H', ⟨by first | omega | exact Nat.le_refl _⟩, ⟨Zq4 BK698.out⟩, ⟨Zq5 HB.out GE698.out⟩⟩
 case rest =>
  clear HC3
  try clear c1
  try clear p2
  try clear c6
  try clear c7
  try clear hcz7_0
  try clear hcz7_1
  try clear hcz9_0
  try clear hcz9_1
  try clear hfz7_0
  try clear hfz7_1
  try clear hfz9_0
  try clear hfz9_1
  obtain ⟨kq, x16_2, rfl, HA, HJ2, BK698, HB⟩ := hcut
  cases kq with
  | zero => exact absurd HA.out (by simp [zx.j0])
  | succ kj2 =>
   have H := HA.out
   clear HA
   simp only [zx.j0] at H
   by_cases c11 : x16_2 = true
   ·subst c11
    have H1 : (some false) = some r := by rw [if_pos rfl] at H; exact H
    clear H
    have H := H1
    clear H1
    obtain rfl := Option.some.inj H
    go_wp2
    go_ret
    exact ⟨by first | rfl | (simp [zbc, zbd] <;> rfl) | (simp [*, zbc, zbd] <;> rfl), Zq5 HB.out GE698.out⟩
   ·replace c11 := Bool.eq_false_iff.mpr c11
    subst c11
    have H1 : (zx.l0 kj2 l1 0 a0_0 a0_1) = some r := by rw [if_neg (show ¬ (false = true) by decide)] at H; exact H
    clear H
    have H := H1
    clear H1
    have H' := za.mk H
    clear H
    go_wp2
    go_loopg [5] kj2 (fun kq v5 w' => ∃ (x5_2 : Int), v5 = .int .i64 x5_2 ∧ za (zx.l0 kq l1 x5_2 a0_0 a0_1 = some r) ∧ za (kq ≤ kj2) ∧ za (w'.heap[gb698]? = some (.cells #[.int .i64 a0_0, .int .i64 a0_1] 51 (0, 0))) ∧ za (Below w.heap.size w w'))
    case atStart => exact ⟨(0), Zrs, H', ⟨Nat.le_refl _⟩, ⟨Zq4 BK698.out⟩, ⟨Zq5 HB.out GE698.out⟩⟩
    case round =>
     clear H'
     try clear c1
     try clear p2
     try clear c6
     try clear c7
     try clear c11
     try clear hcz7_0
     try clear hcz7_1
     try clear hcz9_0
     try clear hcz9_1
     try clear hfz7_0
     try clear hfz7_1
     try clear hfz9_0
     try clear hfz9_1
     try clear p2
     obtain ⟨x5_2, rfl, HA, HK2, BK698, HB⟩ := hrel
     cases gk with
     | zero => exact absurd HA.out (by simp [zx.l0])
     | succ k2 =>
      have H := HA.out
      clear HA
      simp only [zx.l0] at H
      by_cases c12 : (wrap64 (x5_2 + a0_1)) ≤ 120
      ·rw [if_pos c12] at H
       have c12b0 : decide ((wrap64 (x5_2 + a0_1)) ≤ 120) = true := decide_eq_true c12
       clear c12
       by_cases c13 : 0 ≤ x5_2
       ·rw [if_pos c13] at H
        have c13b0 := eq_true c13
        have c13b1 : decide (0 ≤ x5_2) = true := decide_eq_true c13
        clear c13
        by_cases c14 : x5_2 ≤ (wrap64 (x5_2 + a0_1))
        ·rw [if_pos c14] at H
         have c14b0 := eq_true c14
         have c14b1 : decide (x5_2 ≤ (wrap64 (x5_2 + a0_1))) = true := decide_eq_true c14
         by_cases c15 : (wrap64 (x5_2 + a0_1)) ≤ (l1.length : Int)
         ·rw [if_pos c15] at H
          have c15b0 := eq_true c15
          have c15b1 : decide ((wrap64 (x5_2 + a0_1)) ≤ (l1.length : Int)) = true := decide_eq_true c15
          have HLEN := za.mk (show ((l1.take ((wrap64 (x5_2 + a0_1)) : Int).toNat).drop (x5_2 : Int).toNat).length = ((wrap64 (x5_2 + a0_1)) : Int).toNat - (x5_2 : Int).toNat by rw [List.length_drop, List.length_take]; have := c15; omega)
          have H' := za.mk H
          clear H
          have hcz16_0 : wr.cell? ⟨gb698, 0, none⟩ = some (.int .i64 a0_0) := (zh BK698.out 0).trans rfl
          have hcz16_1 : wr.cell? ⟨gb698, 1, none⟩ = some (.int .i64 a0_1) := (zh BK698.out 1).trans rfl
          have hfz16_0 := zg BK698.out 0
          have hfz16_1 := zg BK698.out 1
          obtain ⟨i017, hi017, _, hsz17, _⟩ := info_parts info4
          obtain ⟨A17, hcut17, hA17, hC17⟩ := print_mid_of (P := Try.prog) Value.bool false 52 4 .i64 .i64 Try.underlying52 hi017 hsz17 A1 c1 l1 x5_2 (wrap64 (x5_2 + a0_1)) (of_decide_eq_true Zas) (by first | omega | exact of_decide_eq_true Zas) (of_decide_eq_true Zas) HC1.out
          have HR700 := za.mk (Kd.C_of_reads (h1 := fun _ => rfl) (hA17 _ (Kd.reads_of_C HR1.out)))
          have HC700 := za.mk hC17
          clear hA17 hC17 hi017 hsz17
          go_wp2
          go_loopg [6, 34] k2 (fun kq v6 v34 w' => ∃ (x6_3 : Int) (x34_3 : Int), v6 = .int .i64 x6_3 ∧ v34 = .int .i64 x34_3 ∧ za (zx.l1 kq l1 x5_2 x6_3 ((l1.take ((wrap64 (x5_2 + a0_1)) : Int).toNat).drop (x5_2 : Int).toNat) (((l1.take ((wrap64 (x5_2 + a0_1)) : Int).toNat).drop (x5_2 : Int).toNat).length : Int) x34_3 a0_0 a0_1 = some r) ∧ za (kq ≤ k2) ∧ za (w'.heap[gb698]? = some (.cells #[.int .i64 a0_0, .int .i64 a0_1] 51 (0, 0))) ∧ za (Below w.heap.size w w'))
          case atStart => exact ⟨(0), (0), Zrs, Zrs, H', ⟨Nat.le_refl _⟩, ⟨Zq4 BK698.out⟩, ⟨Zq5 HB.out GE698.out⟩⟩
          case round =>
           clear H'
           try clear c1
           try clear p2
           try clear c6
           try clear p6
           try clear c7
           try clear c11
           try clear c12
           try clear c12b0
           try clear c13
           try clear c13b0
           try clear c13b1
           try clear c14
           try clear c14b0
           try clear c14b1
           try clear c15
           try clear c15b0
           try clear c15b1
           try clear hcz16_0
           try clear hcz16_1
           try clear hcz7_0
           try clear hcz7_1
           try clear hcz9_0
           try clear hcz9_1
           try clear hfz16_0
           try clear hfz16_1
           try clear hfz7_0
           try clear hfz7_1
           try clear hfz9_0
           try clear hfz9_1
           try clear p2
           obtain ⟨x6_3, x34_3, rfl, rfl, HA, HK3, BK698, HB⟩ := hrel
           cases gk with
           | zero => exact absurd HA.out (by simp [zx.l1])
           | succ k3 =>
            have H := HA.out
            clear HA
            simp only [zx.l1] at H
            by_cases c18 : x34_3 < (((l1.take ((wrap64 (x5_2 + a0_1)) : Int).toNat).drop (x5_2 : Int).toNat).length : Int)
            ·rw [if_pos c18] at H
             have c18b0 : decide (x34_3 < (((l1.take ((wrap64 (x5_2 + a0_1)) : Int).toNat).drop (x5_2 : Int).toNat).length : Int)) = true := decide_eq_true c18
             have c18w : decide (x34_3 < ((((wrap64 (x5_2 + a0_1)) : Int).toNat - (x5_2 : Int).toNat : Nat) : Int)) = true := by rw [← HLEN.out]; exact c18b0
             clear c18
             by_cases c19 : 0 ≤ x34_3
             ·rw [if_pos c19] at H
              have c19b0 : decide (0 ≤ x34_3) = true := decide_eq_true c19
              clear c19
              by_cases c20 : x34_3 < (((l1.take ((wrap64 (x5_2 + a0_1)) : Int).toNat).drop (x5_2 : Int).toNat).length : Int)
              ·rw [if_pos c20] at H
               have c20b0 : decide (x34_3 < (((l1.take ((wrap64 (x5_2 + a0_1)) : Int).toNat).drop (x5_2 : Int).toNat).length : Int)) = true := decide_eq_true c20
               have c20w : decide (x34_3 < ((((wrap64 (x5_2 + a0_1)) : Int).toNat - (x5_2 : Int).toNat : Nat) : Int)) = true := by rw [← HLEN.out]; exact c20b0
               clear c20
               obtain ⟨bq21, hbq21⟩ : ∃ b_ : Bool, b_ = (rdOf false ((l1.take ((wrap64 (x5_2 + a0_1)) : Int).toNat).drop (x5_2 : Int).toNat) x34_3) := ⟨_, rfl⟩
               replace H : (if bq21 = true then (zx.l1 k3 l1 x5_2 (wrap64 (x6_3 + 1)) ((l1.take ((wrap64 (x5_2 + a0_1)) : Int).toNat).drop (x5_2 : Int).toNat) (((l1.take ((wrap64 (x5_2 + a0_1)) : Int).toNat).drop (x5_2 : Int).toNat).length : Int) (wrap64 (x34_3 + 1)) a0_0 a0_1) else (zx.l1 k3 l1 x5_2 x6_3 ((l1.take ((wrap64 (x5_2 + a0_1)) : Int).toNat).drop (x5_2 : Int).toNat) (((l1.take ((wrap64 (x5_2 + a0_1)) : Int).toNat).drop (x5_2 : Int).toNat).length : Int) (wrap64 (x34_3 + 1)) a0_0 a0_1)) = some r := by rw [← hbq21] at H; exact H
               have Nbq21 := za.mk hbq21
               clear hbq21
               by_cases c22 : bq21 = true
               ·subst c22
                have H1 : (zx.l1 k3 l1 x5_2 (wrap64 (x6_3 + 1)) ((l1.take ((wrap64 (x5_2 + a0_1)) : Int).toNat).drop (x5_2 : Int).toNat) (((l1.take ((wrap64 (x5_2 + a0_1)) : Int).toNat).drop (x5_2 : Int).toNat).length : Int) (wrap64 (x34_3 + 1)) a0_0 a0_1) = some r := by rw [if_pos rfl] at H; exact H
                clear H
                have H := H1
                clear H1
                have H' := za.mk H
                clear H
                have p701 : 0 ≤ (x34_3 : Int) := of_decide_eq_true Zas
                have q701 : x34_3 < (((l1.take ((wrap64 (x5_2 + a0_1)) : Int).toNat).drop (x5_2 : Int).toNat).length : Int) := of_decide_eq_true Zas
                obtain ⟨ad701, e701, hx701_0⟩ := Kd.at_bool HR700.out x34_3 p701 q701
                (try rw [← Nbq21.out] at hx701_0)
                cases e701
                replace hx701_0 := (HB.out.cell (World.block_lt_of_cell? w _ hx701_0)).trans hx701_0
                replace p701 := eq_true p701
                replace q701 := eq_true q701
                have q701w := eq_true (show x34_3 < ((((wrap64 (x5_2 + a0_1)) : Int).toNat - (x5_2 : Int).toNat : Nat) : Int) by rw [← HLEN.out]; exact of_eq_true q701)
                go_wp2
                go_roundg k3
                case measure => have := HJ2.out; have := HK2.out; have := HK3.out; omega
                case rel => exact ⟨(wrap64 (x6_3 + 1)), (wrap64 (x34_3 + 1)), Zrs, Zrs, H', ⟨by have := HJ2.out; have := HK2.out; have := HK3.out; omega⟩, ⟨Zq4 BK698.out⟩, ⟨Zq5 HB.out GE698.out⟩⟩
               ·replace c22 := Bool.eq_false_iff.mpr c22
                subst c22
                have H1 : (zx.l1 k3 l1 x5_2 x6_3 ((l1.take ((wrap64 (x5_2 + a0_1)) : Int).toNat).drop (x5_2 : Int).toNat) (((l1.take ((wrap64 (x5_2 + a0_1)) : Int).toNat).drop (x5_2 : Int).toNat).length : Int) (wrap64 (x34_3 + 1)) a0_0 a0_1) = some r := by rw [if_neg (show ¬ (false = true) by decide)] at H; exact H
                clear H
                have H := H1
                clear H1
                have H' := za.mk H
                clear H
                have p701 : 0 ≤ (x34_3 : Int) := of_decide_eq_true Zas
                have q701 : x34_3 < (((l1.take ((wrap64 (x5_2 + a0_1)) : Int).toNat).drop (x5_2 : Int).toNat).length : Int) := of_decide_eq_true Zas
                obtain ⟨ad701, e701, hx701_0⟩ := Kd.at_bool HR700.out x34_3 p701 q701
                (try rw [← Nbq21.out] at hx701_0)
                cases e701
                replace hx701_0 := (HB.out.cell (World.block_lt_of_cell? w _ hx701_0)).trans hx701_0
                replace p701 := eq_true p701
                replace q701 := eq_true q701
                have q701w := eq_true (show x34_3 < ((((wrap64 (x5_2 + a0_1)) : Int).toNat - (x5_2 : Int).toNat : Nat) : Int) by rw [← HLEN.out]; exact of_eq_true q701)
                go_wp2
                go_roundg k3
                case measure => have := HJ2.out; have := HK2.out; have := HK3.out; omega
                case rel => exact ⟨(x6_3), (wrap64 (x34_3 + 1)), Zrs, Zrs, H', ⟨by have := HJ2.out; have := HK2.out; have := HK3.out; omega⟩, ⟨Zq4 BK698.out⟩, ⟨Zq5 HB.out GE698.out⟩⟩
              ·rw [if_neg c20] at H
               exact absurd H (by simp)
             ·rw [if_neg c19] at H
              exact absurd H (by simp)
            ·rw [if_neg c18] at H
             have c18b0 : decide (x34_3 < (((l1.take ((wrap64 (x5_2 + a0_1)) : Int).toNat).drop (x5_2 : Int).toNat).length : Int)) = false := decide_eq_false c18
             have c18w : decide (x34_3 < ((((wrap64 (x5_2 + a0_1)) : Int).toNat - (x5_2 : Int).toNat : Nat) : Int)) = false := by rw [← HLEN.out]; exact c18b0
             clear c18
             by_cases c23 : x6_3 = a0_0
             ·rw [if_pos c23] at H
              have c23b0 : (x6_3 == a0_0) = true := beq_iff_eq.mpr c23
              have c23b1 : (x6_3 != a0_0) = false := bne_eq_false_iff_eq.mpr c23
              clear c23
              have H' := za.mk H
              clear H
              have hcz24_0 : wr.cell? ⟨gb698, 0, none⟩ = some (.int .i64 a0_0) := (zh BK698.out 0).trans rfl
              have hcz24_1 : wr.cell? ⟨gb698, 1, none⟩ = some (.int .i64 a0_1) := (zh BK698.out 1).trans rfl
              have hfz24_0 := zg BK698.out 0
              have hfz24_1 := zg BK698.out 1
              go_wp2
              go_roundg k3
              case measure => have := HJ2.out; have := HK2.out; have := HK3.out; omega
              case rel => exact ⟨(wrap64 (x5_2 + a0_1)), Zrs, H', ⟨by have := HJ2.out; have := HK2.out; have := HK3.out; omega⟩, ⟨Zq4 BK698.out⟩, ⟨Zq5 HB.out GE698.out⟩⟩
             ·rw [if_neg c23] at H
              have c23b0 : (x6_3 == a0_0) = false := beq_eq_false_iff_ne.mpr c23
              have c23b1 : (x6_3 != a0_0) = true := bne_iff_ne.mpr c23
              obtain rfl := Option.some.inj H
              have hcz25_0 : wr.cell? ⟨gb698, 0, none⟩ = some (.int .i64 a0_0) := (zh BK698.out 0).trans rfl
              have hcz25_1 : wr.cell? ⟨gb698, 1, none⟩ = some (.int .i64 a0_1) := (zh BK698.out 1).trans rfl
              have hfz25_0 := zg BK698.out 0
              have hfz25_1 := zg BK698.out 1
              go_wp2
              go_ret
              exact ⟨by first | rfl | (simp [zbc, zbd] <;> rfl) | (simp [*, zbc, zbd] <;> rfl), Zq5 HB.out GE698.out⟩
         ·rw [if_neg c15] at H
          exact absurd H (by simp)
        ·rw [if_neg c14] at H
         exact absurd H (by simp)
       ·rw [if_neg c13] at H
        exact absurd H (by simp)
      ·rw [if_neg c12] at H
       have c12b0 : decide ((wrap64 (x5_2 + a0_1)) ≤ 120) = false := decide_eq_false c12
       clear c12
       obtain rfl := Option.some.inj H
       have hcz26_0 : wr.cell? ⟨gb698, 0, none⟩ = some (.int .i64 a0_0) := (zh BK698.out 0).trans rfl
       have hcz26_1 : wr.cell? ⟨gb698, 1, none⟩ = some (.int .i64 a0_1) := (zh BK698.out 1).trans rfl
       have hfz26_0 := zg BK698.out 0
       have hfz26_1 := zg BK698.out 1
       go_wp2
       go_ret
       exact ⟨by first | rfl | (simp [zbc, zbd] <;> rfl) | (simp [*, zbc, zbd] <;> rfl), Zq5 HB.out GE698.out⟩
set_option maxHeartbeats 4000000 in
set_option maxRecDepth 100000 in
theorem supply1_calls (A3 : Option Addr) (c3 : Nat) (l3 : List Bool) (B : Addr) (t : Nat) (htl : t < l3.length) (w : World) (hB : w.cell? B = some (.slice A3 l3.length c3)) (hr3 : Kd.C Kd.bool w A3 l3.length l3) :
    Calls Try.prog 74 #[.int .i64 (t : Int), .pointer (some B)] w fun e w' => e = .returned (.bool (!(rdOf false l3 (t : Int)))) ∧ zcj w w' := by
  have htz : (t : Int) < (l3.length : Int) := by omega
  obtain ⟨ad, ea, hx⟩ := Kd.at_bool hr3 (t : Int) (by omega) htz
  cases ea
  rw [Int.toNat_natCast] at hx
  clear hr3
  generalize rdOf false l3 (t : Int) = v at hx ⊢
  go_enter Try.func74, Try.ntmps74
  go_wp2
  go_ret
  exact ⟨rfl, zcj.refl _⟩
def zcr.f (k : Nat) (l0 : List S88) (l1 : List S34) (a2_0 : Int) (a2_1 : Int) (l3 : List Bool) : Option (List Int × List Int) := (zx.f k a2_0 a2_1 l3).bind fun p => (if p = true then ((zcp.f l0 l1).bind fun t => (if t = true then (if l1.length ≤ 1000 ∧ 120 ≤ l3.length then (some (simR (pauD l1 (fun t => !(rdOf false l3 t))) l1)) else (none)) else (some ([], [])))) else (some ([], [])))
set_option maxHeartbeats 8000000 in
set_option maxRecDepth 100000 in
theorem zcr.calls (k : Nat) (A0 : Option Addr) (c0 : Nat) (l0 : List S88) (A1 : Option Addr) (c1 : Nat) (l1 : List S34) (a2_0 : Int) (a2_1 : Int) (A3 : Option Addr) (c3 : Nat) (l3 : List Bool) (r1 : List Int) (r2 : List Int) (w : World) (hr0 : Kd.C k88 w A0 l0.length l0) (hc0 : l0.length ≤ c0) (hr1 : Kd.C k34 w A1 l1.length l1) (hc1 : l1.length ≤ c1) (hr3 : Kd.C Kd.bool w A3 l3.length l3) (hc3 : l3.length ≤ c3) (h : zcr.f k l0 l1 a2_0 a2_1 l3 = some (r1, r2)) :
    Calls Try.prog 31 #[.slice A0 l0.length c0, .slice A1 l1.length c1, .agg #[.int .i64 a2_0, .int .i64 a2_1], .slice A3 l3.length c3] w fun e w' => ∃ v0_ v1_ : Value, e = .returned (.agg #[v0_, v1_]) ∧ Kd.R (Kd.int .i64) 3 w' w.heap.size (fun k_ => some k_ ≠ (v1_ : Value).ownBlock) v0_ r1 ∧ Kd.R (Kd.int .i64) 3 w' w.heap.size (fun k_ => some k_ ≠ (v0_ : Value).ownBlock) v1_ r2 ∧ Below w.heap.size w w' := by
  unfold zcr.f at h
  obtain ⟨W0, hW0⟩ : ∃ W0 : World, W0 = ((w.alloc (.cells #[.int .i64 a2_0, .int .i64 a2_1] 51)).alloc (.cells #[.slice A3 l3.length c3] 52)).alloc (.cells #[.slice none 0 0, .slice none 0 0] 29) := ⟨_, rfl⟩
  have b0 : Below w.heap.size w W0 := by rw [hW0]; exact zbn (zbn (zbn (Below.refl _ _) _) _) _
  have bk0 : W0.heap[w.heap.size + 2]? = some (.cells #[.slice none 0 0, .slice none 0 0] 29 (0, 0)) := by
    rw [hW0]
    have h := blk_new ((w.alloc (.cells #[.int .i64 a2_0, .int .i64 a2_1] 51)).alloc (.cells #[.slice A3 l3.length c3] 52)) (.cells #[.slice none 0 0, .slice none 0 0] 29)
    rwa [show ((w.alloc (.cells #[.int .i64 a2_0, .int .i64 a2_1] 51)).alloc (.cells #[.slice A3 l3.length c3] 52)).heap.size = w.heap.size + 2 by simp] at h
  have bk1 : W0.heap[w.heap.size + 1]? = some (.cells #[.slice A3 l3.length c3] 52 (0, 0)) := by
    rw [hW0]
    have h := blk_new (w.alloc (.cells #[.int .i64 a2_0, .int .i64 a2_1] 51)) (.cells #[.slice A3 l3.length c3] 52)
    rw [show (w.alloc (.cells #[.int .i64 a2_0, .int .i64 a2_1] 51)).heap.size = w.heap.size + 1 by simp] at h
    exact zm h _
  have s0 : w.heap.size + 2 < W0.heap.size := by rw [hW0]; simp
  have HR0 := za.mk (Kd.zb8 hr0 b0)
  have HC0 := za.mk hc0
  have HR1 := za.mk (Kd.zb8 hr1 b0)
  have HC1 := za.mk hc1
  have HR3 := za.mk (Kd.zb8 hr3 b0)
  have HC3 := za.mk hc3
  have B0 := za.mk b0
  have K0 := za.mk bk0
  have K1 := za.mk bk1
  have S0 := za.mk s0
  have HW := za.mk hW0
  clear hr0 hc0 hr1 hc1 hr3 hc3 b0 bk0 bk1 s0 hW0
  have fin : ∀ (W : World), za (Below W0.heap.size W0 W) → za (W.heap[w.heap.size + 2]? = some (.cells #[.slice none 0 0, .slice none 0 0] 29 (0, 0))) := fun W hb => ⟨zbg K0.out hb.out⟩
  cases hp : zx.f k a2_0 a2_1 l3 with
  | none => rw [hp] at h; simp at h
  | some p =>
    rw [hp] at h
    have HPV := za.mk hp
    clear hp
    cases p with
    | false =>
      simp at h
      obtain ⟨rfl, rfl⟩ := h
      go_enter Try.func31, Try.ntmps31
      go_wp2_with (go_at_call 72; (try rw [← HW.out]); refine (zx.calls k a2_0 a2_1 A3 c3 l3 false _ HR3.out HC3.out HPV.out).mono ?_; rintro e w1 ⟨rfl, hb⟩; have HB := za.mk hb; have BK1 := (fin w1 HB).out; have r0 := (zh BK1 0); have r1 := (zh BK1 1); have f0 := zg BK1 0; have f1 := zg BK1 1; have BK := za.mk BK1; clear hb BK1 fin)
      refine bodyPost_ret (results_cell_row rfl _ _ (w.heap.size + 2) 29 #[.slice none 0 0, .slice none 0 0] (0, 0) _ rfl (by first | exact BK.out | (refine zbu (cs := #[.slice none 0 0, .slice none 0 0]) ?_ 1 _ rfl; refine zbu (cs := #[.slice none 0 0, .slice none 0 0]) ?_ 0 _ rfl; exact BK.out)) Try.underlying29 rfl (by kernel_rfl)) rfl ?_
      exact ⟨_, _, rfl, Kd.R_nil _ _ _ _ _, Kd.R_nil _ _ _ _ _, by first | exact zb7 B0.out B0.out.size HB.out | exact ((zb7 B0.out B0.out.size HB.out).setCell (by show w.heap.size ≤ _; simp only; omega) _).setCell (by show w.heap.size ≤ _; simp only; omega) _⟩
    | true =>
      simp only [Option.bind_some, if_true] at h
      cases hs : zcp.f l0 l1 with
      | none => rw [hs] at h; simp at h
      | some t =>
        rw [hs] at h
        have HS := za.mk hs
        clear hs
        cases t with
        | false =>
          simp at h
          obtain ⟨rfl, rfl⟩ := h
          go_enter Try.func31, Try.ntmps31
          go_wp2_with (first
            | (go_at_call 72; (try rw [← HW.out]); refine (zx.calls k a2_0 a2_1 A3 c3 l3 true _ HR3.out HC3.out HPV.out).mono ?_; rintro e w1 ⟨rfl, hb⟩; have HB1 := za.mk hb; clear hb)
            | (go_at_call 48; refine (zcp.calls A0 c0 l0 A1 c1 l1 false _ (Kd.zb8 HR0.out HB1.out) HC0.out (Kd.zb8 HR1.out HB1.out) HC1.out HS.out).mono ?_; rintro e w2 ⟨rfl, hb⟩; have HB := za.mk (zb7 HB1.out HB1.out.size hb); have BK1 := (fin w2 HB).out; have r0 := (zh BK1 0); have r1 := (zh BK1 1); have f0 := zg BK1 0; have f1 := zg BK1 1; have BK := za.mk BK1; clear hb BK1 fin))
          refine bodyPost_ret (results_cell_row rfl _ _ (w.heap.size + 2) 29 #[.slice none 0 0, .slice none 0 0] (0, 0) _ rfl (by first | exact BK.out | (refine zbu (cs := #[.slice none 0 0, .slice none 0 0]) ?_ 1 _ rfl; refine zbu (cs := #[.slice none 0 0, .slice none 0 0]) ?_ 0 _ rfl; exact BK.out)) Try.underlying29 rfl (by kernel_rfl)) rfl ?_
          exact ⟨_, _, rfl, Kd.R_nil _ _ _ _ _, Kd.R_nil _ _ _ _ _, by first | exact zb7 B0.out B0.out.size HB.out | exact ((zb7 B0.out B0.out.size HB.out).setCell (by show w.heap.size ≤ _; simp only; omega) _).setCell (by show w.heap.size ≤ _; simp only; omega) _⟩
        | true =>
          simp only [Option.bind_some, if_true] at h
          by_cases hl : l1.length ≤ 1000 ∧ 120 ≤ l3.length
          · rw [if_pos hl] at h
            have h := Option.some.inj h
            have e1 := congrArg Prod.fst h
            have e2 := congrArg Prod.snd h
            simp only at e1 e2
            subst e1 e2
            clear h
            obtain ⟨hl1, hl3⟩ := hl
            have HPA := za.mk (fun (W : World) (hb1 : Below W0.heap.size W0 W) => paused_calls (fun t => !(rdOf false l3 t)) 74 #[.pointer (some ⟨w.heap.size + 1, 0, none⟩)] (enters_of Try.func74 (by kernel_rfl) rfl) A1 c1 l1 W (Kd.zb8 HR1.out hb1) hl1
              (fun W2 t htl hb => (supply1_calls A3 c3 l3 ⟨w.heap.size + 1, 0, none⟩ t (by omega) W2 ((zh (zbg K1.out (zb7 hb1 hb1.size hb)) 0).trans rfl) (Kd.zb8 HR3.out (zb7 hb1 hb1.size hb))).mono fun e w' hh => ⟨hh.1, hh.2.out⟩))
            obtain ⟨sr, hsr⟩ : ∃ sr, sr = simR (pauD l1 (fun t => !(rdOf false l3 t))) l1 := ⟨_, rfl⟩
            rw [← hsr] at HPA ⊢
            clear hsr
            go_enter Try.func31, Try.ntmps31
            go_wp2_with (first
              | (go_at_call 72; (try rw [← HW.out]); refine (zx.calls k a2_0 a2_1 A3 c3 l3 true _ HR3.out HC3.out HPV.out).mono ?_; rintro e w1 ⟨rfl, hb⟩; have HB1 := za.mk hb; clear hb)
              | (go_at_call 48; refine (zcp.calls A0 c0 l0 A1 c1 l1 true _ (Kd.zb8 HR0.out HB1.out) HC0.out (Kd.zb8 HR1.out HB1.out) HC1.out HS.out).mono ?_; rintro e w2 ⟨rfl, hb⟩; have HB2 := za.mk (zb7 HB1.out HB1.out.size hb); clear hb)
              | (go_at_call 73; refine (HPA.out w2 HB2.out).mono ?_; rintro e w3 ⟨v0, v1, rfl, hR0, hR1, hb⟩; obtain ⟨X0, y0, ev⟩ := Kd.zbs hR0; subst ev; obtain ⟨X1, y1, ev⟩ := Kd.zbs hR1; subst ev; have H0 := za.mk hR0; have H1 := za.mk hR1; have S1 := za.mk (Nat.lt_of_lt_of_le S0.out HB2.out.size); have HB := za.mk (zb7 HB2.out HB2.out.size hb); have BK1 := (fin w3 HB).out; have r0 := (zh BK1 0); have r1 := (zh BK1 1); have f0 := zg BK1 0; have f1 := zg BK1 1; have BK := za.mk BK1; clear hR0 hR1 hb BK1 fin))
            refine bodyPost_ret (results_cell_row rfl _ _ (w.heap.size + 2) 29 #[.slice X0 sr.1.length y0, .slice X1 sr.2.length y1] (0, 0) _ rfl (by refine zbu (cs := #[.slice X0 sr.1.length y0, .slice none 0 0]) ?_ 1 _ rfl; refine zbu (cs := #[.slice none 0 0, .slice none 0 0]) ?_ 0 _ rfl; exact BK.out) Try.underlying29 rfl (by kernel_rfl)) rfl ?_
            exact ⟨_, _, rfl, Kd.zb2 (Kd.zy (R_cells2 S1.out H0.out _ _) (fun k hk => hk.2)) (by have := S1.out; omega), Kd.zb2 (Kd.zy (R_cells2 S1.out H1.out _ _) (fun k hk => hk.2)) (by have := S1.out; omega), ((zb7 B0.out B0.out.size HB.out).setCell (by show w.heap.size ≤ _; simp only; omega) _).setCell (by show w.heap.size ≤ _; simp only; omega) _⟩
          · rw [if_neg hl] at h
            cases h
end Go.Proofs.Ytkdfjomhichkoaa.P
