/- The law FnGraphExample for every input, part 3 of its proof: what the program's functions answer, and the plain law. No condition. -/
import Derived.Test.YtebgfobjhlcopaaMFnGraphExample1
import Derived.Test.YtebgfobjhlcopaaMFnGraphExample2
import Derived.Laws.BitsLemmas
import Derived.SizedLaws
import Derived.ChangeSlices
import Derived.ChangeArms
import Derived.WideShapes
import Derived.Deep.Slices
import Derived.OpenShut
import Derived.Test.YtebgfobjhlcopaaRows
import Derived.JoinedOf
import Derived.KernelRfl
set_option maxRecDepth 100000
namespace Go.Proofs.Ytebgfobjhlcopaa.P
open Go.RowKit Go.Proofs.YtebgfobjhlcopaaW.PrintWords Go.Proofs.YtebgfobjhlcopaaW.PrintLast Go.Proofs.YtebgfobjhlcopaaW.PrintMore
attribute [local go_sem] zf4 zf5 zhe zhf ze3 ze4 zf6 zf7
set_option linter.unusedVariables false
set_option linter.unusedSimpArgs false
theorem Zq9 {X0 P : Prop} (x0 : za X0) (h : X0 → P := by intro x0; (with_reducible repeat (first | apply Kd.zcf | apply Kd.zcg | apply Kd.zcp)); exact x0) : P := h x0.out
theorem Zq10 {X0 P : Prop} (x0 : za X0) (h : X0 → P := by intro x0; (with_reducible repeat (first | apply Kd.zbh | apply Kd.zbg | apply Kd.zbu)); exact x0) : P := h x0.out
theorem Zq11 {X0 P : Prop} (x0 : za X0) (h : X0 → P := by intro x0; (with_reducible repeat (first | refine zm ?_ _ | refine zy ?_ | refine zn ?_ _)); exact x0) : P := h x0.out
theorem Zq12 {X0 X1 X2 P : Prop} (x0 : za X0) (x1 : za X1) (x2 : za X2) (h : X0 → X1 → X2 → P := by intro x0 x1 x2; repeat (first | (with_reducible first | exact x0 | apply zbv | apply zbr | apply zcm | refine zeb ?_ x1 | refine zeb ?_ x2) | exact x0)) : P := h x0.out x1.out x2.out
theorem Kd.zci {α : Type} {d : Kd α} {e base : Nat} {w : World} {ok : Nat → Prop} {v : Value} {xs : List α} (h : Kd.Qc d e w base ok v xs) (a : Nat) (ha : w.heap.size ≤ a) : Kd.Qc d e w base (fun k => ok k ∧ k ≠ a) v xs := Kd.zx (Kd.zdm h) (fun k hk => ⟨hk.1, by have := hk.2.2; omega⟩)
def laws_FnGraphExample.f (k : Nat) (l0 : List Int) : Option (Bool) := if (l0.length : Int) > 1048576 then (some true) else ((some (([1, 4, 4, 4] : List Int) : List Int)).bind fun y139 => ((some (([(([0, 1] : List Int)), (([0, 2] : List Int)), (([0, 3] : List Int))] : List (List Int)) : List (List Int))).bind fun y151 => ((zh.f k y139 y151 2).bind fun bt154 => ((zh.f k y139 y151 3).bind fun bt161 => (if (bt154.1.length : Int) = 9 then ((zb.f k y139 y151 2).bind fun t168 => (if t168 = 9 then (if (bt161.1.length : Int) = 5 then ((zb.f k y139 y151 3).bind fun t169 => (if t169 = 7 then ((zbj.f k y139 y151).bind fun t170 => (if t170 = 5 then ((zbe.f k bt161.2 (([1, 5, 5, 5] : List Int))).bind fun t174 => (some t174)) else (some false))) else (some false))) else (some false)) else (some false))) else (some false))))))
set_option maxHeartbeats 8000000 in
theorem laws_FnGraphExample.calls (k : Nat) (A0 : Option Addr) (c0 : Nat) (l0 : List Int) (r : Bool) (w : World) (hr0 : Kd.C (Kd.int .u8) w A0 l0.length l0) (hc0 : l0.length ≤ c0) (h : laws_FnGraphExample.f k l0 = some r) :
  Calls Try.prog 7 #[.slice A0 l0.length c0] w fun e w' => e = .returned (.bool r) ∧ Below w.heap.size w w' := by
 have hfld : ∀ (A B : Option Addr) (n c m d : Nat) (W : World), (Instr.field 28 (.agg #[.slice A n c, .slice B m d]) 0).run Try.prog W = .ok (.slice A n c) W := fun _ _ _ _ _ _ _ => rfl
 have hu28 := Try.underlying28
 have HR0 := za.mk hr0
 have HC0 := za.mk hc0
 clear hr0 hc0
 have HB := za.mk (Below.refl w.heap.size w)
 have H : (if (l0.length : Int) > 1048576 then (some true) else ((some (([1, 4, 4, 4] : List Int) : List Int)).bind fun y139 => ((some (([(([0, 1] : List Int)), (([0, 2] : List Int)), (([0, 3] : List Int))] : List (List Int)) : List (List Int))).bind fun y151 => ((zh.f k y139 y151 2).bind fun bt154 => ((zh.f k y139 y151 3).bind fun bt161 => (if (bt154.1.length : Int) = 9 then ((zb.f k y139 y151 2).bind fun t168 => (if t168 = 9 then (if (bt161.1.length : Int) = 5 then ((zb.f k y139 y151 3).bind fun t169 => (if t169 = 7 then ((zbj.f k y139 y151).bind fun t170 => (if t170 = 5 then ((zbe.f k bt161.2 (([1, 5, 5, 5] : List Int))).bind fun t174 => (some t174)) else (some false))) else (some false))) else (some false)) else (some false))) else (some false))))))) = some r := h
 clear h
 by_cases c2 : (l0.length : Int) > 1048576
 ·rw [if_pos c2] at H
  have c2b0 : decide (1048576 < (l0.length : Int)) = true := decide_eq_true c2;have c2b1 : decide (1048576 < l0.length) = true := decide_eq_true (by omega);clear c2;obtain rfl := Option.some.inj H;go_enter Try.func7, Try.ntmps7;go_wp2;go_ret;exact ⟨by first | rfl | (simp [zbn, zbo] <;> rfl) | (simp [*, zbn, zbo] <;> rfl), Zq2 HB⟩
 ·rw [if_neg c2] at H
  have c2b0 : decide (1048576 < (l0.length : Int)) = false := decide_eq_false c2;have c2b1 : decide (1048576 < l0.length) = false := decide_eq_false (by omega);clear c2;obtain ⟨y139, hy139⟩ : ∃ y_ : List Int, y_ = (([1, 4, 4, 4] : List Int)) := ⟨_, rfl⟩;replace H : ((some (([(([0, 1] : List Int)), (([0, 2] : List Int)), (([0, 3] : List Int))] : List (List Int)) : List (List Int))).bind fun y151 => ((zh.f k y139 y151 2).bind fun bt154 => ((zh.f k y139 y151 3).bind fun bt161 => (if (bt154.1.length : Int) = 9 then ((zb.f k y139 y151 2).bind fun t168 => (if t168 = 9 then (if (bt161.1.length : Int) = 5 then ((zb.f k y139 y151 3).bind fun t169 => (if t169 = 7 then ((zbj.f k y139 y151).bind fun t170 => (if t170 = 5 then ((zbe.f k bt161.2 (([1, 5, 5, 5] : List Int))).bind fun t174 => (some t174)) else (some false))) else (some false))) else (some false)) else (some false))) else (some false))))) = some r := by first | (rw [hy139]; with_reducible exact H) | (have H2_ := (Option.bind_some _ _).symm.trans H; rw [hy139]; with_reducible exact H2_) | (have H2_ := (Option.bind_some _ _).symm.trans H; with_reducible exact H2_) | with_reducible exact H | (rw [hy139]; exact H) | exact H
  have Ny139 := za.mk hy139;clear hy139;obtain ⟨y142, hy142⟩ : ∃ y_ : List Int, y_ = (([0, 1] : List Int)) := ⟨_, rfl⟩;replace H : ((some (([y142, (([0, 2] : List Int)), (([0, 3] : List Int))] : List (List Int)) : List (List Int))).bind fun y151 => ((zh.f k y139 y151 2).bind fun bt154 => ((zh.f k y139 y151 3).bind fun bt161 => (if (bt154.1.length : Int) = 9 then ((zb.f k y139 y151 2).bind fun t168 => (if t168 = 9 then (if (bt161.1.length : Int) = 5 then ((zb.f k y139 y151 3).bind fun t169 => (if t169 = 7 then ((zbj.f k y139 y151).bind fun t170 => (if t170 = 5 then ((zbe.f k bt161.2 (([1, 5, 5, 5] : List Int))).bind fun t174 => (some t174)) else (some false))) else (some false))) else (some false)) else (some false))) else (some false))))) = some r := by first | (rw [hy142]; with_reducible exact H) | (have H2_ := (Option.bind_some _ _).symm.trans H; rw [hy142]; with_reducible exact H2_) | (have H2_ := (Option.bind_some _ _).symm.trans H; with_reducible exact H2_) | with_reducible exact H | (rw [hy142]; exact H) | exact H
  have Ny142 := za.mk hy142;clear hy142;obtain ⟨y145, hy145⟩ : ∃ y_ : List Int, y_ = (([0, 2] : List Int)) := ⟨_, rfl⟩;replace H : ((some (([y142, y145, (([0, 3] : List Int))] : List (List Int)) : List (List Int))).bind fun y151 => ((zh.f k y139 y151 2).bind fun bt154 => ((zh.f k y139 y151 3).bind fun bt161 => (if (bt154.1.length : Int) = 9 then ((zb.f k y139 y151 2).bind fun t168 => (if t168 = 9 then (if (bt161.1.length : Int) = 5 then ((zb.f k y139 y151 3).bind fun t169 => (if t169 = 7 then ((zbj.f k y139 y151).bind fun t170 => (if t170 = 5 then ((zbe.f k bt161.2 (([1, 5, 5, 5] : List Int))).bind fun t174 => (some t174)) else (some false))) else (some false))) else (some false)) else (some false))) else (some false))))) = some r := by first | (rw [hy145]; with_reducible exact H) | (have H2_ := (Option.bind_some _ _).symm.trans H; rw [hy145]; with_reducible exact H2_) | (have H2_ := (Option.bind_some _ _).symm.trans H; with_reducible exact H2_) | with_reducible exact H | (rw [hy145]; exact H) | exact H
  have Ny145 := za.mk hy145;clear hy145;obtain ⟨y148, hy148⟩ : ∃ y_ : List Int, y_ = (([0, 3] : List Int)) := ⟨_, rfl⟩;replace H : ((some (([y142, y145, y148] : List (List Int)) : List (List Int))).bind fun y151 => ((zh.f k y139 y151 2).bind fun bt154 => ((zh.f k y139 y151 3).bind fun bt161 => (if (bt154.1.length : Int) = 9 then ((zb.f k y139 y151 2).bind fun t168 => (if t168 = 9 then (if (bt161.1.length : Int) = 5 then ((zb.f k y139 y151 3).bind fun t169 => (if t169 = 7 then ((zbj.f k y139 y151).bind fun t170 => (if t170 = 5 then ((zbe.f k bt161.2 (([1, 5, 5, 5] : List Int))).bind fun t174 => (some t174)) else (some false))) else (some false))) else (some false)) else (some false))) else (some false))))) = some r := by first | (rw [hy148]; with_reducible exact H) | (have H2_ := (Option.bind_some _ _).symm.trans H; rw [hy148]; with_reducible exact H2_) | (have H2_ := (Option.bind_some _ _).symm.trans H; with_reducible exact H2_) | with_reducible exact H | (rw [hy148]; exact H) | exact H
  have Ny148 := za.mk hy148;clear hy148;obtain ⟨y151, hy151⟩ : ∃ y_ : List (List Int), y_ = (([y142, y145, y148] : List (List Int))) := ⟨_, rfl⟩;replace H : ((zh.f k y139 y151 2).bind fun bt154 => ((zh.f k y139 y151 3).bind fun bt161 => (if (bt154.1.length : Int) = 9 then ((zb.f k y139 y151 2).bind fun t168 => (if t168 = 9 then (if (bt161.1.length : Int) = 5 then ((zb.f k y139 y151 3).bind fun t169 => (if t169 = 7 then ((zbj.f k y139 y151).bind fun t170 => (if t170 = 5 then ((zbe.f k bt161.2 (([1, 5, 5, 5] : List Int))).bind fun t174 => (some t174)) else (some false))) else (some false))) else (some false)) else (some false))) else (some false)))) = some r := by first | (rw [hy151]; with_reducible exact H) | (have H2_ := (Option.bind_some _ _).symm.trans H; rw [hy151]; with_reducible exact H2_) | (have H2_ := (Option.bind_some _ _).symm.trans H; with_reducible exact H2_) | with_reducible exact H | (rw [hy151]; exact H) | exact H
  have Ny151 := za.mk hy151;clear hy151;replace H := Option.bind_eq_some_iff.mp H;obtain ⟨⟨t154, t157⟩, A30, H⟩ := H;replace H : ((zh.f k y139 y151 3).bind fun bt161 => (if (t154.length : Int) = 9 then ((zb.f k y139 y151 2).bind fun t168 => (if t168 = 9 then (if (bt161.1.length : Int) = 5 then ((zb.f k y139 y151 3).bind fun t169 => (if t169 = 7 then ((zbj.f k y139 y151).bind fun t170 => (if t170 = 5 then ((zbe.f k bt161.2 (([1, 5, 5, 5] : List Int))).bind fun t174 => (some t174)) else (some false))) else (some false))) else (some false)) else (some false))) else (some false))) = some r := H;have A3 := za.mk A30;clear A30;replace H := Option.bind_eq_some_iff.mp H;obtain ⟨⟨t161, t164⟩, A40, H⟩ := H;replace H : (if (t154.length : Int) = 9 then ((zb.f k y139 y151 2).bind fun t168 => (if t168 = 9 then (if (t161.length : Int) = 5 then ((zb.f k y139 y151 3).bind fun t169 => (if t169 = 7 then ((zbj.f k y139 y151).bind fun t170 => (if t170 = 5 then ((zbe.f k t164 (([1, 5, 5, 5] : List Int))).bind fun t174 => (some t174)) else (some false))) else (some false))) else (some false)) else (some false))) else (some false)) = some r := H;have A4 := za.mk A40;clear A40;by_cases c5 : (t154.length : Int) = 9
  ·rw [if_pos c5] at H
   have c5b0 : ((t154.length : Int) == 9) = true := beq_iff_eq.mpr c5;have c5b1 : ((t154.length : Int) != 9) = false := bne_eq_false_iff_eq.mpr c5;clear c5;replace H := Option.bind_eq_some_iff.mp H;obtain ⟨t168, A60, H⟩ := H;replace H : (if t168 = 9 then (if (t161.length : Int) = 5 then ((zb.f k y139 y151 3).bind fun t169 => (if t169 = 7 then ((zbj.f k y139 y151).bind fun t170 => (if t170 = 5 then ((zbe.f k t164 (([1, 5, 5, 5] : List Int))).bind fun t174 => (some t174)) else (some false))) else (some false))) else (some false)) else (some false)) = some r := H;have A6 := za.mk A60;clear A60;by_cases c7 : t168 = 9
   ·rw [if_pos c7] at H
    have c7b0 : (t168 == 9) = true := beq_iff_eq.mpr c7;have c7b1 : (t168 != 9) = false := bne_eq_false_iff_eq.mpr c7;clear c7;by_cases c8 : (t161.length : Int) = 5
    ·rw [if_pos c8] at H
     have c8b0 : ((t161.length : Int) == 5) = true := beq_iff_eq.mpr c8;have c8b1 : ((t161.length : Int) != 5) = false := bne_eq_false_iff_eq.mpr c8;clear c8;replace H := Option.bind_eq_some_iff.mp H;obtain ⟨t169, A90, H⟩ := H;replace H : (if t169 = 7 then ((zbj.f k y139 y151).bind fun t170 => (if t170 = 5 then ((zbe.f k t164 (([1, 5, 5, 5] : List Int))).bind fun t174 => (some t174)) else (some false))) else (some false)) = some r := H;have A9 := za.mk A90;clear A90;by_cases c10 : t169 = 7
     ·rw [if_pos c10] at H
      have c10b0 : (t169 == 7) = true := beq_iff_eq.mpr c10;have c10b1 : (t169 != 7) = false := bne_eq_false_iff_eq.mpr c10;clear c10;replace H := Option.bind_eq_some_iff.mp H;obtain ⟨t170, A110, H⟩ := H;replace H : (if t170 = 5 then ((zbe.f k t164 (([1, 5, 5, 5] : List Int))).bind fun t174 => (some t174)) else (some false)) = some r := H;have A11 := za.mk A110;clear A110;by_cases c12 : t170 = 5
      ·rw [if_pos c12] at H
       have c12b0 : (t170 == 5) = true := beq_iff_eq.mpr c12;have c12b1 : (t170 != 5) = false := bne_eq_false_iff_eq.mpr c12;clear c12;obtain ⟨y171, hy171⟩ : ∃ y_ : List Int, y_ = (([1, 5, 5, 5] : List Int)) := ⟨_, rfl⟩;replace H : ((zbe.f k t164 y171).bind fun t174 => (some t174)) = some r := by first | (rw [hy171]; with_reducible exact H) | (have H2_ := (Option.bind_some _ _).symm.trans H; rw [hy171]; with_reducible exact H2_) | (have H2_ := (Option.bind_some _ _).symm.trans H; with_reducible exact H2_) | with_reducible exact H | (rw [hy171]; exact H) | exact H
       have Ny171 := za.mk hy171;clear hy171;replace H := Option.bind_eq_some_iff.mp H;obtain ⟨t174, A130, H⟩ := H;replace H : (some t174) = some r := H;have A13 := za.mk A130;clear A130;obtain rfl := Option.some.inj H;go_enter Try.func7, Try.ntmps7
       go_wp2_with (first | ((with_reducible refine zbk (N := 10) rfl ?_); (try (refine zbc (by rfl) ?_; dsimp only)); refine Kd.zc9 (Kd.int .i64) _ 3 ?hg (N := 10) ?hd (xs := ([1, 4, 4, 4] : List Int)) (inner := [.int .i64 1, .int .i64 4, .int .i64 4, .int .i64 4]) (ok := fun _ => True) (okp := fun _ => True) ?hr ?hp (fun _ hk => hk) trivial (Below.refl _ _) (Nat.le_refl _) (by simp) ?_; (case hd => rfl); (case hg => rfl); (case hr => first | (go_simp; done) | (go_simp; rfl)); (case hp => exact (Reps.one (show Kd.M (Kd.int .i64) _ _ _ 1 [.int .i64 1] from rfl) (Reps.one (show Kd.M (Kd.int .i64) _ _ _ 4 [.int .i64 4] from rfl) (Reps.one (show Kd.M (Kd.int .i64) _ _ _ 4 [.int .i64 4] from rfl) (Reps.one (show Kd.M (Kd.int .i64) _ _ _ 4 [.int .i64 4] from rfl) (Reps.none _ _)))))); intro v140 w14 ho15 hb hg_ hnew_; clear hg_ hnew_; (first | rw [← Ny139.out] at ho15 | (simp only [Int.reduceToNat] at ho15; rw [← Ny139.out] at ho15)); have n0_ := za.mk (Kd.zb9 ho15 (zg (Zq2 HB))); have n1_ := za.mk (zf (Zq2 HB) hb); clear HB; have HO141 := n0_; have HB := n1_; clear n0_ n1_; clear hb ho15) | ((with_reducible refine zbk (N := 11) rfl ?_); (try (refine zbc (by rfl) ?_; dsimp only)); refine Kd.zc9 (Kd.int .i64) _ 3 ?hg (N := 11) ?hd (xs := ([0, 1] : List Int)) (inner := [.int .i64 0, .int .i64 1]) (ok := fun _ => True) (okp := fun _ => True) ?hr ?hp (fun _ hk => hk) trivial (Below.refl _ _) (Nat.le_refl _) (by simp) ?_; (case hd => rfl); (case hg => rfl); (case hr => first | (go_simp; done) | (go_simp; rfl)); (case hp => exact (Reps.one (show Kd.M (Kd.int .i64) _ _ _ 0 [.int .i64 0] from rfl) (Reps.one (show Kd.M (Kd.int .i64) _ _ _ 1 [.int .i64 1] from rfl) (Reps.none _ _)))); intro v143 w16 ho17 hb hg_ hnew_; clear hg_ hnew_; (first | rw [← Ny142.out] at ho17 | (simp only [Int.reduceToNat] at ho17; rw [← Ny142.out] at ho17)); have n0_ := za.mk (Kd.zbi (Zq7 HO141) (Kd.zca ho17) hb); have n1_ := za.mk (Kd.zb9 (Kd.zcd ho17 (Kd.R_lt (Zq7 HO141))) (zg (Zq2 HB))); have n2_ := za.mk (zf (Zq2 HB) hb); clear HO141; clear HB; have HO141 := n0_; have HO144 := n1_; have HB := n2_; clear n0_ n1_ n2_; clear hb ho17) | ((with_reducible refine zbk (N := 12) rfl ?_); (try (refine zbc (by rfl) ?_; dsimp only)); refine Kd.zc9 (Kd.int .i64) _ 3 ?hg (N := 12) ?hd (xs := ([0, 2] : List Int)) (inner := [.int .i64 0, .int .i64 2]) (ok := fun _ => True) (okp := fun _ => True) ?hr ?hp (fun _ hk => hk) trivial (Below.refl _ _) (Nat.le_refl _) (by simp) ?_; (case hd => rfl); (case hg => rfl); (case hr => first | (go_simp; done) | (go_simp; rfl)); (case hp => exact (Reps.one (show Kd.M (Kd.int .i64) _ _ _ 0 [.int .i64 0] from rfl) (Reps.one (show Kd.M (Kd.int .i64) _ _ _ 2 [.int .i64 2] from rfl) (Reps.none _ _)))); intro v146 w18 ho19 hb hg_ hnew_; clear hg_ hnew_; (first | rw [← Ny145.out] at ho19 | (simp only [Int.reduceToNat] at ho19; rw [← Ny145.out] at ho19)); have n0_ := za.mk (Kd.zbi (Zq7 HO141) (Kd.zca ho19) hb); have n1_ := za.mk (Kd.zbi (Zq7 HO144) (Kd.zca ho19) hb); have n2_ := za.mk (Kd.zb9 (Kd.zcd (Kd.zcd ho19 (Kd.R_lt (Zq7 HO141))) (Kd.R_lt (Zq7 HO144))) (zg (Zq2 HB))); have n3_ := za.mk (zf (Zq2 HB) hb); clear HO141; clear HO144; clear HB; have HO141 := n0_; have HO144 := n1_; have HO147 := n2_; have HB := n3_; clear n0_ n1_ n2_ n3_; clear hb ho19) | ((with_reducible refine zbk (N := 13) rfl ?_); (try (refine zbc (by rfl) ?_; dsimp only)); refine Kd.zc9 (Kd.int .i64) _ 3 ?hg (N := 13) ?hd (xs := ([0, 3] : List Int)) (inner := [.int .i64 0, .int .i64 3]) (ok := fun _ => True) (okp := fun _ => True) ?hr ?hp (fun _ hk => hk) trivial (Below.refl _ _) (Nat.le_refl _) (by simp) ?_; (case hd => rfl); (case hg => rfl); (case hr => first | (go_simp; done) | (go_simp; rfl)); (case hp => exact (Reps.one (show Kd.M (Kd.int .i64) _ _ _ 0 [.int .i64 0] from rfl) (Reps.one (show Kd.M (Kd.int .i64) _ _ _ 3 [.int .i64 3] from rfl) (Reps.none _ _)))); intro v149 w20 ho21 hb hg_ hnew_; clear hg_ hnew_; (first | rw [← Ny148.out] at ho21 | (simp only [Int.reduceToNat] at ho21; rw [← Ny148.out] at ho21)); have n0_ := za.mk (Kd.zbi (Zq7 HO141) (Kd.zca ho21) hb); have n1_ := za.mk (Kd.zbi (Zq7 HO144) (Kd.zca ho21) hb); have n2_ := za.mk (Kd.zbi (Zq7 HO147) (Kd.zca ho21) hb); have n3_ := za.mk (Kd.zb9 (Kd.zcd (Kd.zcd (Kd.zcd ho21 (Kd.R_lt (Zq7 HO141))) (Kd.R_lt (Zq7 HO144))) (Kd.R_lt (Zq7 HO147))) (zg (Zq2 HB))); have n4_ := za.mk (zf (Zq2 HB) hb); clear HO141; clear HO144; clear HO147; clear HB; have HO141 := n0_; have HO144 := n1_; have HO147 := n2_; have HO150 := n3_; have HB := n4_; clear n0_ n1_ n2_ n3_ n4_; clear hb ho21; obtain ⟨Ao22, co22, eo22⟩ := Kd.zb6 HO144.out; subst eo22; obtain ⟨Ao23, co23, eo23⟩ := Kd.zb6 HO147.out; subst eo23; obtain ⟨Ao24, co24, eo24⟩ := Kd.zb6 HO150.out; subst eo24) | ((with_reducible refine zbk (N := 14) rfl ?_); (try (refine zbc (by rfl) ?_; dsimp only)); refine Kd.N_lit (Kd.slice 3 (Kd.int .i64)) _ 23 ?hg (N' := 14) ?hd (xs := ([y142, y145, y148] : List (List Int))) (inner := [.slice Ao22 y142.length co22, .slice Ao23 y145.length co23, .slice Ao24 y148.length co24]) (ok := (fun k_ => some k_ ≠ (v140 : Value).ownBlock)) (okp := (fun k_ => some k_ ≠ (v140 : Value).ownBlock)) ?hr ?hp (fun _ hk => hk) ((show ∀ k_, w20.heap.size ≤ k_ → (fun k_ => some k_ ≠ (v140 : Value).ownBlock) k_ from fun k_ hk => Kd.fresh' (Kd.R_lt (Zq7 HO141)) k_ hk) _ (Nat.le_refl _)) (Below.refl _ _) (Nat.le_refl _) (by simp) ?_; (case hd => rfl); (case hg => rfl); (case hr => first | (go_simp; done) | (go_simp; rfl)); (case hp => exact (Reps.one (show Kd.FK (Kd.slice 3 (Kd.int .i64)) _ _ y142 [.slice Ao22 y142.length co22] from (Kd.zb3 (Kd.zo (Kd.zbl (ok' := (fun k_ => some k_ ≠ (v140 : Value).ownBlock)) (HO144.out) (fun k_ hk => hk.1.1.2))).2.1 (Kd.R_F (Kd.zbl (ok' := (fun k_ => some k_ ≠ (v140 : Value).ownBlock)) (HO144.out) (fun k_ hk => hk.1.1.2))))) (Reps.one (show Kd.FK (Kd.slice 3 (Kd.int .i64)) _ _ y145 [.slice Ao23 y145.length co23] from (Kd.zb3 (Kd.zo (Kd.zbl (ok' := (fun k_ => some k_ ≠ (v140 : Value).ownBlock)) (HO147.out) (fun k_ hk => hk.1.1.2))).2.1 (Kd.R_F (Kd.zbl (ok' := (fun k_ => some k_ ≠ (v140 : Value).ownBlock)) (HO147.out) (fun k_ hk => hk.1.1.2))))) (Reps.one (show Kd.FK (Kd.slice 3 (Kd.int .i64)) _ _ y148 [.slice Ao24 y148.length co24] from (Kd.zb3 (Kd.zo (Kd.zbl (ok' := (fun k_ => some k_ ≠ (v140 : Value).ownBlock)) (HO150.out) (fun k_ hk => hk.1.1.2))).2.1 (Kd.R_F (Kd.zbl (ok' := (fun k_ => some k_ ≠ (v140 : Value).ownBlock)) (HO150.out) (fun k_ hk => hk.1.1.2))))) (Reps.none _ _))))); intro v152 w25 ho26 hb hg_ hnew_; clear hg_ hnew_; (first | rw [← Ny151.out] at ho26 | (simp only [Int.reduceToNat] at ho26; rw [← Ny151.out] at ho26)); have n0_ := za.mk (Kd.zby (Zq7 HO141) hb); have n1_ := za.mk (Kd.zem ho26 (zg (Zq2 HB))); have n2_ := za.mk (zf (Zq2 HB) hb); clear HO141; clear HB; clear HO144; clear HO147; clear HO150; have HO141 := n0_; have HO153 := n1_; have HB := n2_; clear n0_ n1_ n2_; clear hb ho26; obtain ⟨Ao27, co27, eo27⟩ := Kd.zb6 HO141.out; subst eo27; obtain ⟨Ao28, co28, eo28⟩ := Kd.zen HO153.out; subst eo28) | ((with_reducible refine zbw (f := 9) rfl ?_); refine zc0 (some 17) rfl rfl Try.func9 (by kernel_rfl) rfl #[.slice Ao27 y139.length co27, .slice Ao28 y151.length co28, .int .i64 2] rfl Zmt ?_; (with_reducible refine (zh.calls k _ _ y139 _ _ y151 2 t154 t157 _ ?side1 ?side2 ?side3 ?side4 A3.out).mono ?_); (case side1 => exact Zq4 ((Kd.zo HO141.out).2.2)); (case side2 => exact (Kd.zo HO141.out).2.1); (case side3 => exact Zq4 ((Kd.zbq HO153.out).2.2)); (case side4 => exact (Kd.zbq HO153.out).2.1); rintro e w29 ⟨v155, v158, rfl, ho0, ho1, hb⟩; refine ⟨_, rfl, ?_⟩; have n0_ := za.mk (Kd.zbi (Zq7 HO141) (Kd.zbp ho1) hb); have n1_ := za.mk (Kd.zbt (Kd.zcy (Kd.zcy (Kd.zer (Zq9 HO153) hb) (Kd.zbp ho0)) (Kd.zbp ho1)) (fun _ h_ => h_.1)); have n2_ := za.mk (Kd.zb7 (Kd.zx (ok' := fun k_ => some k_ ≠ (v158 : Value).ownBlock ∧ some k_ ≠ (.slice Ao27 y139.length co27 : Value).ownBlock ∧ some k_ ≠ (.slice Ao28 y151.length co28 : Value).ownBlock) (Kd.zdm ho0) (fun k_ hk_ => ⟨hk_.1, (Kd.fresh' (Kd.R_lt (Zq7 HO141)) k_ hk_.2.1), (Kd.fresh' (Kd.N_lt (Zq9 HO153)) k_ hk_.2.1)⟩)) (zg (Zq2 HB))); have n3_ := za.mk (Kd.zb7 (Kd.zcw ho1 (Kd.R_lt (Zq7 HO141))) (zg (Zq2 HB))); have n4_ := za.mk (zf (Zq2 HB) hb); clear HO141; clear HO153; clear HB; have HO141 := n0_; have HO153 := n1_; have HO156 := n2_; have HO159 := n3_; have HB := n4_; clear n0_ n1_ n2_ n3_ n4_; (try clear hb); (try clear hb2); (try clear hk); (try clear hi); (try clear ho0); (try clear ho1)) | ((with_reducible refine zbk (N := 5) rfl ?_); (try (refine zbc (by rfl) ?_; dsimp only)); refine zcv ?hg (N := 5) ?hd (cs := #[.slice none 0 0, .slice none 0 0]) (t := 28) ?hr ?_; (case hd => rfl); (case hg => rfl); (case hr => first | (go_simp; done) | (go_simp; rfl)); intro gb160 hg w30 hbox hb; have n0_ := za.mk (Kd.zby (Zq7 HO141) hb); have n1_ := za.mk (Kd.zcj (Kd.zc5 (Zq9 HO153) gb160 (Nat.le_of_eq hg.symm)) hb); have n2_ := za.mk (Kd.zu (Kd.zci (Zq10 HO156) gb160 (Nat.le_of_eq hg.symm)) hb); have n3_ := za.mk (Kd.zu (Zq10 HO159) hb); have n4_ := za.mk (zf (Zq2 HB) hb); have n5_ := za.mk (hbox); have n6_ := za.mk ((by rw [hg]; exact (zg (Zq2 HB)) : w.heap.size ≤ gb160)); have n7_ := za.mk ((by rw [hg]; exact (zg (Zq2 HB)) : w.heap.size ≤ gb160)); clear HO141; clear HO153; clear HO156; clear HO159; clear HB; have HO141 := n0_; have HO153 := n1_; have HO156 := n2_; have HO159 := n3_; have HB := n4_; have BK160 := n5_; have GW160 := n6_; have GE160 := n7_; clear n0_ n1_ n2_ n3_ n4_ n5_ n6_ n7_; clear hb hbox hg; obtain ⟨Ao31, co31, eo31⟩ := Kd.zcc HO156.out; subst eo31; have hcz32_0 : w30.cell? ⟨gb160, 0, none⟩ = some (.slice none 0 0) := (zba BK160.out 0).trans rfl; have hcz32_1 : w30.cell? ⟨gb160, 1, none⟩ = some (.slice none 0 0) := (zba BK160.out 1).trans rfl; have hfz32_0 := zw BK160.out 0; have hfz32_1 := zw BK160.out 1; obtain ⟨Ao33, co33, eo33⟩ := Kd.zcc HO159.out; subst eo33) | ((with_reducible refine zbw (f := 9) rfl ?_); refine zc0 (some 20) rfl rfl Try.func9 (by kernel_rfl) rfl #[.slice Ao27 y139.length co27, .slice Ao28 y151.length co28, .int .i64 3] rfl Zmt ?_; (with_reducible refine (zh.calls k _ _ y139 _ _ y151 3 t161 t164 _ ?side1 ?side2 ?side3 ?side4 A4.out).mono ?_); (case side1 => refine (Kd.zo (e := 3) (base := w.heap.size) (ok := fun k_ => ((((True ∧ some k_ ≠ (.slice Ao22 y142.length co22 : Value).ownBlock) ∧ some k_ ≠ (.slice Ao23 y145.length co23 : Value).ownBlock) ∧ some k_ ≠ (.slice Ao24 y148.length co24 : Value).ownBlock) ∧ some k_ ≠ (.slice Ao33 t157.length co33 : Value).ownBlock)) (n := y139.length) (c := co27) ?_).2.2; exact (by (with_reducible repeat (first | apply Kd.zb0 | apply Kd.zb2 | apply Kd.zce)); exact (Kd.zbl (Kd.zbz (p := ⟨gb160, 1, none⟩) (Kd.zbz (p := ⟨gb160, 0, none⟩) (Kd.zb5 HO141.out BK160.out (by decide)) (fun _ hk => hk.2) (.slice Ao31 t154.length co31)) (fun _ hk => hk.2) (.slice Ao33 t157.length co33)) (fun _ h_ => h_.1)))); (case side2 => exact (Kd.zo HO141.out).2.1); (case side3 => refine (Kd.zbq (e := 23) (base := w.heap.size) (ok := fun k_ => (((some k_ ≠ (.slice Ao27 y139.length co27 : Value).ownBlock ∧ some k_ ≠ (.slice Ao31 t154.length co31 : Value).ownBlock) ∧ some k_ ≠ (.slice Ao33 t157.length co33 : Value).ownBlock) ∧ k_ ≠ gb160)) (n := y151.length) (c := co28) ?_).2.2; exact (by (with_reducible repeat (first | apply Kd.zcf | apply Kd.zcg | apply Kd.zcp)); exact (Kd.zbt (Kd.zch (p := ⟨gb160, 1, none⟩) (Kd.zch (p := ⟨gb160, 0, none⟩) (Kd.zbt HO153.out (fun k_ hk => (⟨hk, hk.2⟩ : _ ∧ k_ ≠ gb160))) (fun _ hk => hk.2) (.slice Ao31 t154.length co31)) (fun _ hk => hk.2) (.slice Ao33 t157.length co33)) (fun _ h_ => h_.1)))); (case side4 => exact (Kd.zbq HO153.out).2.1); rintro e w34 ⟨v162, v165, rfl, ho0, ho1, hb⟩; refine ⟨_, rfl, ?_⟩; have n0_ := za.mk (Kd.zbi (by (with_reducible repeat (first | apply Kd.zb0 | apply Kd.zb2 | apply Kd.zce)); exact (Kd.zbl (Kd.zbz (p := ⟨gb160, 1, none⟩) (Kd.zbz (p := ⟨gb160, 0, none⟩) (Kd.zb5 HO141.out BK160.out (by decide)) (fun _ hk => hk.2) (.slice Ao31 t154.length co31)) (fun _ hk => hk.2) (.slice Ao33 t157.length co33)) (fun _ h_ => h_.1))) (Kd.zbp ho1) hb); have n1_ := za.mk (Kd.zbt (Kd.zcy (Kd.zcy (Kd.zer (by (with_reducible repeat (first | apply Kd.zcf | apply Kd.zcg | apply Kd.zcp)); exact (Kd.zbt (Kd.zch (p := ⟨gb160, 1, none⟩) (Kd.zch (p := ⟨gb160, 0, none⟩) (Kd.zbt HO153.out (fun k_ hk => (⟨hk, hk.2⟩ : _ ∧ k_ ≠ gb160))) (fun _ hk => hk.2) (.slice Ao31 t154.length co31)) (fun _ hk => hk.2) (.slice Ao33 t157.length co33)) (fun _ h_ => h_.1))) hb) (Kd.zbp ho0)) (Kd.zbp ho1)) (fun _ h_ => h_.1)); have n2_ := za.mk (Kd.zx (Kd.zde (Kd.zde (Kd.zfs (by (with_reducible repeat (first | apply Kd.zbh | apply Kd.zbg | apply Kd.zbu)); exact (Kd.zx (Kd.zbb (p := ⟨gb160, 1, none⟩) (Kd.zbb (p := ⟨gb160, 0, none⟩) (Kd.zx HO156.out (fun k_ hk => (⟨hk, hk.2⟩ : _ ∧ k_ ≠ gb160))) (fun _ hk => hk.2) (.slice Ao31 t154.length co31)) (fun _ hk => hk.2) (.slice Ao33 t157.length co33)) (fun _ h_ => h_.1))) hb) (Kd.zbp ho0)) (Kd.zbp ho1)) (fun _ h_ => h_.1)); have n3_ := za.mk (Kd.zc4 (by (with_reducible repeat (first | apply Kd.zbh | apply Kd.zbg | apply Kd.zbu)); exact (Kd.zx (Kd.zbb (p := ⟨gb160, 1, none⟩) (Kd.zbb (p := ⟨gb160, 0, none⟩) (Kd.zb8 HO159.out BK160.out (by decide)) (fun _ hk => hk.2) (.slice Ao31 t154.length co31)) (fun _ hk => hk.2) (.slice Ao33 t157.length co33)) (fun _ h_ => h_.1))) (Kd.zbp ho1) hb); have n4_ := za.mk (Kd.zb7 (Kd.zx (ok' := fun k_ => some k_ ≠ (v165 : Value).ownBlock ∧ some k_ ≠ (.slice Ao27 y139.length co27 : Value).ownBlock ∧ some k_ ≠ (.slice Ao28 y151.length co28 : Value).ownBlock ∧ some k_ ≠ (.slice Ao31 t154.length co31 : Value).ownBlock ∧ some k_ ≠ (.slice Ao33 t157.length co33 : Value).ownBlock ∧ k_ ≠ gb160) (Kd.zdm ho0) (fun k_ hk_ => ⟨hk_.1, (Kd.fresh' (Kd.R_lt (by (with_reducible repeat (first | apply Kd.zb0 | apply Kd.zb2 | apply Kd.zce)); exact (Kd.zbl (Kd.zbz (p := ⟨gb160, 1, none⟩) (Kd.zbz (p := ⟨gb160, 0, none⟩) (Kd.zb5 HO141.out BK160.out (by decide)) (fun _ hk => hk.2) (.slice Ao31 t154.length co31)) (fun _ hk => hk.2) (.slice Ao33 t157.length co33)) (fun _ h_ => h_.1)))) k_ hk_.2.1), (Kd.fresh' (Kd.N_lt (by (with_reducible repeat (first | apply Kd.zcf | apply Kd.zcg | apply Kd.zcp)); exact (Kd.zbt (Kd.zch (p := ⟨gb160, 1, none⟩) (Kd.zch (p := ⟨gb160, 0, none⟩) (Kd.zbt HO153.out (fun k_ hk => (⟨hk, hk.2⟩ : _ ∧ k_ ≠ gb160))) (fun _ hk => hk.2) (.slice Ao31 t154.length co31)) (fun _ hk => hk.2) (.slice Ao33 t157.length co33)) (fun _ h_ => h_.1)))) k_ hk_.2.1), (Kd.fresh' (Kd.zdk (by (with_reducible repeat (first | apply Kd.zbh | apply Kd.zbg | apply Kd.zbu)); exact (Kd.zx (Kd.zbb (p := ⟨gb160, 1, none⟩) (Kd.zbb (p := ⟨gb160, 0, none⟩) (Kd.zx HO156.out (fun k_ hk => (⟨hk, hk.2⟩ : _ ∧ k_ ≠ gb160))) (fun _ hk => hk.2) (.slice Ao31 t154.length co31)) (fun _ hk => hk.2) (.slice Ao33 t157.length co33)) (fun _ h_ => h_.1)))) k_ hk_.2.1), (Kd.fresh' (Kd.zdk (by (with_reducible repeat (first | apply Kd.zbh | apply Kd.zbg | apply Kd.zbu)); exact (Kd.zx (Kd.zbb (p := ⟨gb160, 1, none⟩) (Kd.zbb (p := ⟨gb160, 0, none⟩) (Kd.zb8 HO159.out BK160.out (by decide)) (fun _ hk => hk.2) (.slice Ao31 t154.length co31)) (fun _ hk => hk.2) (.slice Ao33 t157.length co33)) (fun _ h_ => h_.1)))) k_ hk_.2.1), (Kd.zfn (g := gb160) (o := .cells #[.slice Ao31 t154.length co31, .slice Ao33 t157.length co33] 28 (0, 0)) (by (with_reducible repeat (first | refine zm ?_ _ | refine zy ?_ | refine zn ?_ _)); refine zb1 (cs := #[.slice Ao31 t154.length co31, .slice none 0 0]) ?_ 1 _ rfl; (with_reducible repeat (first | refine zm ?_ _ | refine zy ?_ | refine zn ?_ _)); refine zb1 (cs := #[.slice none 0 0, .slice none 0 0]) ?_ 0 _ rfl; (with_reducible repeat (first | refine zm ?_ _ | refine zy ?_ | refine zn ?_ _)); exact BK160.out) k_ hk_.2.1)⟩)) (zg (Zq8 HB GE160))); have n5_ := za.mk (Kd.zb7 (Kd.zcw (Kd.zcw ho1 (Kd.R_lt (by (with_reducible repeat (first | apply Kd.zb0 | apply Kd.zb2 | apply Kd.zce)); exact (Kd.zbl (Kd.zbz (p := ⟨gb160, 1, none⟩) (Kd.zbz (p := ⟨gb160, 0, none⟩) (Kd.zb5 HO141.out BK160.out (by decide)) (fun _ hk => hk.2) (.slice Ao31 t154.length co31)) (fun _ hk => hk.2) (.slice Ao33 t157.length co33)) (fun _ h_ => h_.1))))) (Kd.zdk (by (with_reducible repeat (first | apply Kd.zbh | apply Kd.zbg | apply Kd.zbu)); exact (Kd.zx (Kd.zbb (p := ⟨gb160, 1, none⟩) (Kd.zbb (p := ⟨gb160, 0, none⟩) (Kd.zb8 HO159.out BK160.out (by decide)) (fun _ hk => hk.2) (.slice Ao31 t154.length co31)) (fun _ hk => hk.2) (.slice Ao33 t157.length co33)) (fun _ h_ => h_.1))))) (zg (Zq8 HB GE160))); have n6_ := za.mk (zbm (g := gb160) (o := .cells #[.slice Ao31 t154.length co31, .slice Ao33 t157.length co33] 28 (0, 0)) (by (with_reducible repeat (first | refine zm ?_ _ | refine zy ?_ | refine zn ?_ _)); refine zb1 (cs := #[.slice Ao31 t154.length co31, .slice none 0 0]) ?_ 1 _ rfl; (with_reducible repeat (first | refine zm ?_ _ | refine zy ?_ | refine zn ?_ _)); refine zb1 (cs := #[.slice none 0 0, .slice none 0 0]) ?_ 0 _ rfl; (with_reducible repeat (first | refine zm ?_ _ | refine zy ?_ | refine zn ?_ _)); exact BK160.out) hb); have n7_ := za.mk (zf (Zq8 HB GE160) hb); clear HO141; clear HO153; clear HO156; clear HO159; clear BK160; clear HB; have HO141 := n0_; have HO153 := n1_; have HO156 := n2_; have HO159 := n3_; have HO163 := n4_; have HO166 := n5_; have BK160 := n6_; have HB := n7_; clear n0_ n1_ n2_ n3_ n4_ n5_ n6_ n7_; (try clear hb); (try clear hb2); (try clear hk); (try clear hi); (try clear ho0); (try clear ho1)) | ((with_reducible refine zbk (N := 6) rfl ?_); (try (refine zbc (by rfl) ?_; dsimp only)); refine zcv ?hg (N := 6) ?hd (cs := #[.slice none 0 0, .slice none 0 0]) (t := 28) ?hr ?_; (case hd => rfl); (case hg => rfl); (case hr => first | (go_simp; done) | (go_simp; rfl)); intro gb167 hg w35 hbox hb; have n0_ := za.mk (Kd.zby (Zq7 HO141) hb); have n1_ := za.mk (Kd.zcj (Kd.zc5 (Zq9 HO153) gb167 (Nat.le_of_eq hg.symm)) hb); have n2_ := za.mk (Kd.zu (Kd.zci (Zq10 HO156) gb167 (Nat.le_of_eq hg.symm)) hb); have n3_ := za.mk (Kd.zu (Zq10 HO159) hb); have n4_ := za.mk (Kd.zu (Kd.zci (Zq10 HO163) gb167 (Nat.le_of_eq hg.symm)) hb); have n5_ := za.mk (Kd.zu (Zq10 HO166) hb); have n6_ := za.mk (zbm (g := gb160) (o := .cells #[.slice Ao31 t154.length co31, .slice Ao33 t157.length co33] 28 (0, 0)) (Zq11 BK160) hb); have n7_ := za.mk (zf (Zq8 HB GE160) hb); have n8_ := za.mk (hbox); have n9_ := za.mk ((by rw [hg]; exact (zg (Zq8 HB GE160)) : w.heap.size ≤ gb167)); have n10_ := za.mk ((by rw [hg]; exact (zg (Zq8 HB GE160)) : w.heap.size ≤ gb167)); have n11_ := za.mk ((by rw [hg]; exact Nat.ne_of_lt (zda (g := gb160) (o := .cells #[.slice Ao31 t154.length co31, .slice Ao33 t157.length co33] 28 (0, 0)) (Zq11 BK160)) : gb160 ≠ gb167)); have n12_ := za.mk ((by rw [hg]; exact Nat.ne_of_gt (zda (g := gb160) (o := .cells #[.slice Ao31 t154.length co31, .slice Ao33 t157.length co33] 28 (0, 0)) (Zq11 BK160)) : gb167 ≠ gb160)); clear HO141; clear HO153; clear HO156; clear HO159; clear HO163; clear HO166; clear BK160; clear HB; have HO141 := n0_; have HO153 := n1_; have HO156 := n2_; have HO159 := n3_; have HO163 := n4_; have HO166 := n5_; have BK160 := n6_; have HB := n7_; have BK167 := n8_; have GW167 := n9_; have GE167 := n10_; have NB160_167 := n11_; have NB167_160 := n12_; clear n0_ n1_ n2_ n3_ n4_ n5_ n6_ n7_ n8_ n9_ n10_ n11_ n12_; clear hb hbox hg; obtain ⟨Ao36, co36, eo36⟩ := Kd.zcc HO163.out; subst eo36; have hnb37 := NB167_160.out; have hnc37 := NB160_167.out; have hcz38_0 : w35.cell? ⟨gb167, 0, none⟩ = some (.slice none 0 0) := (zba BK167.out 0).trans rfl; have hcz38_1 : w35.cell? ⟨gb167, 1, none⟩ = some (.slice none 0 0) := (zba BK167.out 1).trans rfl; have hfz38_0 := zw BK167.out 0; have hfz38_1 := zw BK167.out 1; obtain ⟨Ao39, co39, eo39⟩ := Kd.zcc HO166.out; subst eo39; have hcz40_0 : w35.cell? ⟨gb160, 0, none⟩ = some (.slice Ao31 t154.length co31) := (zba BK160.out 0).trans rfl; have hcz40_1 : w35.cell? ⟨gb160, 1, none⟩ = some (.slice Ao33 t157.length co33) := (zba BK160.out 1).trans rfl; have hfz40_0 := zw BK160.out 0; have hfz40_1 := zw BK160.out 1) | (go_at_call 17; (with_reducible refine (zb.calls k _ _ y139 _ _ y151 2 t168 _ ?side1 ?side2 ?side3 ?side4 A6.out).mono ?_); (case side1 => refine (Kd.zo (e := 3) (base := w.heap.size) (ok := fun k_ => (((((True ∧ some k_ ≠ (.slice Ao22 y142.length co22 : Value).ownBlock) ∧ some k_ ≠ (.slice Ao23 y145.length co23 : Value).ownBlock) ∧ some k_ ≠ (.slice Ao24 y148.length co24 : Value).ownBlock) ∧ some k_ ≠ (.slice Ao33 t157.length co33 : Value).ownBlock) ∧ some k_ ≠ (.slice Ao39 t164.length co39 : Value).ownBlock)) (n := y139.length) (c := co27) ?_).2.2; exact (by (with_reducible repeat (first | apply Kd.zb0 | apply Kd.zb2 | apply Kd.zce)); exact (Kd.zbl (Kd.zbz (p := ⟨gb167, 1, none⟩) (Kd.zbz (p := ⟨gb167, 0, none⟩) (Kd.zb5 HO141.out BK167.out (by decide)) (fun _ hk => hk.2) (.slice Ao36 t161.length co36)) (fun _ hk => hk.2) (.slice Ao39 t164.length co39)) (fun _ h_ => h_.1)))); (case side2 => exact (Kd.zo HO141.out).2.1); (case side3 => refine (Kd.zbq (e := 23) (base := w.heap.size) (ok := fun k_ => ((((((some k_ ≠ (.slice Ao27 y139.length co27 : Value).ownBlock ∧ some k_ ≠ (.slice Ao31 t154.length co31 : Value).ownBlock) ∧ some k_ ≠ (.slice Ao33 t157.length co33 : Value).ownBlock) ∧ k_ ≠ gb160) ∧ some k_ ≠ (.slice Ao36 t161.length co36 : Value).ownBlock) ∧ some k_ ≠ (.slice Ao39 t164.length co39 : Value).ownBlock) ∧ k_ ≠ gb167)) (n := y151.length) (c := co28) ?_).2.2; exact (by (with_reducible repeat (first | apply Kd.zcf | apply Kd.zcg | apply Kd.zcp)); exact (Kd.zbt (Kd.zch (p := ⟨gb167, 1, none⟩) (Kd.zch (p := ⟨gb167, 0, none⟩) (Kd.zbt HO153.out (fun k_ hk => (⟨hk, hk.2⟩ : _ ∧ k_ ≠ gb167))) (fun _ hk => hk.2) (.slice Ao36 t161.length co36)) (fun _ hk => hk.2) (.slice Ao39 t164.length co39)) (fun _ h_ => h_.1)))); (case side4 => exact (Kd.zbq HO153.out).2.1); rintro e w41 ⟨rfl, hb⟩; have n0_ := za.mk (Kd.zby (by (with_reducible repeat (first | apply Kd.zb0 | apply Kd.zb2 | apply Kd.zce)); exact (Kd.zbl (Kd.zbz (p := ⟨gb167, 1, none⟩) (Kd.zbz (p := ⟨gb167, 0, none⟩) (Kd.zb5 HO141.out BK167.out (by decide)) (fun _ hk => hk.2) (.slice Ao36 t161.length co36)) (fun _ hk => hk.2) (.slice Ao39 t164.length co39)) (fun _ h_ => h_.1))) hb); have n1_ := za.mk (Kd.zcj (by (with_reducible repeat (first | apply Kd.zcf | apply Kd.zcg | apply Kd.zcp)); exact (Kd.zbt (Kd.zch (p := ⟨gb167, 1, none⟩) (Kd.zch (p := ⟨gb167, 0, none⟩) (Kd.zbt HO153.out (fun k_ hk => (⟨hk, hk.2⟩ : _ ∧ k_ ≠ gb167))) (fun _ hk => hk.2) (.slice Ao36 t161.length co36)) (fun _ hk => hk.2) (.slice Ao39 t164.length co39)) (fun _ h_ => h_.1))) hb); have n2_ := za.mk (Kd.zu (by (with_reducible repeat (first | apply Kd.zbh | apply Kd.zbg | apply Kd.zbu)); exact (Kd.zx (Kd.zbb (p := ⟨gb167, 1, none⟩) (Kd.zbb (p := ⟨gb167, 0, none⟩) (Kd.zx HO156.out (fun k_ hk => (⟨hk, hk.2⟩ : _ ∧ k_ ≠ gb167))) (fun _ hk => hk.2) (.slice Ao36 t161.length co36)) (fun _ hk => hk.2) (.slice Ao39 t164.length co39)) (fun _ h_ => h_.1))) hb); have n3_ := za.mk (Kd.zu (by (with_reducible repeat (first | apply Kd.zbh | apply Kd.zbg | apply Kd.zbu)); exact (Kd.zx (Kd.zbb (p := ⟨gb167, 1, none⟩) (Kd.zbb (p := ⟨gb167, 0, none⟩) (Kd.zb8 HO159.out BK167.out (by decide)) (fun _ hk => hk.2) (.slice Ao36 t161.length co36)) (fun _ hk => hk.2) (.slice Ao39 t164.length co39)) (fun _ h_ => h_.1))) hb); have n4_ := za.mk (Kd.zu (by (with_reducible repeat (first | apply Kd.zbh | apply Kd.zbg | apply Kd.zbu)); exact (Kd.zx (Kd.zbb (p := ⟨gb167, 1, none⟩) (Kd.zbb (p := ⟨gb167, 0, none⟩) (Kd.zx HO163.out (fun k_ hk => (⟨hk, hk.2⟩ : _ ∧ k_ ≠ gb167))) (fun _ hk => hk.2) (.slice Ao36 t161.length co36)) (fun _ hk => hk.2) (.slice Ao39 t164.length co39)) (fun _ h_ => h_.1))) hb); have n5_ := za.mk (Kd.zu (by (with_reducible repeat (first | apply Kd.zbh | apply Kd.zbg | apply Kd.zbu)); exact (Kd.zx (Kd.zbb (p := ⟨gb167, 1, none⟩) (Kd.zbb (p := ⟨gb167, 0, none⟩) (Kd.zb8 HO166.out BK167.out (by decide)) (fun _ hk => hk.2) (.slice Ao36 t161.length co36)) (fun _ hk => hk.2) (.slice Ao39 t164.length co39)) (fun _ h_ => h_.1))) hb); have n6_ := za.mk (zbm (g := gb160) (o := .cells #[.slice Ao31 t154.length co31, .slice Ao33 t157.length co33] 28 (0, 0)) (by (with_reducible repeat (first | refine zm ?_ _ | refine zy ?_ | refine zn ?_ _)); refine zdh ?_ NB160_167.out _; (with_reducible repeat (first | refine zm ?_ _ | refine zy ?_ | refine zn ?_ _)); refine zdh ?_ NB160_167.out _; (with_reducible repeat (first | refine zm ?_ _ | refine zy ?_ | refine zn ?_ _)); exact BK160.out) hb); have n7_ := za.mk (zbm (g := gb167) (o := .cells #[.slice Ao36 t161.length co36, .slice Ao39 t164.length co39] 28 (0, 0)) (by (with_reducible repeat (first | refine zm ?_ _ | refine zy ?_ | refine zn ?_ _)); refine zb1 (cs := #[.slice Ao36 t161.length co36, .slice none 0 0]) ?_ 1 _ rfl; (with_reducible repeat (first | refine zm ?_ _ | refine zy ?_ | refine zn ?_ _)); refine zb1 (cs := #[.slice none 0 0, .slice none 0 0]) ?_ 0 _ rfl; (with_reducible repeat (first | refine zm ?_ _ | refine zy ?_ | refine zn ?_ _)); exact BK167.out) hb); have n8_ := za.mk (zf (Zq12 HB GE160 GE167) hb); clear HO141; clear HO153; clear HO156; clear HO159; clear HO163; clear HO166; clear BK160; clear BK167; clear HB; have HO141 := n0_; have HO153 := n1_; have HO156 := n2_; have HO159 := n3_; have HO163 := n4_; have HO166 := n5_; have BK160 := n6_; have BK167 := n7_; have HB := n8_; clear n0_ n1_ n2_ n3_ n4_ n5_ n6_ n7_ n8_; (try clear hb); (try clear hb2); (try clear hk); (try clear hi); have hcz42_0 : w41.cell? ⟨gb167, 0, none⟩ = some (.slice Ao36 t161.length co36) := (zba BK167.out 0).trans rfl; have hcz42_1 : w41.cell? ⟨gb167, 1, none⟩ = some (.slice Ao39 t164.length co39) := (zba BK167.out 1).trans rfl; have hfz42_0 := zw BK167.out 0; have hfz42_1 := zw BK167.out 1) | (go_at_call 17; (with_reducible refine (zb.calls k _ _ y139 _ _ y151 3 t169 _ ?side1 ?side2 ?side3 ?side4 A9.out).mono ?_); (case side1 => exact Zq4 ((Kd.zo HO141.out).2.2)); (case side2 => exact (Kd.zo HO141.out).2.1); (case side3 => exact Zq4 ((Kd.zbq HO153.out).2.2)); (case side4 => exact (Kd.zbq HO153.out).2.1); rintro e w43 ⟨rfl, hb⟩; have n0_ := za.mk (Kd.zby (Zq7 HO141) hb); have n1_ := za.mk (Kd.zcj (Zq9 HO153) hb); have n2_ := za.mk (Kd.zu (Zq10 HO156) hb); have n3_ := za.mk (Kd.zu (Zq10 HO159) hb); have n4_ := za.mk (Kd.zu (Zq10 HO163) hb); have n5_ := za.mk (Kd.zu (Zq10 HO166) hb); have n6_ := za.mk (zbm (g := gb160) (o := .cells #[.slice Ao31 t154.length co31, .slice Ao33 t157.length co33] 28 (0, 0)) (Zq11 BK160) hb); have n7_ := za.mk (zbm (g := gb167) (o := .cells #[.slice Ao36 t161.length co36, .slice Ao39 t164.length co39] 28 (0, 0)) (Zq11 BK167) hb); have n8_ := za.mk (zf (Zq12 HB GE160 GE167) hb); clear HO141; clear HO153; clear HO156; clear HO159; clear HO163; clear HO166; clear BK160; clear BK167; clear HB; have HO141 := n0_; have HO153 := n1_; have HO156 := n2_; have HO159 := n3_; have HO163 := n4_; have HO166 := n5_; have BK160 := n6_; have BK167 := n7_; have HB := n8_; clear n0_ n1_ n2_ n3_ n4_ n5_ n6_ n7_ n8_; (try clear hb); (try clear hb2); (try clear hk); (try clear hi)) | (go_at_call 19; (with_reducible refine (zbj.calls k _ _ y139 _ _ y151 t170 _ ?side1 ?side2 ?side3 ?side4 A11.out).mono ?_); (case side1 => exact Zq4 ((Kd.zo HO141.out).2.2)); (case side2 => exact (Kd.zo HO141.out).2.1); (case side3 => exact Zq4 ((Kd.zbq HO153.out).2.2)); (case side4 => exact (Kd.zbq HO153.out).2.1); rintro e w44 ⟨rfl, hb⟩; have n0_ := za.mk (Kd.zby (Zq7 HO141) hb); have n1_ := za.mk (Kd.zcj (Zq9 HO153) hb); have n2_ := za.mk (Kd.zu (Zq10 HO156) hb); have n3_ := za.mk (Kd.zu (Zq10 HO159) hb); have n4_ := za.mk (Kd.zu (Zq10 HO163) hb); have n5_ := za.mk (Kd.zu (Zq10 HO166) hb); have n6_ := za.mk (zbm (g := gb160) (o := .cells #[.slice Ao31 t154.length co31, .slice Ao33 t157.length co33] 28 (0, 0)) (Zq11 BK160) hb); have n7_ := za.mk (zbm (g := gb167) (o := .cells #[.slice Ao36 t161.length co36, .slice Ao39 t164.length co39] 28 (0, 0)) (Zq11 BK167) hb); have n8_ := za.mk (zf (Zq12 HB GE160 GE167) hb); clear HO141; clear HO153; clear HO156; clear HO159; clear HO163; clear HO166; clear BK160; clear BK167; clear HB; have HO141 := n0_; have HO153 := n1_; have HO156 := n2_; have HO159 := n3_; have HO163 := n4_; have HO166 := n5_; have BK160 := n6_; have BK167 := n7_; have HB := n8_; clear n0_ n1_ n2_ n3_ n4_ n5_ n6_ n7_ n8_; (try clear hb); (try clear hb2); (try clear hk); (try clear hi); have hcz45_0 : w44.cell? ⟨gb167, 0, none⟩ = some (.slice Ao36 t161.length co36) := (zba BK167.out 0).trans rfl; have hcz45_1 : w44.cell? ⟨gb167, 1, none⟩ = some (.slice Ao39 t164.length co39) := (zba BK167.out 1).trans rfl; have hfz45_0 := zw BK167.out 0; have hfz45_1 := zw BK167.out 1) | ((with_reducible refine zbk (N := 52) rfl ?_); (try (refine zbc (by rfl) ?_; dsimp only)); refine Kd.zc9 (Kd.int .i64) _ 3 ?hg (N := 52) ?hd (xs := ([1, 5, 5, 5] : List Int)) (inner := [.int .i64 1, .int .i64 5, .int .i64 5, .int .i64 5]) (ok := fun _ => True) (okp := fun _ => True) ?hr ?hp (fun _ hk => hk) trivial (Below.refl _ _) (Nat.le_refl _) (by simp) ?_; (case hd => rfl); (case hg => rfl); (case hr => first | (go_simp; done) | (go_simp; rfl)); (case hp => exact (Reps.one (show Kd.M (Kd.int .i64) _ _ _ 1 [.int .i64 1] from rfl) (Reps.one (show Kd.M (Kd.int .i64) _ _ _ 5 [.int .i64 5] from rfl) (Reps.one (show Kd.M (Kd.int .i64) _ _ _ 5 [.int .i64 5] from rfl) (Reps.one (show Kd.M (Kd.int .i64) _ _ _ 5 [.int .i64 5] from rfl) (Reps.none _ _)))))); intro v172 w46 ho47 hb hg_ hnew_; clear hg_ hnew_; (first | rw [← Ny171.out] at ho47 | (simp only [Int.reduceToNat] at ho47; rw [← Ny171.out] at ho47)); have n0_ := za.mk (Kd.zbi (Zq7 HO141) (Kd.zca ho47) hb); have n1_ := za.mk (Kd.N_elder' (Zq9 HO153) (Kd.zca ho47) hb); have n2_ := za.mk (Kd.zc4 (Zq10 HO156) (Kd.zca ho47) hb); have n3_ := za.mk (Kd.zc4 (Zq10 HO159) (Kd.zca ho47) hb); have n4_ := za.mk (Kd.zc4 (Zq10 HO163) (Kd.zca ho47) hb); have n5_ := za.mk (Kd.zc4 (Zq10 HO166) (Kd.zca ho47) hb); have n6_ := za.mk (Kd.zb9 (Kd.zcd (Kd.zcd (Kd.zcd ho47 (Kd.R_lt (Zq7 HO141))) (Kd.zdk (Zq10 HO159))) (Kd.zdk (Zq10 HO166))) (zg (Zq12 HB GE160 GE167))); have n7_ := za.mk (zbm (g := gb160) (o := .cells #[.slice Ao31 t154.length co31, .slice Ao33 t157.length co33] 28 (0, 0)) (Zq11 BK160) hb); have n8_ := za.mk (zbm (g := gb167) (o := .cells #[.slice Ao36 t161.length co36, .slice Ao39 t164.length co39] 28 (0, 0)) (Zq11 BK167) hb); have n9_ := za.mk (zf (Zq12 HB GE160 GE167) hb); clear HO141; clear HO153; clear HO156; clear HO159; clear HO163; clear HO166; clear BK160; clear BK167; clear HB; have HO141 := n0_; have HO153 := n1_; have HO156 := n2_; have HO159 := n3_; have HO163 := n4_; have HO166 := n5_; have HO173 := n6_; have BK160 := n7_; have BK167 := n8_; have HB := n9_; clear n0_ n1_ n2_ n3_ n4_ n5_ n6_ n7_ n8_ n9_; clear hb ho47; obtain ⟨Ao48, co48, eo48⟩ := Kd.zb6 HO173.out; subst eo48) | (go_at_call 12; (with_reducible refine (zbe.calls k _ _ t164 _ _ y171 t174 _ ?side1 ?side2 ?side3 ?side4 A13.out).mono ?_); (case side1 => exact Zq4 ((Kd.zeg HO166.out).2.2)); (case side2 => exact (Kd.zeg HO166.out).2.1); (case side3 => exact Zq4 ((Kd.zo HO173.out).2.2)); (case side4 => exact (Kd.zo HO173.out).2.1); rintro e w' ⟨rfl, ⟨nd, rfl⟩⟩))
       go_ret;exact ⟨by first | rfl | (simp [zbn, zbo] <;> rfl) | (simp [*, zbn, zbo] <;> rfl), Zq12 HB GE160 GE167⟩
      ·rw [if_neg c12] at H
       have c12b0 : (t170 == 5) = false := beq_eq_false_iff_ne.mpr c12;have c12b1 : (t170 != 5) = true := bne_iff_ne.mpr c12;obtain rfl := Option.some.inj H;go_enter Try.func7, Try.ntmps7
       go_wp2_with (first | ((with_reducible refine zbk (N := 10) rfl ?_); (try (refine zbc (by rfl) ?_; dsimp only)); refine Kd.zc9 (Kd.int .i64) _ 3 ?hg (N := 10) ?hd (xs := ([1, 4, 4, 4] : List Int)) (inner := [.int .i64 1, .int .i64 4, .int .i64 4, .int .i64 4]) (ok := fun _ => True) (okp := fun _ => True) ?hr ?hp (fun _ hk => hk) trivial (Below.refl _ _) (Nat.le_refl _) (by simp) ?_; (case hd => rfl); (case hg => rfl); (case hr => first | (go_simp; done) | (go_simp; rfl)); (case hp => exact (Reps.one (show Kd.M (Kd.int .i64) _ _ _ 1 [.int .i64 1] from rfl) (Reps.one (show Kd.M (Kd.int .i64) _ _ _ 4 [.int .i64 4] from rfl) (Reps.one (show Kd.M (Kd.int .i64) _ _ _ 4 [.int .i64 4] from rfl) (Reps.one (show Kd.M (Kd.int .i64) _ _ _ 4 [.int .i64 4] from rfl) (Reps.none _ _)))))); intro v140 w49 ho50 hb hg_ hnew_; clear hg_ hnew_; (first | rw [← Ny139.out] at ho50 | (simp only [Int.reduceToNat] at ho50; rw [← Ny139.out] at ho50)); have n0_ := za.mk (Kd.zb9 ho50 (zg (Zq2 HB))); have n1_ := za.mk (zf (Zq2 HB) hb); clear HB; have HO141 := n0_; have HB := n1_; clear n0_ n1_; clear hb ho50) | ((with_reducible refine zbk (N := 11) rfl ?_); (try (refine zbc (by rfl) ?_; dsimp only)); refine Kd.zc9 (Kd.int .i64) _ 3 ?hg (N := 11) ?hd (xs := ([0, 1] : List Int)) (inner := [.int .i64 0, .int .i64 1]) (ok := fun _ => True) (okp := fun _ => True) ?hr ?hp (fun _ hk => hk) trivial (Below.refl _ _) (Nat.le_refl _) (by simp) ?_; (case hd => rfl); (case hg => rfl); (case hr => first | (go_simp; done) | (go_simp; rfl)); (case hp => exact (Reps.one (show Kd.M (Kd.int .i64) _ _ _ 0 [.int .i64 0] from rfl) (Reps.one (show Kd.M (Kd.int .i64) _ _ _ 1 [.int .i64 1] from rfl) (Reps.none _ _)))); intro v143 w51 ho52 hb hg_ hnew_; clear hg_ hnew_; (first | rw [← Ny142.out] at ho52 | (simp only [Int.reduceToNat] at ho52; rw [← Ny142.out] at ho52)); have n0_ := za.mk (Kd.zbi (Zq7 HO141) (Kd.zca ho52) hb); have n1_ := za.mk (Kd.zb9 (Kd.zcd ho52 (Kd.R_lt (Zq7 HO141))) (zg (Zq2 HB))); have n2_ := za.mk (zf (Zq2 HB) hb); clear HO141; clear HB; have HO141 := n0_; have HO144 := n1_; have HB := n2_; clear n0_ n1_ n2_; clear hb ho52) | ((with_reducible refine zbk (N := 12) rfl ?_); (try (refine zbc (by rfl) ?_; dsimp only)); refine Kd.zc9 (Kd.int .i64) _ 3 ?hg (N := 12) ?hd (xs := ([0, 2] : List Int)) (inner := [.int .i64 0, .int .i64 2]) (ok := fun _ => True) (okp := fun _ => True) ?hr ?hp (fun _ hk => hk) trivial (Below.refl _ _) (Nat.le_refl _) (by simp) ?_; (case hd => rfl); (case hg => rfl); (case hr => first | (go_simp; done) | (go_simp; rfl)); (case hp => exact (Reps.one (show Kd.M (Kd.int .i64) _ _ _ 0 [.int .i64 0] from rfl) (Reps.one (show Kd.M (Kd.int .i64) _ _ _ 2 [.int .i64 2] from rfl) (Reps.none _ _)))); intro v146 w53 ho54 hb hg_ hnew_; clear hg_ hnew_; (first | rw [← Ny145.out] at ho54 | (simp only [Int.reduceToNat] at ho54; rw [← Ny145.out] at ho54)); have n0_ := za.mk (Kd.zbi (Zq7 HO141) (Kd.zca ho54) hb); have n1_ := za.mk (Kd.zbi (Zq7 HO144) (Kd.zca ho54) hb); have n2_ := za.mk (Kd.zb9 (Kd.zcd (Kd.zcd ho54 (Kd.R_lt (Zq7 HO141))) (Kd.R_lt (Zq7 HO144))) (zg (Zq2 HB))); have n3_ := za.mk (zf (Zq2 HB) hb); clear HO141; clear HO144; clear HB; have HO141 := n0_; have HO144 := n1_; have HO147 := n2_; have HB := n3_; clear n0_ n1_ n2_ n3_; clear hb ho54) | ((with_reducible refine zbk (N := 13) rfl ?_); (try (refine zbc (by rfl) ?_; dsimp only)); refine Kd.zc9 (Kd.int .i64) _ 3 ?hg (N := 13) ?hd (xs := ([0, 3] : List Int)) (inner := [.int .i64 0, .int .i64 3]) (ok := fun _ => True) (okp := fun _ => True) ?hr ?hp (fun _ hk => hk) trivial (Below.refl _ _) (Nat.le_refl _) (by simp) ?_; (case hd => rfl); (case hg => rfl); (case hr => first | (go_simp; done) | (go_simp; rfl)); (case hp => exact (Reps.one (show Kd.M (Kd.int .i64) _ _ _ 0 [.int .i64 0] from rfl) (Reps.one (show Kd.M (Kd.int .i64) _ _ _ 3 [.int .i64 3] from rfl) (Reps.none _ _)))); intro v149 w55 ho56 hb hg_ hnew_; clear hg_ hnew_; (first | rw [← Ny148.out] at ho56 | (simp only [Int.reduceToNat] at ho56; rw [← Ny148.out] at ho56)); have n0_ := za.mk (Kd.zbi (Zq7 HO141) (Kd.zca ho56) hb); have n1_ := za.mk (Kd.zbi (Zq7 HO144) (Kd.zca ho56) hb); have n2_ := za.mk (Kd.zbi (Zq7 HO147) (Kd.zca ho56) hb); have n3_ := za.mk (Kd.zb9 (Kd.zcd (Kd.zcd (Kd.zcd ho56 (Kd.R_lt (Zq7 HO141))) (Kd.R_lt (Zq7 HO144))) (Kd.R_lt (Zq7 HO147))) (zg (Zq2 HB))); have n4_ := za.mk (zf (Zq2 HB) hb); clear HO141; clear HO144; clear HO147; clear HB; have HO141 := n0_; have HO144 := n1_; have HO147 := n2_; have HO150 := n3_; have HB := n4_; clear n0_ n1_ n2_ n3_ n4_; clear hb ho56; obtain ⟨Ao57, co57, eo57⟩ := Kd.zb6 HO144.out; subst eo57; obtain ⟨Ao58, co58, eo58⟩ := Kd.zb6 HO147.out; subst eo58; obtain ⟨Ao59, co59, eo59⟩ := Kd.zb6 HO150.out; subst eo59) | ((with_reducible refine zbk (N := 14) rfl ?_); (try (refine zbc (by rfl) ?_; dsimp only)); refine Kd.N_lit (Kd.slice 3 (Kd.int .i64)) _ 23 ?hg (N' := 14) ?hd (xs := ([y142, y145, y148] : List (List Int))) (inner := [.slice Ao57 y142.length co57, .slice Ao58 y145.length co58, .slice Ao59 y148.length co59]) (ok := (fun k_ => some k_ ≠ (v140 : Value).ownBlock)) (okp := (fun k_ => some k_ ≠ (v140 : Value).ownBlock)) ?hr ?hp (fun _ hk => hk) ((show ∀ k_, w55.heap.size ≤ k_ → (fun k_ => some k_ ≠ (v140 : Value).ownBlock) k_ from fun k_ hk => Kd.fresh' (Kd.R_lt (Zq7 HO141)) k_ hk) _ (Nat.le_refl _)) (Below.refl _ _) (Nat.le_refl _) (by simp) ?_; (case hd => rfl); (case hg => rfl); (case hr => first | (go_simp; done) | (go_simp; rfl)); (case hp => exact (Reps.one (show Kd.FK (Kd.slice 3 (Kd.int .i64)) _ _ y142 [.slice Ao57 y142.length co57] from (Kd.zb3 (Kd.zo (Kd.zbl (ok' := (fun k_ => some k_ ≠ (v140 : Value).ownBlock)) (HO144.out) (fun k_ hk => hk.1.1.2))).2.1 (Kd.R_F (Kd.zbl (ok' := (fun k_ => some k_ ≠ (v140 : Value).ownBlock)) (HO144.out) (fun k_ hk => hk.1.1.2))))) (Reps.one (show Kd.FK (Kd.slice 3 (Kd.int .i64)) _ _ y145 [.slice Ao58 y145.length co58] from (Kd.zb3 (Kd.zo (Kd.zbl (ok' := (fun k_ => some k_ ≠ (v140 : Value).ownBlock)) (HO147.out) (fun k_ hk => hk.1.1.2))).2.1 (Kd.R_F (Kd.zbl (ok' := (fun k_ => some k_ ≠ (v140 : Value).ownBlock)) (HO147.out) (fun k_ hk => hk.1.1.2))))) (Reps.one (show Kd.FK (Kd.slice 3 (Kd.int .i64)) _ _ y148 [.slice Ao59 y148.length co59] from (Kd.zb3 (Kd.zo (Kd.zbl (ok' := (fun k_ => some k_ ≠ (v140 : Value).ownBlock)) (HO150.out) (fun k_ hk => hk.1.1.2))).2.1 (Kd.R_F (Kd.zbl (ok' := (fun k_ => some k_ ≠ (v140 : Value).ownBlock)) (HO150.out) (fun k_ hk => hk.1.1.2))))) (Reps.none _ _))))); intro v152 w60 ho61 hb hg_ hnew_; clear hg_ hnew_; (first | rw [← Ny151.out] at ho61 | (simp only [Int.reduceToNat] at ho61; rw [← Ny151.out] at ho61)); have n0_ := za.mk (Kd.zby (Zq7 HO141) hb); have n1_ := za.mk (Kd.zem ho61 (zg (Zq2 HB))); have n2_ := za.mk (zf (Zq2 HB) hb); clear HO141; clear HB; clear HO144; clear HO147; clear HO150; have HO141 := n0_; have HO153 := n1_; have HB := n2_; clear n0_ n1_ n2_; clear hb ho61; obtain ⟨Ao62, co62, eo62⟩ := Kd.zb6 HO141.out; subst eo62; obtain ⟨Ao63, co63, eo63⟩ := Kd.zen HO153.out; subst eo63) | ((with_reducible refine zbw (f := 9) rfl ?_); refine zc0 (some 17) rfl rfl Try.func9 (by kernel_rfl) rfl #[.slice Ao62 y139.length co62, .slice Ao63 y151.length co63, .int .i64 2] rfl Zmt ?_; (with_reducible refine (zh.calls k _ _ y139 _ _ y151 2 t154 t157 _ ?side1 ?side2 ?side3 ?side4 A3.out).mono ?_); (case side1 => exact Zq4 ((Kd.zo HO141.out).2.2)); (case side2 => exact (Kd.zo HO141.out).2.1); (case side3 => exact Zq4 ((Kd.zbq HO153.out).2.2)); (case side4 => exact (Kd.zbq HO153.out).2.1); rintro e w64 ⟨v155, v158, rfl, ho0, ho1, hb⟩; refine ⟨_, rfl, ?_⟩; have n0_ := za.mk (Kd.zbi (Zq7 HO141) (Kd.zbp ho1) hb); have n1_ := za.mk (Kd.zbt (Kd.zcy (Kd.zcy (Kd.zer (Zq9 HO153) hb) (Kd.zbp ho0)) (Kd.zbp ho1)) (fun _ h_ => h_.1)); have n2_ := za.mk (Kd.zb7 (Kd.zx (ok' := fun k_ => some k_ ≠ (v158 : Value).ownBlock ∧ some k_ ≠ (.slice Ao62 y139.length co62 : Value).ownBlock ∧ some k_ ≠ (.slice Ao63 y151.length co63 : Value).ownBlock) (Kd.zdm ho0) (fun k_ hk_ => ⟨hk_.1, (Kd.fresh' (Kd.R_lt (Zq7 HO141)) k_ hk_.2.1), (Kd.fresh' (Kd.N_lt (Zq9 HO153)) k_ hk_.2.1)⟩)) (zg (Zq2 HB))); have n3_ := za.mk (Kd.zb7 (Kd.zcw ho1 (Kd.R_lt (Zq7 HO141))) (zg (Zq2 HB))); have n4_ := za.mk (zf (Zq2 HB) hb); clear HO141; clear HO153; clear HB; have HO141 := n0_; have HO153 := n1_; have HO156 := n2_; have HO159 := n3_; have HB := n4_; clear n0_ n1_ n2_ n3_ n4_; (try clear hb); (try clear hb2); (try clear hk); (try clear hi); (try clear ho0); (try clear ho1)) | ((with_reducible refine zbk (N := 5) rfl ?_); (try (refine zbc (by rfl) ?_; dsimp only)); refine zcv ?hg (N := 5) ?hd (cs := #[.slice none 0 0, .slice none 0 0]) (t := 28) ?hr ?_; (case hd => rfl); (case hg => rfl); (case hr => first | (go_simp; done) | (go_simp; rfl)); intro gb160 hg w65 hbox hb; have n0_ := za.mk (Kd.zby (Zq7 HO141) hb); have n1_ := za.mk (Kd.zcj (Kd.zc5 (Zq9 HO153) gb160 (Nat.le_of_eq hg.symm)) hb); have n2_ := za.mk (Kd.zu (Kd.zci (Zq10 HO156) gb160 (Nat.le_of_eq hg.symm)) hb); have n3_ := za.mk (Kd.zu (Zq10 HO159) hb); have n4_ := za.mk (zf (Zq2 HB) hb); have n5_ := za.mk (hbox); have n6_ := za.mk ((by rw [hg]; exact (zg (Zq2 HB)) : w.heap.size ≤ gb160)); have n7_ := za.mk ((by rw [hg]; exact (zg (Zq2 HB)) : w.heap.size ≤ gb160)); clear HO141; clear HO153; clear HO156; clear HO159; clear HB; have HO141 := n0_; have HO153 := n1_; have HO156 := n2_; have HO159 := n3_; have HB := n4_; have BK160 := n5_; have GW160 := n6_; have GE160 := n7_; clear n0_ n1_ n2_ n3_ n4_ n5_ n6_ n7_; clear hb hbox hg; obtain ⟨Ao66, co66, eo66⟩ := Kd.zcc HO156.out; subst eo66; have hcz67_0 : w65.cell? ⟨gb160, 0, none⟩ = some (.slice none 0 0) := (zba BK160.out 0).trans rfl; have hcz67_1 : w65.cell? ⟨gb160, 1, none⟩ = some (.slice none 0 0) := (zba BK160.out 1).trans rfl; have hfz67_0 := zw BK160.out 0; have hfz67_1 := zw BK160.out 1; obtain ⟨Ao68, co68, eo68⟩ := Kd.zcc HO159.out; subst eo68) | ((with_reducible refine zbw (f := 9) rfl ?_); refine zc0 (some 20) rfl rfl Try.func9 (by kernel_rfl) rfl #[.slice Ao62 y139.length co62, .slice Ao63 y151.length co63, .int .i64 3] rfl Zmt ?_; (with_reducible refine (zh.calls k _ _ y139 _ _ y151 3 t161 t164 _ ?side1 ?side2 ?side3 ?side4 A4.out).mono ?_); (case side1 => refine (Kd.zo (e := 3) (base := w.heap.size) (ok := fun k_ => ((((True ∧ some k_ ≠ (.slice Ao57 y142.length co57 : Value).ownBlock) ∧ some k_ ≠ (.slice Ao58 y145.length co58 : Value).ownBlock) ∧ some k_ ≠ (.slice Ao59 y148.length co59 : Value).ownBlock) ∧ some k_ ≠ (.slice Ao68 t157.length co68 : Value).ownBlock)) (n := y139.length) (c := co62) ?_).2.2; exact (by (with_reducible repeat (first | apply Kd.zb0 | apply Kd.zb2 | apply Kd.zce)); exact (Kd.zbl (Kd.zbz (p := ⟨gb160, 1, none⟩) (Kd.zbz (p := ⟨gb160, 0, none⟩) (Kd.zb5 HO141.out BK160.out (by decide)) (fun _ hk => hk.2) (.slice Ao66 t154.length co66)) (fun _ hk => hk.2) (.slice Ao68 t157.length co68)) (fun _ h_ => h_.1)))); (case side2 => exact (Kd.zo HO141.out).2.1); (case side3 => refine (Kd.zbq (e := 23) (base := w.heap.size) (ok := fun k_ => (((some k_ ≠ (.slice Ao62 y139.length co62 : Value).ownBlock ∧ some k_ ≠ (.slice Ao66 t154.length co66 : Value).ownBlock) ∧ some k_ ≠ (.slice Ao68 t157.length co68 : Value).ownBlock) ∧ k_ ≠ gb160)) (n := y151.length) (c := co63) ?_).2.2; exact (by (with_reducible repeat (first | apply Kd.zcf | apply Kd.zcg | apply Kd.zcp)); exact (Kd.zbt (Kd.zch (p := ⟨gb160, 1, none⟩) (Kd.zch (p := ⟨gb160, 0, none⟩) (Kd.zbt HO153.out (fun k_ hk => (⟨hk, hk.2⟩ : _ ∧ k_ ≠ gb160))) (fun _ hk => hk.2) (.slice Ao66 t154.length co66)) (fun _ hk => hk.2) (.slice Ao68 t157.length co68)) (fun _ h_ => h_.1)))); (case side4 => exact (Kd.zbq HO153.out).2.1); rintro e w69 ⟨v162, v165, rfl, ho0, ho1, hb⟩; refine ⟨_, rfl, ?_⟩; have n0_ := za.mk (Kd.zbi (by (with_reducible repeat (first | apply Kd.zb0 | apply Kd.zb2 | apply Kd.zce)); exact (Kd.zbl (Kd.zbz (p := ⟨gb160, 1, none⟩) (Kd.zbz (p := ⟨gb160, 0, none⟩) (Kd.zb5 HO141.out BK160.out (by decide)) (fun _ hk => hk.2) (.slice Ao66 t154.length co66)) (fun _ hk => hk.2) (.slice Ao68 t157.length co68)) (fun _ h_ => h_.1))) (Kd.zbp ho1) hb); have n1_ := za.mk (Kd.zbt (Kd.zcy (Kd.zcy (Kd.zer (by (with_reducible repeat (first | apply Kd.zcf | apply Kd.zcg | apply Kd.zcp)); exact (Kd.zbt (Kd.zch (p := ⟨gb160, 1, none⟩) (Kd.zch (p := ⟨gb160, 0, none⟩) (Kd.zbt HO153.out (fun k_ hk => (⟨hk, hk.2⟩ : _ ∧ k_ ≠ gb160))) (fun _ hk => hk.2) (.slice Ao66 t154.length co66)) (fun _ hk => hk.2) (.slice Ao68 t157.length co68)) (fun _ h_ => h_.1))) hb) (Kd.zbp ho0)) (Kd.zbp ho1)) (fun _ h_ => h_.1)); have n2_ := za.mk (Kd.zx (Kd.zde (Kd.zde (Kd.zfs (by (with_reducible repeat (first | apply Kd.zbh | apply Kd.zbg | apply Kd.zbu)); exact (Kd.zx (Kd.zbb (p := ⟨gb160, 1, none⟩) (Kd.zbb (p := ⟨gb160, 0, none⟩) (Kd.zx HO156.out (fun k_ hk => (⟨hk, hk.2⟩ : _ ∧ k_ ≠ gb160))) (fun _ hk => hk.2) (.slice Ao66 t154.length co66)) (fun _ hk => hk.2) (.slice Ao68 t157.length co68)) (fun _ h_ => h_.1))) hb) (Kd.zbp ho0)) (Kd.zbp ho1)) (fun _ h_ => h_.1)); have n3_ := za.mk (Kd.zc4 (by (with_reducible repeat (first | apply Kd.zbh | apply Kd.zbg | apply Kd.zbu)); exact (Kd.zx (Kd.zbb (p := ⟨gb160, 1, none⟩) (Kd.zbb (p := ⟨gb160, 0, none⟩) (Kd.zb8 HO159.out BK160.out (by decide)) (fun _ hk => hk.2) (.slice Ao66 t154.length co66)) (fun _ hk => hk.2) (.slice Ao68 t157.length co68)) (fun _ h_ => h_.1))) (Kd.zbp ho1) hb); have n4_ := za.mk (Kd.zb7 (Kd.zx (ok' := fun k_ => some k_ ≠ (v165 : Value).ownBlock ∧ some k_ ≠ (.slice Ao62 y139.length co62 : Value).ownBlock ∧ some k_ ≠ (.slice Ao63 y151.length co63 : Value).ownBlock ∧ some k_ ≠ (.slice Ao66 t154.length co66 : Value).ownBlock ∧ some k_ ≠ (.slice Ao68 t157.length co68 : Value).ownBlock ∧ k_ ≠ gb160) (Kd.zdm ho0) (fun k_ hk_ => ⟨hk_.1, (Kd.fresh' (Kd.R_lt (by (with_reducible repeat (first | apply Kd.zb0 | apply Kd.zb2 | apply Kd.zce)); exact (Kd.zbl (Kd.zbz (p := ⟨gb160, 1, none⟩) (Kd.zbz (p := ⟨gb160, 0, none⟩) (Kd.zb5 HO141.out BK160.out (by decide)) (fun _ hk => hk.2) (.slice Ao66 t154.length co66)) (fun _ hk => hk.2) (.slice Ao68 t157.length co68)) (fun _ h_ => h_.1)))) k_ hk_.2.1), (Kd.fresh' (Kd.N_lt (by (with_reducible repeat (first | apply Kd.zcf | apply Kd.zcg | apply Kd.zcp)); exact (Kd.zbt (Kd.zch (p := ⟨gb160, 1, none⟩) (Kd.zch (p := ⟨gb160, 0, none⟩) (Kd.zbt HO153.out (fun k_ hk => (⟨hk, hk.2⟩ : _ ∧ k_ ≠ gb160))) (fun _ hk => hk.2) (.slice Ao66 t154.length co66)) (fun _ hk => hk.2) (.slice Ao68 t157.length co68)) (fun _ h_ => h_.1)))) k_ hk_.2.1), (Kd.fresh' (Kd.zdk (by (with_reducible repeat (first | apply Kd.zbh | apply Kd.zbg | apply Kd.zbu)); exact (Kd.zx (Kd.zbb (p := ⟨gb160, 1, none⟩) (Kd.zbb (p := ⟨gb160, 0, none⟩) (Kd.zx HO156.out (fun k_ hk => (⟨hk, hk.2⟩ : _ ∧ k_ ≠ gb160))) (fun _ hk => hk.2) (.slice Ao66 t154.length co66)) (fun _ hk => hk.2) (.slice Ao68 t157.length co68)) (fun _ h_ => h_.1)))) k_ hk_.2.1), (Kd.fresh' (Kd.zdk (by (with_reducible repeat (first | apply Kd.zbh | apply Kd.zbg | apply Kd.zbu)); exact (Kd.zx (Kd.zbb (p := ⟨gb160, 1, none⟩) (Kd.zbb (p := ⟨gb160, 0, none⟩) (Kd.zb8 HO159.out BK160.out (by decide)) (fun _ hk => hk.2) (.slice Ao66 t154.length co66)) (fun _ hk => hk.2) (.slice Ao68 t157.length co68)) (fun _ h_ => h_.1)))) k_ hk_.2.1), (Kd.zfn (g := gb160) (o := .cells #[.slice Ao66 t154.length co66, .slice Ao68 t157.length co68] 28 (0, 0)) (by (with_reducible repeat (first | refine zm ?_ _ | refine zy ?_ | refine zn ?_ _)); refine zb1 (cs := #[.slice Ao66 t154.length co66, .slice none 0 0]) ?_ 1 _ rfl; (with_reducible repeat (first | refine zm ?_ _ | refine zy ?_ | refine zn ?_ _)); refine zb1 (cs := #[.slice none 0 0, .slice none 0 0]) ?_ 0 _ rfl; (with_reducible repeat (first | refine zm ?_ _ | refine zy ?_ | refine zn ?_ _)); exact BK160.out) k_ hk_.2.1)⟩)) (zg (Zq8 HB GE160))); have n5_ := za.mk (Kd.zb7 (Kd.zcw (Kd.zcw ho1 (Kd.R_lt (by (with_reducible repeat (first | apply Kd.zb0 | apply Kd.zb2 | apply Kd.zce)); exact (Kd.zbl (Kd.zbz (p := ⟨gb160, 1, none⟩) (Kd.zbz (p := ⟨gb160, 0, none⟩) (Kd.zb5 HO141.out BK160.out (by decide)) (fun _ hk => hk.2) (.slice Ao66 t154.length co66)) (fun _ hk => hk.2) (.slice Ao68 t157.length co68)) (fun _ h_ => h_.1))))) (Kd.zdk (by (with_reducible repeat (first | apply Kd.zbh | apply Kd.zbg | apply Kd.zbu)); exact (Kd.zx (Kd.zbb (p := ⟨gb160, 1, none⟩) (Kd.zbb (p := ⟨gb160, 0, none⟩) (Kd.zb8 HO159.out BK160.out (by decide)) (fun _ hk => hk.2) (.slice Ao66 t154.length co66)) (fun _ hk => hk.2) (.slice Ao68 t157.length co68)) (fun _ h_ => h_.1))))) (zg (Zq8 HB GE160))); have n6_ := za.mk (zbm (g := gb160) (o := .cells #[.slice Ao66 t154.length co66, .slice Ao68 t157.length co68] 28 (0, 0)) (by (with_reducible repeat (first | refine zm ?_ _ | refine zy ?_ | refine zn ?_ _)); refine zb1 (cs := #[.slice Ao66 t154.length co66, .slice none 0 0]) ?_ 1 _ rfl; (with_reducible repeat (first | refine zm ?_ _ | refine zy ?_ | refine zn ?_ _)); refine zb1 (cs := #[.slice none 0 0, .slice none 0 0]) ?_ 0 _ rfl; (with_reducible repeat (first | refine zm ?_ _ | refine zy ?_ | refine zn ?_ _)); exact BK160.out) hb); have n7_ := za.mk (zf (Zq8 HB GE160) hb); clear HO141; clear HO153; clear HO156; clear HO159; clear BK160; clear HB; have HO141 := n0_; have HO153 := n1_; have HO156 := n2_; have HO159 := n3_; have HO163 := n4_; have HO166 := n5_; have BK160 := n6_; have HB := n7_; clear n0_ n1_ n2_ n3_ n4_ n5_ n6_ n7_; (try clear hb); (try clear hb2); (try clear hk); (try clear hi); (try clear ho0); (try clear ho1)) | ((with_reducible refine zbk (N := 6) rfl ?_); (try (refine zbc (by rfl) ?_; dsimp only)); refine zcv ?hg (N := 6) ?hd (cs := #[.slice none 0 0, .slice none 0 0]) (t := 28) ?hr ?_; (case hd => rfl); (case hg => rfl); (case hr => first | (go_simp; done) | (go_simp; rfl)); intro gb167 hg w70 hbox hb; have n0_ := za.mk (Kd.zby (Zq7 HO141) hb); have n1_ := za.mk (Kd.zcj (Kd.zc5 (Zq9 HO153) gb167 (Nat.le_of_eq hg.symm)) hb); have n2_ := za.mk (Kd.zu (Kd.zci (Zq10 HO156) gb167 (Nat.le_of_eq hg.symm)) hb); have n3_ := za.mk (Kd.zu (Zq10 HO159) hb); have n4_ := za.mk (Kd.zu (Kd.zci (Zq10 HO163) gb167 (Nat.le_of_eq hg.symm)) hb); have n5_ := za.mk (Kd.zu (Zq10 HO166) hb); have n6_ := za.mk (zbm (g := gb160) (o := .cells #[.slice Ao66 t154.length co66, .slice Ao68 t157.length co68] 28 (0, 0)) (Zq11 BK160) hb); have n7_ := za.mk (zf (Zq8 HB GE160) hb); have n8_ := za.mk (hbox); have n9_ := za.mk ((by rw [hg]; exact (zg (Zq8 HB GE160)) : w.heap.size ≤ gb167)); have n10_ := za.mk ((by rw [hg]; exact (zg (Zq8 HB GE160)) : w.heap.size ≤ gb167)); have n11_ := za.mk ((by rw [hg]; exact Nat.ne_of_lt (zda (g := gb160) (o := .cells #[.slice Ao66 t154.length co66, .slice Ao68 t157.length co68] 28 (0, 0)) (Zq11 BK160)) : gb160 ≠ gb167)); have n12_ := za.mk ((by rw [hg]; exact Nat.ne_of_gt (zda (g := gb160) (o := .cells #[.slice Ao66 t154.length co66, .slice Ao68 t157.length co68] 28 (0, 0)) (Zq11 BK160)) : gb167 ≠ gb160)); clear HO141; clear HO153; clear HO156; clear HO159; clear HO163; clear HO166; clear BK160; clear HB; have HO141 := n0_; have HO153 := n1_; have HO156 := n2_; have HO159 := n3_; have HO163 := n4_; have HO166 := n5_; have BK160 := n6_; have HB := n7_; have BK167 := n8_; have GW167 := n9_; have GE167 := n10_; have NB160_167 := n11_; have NB167_160 := n12_; clear n0_ n1_ n2_ n3_ n4_ n5_ n6_ n7_ n8_ n9_ n10_ n11_ n12_; clear hb hbox hg; obtain ⟨Ao71, co71, eo71⟩ := Kd.zcc HO163.out; subst eo71; have hnb72 := NB167_160.out; have hnc72 := NB160_167.out; have hcz73_0 : w70.cell? ⟨gb167, 0, none⟩ = some (.slice none 0 0) := (zba BK167.out 0).trans rfl; have hcz73_1 : w70.cell? ⟨gb167, 1, none⟩ = some (.slice none 0 0) := (zba BK167.out 1).trans rfl; have hfz73_0 := zw BK167.out 0; have hfz73_1 := zw BK167.out 1; obtain ⟨Ao74, co74, eo74⟩ := Kd.zcc HO166.out; subst eo74; have hcz75_0 : w70.cell? ⟨gb160, 0, none⟩ = some (.slice Ao66 t154.length co66) := (zba BK160.out 0).trans rfl; have hcz75_1 : w70.cell? ⟨gb160, 1, none⟩ = some (.slice Ao68 t157.length co68) := (zba BK160.out 1).trans rfl; have hfz75_0 := zw BK160.out 0; have hfz75_1 := zw BK160.out 1) | (go_at_call 17; (with_reducible refine (zb.calls k _ _ y139 _ _ y151 2 t168 _ ?side1 ?side2 ?side3 ?side4 A6.out).mono ?_); (case side1 => refine (Kd.zo (e := 3) (base := w.heap.size) (ok := fun k_ => (((((True ∧ some k_ ≠ (.slice Ao57 y142.length co57 : Value).ownBlock) ∧ some k_ ≠ (.slice Ao58 y145.length co58 : Value).ownBlock) ∧ some k_ ≠ (.slice Ao59 y148.length co59 : Value).ownBlock) ∧ some k_ ≠ (.slice Ao68 t157.length co68 : Value).ownBlock) ∧ some k_ ≠ (.slice Ao74 t164.length co74 : Value).ownBlock)) (n := y139.length) (c := co62) ?_).2.2; exact (by (with_reducible repeat (first | apply Kd.zb0 | apply Kd.zb2 | apply Kd.zce)); exact (Kd.zbl (Kd.zbz (p := ⟨gb167, 1, none⟩) (Kd.zbz (p := ⟨gb167, 0, none⟩) (Kd.zb5 HO141.out BK167.out (by decide)) (fun _ hk => hk.2) (.slice Ao71 t161.length co71)) (fun _ hk => hk.2) (.slice Ao74 t164.length co74)) (fun _ h_ => h_.1)))); (case side2 => exact (Kd.zo HO141.out).2.1); (case side3 => refine (Kd.zbq (e := 23) (base := w.heap.size) (ok := fun k_ => ((((((some k_ ≠ (.slice Ao62 y139.length co62 : Value).ownBlock ∧ some k_ ≠ (.slice Ao66 t154.length co66 : Value).ownBlock) ∧ some k_ ≠ (.slice Ao68 t157.length co68 : Value).ownBlock) ∧ k_ ≠ gb160) ∧ some k_ ≠ (.slice Ao71 t161.length co71 : Value).ownBlock) ∧ some k_ ≠ (.slice Ao74 t164.length co74 : Value).ownBlock) ∧ k_ ≠ gb167)) (n := y151.length) (c := co63) ?_).2.2; exact (by (with_reducible repeat (first | apply Kd.zcf | apply Kd.zcg | apply Kd.zcp)); exact (Kd.zbt (Kd.zch (p := ⟨gb167, 1, none⟩) (Kd.zch (p := ⟨gb167, 0, none⟩) (Kd.zbt HO153.out (fun k_ hk => (⟨hk, hk.2⟩ : _ ∧ k_ ≠ gb167))) (fun _ hk => hk.2) (.slice Ao71 t161.length co71)) (fun _ hk => hk.2) (.slice Ao74 t164.length co74)) (fun _ h_ => h_.1)))); (case side4 => exact (Kd.zbq HO153.out).2.1); rintro e w76 ⟨rfl, hb⟩; have n0_ := za.mk (Kd.zby (by (with_reducible repeat (first | apply Kd.zb0 | apply Kd.zb2 | apply Kd.zce)); exact (Kd.zbl (Kd.zbz (p := ⟨gb167, 1, none⟩) (Kd.zbz (p := ⟨gb167, 0, none⟩) (Kd.zb5 HO141.out BK167.out (by decide)) (fun _ hk => hk.2) (.slice Ao71 t161.length co71)) (fun _ hk => hk.2) (.slice Ao74 t164.length co74)) (fun _ h_ => h_.1))) hb); have n1_ := za.mk (Kd.zcj (by (with_reducible repeat (first | apply Kd.zcf | apply Kd.zcg | apply Kd.zcp)); exact (Kd.zbt (Kd.zch (p := ⟨gb167, 1, none⟩) (Kd.zch (p := ⟨gb167, 0, none⟩) (Kd.zbt HO153.out (fun k_ hk => (⟨hk, hk.2⟩ : _ ∧ k_ ≠ gb167))) (fun _ hk => hk.2) (.slice Ao71 t161.length co71)) (fun _ hk => hk.2) (.slice Ao74 t164.length co74)) (fun _ h_ => h_.1))) hb); have n2_ := za.mk (Kd.zu (by (with_reducible repeat (first | apply Kd.zbh | apply Kd.zbg | apply Kd.zbu)); exact (Kd.zx (Kd.zbb (p := ⟨gb167, 1, none⟩) (Kd.zbb (p := ⟨gb167, 0, none⟩) (Kd.zx HO156.out (fun k_ hk => (⟨hk, hk.2⟩ : _ ∧ k_ ≠ gb167))) (fun _ hk => hk.2) (.slice Ao71 t161.length co71)) (fun _ hk => hk.2) (.slice Ao74 t164.length co74)) (fun _ h_ => h_.1))) hb); have n3_ := za.mk (Kd.zu (by (with_reducible repeat (first | apply Kd.zbh | apply Kd.zbg | apply Kd.zbu)); exact (Kd.zx (Kd.zbb (p := ⟨gb167, 1, none⟩) (Kd.zbb (p := ⟨gb167, 0, none⟩) (Kd.zb8 HO159.out BK167.out (by decide)) (fun _ hk => hk.2) (.slice Ao71 t161.length co71)) (fun _ hk => hk.2) (.slice Ao74 t164.length co74)) (fun _ h_ => h_.1))) hb); have n4_ := za.mk (Kd.zu (by (with_reducible repeat (first | apply Kd.zbh | apply Kd.zbg | apply Kd.zbu)); exact (Kd.zx (Kd.zbb (p := ⟨gb167, 1, none⟩) (Kd.zbb (p := ⟨gb167, 0, none⟩) (Kd.zx HO163.out (fun k_ hk => (⟨hk, hk.2⟩ : _ ∧ k_ ≠ gb167))) (fun _ hk => hk.2) (.slice Ao71 t161.length co71)) (fun _ hk => hk.2) (.slice Ao74 t164.length co74)) (fun _ h_ => h_.1))) hb); have n5_ := za.mk (Kd.zu (by (with_reducible repeat (first | apply Kd.zbh | apply Kd.zbg | apply Kd.zbu)); exact (Kd.zx (Kd.zbb (p := ⟨gb167, 1, none⟩) (Kd.zbb (p := ⟨gb167, 0, none⟩) (Kd.zb8 HO166.out BK167.out (by decide)) (fun _ hk => hk.2) (.slice Ao71 t161.length co71)) (fun _ hk => hk.2) (.slice Ao74 t164.length co74)) (fun _ h_ => h_.1))) hb); have n6_ := za.mk (zbm (g := gb160) (o := .cells #[.slice Ao66 t154.length co66, .slice Ao68 t157.length co68] 28 (0, 0)) (by (with_reducible repeat (first | refine zm ?_ _ | refine zy ?_ | refine zn ?_ _)); refine zdh ?_ NB160_167.out _; (with_reducible repeat (first | refine zm ?_ _ | refine zy ?_ | refine zn ?_ _)); refine zdh ?_ NB160_167.out _; (with_reducible repeat (first | refine zm ?_ _ | refine zy ?_ | refine zn ?_ _)); exact BK160.out) hb); have n7_ := za.mk (zbm (g := gb167) (o := .cells #[.slice Ao71 t161.length co71, .slice Ao74 t164.length co74] 28 (0, 0)) (by (with_reducible repeat (first | refine zm ?_ _ | refine zy ?_ | refine zn ?_ _)); refine zb1 (cs := #[.slice Ao71 t161.length co71, .slice none 0 0]) ?_ 1 _ rfl; (with_reducible repeat (first | refine zm ?_ _ | refine zy ?_ | refine zn ?_ _)); refine zb1 (cs := #[.slice none 0 0, .slice none 0 0]) ?_ 0 _ rfl; (with_reducible repeat (first | refine zm ?_ _ | refine zy ?_ | refine zn ?_ _)); exact BK167.out) hb); have n8_ := za.mk (zf (Zq12 HB GE160 GE167) hb); clear HO141; clear HO153; clear HO156; clear HO159; clear HO163; clear HO166; clear BK160; clear BK167; clear HB; have HO141 := n0_; have HO153 := n1_; have HO156 := n2_; have HO159 := n3_; have HO163 := n4_; have HO166 := n5_; have BK160 := n6_; have BK167 := n7_; have HB := n8_; clear n0_ n1_ n2_ n3_ n4_ n5_ n6_ n7_ n8_; (try clear hb); (try clear hb2); (try clear hk); (try clear hi); have hcz77_0 : w76.cell? ⟨gb167, 0, none⟩ = some (.slice Ao71 t161.length co71) := (zba BK167.out 0).trans rfl; have hcz77_1 : w76.cell? ⟨gb167, 1, none⟩ = some (.slice Ao74 t164.length co74) := (zba BK167.out 1).trans rfl; have hfz77_0 := zw BK167.out 0; have hfz77_1 := zw BK167.out 1) | (go_at_call 17; (with_reducible refine (zb.calls k _ _ y139 _ _ y151 3 t169 _ ?side1 ?side2 ?side3 ?side4 A9.out).mono ?_); (case side1 => exact Zq4 ((Kd.zo HO141.out).2.2)); (case side2 => exact (Kd.zo HO141.out).2.1); (case side3 => exact Zq4 ((Kd.zbq HO153.out).2.2)); (case side4 => exact (Kd.zbq HO153.out).2.1); rintro e w78 ⟨rfl, hb⟩; have n0_ := za.mk (Kd.zby (Zq7 HO141) hb); have n1_ := za.mk (Kd.zcj (Zq9 HO153) hb); have n2_ := za.mk (Kd.zu (Zq10 HO156) hb); have n3_ := za.mk (Kd.zu (Zq10 HO159) hb); have n4_ := za.mk (Kd.zu (Zq10 HO163) hb); have n5_ := za.mk (Kd.zu (Zq10 HO166) hb); have n6_ := za.mk (zbm (g := gb160) (o := .cells #[.slice Ao66 t154.length co66, .slice Ao68 t157.length co68] 28 (0, 0)) (Zq11 BK160) hb); have n7_ := za.mk (zbm (g := gb167) (o := .cells #[.slice Ao71 t161.length co71, .slice Ao74 t164.length co74] 28 (0, 0)) (Zq11 BK167) hb); have n8_ := za.mk (zf (Zq12 HB GE160 GE167) hb); clear HO141; clear HO153; clear HO156; clear HO159; clear HO163; clear HO166; clear BK160; clear BK167; clear HB; have HO141 := n0_; have HO153 := n1_; have HO156 := n2_; have HO159 := n3_; have HO163 := n4_; have HO166 := n5_; have BK160 := n6_; have BK167 := n7_; have HB := n8_; clear n0_ n1_ n2_ n3_ n4_ n5_ n6_ n7_ n8_; (try clear hb); (try clear hb2); (try clear hk); (try clear hi)) | (go_at_call 19; (with_reducible refine (zbj.calls k _ _ y139 _ _ y151 t170 _ ?side1 ?side2 ?side3 ?side4 A11.out).mono ?_); (case side1 => exact Zq4 ((Kd.zo HO141.out).2.2)); (case side2 => exact (Kd.zo HO141.out).2.1); (case side3 => exact Zq4 ((Kd.zbq HO153.out).2.2)); (case side4 => exact (Kd.zbq HO153.out).2.1); rintro e w79 ⟨rfl, hb⟩; have n0_ := za.mk (Kd.zby (Zq7 HO141) hb); have n1_ := za.mk (Kd.zcj (Zq9 HO153) hb); have n2_ := za.mk (Kd.zu (Zq10 HO156) hb); have n3_ := za.mk (Kd.zu (Zq10 HO159) hb); have n4_ := za.mk (Kd.zu (Zq10 HO163) hb); have n5_ := za.mk (Kd.zu (Zq10 HO166) hb); have n6_ := za.mk (zbm (g := gb160) (o := .cells #[.slice Ao66 t154.length co66, .slice Ao68 t157.length co68] 28 (0, 0)) (Zq11 BK160) hb); have n7_ := za.mk (zbm (g := gb167) (o := .cells #[.slice Ao71 t161.length co71, .slice Ao74 t164.length co74] 28 (0, 0)) (Zq11 BK167) hb); have n8_ := za.mk (zf (Zq12 HB GE160 GE167) hb); clear HO141; clear HO153; clear HO156; clear HO159; clear HO163; clear HO166; clear BK160; clear BK167; clear HB; have HO141 := n0_; have HO153 := n1_; have HO156 := n2_; have HO159 := n3_; have HO163 := n4_; have HO166 := n5_; have BK160 := n6_; have BK167 := n7_; have HB := n8_; clear n0_ n1_ n2_ n3_ n4_ n5_ n6_ n7_ n8_; (try clear hb); (try clear hb2); (try clear hk); (try clear hi)))
       go_ret;exact ⟨by first | rfl | (simp [zbn, zbo] <;> rfl) | (simp [*, zbn, zbo] <;> rfl), Zq12 HB GE160 GE167⟩
     ·rw [if_neg c10] at H
      have c10b0 : (t169 == 7) = false := beq_eq_false_iff_ne.mpr c10;have c10b1 : (t169 != 7) = true := bne_iff_ne.mpr c10;obtain rfl := Option.some.inj H;go_enter Try.func7, Try.ntmps7
      go_wp2_with (first | ((with_reducible refine zbk (N := 10) rfl ?_); (try (refine zbc (by rfl) ?_; dsimp only)); refine Kd.zc9 (Kd.int .i64) _ 3 ?hg (N := 10) ?hd (xs := ([1, 4, 4, 4] : List Int)) (inner := [.int .i64 1, .int .i64 4, .int .i64 4, .int .i64 4]) (ok := fun _ => True) (okp := fun _ => True) ?hr ?hp (fun _ hk => hk) trivial (Below.refl _ _) (Nat.le_refl _) (by simp) ?_; (case hd => rfl); (case hg => rfl); (case hr => first | (go_simp; done) | (go_simp; rfl)); (case hp => exact (Reps.one (show Kd.M (Kd.int .i64) _ _ _ 1 [.int .i64 1] from rfl) (Reps.one (show Kd.M (Kd.int .i64) _ _ _ 4 [.int .i64 4] from rfl) (Reps.one (show Kd.M (Kd.int .i64) _ _ _ 4 [.int .i64 4] from rfl) (Reps.one (show Kd.M (Kd.int .i64) _ _ _ 4 [.int .i64 4] from rfl) (Reps.none _ _)))))); intro v140 w80 ho81 hb hg_ hnew_; clear hg_ hnew_; (first | rw [← Ny139.out] at ho81 | (simp only [Int.reduceToNat] at ho81; rw [← Ny139.out] at ho81)); have n0_ := za.mk (Kd.zb9 ho81 (zg (Zq2 HB))); have n1_ := za.mk (zf (Zq2 HB) hb); clear HB; have HO141 := n0_; have HB := n1_; clear n0_ n1_; clear hb ho81) | ((with_reducible refine zbk (N := 11) rfl ?_); (try (refine zbc (by rfl) ?_; dsimp only)); refine Kd.zc9 (Kd.int .i64) _ 3 ?hg (N := 11) ?hd (xs := ([0, 1] : List Int)) (inner := [.int .i64 0, .int .i64 1]) (ok := fun _ => True) (okp := fun _ => True) ?hr ?hp (fun _ hk => hk) trivial (Below.refl _ _) (Nat.le_refl _) (by simp) ?_; (case hd => rfl); (case hg => rfl); (case hr => first | (go_simp; done) | (go_simp; rfl)); (case hp => exact (Reps.one (show Kd.M (Kd.int .i64) _ _ _ 0 [.int .i64 0] from rfl) (Reps.one (show Kd.M (Kd.int .i64) _ _ _ 1 [.int .i64 1] from rfl) (Reps.none _ _)))); intro v143 w82 ho83 hb hg_ hnew_; clear hg_ hnew_; (first | rw [← Ny142.out] at ho83 | (simp only [Int.reduceToNat] at ho83; rw [← Ny142.out] at ho83)); have n0_ := za.mk (Kd.zbi (Zq7 HO141) (Kd.zca ho83) hb); have n1_ := za.mk (Kd.zb9 (Kd.zcd ho83 (Kd.R_lt (Zq7 HO141))) (zg (Zq2 HB))); have n2_ := za.mk (zf (Zq2 HB) hb); clear HO141; clear HB; have HO141 := n0_; have HO144 := n1_; have HB := n2_; clear n0_ n1_ n2_; clear hb ho83) | ((with_reducible refine zbk (N := 12) rfl ?_); (try (refine zbc (by rfl) ?_; dsimp only)); refine Kd.zc9 (Kd.int .i64) _ 3 ?hg (N := 12) ?hd (xs := ([0, 2] : List Int)) (inner := [.int .i64 0, .int .i64 2]) (ok := fun _ => True) (okp := fun _ => True) ?hr ?hp (fun _ hk => hk) trivial (Below.refl _ _) (Nat.le_refl _) (by simp) ?_; (case hd => rfl); (case hg => rfl); (case hr => first | (go_simp; done) | (go_simp; rfl)); (case hp => exact (Reps.one (show Kd.M (Kd.int .i64) _ _ _ 0 [.int .i64 0] from rfl) (Reps.one (show Kd.M (Kd.int .i64) _ _ _ 2 [.int .i64 2] from rfl) (Reps.none _ _)))); intro v146 w84 ho85 hb hg_ hnew_; clear hg_ hnew_; (first | rw [← Ny145.out] at ho85 | (simp only [Int.reduceToNat] at ho85; rw [← Ny145.out] at ho85)); have n0_ := za.mk (Kd.zbi (Zq7 HO141) (Kd.zca ho85) hb); have n1_ := za.mk (Kd.zbi (Zq7 HO144) (Kd.zca ho85) hb); have n2_ := za.mk (Kd.zb9 (Kd.zcd (Kd.zcd ho85 (Kd.R_lt (Zq7 HO141))) (Kd.R_lt (Zq7 HO144))) (zg (Zq2 HB))); have n3_ := za.mk (zf (Zq2 HB) hb); clear HO141; clear HO144; clear HB; have HO141 := n0_; have HO144 := n1_; have HO147 := n2_; have HB := n3_; clear n0_ n1_ n2_ n3_; clear hb ho85) | ((with_reducible refine zbk (N := 13) rfl ?_); (try (refine zbc (by rfl) ?_; dsimp only)); refine Kd.zc9 (Kd.int .i64) _ 3 ?hg (N := 13) ?hd (xs := ([0, 3] : List Int)) (inner := [.int .i64 0, .int .i64 3]) (ok := fun _ => True) (okp := fun _ => True) ?hr ?hp (fun _ hk => hk) trivial (Below.refl _ _) (Nat.le_refl _) (by simp) ?_; (case hd => rfl); (case hg => rfl); (case hr => first | (go_simp; done) | (go_simp; rfl)); (case hp => exact (Reps.one (show Kd.M (Kd.int .i64) _ _ _ 0 [.int .i64 0] from rfl) (Reps.one (show Kd.M (Kd.int .i64) _ _ _ 3 [.int .i64 3] from rfl) (Reps.none _ _)))); intro v149 w86 ho87 hb hg_ hnew_; clear hg_ hnew_; (first | rw [← Ny148.out] at ho87 | (simp only [Int.reduceToNat] at ho87; rw [← Ny148.out] at ho87)); have n0_ := za.mk (Kd.zbi (Zq7 HO141) (Kd.zca ho87) hb); have n1_ := za.mk (Kd.zbi (Zq7 HO144) (Kd.zca ho87) hb); have n2_ := za.mk (Kd.zbi (Zq7 HO147) (Kd.zca ho87) hb); have n3_ := za.mk (Kd.zb9 (Kd.zcd (Kd.zcd (Kd.zcd ho87 (Kd.R_lt (Zq7 HO141))) (Kd.R_lt (Zq7 HO144))) (Kd.R_lt (Zq7 HO147))) (zg (Zq2 HB))); have n4_ := za.mk (zf (Zq2 HB) hb); clear HO141; clear HO144; clear HO147; clear HB; have HO141 := n0_; have HO144 := n1_; have HO147 := n2_; have HO150 := n3_; have HB := n4_; clear n0_ n1_ n2_ n3_ n4_; clear hb ho87; obtain ⟨Ao88, co88, eo88⟩ := Kd.zb6 HO144.out; subst eo88; obtain ⟨Ao89, co89, eo89⟩ := Kd.zb6 HO147.out; subst eo89; obtain ⟨Ao90, co90, eo90⟩ := Kd.zb6 HO150.out; subst eo90) | ((with_reducible refine zbk (N := 14) rfl ?_); (try (refine zbc (by rfl) ?_; dsimp only)); refine Kd.N_lit (Kd.slice 3 (Kd.int .i64)) _ 23 ?hg (N' := 14) ?hd (xs := ([y142, y145, y148] : List (List Int))) (inner := [.slice Ao88 y142.length co88, .slice Ao89 y145.length co89, .slice Ao90 y148.length co90]) (ok := (fun k_ => some k_ ≠ (v140 : Value).ownBlock)) (okp := (fun k_ => some k_ ≠ (v140 : Value).ownBlock)) ?hr ?hp (fun _ hk => hk) ((show ∀ k_, w86.heap.size ≤ k_ → (fun k_ => some k_ ≠ (v140 : Value).ownBlock) k_ from fun k_ hk => Kd.fresh' (Kd.R_lt (Zq7 HO141)) k_ hk) _ (Nat.le_refl _)) (Below.refl _ _) (Nat.le_refl _) (by simp) ?_; (case hd => rfl); (case hg => rfl); (case hr => first | (go_simp; done) | (go_simp; rfl)); (case hp => exact (Reps.one (show Kd.FK (Kd.slice 3 (Kd.int .i64)) _ _ y142 [.slice Ao88 y142.length co88] from (Kd.zb3 (Kd.zo (Kd.zbl (ok' := (fun k_ => some k_ ≠ (v140 : Value).ownBlock)) (HO144.out) (fun k_ hk => hk.1.1.2))).2.1 (Kd.R_F (Kd.zbl (ok' := (fun k_ => some k_ ≠ (v140 : Value).ownBlock)) (HO144.out) (fun k_ hk => hk.1.1.2))))) (Reps.one (show Kd.FK (Kd.slice 3 (Kd.int .i64)) _ _ y145 [.slice Ao89 y145.length co89] from (Kd.zb3 (Kd.zo (Kd.zbl (ok' := (fun k_ => some k_ ≠ (v140 : Value).ownBlock)) (HO147.out) (fun k_ hk => hk.1.1.2))).2.1 (Kd.R_F (Kd.zbl (ok' := (fun k_ => some k_ ≠ (v140 : Value).ownBlock)) (HO147.out) (fun k_ hk => hk.1.1.2))))) (Reps.one (show Kd.FK (Kd.slice 3 (Kd.int .i64)) _ _ y148 [.slice Ao90 y148.length co90] from (Kd.zb3 (Kd.zo (Kd.zbl (ok' := (fun k_ => some k_ ≠ (v140 : Value).ownBlock)) (HO150.out) (fun k_ hk => hk.1.1.2))).2.1 (Kd.R_F (Kd.zbl (ok' := (fun k_ => some k_ ≠ (v140 : Value).ownBlock)) (HO150.out) (fun k_ hk => hk.1.1.2))))) (Reps.none _ _))))); intro v152 w91 ho92 hb hg_ hnew_; clear hg_ hnew_; (first | rw [← Ny151.out] at ho92 | (simp only [Int.reduceToNat] at ho92; rw [← Ny151.out] at ho92)); have n0_ := za.mk (Kd.zby (Zq7 HO141) hb); have n1_ := za.mk (Kd.zem ho92 (zg (Zq2 HB))); have n2_ := za.mk (zf (Zq2 HB) hb); clear HO141; clear HB; clear HO144; clear HO147; clear HO150; have HO141 := n0_; have HO153 := n1_; have HB := n2_; clear n0_ n1_ n2_; clear hb ho92; obtain ⟨Ao93, co93, eo93⟩ := Kd.zb6 HO141.out; subst eo93; obtain ⟨Ao94, co94, eo94⟩ := Kd.zen HO153.out; subst eo94) | ((with_reducible refine zbw (f := 9) rfl ?_); refine zc0 (some 17) rfl rfl Try.func9 (by kernel_rfl) rfl #[.slice Ao93 y139.length co93, .slice Ao94 y151.length co94, .int .i64 2] rfl Zmt ?_; (with_reducible refine (zh.calls k _ _ y139 _ _ y151 2 t154 t157 _ ?side1 ?side2 ?side3 ?side4 A3.out).mono ?_); (case side1 => exact Zq4 ((Kd.zo HO141.out).2.2)); (case side2 => exact (Kd.zo HO141.out).2.1); (case side3 => exact Zq4 ((Kd.zbq HO153.out).2.2)); (case side4 => exact (Kd.zbq HO153.out).2.1); rintro e w95 ⟨v155, v158, rfl, ho0, ho1, hb⟩; refine ⟨_, rfl, ?_⟩; have n0_ := za.mk (Kd.zbi (Zq7 HO141) (Kd.zbp ho1) hb); have n1_ := za.mk (Kd.zbt (Kd.zcy (Kd.zcy (Kd.zer (Zq9 HO153) hb) (Kd.zbp ho0)) (Kd.zbp ho1)) (fun _ h_ => h_.1)); have n2_ := za.mk (Kd.zb7 (Kd.zx (ok' := fun k_ => some k_ ≠ (v158 : Value).ownBlock ∧ some k_ ≠ (.slice Ao93 y139.length co93 : Value).ownBlock ∧ some k_ ≠ (.slice Ao94 y151.length co94 : Value).ownBlock) (Kd.zdm ho0) (fun k_ hk_ => ⟨hk_.1, (Kd.fresh' (Kd.R_lt (Zq7 HO141)) k_ hk_.2.1), (Kd.fresh' (Kd.N_lt (Zq9 HO153)) k_ hk_.2.1)⟩)) (zg (Zq2 HB))); have n3_ := za.mk (Kd.zb7 (Kd.zcw ho1 (Kd.R_lt (Zq7 HO141))) (zg (Zq2 HB))); have n4_ := za.mk (zf (Zq2 HB) hb); clear HO141; clear HO153; clear HB; have HO141 := n0_; have HO153 := n1_; have HO156 := n2_; have HO159 := n3_; have HB := n4_; clear n0_ n1_ n2_ n3_ n4_; (try clear hb); (try clear hb2); (try clear hk); (try clear hi); (try clear ho0); (try clear ho1)) | ((with_reducible refine zbk (N := 5) rfl ?_); (try (refine zbc (by rfl) ?_; dsimp only)); refine zcv ?hg (N := 5) ?hd (cs := #[.slice none 0 0, .slice none 0 0]) (t := 28) ?hr ?_; (case hd => rfl); (case hg => rfl); (case hr => first | (go_simp; done) | (go_simp; rfl)); intro gb160 hg w96 hbox hb; have n0_ := za.mk (Kd.zby (Zq7 HO141) hb); have n1_ := za.mk (Kd.zcj (Kd.zc5 (Zq9 HO153) gb160 (Nat.le_of_eq hg.symm)) hb); have n2_ := za.mk (Kd.zu (Kd.zci (Zq10 HO156) gb160 (Nat.le_of_eq hg.symm)) hb); have n3_ := za.mk (Kd.zu (Zq10 HO159) hb); have n4_ := za.mk (zf (Zq2 HB) hb); have n5_ := za.mk (hbox); have n6_ := za.mk ((by rw [hg]; exact (zg (Zq2 HB)) : w.heap.size ≤ gb160)); have n7_ := za.mk ((by rw [hg]; exact (zg (Zq2 HB)) : w.heap.size ≤ gb160)); clear HO141; clear HO153; clear HO156; clear HO159; clear HB; have HO141 := n0_; have HO153 := n1_; have HO156 := n2_; have HO159 := n3_; have HB := n4_; have BK160 := n5_; have GW160 := n6_; have GE160 := n7_; clear n0_ n1_ n2_ n3_ n4_ n5_ n6_ n7_; clear hb hbox hg; obtain ⟨Ao97, co97, eo97⟩ := Kd.zcc HO156.out; subst eo97; have hcz98_0 : w96.cell? ⟨gb160, 0, none⟩ = some (.slice none 0 0) := (zba BK160.out 0).trans rfl; have hcz98_1 : w96.cell? ⟨gb160, 1, none⟩ = some (.slice none 0 0) := (zba BK160.out 1).trans rfl; have hfz98_0 := zw BK160.out 0; have hfz98_1 := zw BK160.out 1; obtain ⟨Ao99, co99, eo99⟩ := Kd.zcc HO159.out; subst eo99) | ((with_reducible refine zbw (f := 9) rfl ?_); refine zc0 (some 20) rfl rfl Try.func9 (by kernel_rfl) rfl #[.slice Ao93 y139.length co93, .slice Ao94 y151.length co94, .int .i64 3] rfl Zmt ?_; (with_reducible refine (zh.calls k _ _ y139 _ _ y151 3 t161 t164 _ ?side1 ?side2 ?side3 ?side4 A4.out).mono ?_); (case side1 => refine (Kd.zo (e := 3) (base := w.heap.size) (ok := fun k_ => ((((True ∧ some k_ ≠ (.slice Ao88 y142.length co88 : Value).ownBlock) ∧ some k_ ≠ (.slice Ao89 y145.length co89 : Value).ownBlock) ∧ some k_ ≠ (.slice Ao90 y148.length co90 : Value).ownBlock) ∧ some k_ ≠ (.slice Ao99 t157.length co99 : Value).ownBlock)) (n := y139.length) (c := co93) ?_).2.2; exact (by (with_reducible repeat (first | apply Kd.zb0 | apply Kd.zb2 | apply Kd.zce)); exact (Kd.zbl (Kd.zbz (p := ⟨gb160, 1, none⟩) (Kd.zbz (p := ⟨gb160, 0, none⟩) (Kd.zb5 HO141.out BK160.out (by decide)) (fun _ hk => hk.2) (.slice Ao97 t154.length co97)) (fun _ hk => hk.2) (.slice Ao99 t157.length co99)) (fun _ h_ => h_.1)))); (case side2 => exact (Kd.zo HO141.out).2.1); (case side3 => refine (Kd.zbq (e := 23) (base := w.heap.size) (ok := fun k_ => (((some k_ ≠ (.slice Ao93 y139.length co93 : Value).ownBlock ∧ some k_ ≠ (.slice Ao97 t154.length co97 : Value).ownBlock) ∧ some k_ ≠ (.slice Ao99 t157.length co99 : Value).ownBlock) ∧ k_ ≠ gb160)) (n := y151.length) (c := co94) ?_).2.2; exact (by (with_reducible repeat (first | apply Kd.zcf | apply Kd.zcg | apply Kd.zcp)); exact (Kd.zbt (Kd.zch (p := ⟨gb160, 1, none⟩) (Kd.zch (p := ⟨gb160, 0, none⟩) (Kd.zbt HO153.out (fun k_ hk => (⟨hk, hk.2⟩ : _ ∧ k_ ≠ gb160))) (fun _ hk => hk.2) (.slice Ao97 t154.length co97)) (fun _ hk => hk.2) (.slice Ao99 t157.length co99)) (fun _ h_ => h_.1)))); (case side4 => exact (Kd.zbq HO153.out).2.1); rintro e w100 ⟨v162, v165, rfl, ho0, ho1, hb⟩; refine ⟨_, rfl, ?_⟩; have n0_ := za.mk (Kd.zbi (by (with_reducible repeat (first | apply Kd.zb0 | apply Kd.zb2 | apply Kd.zce)); exact (Kd.zbl (Kd.zbz (p := ⟨gb160, 1, none⟩) (Kd.zbz (p := ⟨gb160, 0, none⟩) (Kd.zb5 HO141.out BK160.out (by decide)) (fun _ hk => hk.2) (.slice Ao97 t154.length co97)) (fun _ hk => hk.2) (.slice Ao99 t157.length co99)) (fun _ h_ => h_.1))) (Kd.zbp ho1) hb); have n1_ := za.mk (Kd.zbt (Kd.zcy (Kd.zcy (Kd.zer (by (with_reducible repeat (first | apply Kd.zcf | apply Kd.zcg | apply Kd.zcp)); exact (Kd.zbt (Kd.zch (p := ⟨gb160, 1, none⟩) (Kd.zch (p := ⟨gb160, 0, none⟩) (Kd.zbt HO153.out (fun k_ hk => (⟨hk, hk.2⟩ : _ ∧ k_ ≠ gb160))) (fun _ hk => hk.2) (.slice Ao97 t154.length co97)) (fun _ hk => hk.2) (.slice Ao99 t157.length co99)) (fun _ h_ => h_.1))) hb) (Kd.zbp ho0)) (Kd.zbp ho1)) (fun _ h_ => h_.1)); have n2_ := za.mk (Kd.zx (Kd.zde (Kd.zde (Kd.zfs (by (with_reducible repeat (first | apply Kd.zbh | apply Kd.zbg | apply Kd.zbu)); exact (Kd.zx (Kd.zbb (p := ⟨gb160, 1, none⟩) (Kd.zbb (p := ⟨gb160, 0, none⟩) (Kd.zx HO156.out (fun k_ hk => (⟨hk, hk.2⟩ : _ ∧ k_ ≠ gb160))) (fun _ hk => hk.2) (.slice Ao97 t154.length co97)) (fun _ hk => hk.2) (.slice Ao99 t157.length co99)) (fun _ h_ => h_.1))) hb) (Kd.zbp ho0)) (Kd.zbp ho1)) (fun _ h_ => h_.1)); have n3_ := za.mk (Kd.zc4 (by (with_reducible repeat (first | apply Kd.zbh | apply Kd.zbg | apply Kd.zbu)); exact (Kd.zx (Kd.zbb (p := ⟨gb160, 1, none⟩) (Kd.zbb (p := ⟨gb160, 0, none⟩) (Kd.zb8 HO159.out BK160.out (by decide)) (fun _ hk => hk.2) (.slice Ao97 t154.length co97)) (fun _ hk => hk.2) (.slice Ao99 t157.length co99)) (fun _ h_ => h_.1))) (Kd.zbp ho1) hb); have n4_ := za.mk (Kd.zb7 (Kd.zx (ok' := fun k_ => some k_ ≠ (v165 : Value).ownBlock ∧ some k_ ≠ (.slice Ao93 y139.length co93 : Value).ownBlock ∧ some k_ ≠ (.slice Ao94 y151.length co94 : Value).ownBlock ∧ some k_ ≠ (.slice Ao97 t154.length co97 : Value).ownBlock ∧ some k_ ≠ (.slice Ao99 t157.length co99 : Value).ownBlock ∧ k_ ≠ gb160) (Kd.zdm ho0) (fun k_ hk_ => ⟨hk_.1, (Kd.fresh' (Kd.R_lt (by (with_reducible repeat (first | apply Kd.zb0 | apply Kd.zb2 | apply Kd.zce)); exact (Kd.zbl (Kd.zbz (p := ⟨gb160, 1, none⟩) (Kd.zbz (p := ⟨gb160, 0, none⟩) (Kd.zb5 HO141.out BK160.out (by decide)) (fun _ hk => hk.2) (.slice Ao97 t154.length co97)) (fun _ hk => hk.2) (.slice Ao99 t157.length co99)) (fun _ h_ => h_.1)))) k_ hk_.2.1), (Kd.fresh' (Kd.N_lt (by (with_reducible repeat (first | apply Kd.zcf | apply Kd.zcg | apply Kd.zcp)); exact (Kd.zbt (Kd.zch (p := ⟨gb160, 1, none⟩) (Kd.zch (p := ⟨gb160, 0, none⟩) (Kd.zbt HO153.out (fun k_ hk => (⟨hk, hk.2⟩ : _ ∧ k_ ≠ gb160))) (fun _ hk => hk.2) (.slice Ao97 t154.length co97)) (fun _ hk => hk.2) (.slice Ao99 t157.length co99)) (fun _ h_ => h_.1)))) k_ hk_.2.1), (Kd.fresh' (Kd.zdk (by (with_reducible repeat (first | apply Kd.zbh | apply Kd.zbg | apply Kd.zbu)); exact (Kd.zx (Kd.zbb (p := ⟨gb160, 1, none⟩) (Kd.zbb (p := ⟨gb160, 0, none⟩) (Kd.zx HO156.out (fun k_ hk => (⟨hk, hk.2⟩ : _ ∧ k_ ≠ gb160))) (fun _ hk => hk.2) (.slice Ao97 t154.length co97)) (fun _ hk => hk.2) (.slice Ao99 t157.length co99)) (fun _ h_ => h_.1)))) k_ hk_.2.1), (Kd.fresh' (Kd.zdk (by (with_reducible repeat (first | apply Kd.zbh | apply Kd.zbg | apply Kd.zbu)); exact (Kd.zx (Kd.zbb (p := ⟨gb160, 1, none⟩) (Kd.zbb (p := ⟨gb160, 0, none⟩) (Kd.zb8 HO159.out BK160.out (by decide)) (fun _ hk => hk.2) (.slice Ao97 t154.length co97)) (fun _ hk => hk.2) (.slice Ao99 t157.length co99)) (fun _ h_ => h_.1)))) k_ hk_.2.1), (Kd.zfn (g := gb160) (o := .cells #[.slice Ao97 t154.length co97, .slice Ao99 t157.length co99] 28 (0, 0)) (by (with_reducible repeat (first | refine zm ?_ _ | refine zy ?_ | refine zn ?_ _)); refine zb1 (cs := #[.slice Ao97 t154.length co97, .slice none 0 0]) ?_ 1 _ rfl; (with_reducible repeat (first | refine zm ?_ _ | refine zy ?_ | refine zn ?_ _)); refine zb1 (cs := #[.slice none 0 0, .slice none 0 0]) ?_ 0 _ rfl; (with_reducible repeat (first | refine zm ?_ _ | refine zy ?_ | refine zn ?_ _)); exact BK160.out) k_ hk_.2.1)⟩)) (zg (Zq8 HB GE160))); have n5_ := za.mk (Kd.zb7 (Kd.zcw (Kd.zcw ho1 (Kd.R_lt (by (with_reducible repeat (first | apply Kd.zb0 | apply Kd.zb2 | apply Kd.zce)); exact (Kd.zbl (Kd.zbz (p := ⟨gb160, 1, none⟩) (Kd.zbz (p := ⟨gb160, 0, none⟩) (Kd.zb5 HO141.out BK160.out (by decide)) (fun _ hk => hk.2) (.slice Ao97 t154.length co97)) (fun _ hk => hk.2) (.slice Ao99 t157.length co99)) (fun _ h_ => h_.1))))) (Kd.zdk (by (with_reducible repeat (first | apply Kd.zbh | apply Kd.zbg | apply Kd.zbu)); exact (Kd.zx (Kd.zbb (p := ⟨gb160, 1, none⟩) (Kd.zbb (p := ⟨gb160, 0, none⟩) (Kd.zb8 HO159.out BK160.out (by decide)) (fun _ hk => hk.2) (.slice Ao97 t154.length co97)) (fun _ hk => hk.2) (.slice Ao99 t157.length co99)) (fun _ h_ => h_.1))))) (zg (Zq8 HB GE160))); have n6_ := za.mk (zbm (g := gb160) (o := .cells #[.slice Ao97 t154.length co97, .slice Ao99 t157.length co99] 28 (0, 0)) (by (with_reducible repeat (first | refine zm ?_ _ | refine zy ?_ | refine zn ?_ _)); refine zb1 (cs := #[.slice Ao97 t154.length co97, .slice none 0 0]) ?_ 1 _ rfl; (with_reducible repeat (first | refine zm ?_ _ | refine zy ?_ | refine zn ?_ _)); refine zb1 (cs := #[.slice none 0 0, .slice none 0 0]) ?_ 0 _ rfl; (with_reducible repeat (first | refine zm ?_ _ | refine zy ?_ | refine zn ?_ _)); exact BK160.out) hb); have n7_ := za.mk (zf (Zq8 HB GE160) hb); clear HO141; clear HO153; clear HO156; clear HO159; clear BK160; clear HB; have HO141 := n0_; have HO153 := n1_; have HO156 := n2_; have HO159 := n3_; have HO163 := n4_; have HO166 := n5_; have BK160 := n6_; have HB := n7_; clear n0_ n1_ n2_ n3_ n4_ n5_ n6_ n7_; (try clear hb); (try clear hb2); (try clear hk); (try clear hi); (try clear ho0); (try clear ho1)) | ((with_reducible refine zbk (N := 6) rfl ?_); (try (refine zbc (by rfl) ?_; dsimp only)); refine zcv ?hg (N := 6) ?hd (cs := #[.slice none 0 0, .slice none 0 0]) (t := 28) ?hr ?_; (case hd => rfl); (case hg => rfl); (case hr => first | (go_simp; done) | (go_simp; rfl)); intro gb167 hg w101 hbox hb; have n0_ := za.mk (Kd.zby (Zq7 HO141) hb); have n1_ := za.mk (Kd.zcj (Kd.zc5 (Zq9 HO153) gb167 (Nat.le_of_eq hg.symm)) hb); have n2_ := za.mk (Kd.zu (Kd.zci (Zq10 HO156) gb167 (Nat.le_of_eq hg.symm)) hb); have n3_ := za.mk (Kd.zu (Zq10 HO159) hb); have n4_ := za.mk (Kd.zu (Kd.zci (Zq10 HO163) gb167 (Nat.le_of_eq hg.symm)) hb); have n5_ := za.mk (Kd.zu (Zq10 HO166) hb); have n6_ := za.mk (zbm (g := gb160) (o := .cells #[.slice Ao97 t154.length co97, .slice Ao99 t157.length co99] 28 (0, 0)) (Zq11 BK160) hb); have n7_ := za.mk (zf (Zq8 HB GE160) hb); have n8_ := za.mk (hbox); have n9_ := za.mk ((by rw [hg]; exact (zg (Zq8 HB GE160)) : w.heap.size ≤ gb167)); have n10_ := za.mk ((by rw [hg]; exact (zg (Zq8 HB GE160)) : w.heap.size ≤ gb167)); have n11_ := za.mk ((by rw [hg]; exact Nat.ne_of_lt (zda (g := gb160) (o := .cells #[.slice Ao97 t154.length co97, .slice Ao99 t157.length co99] 28 (0, 0)) (Zq11 BK160)) : gb160 ≠ gb167)); have n12_ := za.mk ((by rw [hg]; exact Nat.ne_of_gt (zda (g := gb160) (o := .cells #[.slice Ao97 t154.length co97, .slice Ao99 t157.length co99] 28 (0, 0)) (Zq11 BK160)) : gb167 ≠ gb160)); clear HO141; clear HO153; clear HO156; clear HO159; clear HO163; clear HO166; clear BK160; clear HB; have HO141 := n0_; have HO153 := n1_; have HO156 := n2_; have HO159 := n3_; have HO163 := n4_; have HO166 := n5_; have BK160 := n6_; have HB := n7_; have BK167 := n8_; have GW167 := n9_; have GE167 := n10_; have NB160_167 := n11_; have NB167_160 := n12_; clear n0_ n1_ n2_ n3_ n4_ n5_ n6_ n7_ n8_ n9_ n10_ n11_ n12_; clear hb hbox hg; obtain ⟨Ao102, co102, eo102⟩ := Kd.zcc HO163.out; subst eo102; have hnb103 := NB167_160.out; have hnc103 := NB160_167.out; have hcz104_0 : w101.cell? ⟨gb167, 0, none⟩ = some (.slice none 0 0) := (zba BK167.out 0).trans rfl; have hcz104_1 : w101.cell? ⟨gb167, 1, none⟩ = some (.slice none 0 0) := (zba BK167.out 1).trans rfl; have hfz104_0 := zw BK167.out 0; have hfz104_1 := zw BK167.out 1; obtain ⟨Ao105, co105, eo105⟩ := Kd.zcc HO166.out; subst eo105; have hcz106_0 : w101.cell? ⟨gb160, 0, none⟩ = some (.slice Ao97 t154.length co97) := (zba BK160.out 0).trans rfl; have hcz106_1 : w101.cell? ⟨gb160, 1, none⟩ = some (.slice Ao99 t157.length co99) := (zba BK160.out 1).trans rfl; have hfz106_0 := zw BK160.out 0; have hfz106_1 := zw BK160.out 1) | (go_at_call 17; (with_reducible refine (zb.calls k _ _ y139 _ _ y151 2 t168 _ ?side1 ?side2 ?side3 ?side4 A6.out).mono ?_); (case side1 => refine (Kd.zo (e := 3) (base := w.heap.size) (ok := fun k_ => (((((True ∧ some k_ ≠ (.slice Ao88 y142.length co88 : Value).ownBlock) ∧ some k_ ≠ (.slice Ao89 y145.length co89 : Value).ownBlock) ∧ some k_ ≠ (.slice Ao90 y148.length co90 : Value).ownBlock) ∧ some k_ ≠ (.slice Ao99 t157.length co99 : Value).ownBlock) ∧ some k_ ≠ (.slice Ao105 t164.length co105 : Value).ownBlock)) (n := y139.length) (c := co93) ?_).2.2; exact (by (with_reducible repeat (first | apply Kd.zb0 | apply Kd.zb2 | apply Kd.zce)); exact (Kd.zbl (Kd.zbz (p := ⟨gb167, 1, none⟩) (Kd.zbz (p := ⟨gb167, 0, none⟩) (Kd.zb5 HO141.out BK167.out (by decide)) (fun _ hk => hk.2) (.slice Ao102 t161.length co102)) (fun _ hk => hk.2) (.slice Ao105 t164.length co105)) (fun _ h_ => h_.1)))); (case side2 => exact (Kd.zo HO141.out).2.1); (case side3 => refine (Kd.zbq (e := 23) (base := w.heap.size) (ok := fun k_ => ((((((some k_ ≠ (.slice Ao93 y139.length co93 : Value).ownBlock ∧ some k_ ≠ (.slice Ao97 t154.length co97 : Value).ownBlock) ∧ some k_ ≠ (.slice Ao99 t157.length co99 : Value).ownBlock) ∧ k_ ≠ gb160) ∧ some k_ ≠ (.slice Ao102 t161.length co102 : Value).ownBlock) ∧ some k_ ≠ (.slice Ao105 t164.length co105 : Value).ownBlock) ∧ k_ ≠ gb167)) (n := y151.length) (c := co94) ?_).2.2; exact (by (with_reducible repeat (first | apply Kd.zcf | apply Kd.zcg | apply Kd.zcp)); exact (Kd.zbt (Kd.zch (p := ⟨gb167, 1, none⟩) (Kd.zch (p := ⟨gb167, 0, none⟩) (Kd.zbt HO153.out (fun k_ hk => (⟨hk, hk.2⟩ : _ ∧ k_ ≠ gb167))) (fun _ hk => hk.2) (.slice Ao102 t161.length co102)) (fun _ hk => hk.2) (.slice Ao105 t164.length co105)) (fun _ h_ => h_.1)))); (case side4 => exact (Kd.zbq HO153.out).2.1); rintro e w107 ⟨rfl, hb⟩; have n0_ := za.mk (Kd.zby (by (with_reducible repeat (first | apply Kd.zb0 | apply Kd.zb2 | apply Kd.zce)); exact (Kd.zbl (Kd.zbz (p := ⟨gb167, 1, none⟩) (Kd.zbz (p := ⟨gb167, 0, none⟩) (Kd.zb5 HO141.out BK167.out (by decide)) (fun _ hk => hk.2) (.slice Ao102 t161.length co102)) (fun _ hk => hk.2) (.slice Ao105 t164.length co105)) (fun _ h_ => h_.1))) hb); have n1_ := za.mk (Kd.zcj (by (with_reducible repeat (first | apply Kd.zcf | apply Kd.zcg | apply Kd.zcp)); exact (Kd.zbt (Kd.zch (p := ⟨gb167, 1, none⟩) (Kd.zch (p := ⟨gb167, 0, none⟩) (Kd.zbt HO153.out (fun k_ hk => (⟨hk, hk.2⟩ : _ ∧ k_ ≠ gb167))) (fun _ hk => hk.2) (.slice Ao102 t161.length co102)) (fun _ hk => hk.2) (.slice Ao105 t164.length co105)) (fun _ h_ => h_.1))) hb); have n2_ := za.mk (Kd.zu (by (with_reducible repeat (first | apply Kd.zbh | apply Kd.zbg | apply Kd.zbu)); exact (Kd.zx (Kd.zbb (p := ⟨gb167, 1, none⟩) (Kd.zbb (p := ⟨gb167, 0, none⟩) (Kd.zx HO156.out (fun k_ hk => (⟨hk, hk.2⟩ : _ ∧ k_ ≠ gb167))) (fun _ hk => hk.2) (.slice Ao102 t161.length co102)) (fun _ hk => hk.2) (.slice Ao105 t164.length co105)) (fun _ h_ => h_.1))) hb); have n3_ := za.mk (Kd.zu (by (with_reducible repeat (first | apply Kd.zbh | apply Kd.zbg | apply Kd.zbu)); exact (Kd.zx (Kd.zbb (p := ⟨gb167, 1, none⟩) (Kd.zbb (p := ⟨gb167, 0, none⟩) (Kd.zb8 HO159.out BK167.out (by decide)) (fun _ hk => hk.2) (.slice Ao102 t161.length co102)) (fun _ hk => hk.2) (.slice Ao105 t164.length co105)) (fun _ h_ => h_.1))) hb); have n4_ := za.mk (Kd.zu (by (with_reducible repeat (first | apply Kd.zbh | apply Kd.zbg | apply Kd.zbu)); exact (Kd.zx (Kd.zbb (p := ⟨gb167, 1, none⟩) (Kd.zbb (p := ⟨gb167, 0, none⟩) (Kd.zx HO163.out (fun k_ hk => (⟨hk, hk.2⟩ : _ ∧ k_ ≠ gb167))) (fun _ hk => hk.2) (.slice Ao102 t161.length co102)) (fun _ hk => hk.2) (.slice Ao105 t164.length co105)) (fun _ h_ => h_.1))) hb); have n5_ := za.mk (Kd.zu (by (with_reducible repeat (first | apply Kd.zbh | apply Kd.zbg | apply Kd.zbu)); exact (Kd.zx (Kd.zbb (p := ⟨gb167, 1, none⟩) (Kd.zbb (p := ⟨gb167, 0, none⟩) (Kd.zb8 HO166.out BK167.out (by decide)) (fun _ hk => hk.2) (.slice Ao102 t161.length co102)) (fun _ hk => hk.2) (.slice Ao105 t164.length co105)) (fun _ h_ => h_.1))) hb); have n6_ := za.mk (zbm (g := gb160) (o := .cells #[.slice Ao97 t154.length co97, .slice Ao99 t157.length co99] 28 (0, 0)) (by (with_reducible repeat (first | refine zm ?_ _ | refine zy ?_ | refine zn ?_ _)); refine zdh ?_ NB160_167.out _; (with_reducible repeat (first | refine zm ?_ _ | refine zy ?_ | refine zn ?_ _)); refine zdh ?_ NB160_167.out _; (with_reducible repeat (first | refine zm ?_ _ | refine zy ?_ | refine zn ?_ _)); exact BK160.out) hb); have n7_ := za.mk (zbm (g := gb167) (o := .cells #[.slice Ao102 t161.length co102, .slice Ao105 t164.length co105] 28 (0, 0)) (by (with_reducible repeat (first | refine zm ?_ _ | refine zy ?_ | refine zn ?_ _)); refine zb1 (cs := #[.slice Ao102 t161.length co102, .slice none 0 0]) ?_ 1 _ rfl; (with_reducible repeat (first | refine zm ?_ _ | refine zy ?_ | refine zn ?_ _)); refine zb1 (cs := #[.slice none 0 0, .slice none 0 0]) ?_ 0 _ rfl; (with_reducible repeat (first | refine zm ?_ _ | refine zy ?_ | refine zn ?_ _)); exact BK167.out) hb); have n8_ := za.mk (zf (Zq12 HB GE160 GE167) hb); clear HO141; clear HO153; clear HO156; clear HO159; clear HO163; clear HO166; clear BK160; clear BK167; clear HB; have HO141 := n0_; have HO153 := n1_; have HO156 := n2_; have HO159 := n3_; have HO163 := n4_; have HO166 := n5_; have BK160 := n6_; have BK167 := n7_; have HB := n8_; clear n0_ n1_ n2_ n3_ n4_ n5_ n6_ n7_ n8_; (try clear hb); (try clear hb2); (try clear hk); (try clear hi); have hcz108_0 : w107.cell? ⟨gb167, 0, none⟩ = some (.slice Ao102 t161.length co102) := (zba BK167.out 0).trans rfl; have hcz108_1 : w107.cell? ⟨gb167, 1, none⟩ = some (.slice Ao105 t164.length co105) := (zba BK167.out 1).trans rfl; have hfz108_0 := zw BK167.out 0; have hfz108_1 := zw BK167.out 1) | (go_at_call 17; (with_reducible refine (zb.calls k _ _ y139 _ _ y151 3 t169 _ ?side1 ?side2 ?side3 ?side4 A9.out).mono ?_); (case side1 => exact Zq4 ((Kd.zo HO141.out).2.2)); (case side2 => exact (Kd.zo HO141.out).2.1); (case side3 => exact Zq4 ((Kd.zbq HO153.out).2.2)); (case side4 => exact (Kd.zbq HO153.out).2.1); rintro e w109 ⟨rfl, hb⟩; have n0_ := za.mk (Kd.zby (Zq7 HO141) hb); have n1_ := za.mk (Kd.zcj (Zq9 HO153) hb); have n2_ := za.mk (Kd.zu (Zq10 HO156) hb); have n3_ := za.mk (Kd.zu (Zq10 HO159) hb); have n4_ := za.mk (Kd.zu (Zq10 HO163) hb); have n5_ := za.mk (Kd.zu (Zq10 HO166) hb); have n6_ := za.mk (zbm (g := gb160) (o := .cells #[.slice Ao97 t154.length co97, .slice Ao99 t157.length co99] 28 (0, 0)) (Zq11 BK160) hb); have n7_ := za.mk (zbm (g := gb167) (o := .cells #[.slice Ao102 t161.length co102, .slice Ao105 t164.length co105] 28 (0, 0)) (Zq11 BK167) hb); have n8_ := za.mk (zf (Zq12 HB GE160 GE167) hb); clear HO141; clear HO153; clear HO156; clear HO159; clear HO163; clear HO166; clear BK160; clear BK167; clear HB; have HO141 := n0_; have HO153 := n1_; have HO156 := n2_; have HO159 := n3_; have HO163 := n4_; have HO166 := n5_; have BK160 := n6_; have BK167 := n7_; have HB := n8_; clear n0_ n1_ n2_ n3_ n4_ n5_ n6_ n7_ n8_; (try clear hb); (try clear hb2); (try clear hk); (try clear hi)))
      go_ret;exact ⟨by first | rfl | (simp [zbn, zbo] <;> rfl) | (simp [*, zbn, zbo] <;> rfl), Zq12 HB GE160 GE167⟩
    ·rw [if_neg c8] at H
     have c8b0 : ((t161.length : Int) == 5) = false := beq_eq_false_iff_ne.mpr c8;have c8b1 : ((t161.length : Int) != 5) = true := bne_iff_ne.mpr c8;obtain rfl := Option.some.inj H;go_enter Try.func7, Try.ntmps7
     go_wp2_with (first | ((with_reducible refine zbk (N := 10) rfl ?_); (try (refine zbc (by rfl) ?_; dsimp only)); refine Kd.zc9 (Kd.int .i64) _ 3 ?hg (N := 10) ?hd (xs := ([1, 4, 4, 4] : List Int)) (inner := [.int .i64 1, .int .i64 4, .int .i64 4, .int .i64 4]) (ok := fun _ => True) (okp := fun _ => True) ?hr ?hp (fun _ hk => hk) trivial (Below.refl _ _) (Nat.le_refl _) (by simp) ?_; (case hd => rfl); (case hg => rfl); (case hr => first | (go_simp; done) | (go_simp; rfl)); (case hp => exact (Reps.one (show Kd.M (Kd.int .i64) _ _ _ 1 [.int .i64 1] from rfl) (Reps.one (show Kd.M (Kd.int .i64) _ _ _ 4 [.int .i64 4] from rfl) (Reps.one (show Kd.M (Kd.int .i64) _ _ _ 4 [.int .i64 4] from rfl) (Reps.one (show Kd.M (Kd.int .i64) _ _ _ 4 [.int .i64 4] from rfl) (Reps.none _ _)))))); intro v140 w110 ho111 hb hg_ hnew_; clear hg_ hnew_; (first | rw [← Ny139.out] at ho111 | (simp only [Int.reduceToNat] at ho111; rw [← Ny139.out] at ho111)); have n0_ := za.mk (Kd.zb9 ho111 (zg (Zq2 HB))); have n1_ := za.mk (zf (Zq2 HB) hb); clear HB; have HO141 := n0_; have HB := n1_; clear n0_ n1_; clear hb ho111) | ((with_reducible refine zbk (N := 11) rfl ?_); (try (refine zbc (by rfl) ?_; dsimp only)); refine Kd.zc9 (Kd.int .i64) _ 3 ?hg (N := 11) ?hd (xs := ([0, 1] : List Int)) (inner := [.int .i64 0, .int .i64 1]) (ok := fun _ => True) (okp := fun _ => True) ?hr ?hp (fun _ hk => hk) trivial (Below.refl _ _) (Nat.le_refl _) (by simp) ?_; (case hd => rfl); (case hg => rfl); (case hr => first | (go_simp; done) | (go_simp; rfl)); (case hp => exact (Reps.one (show Kd.M (Kd.int .i64) _ _ _ 0 [.int .i64 0] from rfl) (Reps.one (show Kd.M (Kd.int .i64) _ _ _ 1 [.int .i64 1] from rfl) (Reps.none _ _)))); intro v143 w112 ho113 hb hg_ hnew_; clear hg_ hnew_; (first | rw [← Ny142.out] at ho113 | (simp only [Int.reduceToNat] at ho113; rw [← Ny142.out] at ho113)); have n0_ := za.mk (Kd.zbi (Zq7 HO141) (Kd.zca ho113) hb); have n1_ := za.mk (Kd.zb9 (Kd.zcd ho113 (Kd.R_lt (Zq7 HO141))) (zg (Zq2 HB))); have n2_ := za.mk (zf (Zq2 HB) hb); clear HO141; clear HB; have HO141 := n0_; have HO144 := n1_; have HB := n2_; clear n0_ n1_ n2_; clear hb ho113) | ((with_reducible refine zbk (N := 12) rfl ?_); (try (refine zbc (by rfl) ?_; dsimp only)); refine Kd.zc9 (Kd.int .i64) _ 3 ?hg (N := 12) ?hd (xs := ([0, 2] : List Int)) (inner := [.int .i64 0, .int .i64 2]) (ok := fun _ => True) (okp := fun _ => True) ?hr ?hp (fun _ hk => hk) trivial (Below.refl _ _) (Nat.le_refl _) (by simp) ?_; (case hd => rfl); (case hg => rfl); (case hr => first | (go_simp; done) | (go_simp; rfl)); (case hp => exact (Reps.one (show Kd.M (Kd.int .i64) _ _ _ 0 [.int .i64 0] from rfl) (Reps.one (show Kd.M (Kd.int .i64) _ _ _ 2 [.int .i64 2] from rfl) (Reps.none _ _)))); intro v146 w114 ho115 hb hg_ hnew_; clear hg_ hnew_; (first | rw [← Ny145.out] at ho115 | (simp only [Int.reduceToNat] at ho115; rw [← Ny145.out] at ho115)); have n0_ := za.mk (Kd.zbi (Zq7 HO141) (Kd.zca ho115) hb); have n1_ := za.mk (Kd.zbi (Zq7 HO144) (Kd.zca ho115) hb); have n2_ := za.mk (Kd.zb9 (Kd.zcd (Kd.zcd ho115 (Kd.R_lt (Zq7 HO141))) (Kd.R_lt (Zq7 HO144))) (zg (Zq2 HB))); have n3_ := za.mk (zf (Zq2 HB) hb); clear HO141; clear HO144; clear HB; have HO141 := n0_; have HO144 := n1_; have HO147 := n2_; have HB := n3_; clear n0_ n1_ n2_ n3_; clear hb ho115) | ((with_reducible refine zbk (N := 13) rfl ?_); (try (refine zbc (by rfl) ?_; dsimp only)); refine Kd.zc9 (Kd.int .i64) _ 3 ?hg (N := 13) ?hd (xs := ([0, 3] : List Int)) (inner := [.int .i64 0, .int .i64 3]) (ok := fun _ => True) (okp := fun _ => True) ?hr ?hp (fun _ hk => hk) trivial (Below.refl _ _) (Nat.le_refl _) (by simp) ?_; (case hd => rfl); (case hg => rfl); (case hr => first | (go_simp; done) | (go_simp; rfl)); (case hp => exact (Reps.one (show Kd.M (Kd.int .i64) _ _ _ 0 [.int .i64 0] from rfl) (Reps.one (show Kd.M (Kd.int .i64) _ _ _ 3 [.int .i64 3] from rfl) (Reps.none _ _)))); intro v149 w116 ho117 hb hg_ hnew_; clear hg_ hnew_; (first | rw [← Ny148.out] at ho117 | (simp only [Int.reduceToNat] at ho117; rw [← Ny148.out] at ho117)); have n0_ := za.mk (Kd.zbi (Zq7 HO141) (Kd.zca ho117) hb); have n1_ := za.mk (Kd.zbi (Zq7 HO144) (Kd.zca ho117) hb); have n2_ := za.mk (Kd.zbi (Zq7 HO147) (Kd.zca ho117) hb); have n3_ := za.mk (Kd.zb9 (Kd.zcd (Kd.zcd (Kd.zcd ho117 (Kd.R_lt (Zq7 HO141))) (Kd.R_lt (Zq7 HO144))) (Kd.R_lt (Zq7 HO147))) (zg (Zq2 HB))); have n4_ := za.mk (zf (Zq2 HB) hb); clear HO141; clear HO144; clear HO147; clear HB; have HO141 := n0_; have HO144 := n1_; have HO147 := n2_; have HO150 := n3_; have HB := n4_; clear n0_ n1_ n2_ n3_ n4_; clear hb ho117; obtain ⟨Ao118, co118, eo118⟩ := Kd.zb6 HO144.out; subst eo118; obtain ⟨Ao119, co119, eo119⟩ := Kd.zb6 HO147.out; subst eo119; obtain ⟨Ao120, co120, eo120⟩ := Kd.zb6 HO150.out; subst eo120) | ((with_reducible refine zbk (N := 14) rfl ?_); (try (refine zbc (by rfl) ?_; dsimp only)); refine Kd.N_lit (Kd.slice 3 (Kd.int .i64)) _ 23 ?hg (N' := 14) ?hd (xs := ([y142, y145, y148] : List (List Int))) (inner := [.slice Ao118 y142.length co118, .slice Ao119 y145.length co119, .slice Ao120 y148.length co120]) (ok := (fun k_ => some k_ ≠ (v140 : Value).ownBlock)) (okp := (fun k_ => some k_ ≠ (v140 : Value).ownBlock)) ?hr ?hp (fun _ hk => hk) ((show ∀ k_, w116.heap.size ≤ k_ → (fun k_ => some k_ ≠ (v140 : Value).ownBlock) k_ from fun k_ hk => Kd.fresh' (Kd.R_lt (Zq7 HO141)) k_ hk) _ (Nat.le_refl _)) (Below.refl _ _) (Nat.le_refl _) (by simp) ?_; (case hd => rfl); (case hg => rfl); (case hr => first | (go_simp; done) | (go_simp; rfl)); (case hp => exact (Reps.one (show Kd.FK (Kd.slice 3 (Kd.int .i64)) _ _ y142 [.slice Ao118 y142.length co118] from (Kd.zb3 (Kd.zo (Kd.zbl (ok' := (fun k_ => some k_ ≠ (v140 : Value).ownBlock)) (HO144.out) (fun k_ hk => hk.1.1.2))).2.1 (Kd.R_F (Kd.zbl (ok' := (fun k_ => some k_ ≠ (v140 : Value).ownBlock)) (HO144.out) (fun k_ hk => hk.1.1.2))))) (Reps.one (show Kd.FK (Kd.slice 3 (Kd.int .i64)) _ _ y145 [.slice Ao119 y145.length co119] from (Kd.zb3 (Kd.zo (Kd.zbl (ok' := (fun k_ => some k_ ≠ (v140 : Value).ownBlock)) (HO147.out) (fun k_ hk => hk.1.1.2))).2.1 (Kd.R_F (Kd.zbl (ok' := (fun k_ => some k_ ≠ (v140 : Value).ownBlock)) (HO147.out) (fun k_ hk => hk.1.1.2))))) (Reps.one (show Kd.FK (Kd.slice 3 (Kd.int .i64)) _ _ y148 [.slice Ao120 y148.length co120] from (Kd.zb3 (Kd.zo (Kd.zbl (ok' := (fun k_ => some k_ ≠ (v140 : Value).ownBlock)) (HO150.out) (fun k_ hk => hk.1.1.2))).2.1 (Kd.R_F (Kd.zbl (ok' := (fun k_ => some k_ ≠ (v140 : Value).ownBlock)) (HO150.out) (fun k_ hk => hk.1.1.2))))) (Reps.none _ _))))); intro v152 w121 ho122 hb hg_ hnew_; clear hg_ hnew_; (first | rw [← Ny151.out] at ho122 | (simp only [Int.reduceToNat] at ho122; rw [← Ny151.out] at ho122)); have n0_ := za.mk (Kd.zby (Zq7 HO141) hb); have n1_ := za.mk (Kd.zem ho122 (zg (Zq2 HB))); have n2_ := za.mk (zf (Zq2 HB) hb); clear HO141; clear HB; clear HO144; clear HO147; clear HO150; have HO141 := n0_; have HO153 := n1_; have HB := n2_; clear n0_ n1_ n2_; clear hb ho122; obtain ⟨Ao123, co123, eo123⟩ := Kd.zb6 HO141.out; subst eo123; obtain ⟨Ao124, co124, eo124⟩ := Kd.zen HO153.out; subst eo124) | ((with_reducible refine zbw (f := 9) rfl ?_); refine zc0 (some 17) rfl rfl Try.func9 (by kernel_rfl) rfl #[.slice Ao123 y139.length co123, .slice Ao124 y151.length co124, .int .i64 2] rfl Zmt ?_; (with_reducible refine (zh.calls k _ _ y139 _ _ y151 2 t154 t157 _ ?side1 ?side2 ?side3 ?side4 A3.out).mono ?_); (case side1 => exact Zq4 ((Kd.zo HO141.out).2.2)); (case side2 => exact (Kd.zo HO141.out).2.1); (case side3 => exact Zq4 ((Kd.zbq HO153.out).2.2)); (case side4 => exact (Kd.zbq HO153.out).2.1); rintro e w125 ⟨v155, v158, rfl, ho0, ho1, hb⟩; refine ⟨_, rfl, ?_⟩; have n0_ := za.mk (Kd.zbi (Zq7 HO141) (Kd.zbp ho1) hb); have n1_ := za.mk (Kd.zbt (Kd.zcy (Kd.zcy (Kd.zer (Zq9 HO153) hb) (Kd.zbp ho0)) (Kd.zbp ho1)) (fun _ h_ => h_.1)); have n2_ := za.mk (Kd.zb7 (Kd.zx (ok' := fun k_ => some k_ ≠ (v158 : Value).ownBlock ∧ some k_ ≠ (.slice Ao123 y139.length co123 : Value).ownBlock ∧ some k_ ≠ (.slice Ao124 y151.length co124 : Value).ownBlock) (Kd.zdm ho0) (fun k_ hk_ => ⟨hk_.1, (Kd.fresh' (Kd.R_lt (Zq7 HO141)) k_ hk_.2.1), (Kd.fresh' (Kd.N_lt (Zq9 HO153)) k_ hk_.2.1)⟩)) (zg (Zq2 HB))); have n3_ := za.mk (Kd.zb7 (Kd.zcw ho1 (Kd.R_lt (Zq7 HO141))) (zg (Zq2 HB))); have n4_ := za.mk (zf (Zq2 HB) hb); clear HO141; clear HO153; clear HB; have HO141 := n0_; have HO153 := n1_; have HO156 := n2_; have HO159 := n3_; have HB := n4_; clear n0_ n1_ n2_ n3_ n4_; (try clear hb); (try clear hb2); (try clear hk); (try clear hi); (try clear ho0); (try clear ho1)) | ((with_reducible refine zbk (N := 5) rfl ?_); (try (refine zbc (by rfl) ?_; dsimp only)); refine zcv ?hg (N := 5) ?hd (cs := #[.slice none 0 0, .slice none 0 0]) (t := 28) ?hr ?_; (case hd => rfl); (case hg => rfl); (case hr => first | (go_simp; done) | (go_simp; rfl)); intro gb160 hg w126 hbox hb; have n0_ := za.mk (Kd.zby (Zq7 HO141) hb); have n1_ := za.mk (Kd.zcj (Kd.zc5 (Zq9 HO153) gb160 (Nat.le_of_eq hg.symm)) hb); have n2_ := za.mk (Kd.zu (Kd.zci (Zq10 HO156) gb160 (Nat.le_of_eq hg.symm)) hb); have n3_ := za.mk (Kd.zu (Zq10 HO159) hb); have n4_ := za.mk (zf (Zq2 HB) hb); have n5_ := za.mk (hbox); have n6_ := za.mk ((by rw [hg]; exact (zg (Zq2 HB)) : w.heap.size ≤ gb160)); have n7_ := za.mk ((by rw [hg]; exact (zg (Zq2 HB)) : w.heap.size ≤ gb160)); clear HO141; clear HO153; clear HO156; clear HO159; clear HB; have HO141 := n0_; have HO153 := n1_; have HO156 := n2_; have HO159 := n3_; have HB := n4_; have BK160 := n5_; have GW160 := n6_; have GE160 := n7_; clear n0_ n1_ n2_ n3_ n4_ n5_ n6_ n7_; clear hb hbox hg; obtain ⟨Ao127, co127, eo127⟩ := Kd.zcc HO156.out; subst eo127; have hcz128_0 : w126.cell? ⟨gb160, 0, none⟩ = some (.slice none 0 0) := (zba BK160.out 0).trans rfl; have hcz128_1 : w126.cell? ⟨gb160, 1, none⟩ = some (.slice none 0 0) := (zba BK160.out 1).trans rfl; have hfz128_0 := zw BK160.out 0; have hfz128_1 := zw BK160.out 1; obtain ⟨Ao129, co129, eo129⟩ := Kd.zcc HO159.out; subst eo129) | ((with_reducible refine zbw (f := 9) rfl ?_); refine zc0 (some 20) rfl rfl Try.func9 (by kernel_rfl) rfl #[.slice Ao123 y139.length co123, .slice Ao124 y151.length co124, .int .i64 3] rfl Zmt ?_; (with_reducible refine (zh.calls k _ _ y139 _ _ y151 3 t161 t164 _ ?side1 ?side2 ?side3 ?side4 A4.out).mono ?_); (case side1 => refine (Kd.zo (e := 3) (base := w.heap.size) (ok := fun k_ => ((((True ∧ some k_ ≠ (.slice Ao118 y142.length co118 : Value).ownBlock) ∧ some k_ ≠ (.slice Ao119 y145.length co119 : Value).ownBlock) ∧ some k_ ≠ (.slice Ao120 y148.length co120 : Value).ownBlock) ∧ some k_ ≠ (.slice Ao129 t157.length co129 : Value).ownBlock)) (n := y139.length) (c := co123) ?_).2.2; exact (by (with_reducible repeat (first | apply Kd.zb0 | apply Kd.zb2 | apply Kd.zce)); exact (Kd.zbl (Kd.zbz (p := ⟨gb160, 1, none⟩) (Kd.zbz (p := ⟨gb160, 0, none⟩) (Kd.zb5 HO141.out BK160.out (by decide)) (fun _ hk => hk.2) (.slice Ao127 t154.length co127)) (fun _ hk => hk.2) (.slice Ao129 t157.length co129)) (fun _ h_ => h_.1)))); (case side2 => exact (Kd.zo HO141.out).2.1); (case side3 => refine (Kd.zbq (e := 23) (base := w.heap.size) (ok := fun k_ => (((some k_ ≠ (.slice Ao123 y139.length co123 : Value).ownBlock ∧ some k_ ≠ (.slice Ao127 t154.length co127 : Value).ownBlock) ∧ some k_ ≠ (.slice Ao129 t157.length co129 : Value).ownBlock) ∧ k_ ≠ gb160)) (n := y151.length) (c := co124) ?_).2.2; exact (by (with_reducible repeat (first | apply Kd.zcf | apply Kd.zcg | apply Kd.zcp)); exact (Kd.zbt (Kd.zch (p := ⟨gb160, 1, none⟩) (Kd.zch (p := ⟨gb160, 0, none⟩) (Kd.zbt HO153.out (fun k_ hk => (⟨hk, hk.2⟩ : _ ∧ k_ ≠ gb160))) (fun _ hk => hk.2) (.slice Ao127 t154.length co127)) (fun _ hk => hk.2) (.slice Ao129 t157.length co129)) (fun _ h_ => h_.1)))); (case side4 => exact (Kd.zbq HO153.out).2.1); rintro e w130 ⟨v162, v165, rfl, ho0, ho1, hb⟩; refine ⟨_, rfl, ?_⟩; have n0_ := za.mk (Kd.zbi (by (with_reducible repeat (first | apply Kd.zb0 | apply Kd.zb2 | apply Kd.zce)); exact (Kd.zbl (Kd.zbz (p := ⟨gb160, 1, none⟩) (Kd.zbz (p := ⟨gb160, 0, none⟩) (Kd.zb5 HO141.out BK160.out (by decide)) (fun _ hk => hk.2) (.slice Ao127 t154.length co127)) (fun _ hk => hk.2) (.slice Ao129 t157.length co129)) (fun _ h_ => h_.1))) (Kd.zbp ho1) hb); have n1_ := za.mk (Kd.zbt (Kd.zcy (Kd.zcy (Kd.zer (by (with_reducible repeat (first | apply Kd.zcf | apply Kd.zcg | apply Kd.zcp)); exact (Kd.zbt (Kd.zch (p := ⟨gb160, 1, none⟩) (Kd.zch (p := ⟨gb160, 0, none⟩) (Kd.zbt HO153.out (fun k_ hk => (⟨hk, hk.2⟩ : _ ∧ k_ ≠ gb160))) (fun _ hk => hk.2) (.slice Ao127 t154.length co127)) (fun _ hk => hk.2) (.slice Ao129 t157.length co129)) (fun _ h_ => h_.1))) hb) (Kd.zbp ho0)) (Kd.zbp ho1)) (fun _ h_ => h_.1)); have n2_ := za.mk (Kd.zx (Kd.zde (Kd.zde (Kd.zfs (by (with_reducible repeat (first | apply Kd.zbh | apply Kd.zbg | apply Kd.zbu)); exact (Kd.zx (Kd.zbb (p := ⟨gb160, 1, none⟩) (Kd.zbb (p := ⟨gb160, 0, none⟩) (Kd.zx HO156.out (fun k_ hk => (⟨hk, hk.2⟩ : _ ∧ k_ ≠ gb160))) (fun _ hk => hk.2) (.slice Ao127 t154.length co127)) (fun _ hk => hk.2) (.slice Ao129 t157.length co129)) (fun _ h_ => h_.1))) hb) (Kd.zbp ho0)) (Kd.zbp ho1)) (fun _ h_ => h_.1)); have n3_ := za.mk (Kd.zc4 (by (with_reducible repeat (first | apply Kd.zbh | apply Kd.zbg | apply Kd.zbu)); exact (Kd.zx (Kd.zbb (p := ⟨gb160, 1, none⟩) (Kd.zbb (p := ⟨gb160, 0, none⟩) (Kd.zb8 HO159.out BK160.out (by decide)) (fun _ hk => hk.2) (.slice Ao127 t154.length co127)) (fun _ hk => hk.2) (.slice Ao129 t157.length co129)) (fun _ h_ => h_.1))) (Kd.zbp ho1) hb); have n4_ := za.mk (Kd.zb7 (Kd.zx (ok' := fun k_ => some k_ ≠ (v165 : Value).ownBlock ∧ some k_ ≠ (.slice Ao123 y139.length co123 : Value).ownBlock ∧ some k_ ≠ (.slice Ao124 y151.length co124 : Value).ownBlock ∧ some k_ ≠ (.slice Ao127 t154.length co127 : Value).ownBlock ∧ some k_ ≠ (.slice Ao129 t157.length co129 : Value).ownBlock ∧ k_ ≠ gb160) (Kd.zdm ho0) (fun k_ hk_ => ⟨hk_.1, (Kd.fresh' (Kd.R_lt (by (with_reducible repeat (first | apply Kd.zb0 | apply Kd.zb2 | apply Kd.zce)); exact (Kd.zbl (Kd.zbz (p := ⟨gb160, 1, none⟩) (Kd.zbz (p := ⟨gb160, 0, none⟩) (Kd.zb5 HO141.out BK160.out (by decide)) (fun _ hk => hk.2) (.slice Ao127 t154.length co127)) (fun _ hk => hk.2) (.slice Ao129 t157.length co129)) (fun _ h_ => h_.1)))) k_ hk_.2.1), (Kd.fresh' (Kd.N_lt (by (with_reducible repeat (first | apply Kd.zcf | apply Kd.zcg | apply Kd.zcp)); exact (Kd.zbt (Kd.zch (p := ⟨gb160, 1, none⟩) (Kd.zch (p := ⟨gb160, 0, none⟩) (Kd.zbt HO153.out (fun k_ hk => (⟨hk, hk.2⟩ : _ ∧ k_ ≠ gb160))) (fun _ hk => hk.2) (.slice Ao127 t154.length co127)) (fun _ hk => hk.2) (.slice Ao129 t157.length co129)) (fun _ h_ => h_.1)))) k_ hk_.2.1), (Kd.fresh' (Kd.zdk (by (with_reducible repeat (first | apply Kd.zbh | apply Kd.zbg | apply Kd.zbu)); exact (Kd.zx (Kd.zbb (p := ⟨gb160, 1, none⟩) (Kd.zbb (p := ⟨gb160, 0, none⟩) (Kd.zx HO156.out (fun k_ hk => (⟨hk, hk.2⟩ : _ ∧ k_ ≠ gb160))) (fun _ hk => hk.2) (.slice Ao127 t154.length co127)) (fun _ hk => hk.2) (.slice Ao129 t157.length co129)) (fun _ h_ => h_.1)))) k_ hk_.2.1), (Kd.fresh' (Kd.zdk (by (with_reducible repeat (first | apply Kd.zbh | apply Kd.zbg | apply Kd.zbu)); exact (Kd.zx (Kd.zbb (p := ⟨gb160, 1, none⟩) (Kd.zbb (p := ⟨gb160, 0, none⟩) (Kd.zb8 HO159.out BK160.out (by decide)) (fun _ hk => hk.2) (.slice Ao127 t154.length co127)) (fun _ hk => hk.2) (.slice Ao129 t157.length co129)) (fun _ h_ => h_.1)))) k_ hk_.2.1), (Kd.zfn (g := gb160) (o := .cells #[.slice Ao127 t154.length co127, .slice Ao129 t157.length co129] 28 (0, 0)) (by (with_reducible repeat (first | refine zm ?_ _ | refine zy ?_ | refine zn ?_ _)); refine zb1 (cs := #[.slice Ao127 t154.length co127, .slice none 0 0]) ?_ 1 _ rfl; (with_reducible repeat (first | refine zm ?_ _ | refine zy ?_ | refine zn ?_ _)); refine zb1 (cs := #[.slice none 0 0, .slice none 0 0]) ?_ 0 _ rfl; (with_reducible repeat (first | refine zm ?_ _ | refine zy ?_ | refine zn ?_ _)); exact BK160.out) k_ hk_.2.1)⟩)) (zg (Zq8 HB GE160))); have n5_ := za.mk (Kd.zb7 (Kd.zcw (Kd.zcw ho1 (Kd.R_lt (by (with_reducible repeat (first | apply Kd.zb0 | apply Kd.zb2 | apply Kd.zce)); exact (Kd.zbl (Kd.zbz (p := ⟨gb160, 1, none⟩) (Kd.zbz (p := ⟨gb160, 0, none⟩) (Kd.zb5 HO141.out BK160.out (by decide)) (fun _ hk => hk.2) (.slice Ao127 t154.length co127)) (fun _ hk => hk.2) (.slice Ao129 t157.length co129)) (fun _ h_ => h_.1))))) (Kd.zdk (by (with_reducible repeat (first | apply Kd.zbh | apply Kd.zbg | apply Kd.zbu)); exact (Kd.zx (Kd.zbb (p := ⟨gb160, 1, none⟩) (Kd.zbb (p := ⟨gb160, 0, none⟩) (Kd.zb8 HO159.out BK160.out (by decide)) (fun _ hk => hk.2) (.slice Ao127 t154.length co127)) (fun _ hk => hk.2) (.slice Ao129 t157.length co129)) (fun _ h_ => h_.1))))) (zg (Zq8 HB GE160))); have n6_ := za.mk (zbm (g := gb160) (o := .cells #[.slice Ao127 t154.length co127, .slice Ao129 t157.length co129] 28 (0, 0)) (by (with_reducible repeat (first | refine zm ?_ _ | refine zy ?_ | refine zn ?_ _)); refine zb1 (cs := #[.slice Ao127 t154.length co127, .slice none 0 0]) ?_ 1 _ rfl; (with_reducible repeat (first | refine zm ?_ _ | refine zy ?_ | refine zn ?_ _)); refine zb1 (cs := #[.slice none 0 0, .slice none 0 0]) ?_ 0 _ rfl; (with_reducible repeat (first | refine zm ?_ _ | refine zy ?_ | refine zn ?_ _)); exact BK160.out) hb); have n7_ := za.mk (zf (Zq8 HB GE160) hb); clear HO141; clear HO153; clear HO156; clear HO159; clear BK160; clear HB; have HO141 := n0_; have HO153 := n1_; have HO156 := n2_; have HO159 := n3_; have HO163 := n4_; have HO166 := n5_; have BK160 := n6_; have HB := n7_; clear n0_ n1_ n2_ n3_ n4_ n5_ n6_ n7_; (try clear hb); (try clear hb2); (try clear hk); (try clear hi); (try clear ho0); (try clear ho1)) | ((with_reducible refine zbk (N := 6) rfl ?_); (try (refine zbc (by rfl) ?_; dsimp only)); refine zcv ?hg (N := 6) ?hd (cs := #[.slice none 0 0, .slice none 0 0]) (t := 28) ?hr ?_; (case hd => rfl); (case hg => rfl); (case hr => first | (go_simp; done) | (go_simp; rfl)); intro gb167 hg w131 hbox hb; have n0_ := za.mk (Kd.zby (Zq7 HO141) hb); have n1_ := za.mk (Kd.zcj (Kd.zc5 (Zq9 HO153) gb167 (Nat.le_of_eq hg.symm)) hb); have n2_ := za.mk (Kd.zu (Kd.zci (Zq10 HO156) gb167 (Nat.le_of_eq hg.symm)) hb); have n3_ := za.mk (Kd.zu (Zq10 HO159) hb); have n4_ := za.mk (Kd.zu (Kd.zci (Zq10 HO163) gb167 (Nat.le_of_eq hg.symm)) hb); have n5_ := za.mk (Kd.zu (Zq10 HO166) hb); have n6_ := za.mk (zbm (g := gb160) (o := .cells #[.slice Ao127 t154.length co127, .slice Ao129 t157.length co129] 28 (0, 0)) (Zq11 BK160) hb); have n7_ := za.mk (zf (Zq8 HB GE160) hb); have n8_ := za.mk (hbox); have n9_ := za.mk ((by rw [hg]; exact (zg (Zq8 HB GE160)) : w.heap.size ≤ gb167)); have n10_ := za.mk ((by rw [hg]; exact (zg (Zq8 HB GE160)) : w.heap.size ≤ gb167)); have n11_ := za.mk ((by rw [hg]; exact Nat.ne_of_lt (zda (g := gb160) (o := .cells #[.slice Ao127 t154.length co127, .slice Ao129 t157.length co129] 28 (0, 0)) (Zq11 BK160)) : gb160 ≠ gb167)); have n12_ := za.mk ((by rw [hg]; exact Nat.ne_of_gt (zda (g := gb160) (o := .cells #[.slice Ao127 t154.length co127, .slice Ao129 t157.length co129] 28 (0, 0)) (Zq11 BK160)) : gb167 ≠ gb160)); clear HO141; clear HO153; clear HO156; clear HO159; clear HO163; clear HO166; clear BK160; clear HB; have HO141 := n0_; have HO153 := n1_; have HO156 := n2_; have HO159 := n3_; have HO163 := n4_; have HO166 := n5_; have BK160 := n6_; have HB := n7_; have BK167 := n8_; have GW167 := n9_; have GE167 := n10_; have NB160_167 := n11_; have NB167_160 := n12_; clear n0_ n1_ n2_ n3_ n4_ n5_ n6_ n7_ n8_ n9_ n10_ n11_ n12_; clear hb hbox hg; obtain ⟨Ao132, co132, eo132⟩ := Kd.zcc HO163.out; subst eo132; have hnb133 := NB167_160.out; have hnc133 := NB160_167.out; have hcz134_0 : w131.cell? ⟨gb167, 0, none⟩ = some (.slice none 0 0) := (zba BK167.out 0).trans rfl; have hcz134_1 : w131.cell? ⟨gb167, 1, none⟩ = some (.slice none 0 0) := (zba BK167.out 1).trans rfl; have hfz134_0 := zw BK167.out 0; have hfz134_1 := zw BK167.out 1; obtain ⟨Ao135, co135, eo135⟩ := Kd.zcc HO166.out; subst eo135; have hcz136_0 : w131.cell? ⟨gb160, 0, none⟩ = some (.slice Ao127 t154.length co127) := (zba BK160.out 0).trans rfl; have hcz136_1 : w131.cell? ⟨gb160, 1, none⟩ = some (.slice Ao129 t157.length co129) := (zba BK160.out 1).trans rfl; have hfz136_0 := zw BK160.out 0; have hfz136_1 := zw BK160.out 1) | (go_at_call 17; (with_reducible refine (zb.calls k _ _ y139 _ _ y151 2 t168 _ ?side1 ?side2 ?side3 ?side4 A6.out).mono ?_); (case side1 => refine (Kd.zo (e := 3) (base := w.heap.size) (ok := fun k_ => (((((True ∧ some k_ ≠ (.slice Ao118 y142.length co118 : Value).ownBlock) ∧ some k_ ≠ (.slice Ao119 y145.length co119 : Value).ownBlock) ∧ some k_ ≠ (.slice Ao120 y148.length co120 : Value).ownBlock) ∧ some k_ ≠ (.slice Ao129 t157.length co129 : Value).ownBlock) ∧ some k_ ≠ (.slice Ao135 t164.length co135 : Value).ownBlock)) (n := y139.length) (c := co123) ?_).2.2; exact (by (with_reducible repeat (first | apply Kd.zb0 | apply Kd.zb2 | apply Kd.zce)); exact (Kd.zbl (Kd.zbz (p := ⟨gb167, 1, none⟩) (Kd.zbz (p := ⟨gb167, 0, none⟩) (Kd.zb5 HO141.out BK167.out (by decide)) (fun _ hk => hk.2) (.slice Ao132 t161.length co132)) (fun _ hk => hk.2) (.slice Ao135 t164.length co135)) (fun _ h_ => h_.1)))); (case side2 => exact (Kd.zo HO141.out).2.1); (case side3 => refine (Kd.zbq (e := 23) (base := w.heap.size) (ok := fun k_ => ((((((some k_ ≠ (.slice Ao123 y139.length co123 : Value).ownBlock ∧ some k_ ≠ (.slice Ao127 t154.length co127 : Value).ownBlock) ∧ some k_ ≠ (.slice Ao129 t157.length co129 : Value).ownBlock) ∧ k_ ≠ gb160) ∧ some k_ ≠ (.slice Ao132 t161.length co132 : Value).ownBlock) ∧ some k_ ≠ (.slice Ao135 t164.length co135 : Value).ownBlock) ∧ k_ ≠ gb167)) (n := y151.length) (c := co124) ?_).2.2; exact (by (with_reducible repeat (first | apply Kd.zcf | apply Kd.zcg | apply Kd.zcp)); exact (Kd.zbt (Kd.zch (p := ⟨gb167, 1, none⟩) (Kd.zch (p := ⟨gb167, 0, none⟩) (Kd.zbt HO153.out (fun k_ hk => (⟨hk, hk.2⟩ : _ ∧ k_ ≠ gb167))) (fun _ hk => hk.2) (.slice Ao132 t161.length co132)) (fun _ hk => hk.2) (.slice Ao135 t164.length co135)) (fun _ h_ => h_.1)))); (case side4 => exact (Kd.zbq HO153.out).2.1); rintro e w137 ⟨rfl, hb⟩; have n0_ := za.mk (Kd.zby (by (with_reducible repeat (first | apply Kd.zb0 | apply Kd.zb2 | apply Kd.zce)); exact (Kd.zbl (Kd.zbz (p := ⟨gb167, 1, none⟩) (Kd.zbz (p := ⟨gb167, 0, none⟩) (Kd.zb5 HO141.out BK167.out (by decide)) (fun _ hk => hk.2) (.slice Ao132 t161.length co132)) (fun _ hk => hk.2) (.slice Ao135 t164.length co135)) (fun _ h_ => h_.1))) hb); have n1_ := za.mk (Kd.zcj (by (with_reducible repeat (first | apply Kd.zcf | apply Kd.zcg | apply Kd.zcp)); exact (Kd.zbt (Kd.zch (p := ⟨gb167, 1, none⟩) (Kd.zch (p := ⟨gb167, 0, none⟩) (Kd.zbt HO153.out (fun k_ hk => (⟨hk, hk.2⟩ : _ ∧ k_ ≠ gb167))) (fun _ hk => hk.2) (.slice Ao132 t161.length co132)) (fun _ hk => hk.2) (.slice Ao135 t164.length co135)) (fun _ h_ => h_.1))) hb); have n2_ := za.mk (Kd.zu (by (with_reducible repeat (first | apply Kd.zbh | apply Kd.zbg | apply Kd.zbu)); exact (Kd.zx (Kd.zbb (p := ⟨gb167, 1, none⟩) (Kd.zbb (p := ⟨gb167, 0, none⟩) (Kd.zx HO156.out (fun k_ hk => (⟨hk, hk.2⟩ : _ ∧ k_ ≠ gb167))) (fun _ hk => hk.2) (.slice Ao132 t161.length co132)) (fun _ hk => hk.2) (.slice Ao135 t164.length co135)) (fun _ h_ => h_.1))) hb); have n3_ := za.mk (Kd.zu (by (with_reducible repeat (first | apply Kd.zbh | apply Kd.zbg | apply Kd.zbu)); exact (Kd.zx (Kd.zbb (p := ⟨gb167, 1, none⟩) (Kd.zbb (p := ⟨gb167, 0, none⟩) (Kd.zb8 HO159.out BK167.out (by decide)) (fun _ hk => hk.2) (.slice Ao132 t161.length co132)) (fun _ hk => hk.2) (.slice Ao135 t164.length co135)) (fun _ h_ => h_.1))) hb); have n4_ := za.mk (Kd.zu (by (with_reducible repeat (first | apply Kd.zbh | apply Kd.zbg | apply Kd.zbu)); exact (Kd.zx (Kd.zbb (p := ⟨gb167, 1, none⟩) (Kd.zbb (p := ⟨gb167, 0, none⟩) (Kd.zx HO163.out (fun k_ hk => (⟨hk, hk.2⟩ : _ ∧ k_ ≠ gb167))) (fun _ hk => hk.2) (.slice Ao132 t161.length co132)) (fun _ hk => hk.2) (.slice Ao135 t164.length co135)) (fun _ h_ => h_.1))) hb); have n5_ := za.mk (Kd.zu (by (with_reducible repeat (first | apply Kd.zbh | apply Kd.zbg | apply Kd.zbu)); exact (Kd.zx (Kd.zbb (p := ⟨gb167, 1, none⟩) (Kd.zbb (p := ⟨gb167, 0, none⟩) (Kd.zb8 HO166.out BK167.out (by decide)) (fun _ hk => hk.2) (.slice Ao132 t161.length co132)) (fun _ hk => hk.2) (.slice Ao135 t164.length co135)) (fun _ h_ => h_.1))) hb); have n6_ := za.mk (zbm (g := gb160) (o := .cells #[.slice Ao127 t154.length co127, .slice Ao129 t157.length co129] 28 (0, 0)) (by (with_reducible repeat (first | refine zm ?_ _ | refine zy ?_ | refine zn ?_ _)); refine zdh ?_ NB160_167.out _; (with_reducible repeat (first | refine zm ?_ _ | refine zy ?_ | refine zn ?_ _)); refine zdh ?_ NB160_167.out _; (with_reducible repeat (first | refine zm ?_ _ | refine zy ?_ | refine zn ?_ _)); exact BK160.out) hb); have n7_ := za.mk (zbm (g := gb167) (o := .cells #[.slice Ao132 t161.length co132, .slice Ao135 t164.length co135] 28 (0, 0)) (by (with_reducible repeat (first | refine zm ?_ _ | refine zy ?_ | refine zn ?_ _)); refine zb1 (cs := #[.slice Ao132 t161.length co132, .slice none 0 0]) ?_ 1 _ rfl; (with_reducible repeat (first | refine zm ?_ _ | refine zy ?_ | refine zn ?_ _)); refine zb1 (cs := #[.slice none 0 0, .slice none 0 0]) ?_ 0 _ rfl; (with_reducible repeat (first | refine zm ?_ _ | refine zy ?_ | refine zn ?_ _)); exact BK167.out) hb); have n8_ := za.mk (zf (Zq12 HB GE160 GE167) hb); clear HO141; clear HO153; clear HO156; clear HO159; clear HO163; clear HO166; clear BK160; clear BK167; clear HB; have HO141 := n0_; have HO153 := n1_; have HO156 := n2_; have HO159 := n3_; have HO163 := n4_; have HO166 := n5_; have BK160 := n6_; have BK167 := n7_; have HB := n8_; clear n0_ n1_ n2_ n3_ n4_ n5_ n6_ n7_ n8_; (try clear hb); (try clear hb2); (try clear hk); (try clear hi); have hcz138_0 : w137.cell? ⟨gb167, 0, none⟩ = some (.slice Ao132 t161.length co132) := (zba BK167.out 0).trans rfl; have hcz138_1 : w137.cell? ⟨gb167, 1, none⟩ = some (.slice Ao135 t164.length co135) := (zba BK167.out 1).trans rfl; have hfz138_0 := zw BK167.out 0; have hfz138_1 := zw BK167.out 1))
     go_ret;exact ⟨by first | rfl | (simp [zbn, zbo] <;> rfl) | (simp [*, zbn, zbo] <;> rfl), Zq12 HB GE160 GE167⟩
   ·rw [if_neg c7] at H
    have c7b0 : (t168 == 9) = false := beq_eq_false_iff_ne.mpr c7;have c7b1 : (t168 != 9) = true := bne_iff_ne.mpr c7;obtain rfl := Option.some.inj H;go_enter Try.func7, Try.ntmps7
    go_wp2_with (first | ((with_reducible refine zbk (N := 10) rfl ?_); (try (refine zbc (by rfl) ?_; dsimp only)); refine Kd.zc9 (Kd.int .i64) _ 3 ?hg (N := 10) ?hd (xs := ([1, 4, 4, 4] : List Int)) (inner := [.int .i64 1, .int .i64 4, .int .i64 4, .int .i64 4]) (ok := fun _ => True) (okp := fun _ => True) ?hr ?hp (fun _ hk => hk) trivial (Below.refl _ _) (Nat.le_refl _) (by simp) ?_; (case hd => rfl); (case hg => rfl); (case hr => first | (go_simp; done) | (go_simp; rfl)); (case hp => exact (Reps.one (show Kd.M (Kd.int .i64) _ _ _ 1 [.int .i64 1] from rfl) (Reps.one (show Kd.M (Kd.int .i64) _ _ _ 4 [.int .i64 4] from rfl) (Reps.one (show Kd.M (Kd.int .i64) _ _ _ 4 [.int .i64 4] from rfl) (Reps.one (show Kd.M (Kd.int .i64) _ _ _ 4 [.int .i64 4] from rfl) (Reps.none _ _)))))); intro v140 w139 ho140 hb hg_ hnew_; clear hg_ hnew_; (first | rw [← Ny139.out] at ho140 | (simp only [Int.reduceToNat] at ho140; rw [← Ny139.out] at ho140)); have n0_ := za.mk (Kd.zb9 ho140 (zg (Zq2 HB))); have n1_ := za.mk (zf (Zq2 HB) hb); clear HB; have HO141 := n0_; have HB := n1_; clear n0_ n1_; clear hb ho140) | ((with_reducible refine zbk (N := 11) rfl ?_); (try (refine zbc (by rfl) ?_; dsimp only)); refine Kd.zc9 (Kd.int .i64) _ 3 ?hg (N := 11) ?hd (xs := ([0, 1] : List Int)) (inner := [.int .i64 0, .int .i64 1]) (ok := fun _ => True) (okp := fun _ => True) ?hr ?hp (fun _ hk => hk) trivial (Below.refl _ _) (Nat.le_refl _) (by simp) ?_; (case hd => rfl); (case hg => rfl); (case hr => first | (go_simp; done) | (go_simp; rfl)); (case hp => exact (Reps.one (show Kd.M (Kd.int .i64) _ _ _ 0 [.int .i64 0] from rfl) (Reps.one (show Kd.M (Kd.int .i64) _ _ _ 1 [.int .i64 1] from rfl) (Reps.none _ _)))); intro v143 w141 ho142 hb hg_ hnew_; clear hg_ hnew_; (first | rw [← Ny142.out] at ho142 | (simp only [Int.reduceToNat] at ho142; rw [← Ny142.out] at ho142)); have n0_ := za.mk (Kd.zbi (Zq7 HO141) (Kd.zca ho142) hb); have n1_ := za.mk (Kd.zb9 (Kd.zcd ho142 (Kd.R_lt (Zq7 HO141))) (zg (Zq2 HB))); have n2_ := za.mk (zf (Zq2 HB) hb); clear HO141; clear HB; have HO141 := n0_; have HO144 := n1_; have HB := n2_; clear n0_ n1_ n2_; clear hb ho142) | ((with_reducible refine zbk (N := 12) rfl ?_); (try (refine zbc (by rfl) ?_; dsimp only)); refine Kd.zc9 (Kd.int .i64) _ 3 ?hg (N := 12) ?hd (xs := ([0, 2] : List Int)) (inner := [.int .i64 0, .int .i64 2]) (ok := fun _ => True) (okp := fun _ => True) ?hr ?hp (fun _ hk => hk) trivial (Below.refl _ _) (Nat.le_refl _) (by simp) ?_; (case hd => rfl); (case hg => rfl); (case hr => first | (go_simp; done) | (go_simp; rfl)); (case hp => exact (Reps.one (show Kd.M (Kd.int .i64) _ _ _ 0 [.int .i64 0] from rfl) (Reps.one (show Kd.M (Kd.int .i64) _ _ _ 2 [.int .i64 2] from rfl) (Reps.none _ _)))); intro v146 w143 ho144 hb hg_ hnew_; clear hg_ hnew_; (first | rw [← Ny145.out] at ho144 | (simp only [Int.reduceToNat] at ho144; rw [← Ny145.out] at ho144)); have n0_ := za.mk (Kd.zbi (Zq7 HO141) (Kd.zca ho144) hb); have n1_ := za.mk (Kd.zbi (Zq7 HO144) (Kd.zca ho144) hb); have n2_ := za.mk (Kd.zb9 (Kd.zcd (Kd.zcd ho144 (Kd.R_lt (Zq7 HO141))) (Kd.R_lt (Zq7 HO144))) (zg (Zq2 HB))); have n3_ := za.mk (zf (Zq2 HB) hb); clear HO141; clear HO144; clear HB; have HO141 := n0_; have HO144 := n1_; have HO147 := n2_; have HB := n3_; clear n0_ n1_ n2_ n3_; clear hb ho144) | ((with_reducible refine zbk (N := 13) rfl ?_); (try (refine zbc (by rfl) ?_; dsimp only)); refine Kd.zc9 (Kd.int .i64) _ 3 ?hg (N := 13) ?hd (xs := ([0, 3] : List Int)) (inner := [.int .i64 0, .int .i64 3]) (ok := fun _ => True) (okp := fun _ => True) ?hr ?hp (fun _ hk => hk) trivial (Below.refl _ _) (Nat.le_refl _) (by simp) ?_; (case hd => rfl); (case hg => rfl); (case hr => first | (go_simp; done) | (go_simp; rfl)); (case hp => exact (Reps.one (show Kd.M (Kd.int .i64) _ _ _ 0 [.int .i64 0] from rfl) (Reps.one (show Kd.M (Kd.int .i64) _ _ _ 3 [.int .i64 3] from rfl) (Reps.none _ _)))); intro v149 w145 ho146 hb hg_ hnew_; clear hg_ hnew_; (first | rw [← Ny148.out] at ho146 | (simp only [Int.reduceToNat] at ho146; rw [← Ny148.out] at ho146)); have n0_ := za.mk (Kd.zbi (Zq7 HO141) (Kd.zca ho146) hb); have n1_ := za.mk (Kd.zbi (Zq7 HO144) (Kd.zca ho146) hb); have n2_ := za.mk (Kd.zbi (Zq7 HO147) (Kd.zca ho146) hb); have n3_ := za.mk (Kd.zb9 (Kd.zcd (Kd.zcd (Kd.zcd ho146 (Kd.R_lt (Zq7 HO141))) (Kd.R_lt (Zq7 HO144))) (Kd.R_lt (Zq7 HO147))) (zg (Zq2 HB))); have n4_ := za.mk (zf (Zq2 HB) hb); clear HO141; clear HO144; clear HO147; clear HB; have HO141 := n0_; have HO144 := n1_; have HO147 := n2_; have HO150 := n3_; have HB := n4_; clear n0_ n1_ n2_ n3_ n4_; clear hb ho146; obtain ⟨Ao147, co147, eo147⟩ := Kd.zb6 HO144.out; subst eo147; obtain ⟨Ao148, co148, eo148⟩ := Kd.zb6 HO147.out; subst eo148; obtain ⟨Ao149, co149, eo149⟩ := Kd.zb6 HO150.out; subst eo149) | ((with_reducible refine zbk (N := 14) rfl ?_); (try (refine zbc (by rfl) ?_; dsimp only)); refine Kd.N_lit (Kd.slice 3 (Kd.int .i64)) _ 23 ?hg (N' := 14) ?hd (xs := ([y142, y145, y148] : List (List Int))) (inner := [.slice Ao147 y142.length co147, .slice Ao148 y145.length co148, .slice Ao149 y148.length co149]) (ok := (fun k_ => some k_ ≠ (v140 : Value).ownBlock)) (okp := (fun k_ => some k_ ≠ (v140 : Value).ownBlock)) ?hr ?hp (fun _ hk => hk) ((show ∀ k_, w145.heap.size ≤ k_ → (fun k_ => some k_ ≠ (v140 : Value).ownBlock) k_ from fun k_ hk => Kd.fresh' (Kd.R_lt (Zq7 HO141)) k_ hk) _ (Nat.le_refl _)) (Below.refl _ _) (Nat.le_refl _) (by simp) ?_; (case hd => rfl); (case hg => rfl); (case hr => first | (go_simp; done) | (go_simp; rfl)); (case hp => exact (Reps.one (show Kd.FK (Kd.slice 3 (Kd.int .i64)) _ _ y142 [.slice Ao147 y142.length co147] from (Kd.zb3 (Kd.zo (Kd.zbl (ok' := (fun k_ => some k_ ≠ (v140 : Value).ownBlock)) (HO144.out) (fun k_ hk => hk.1.1.2))).2.1 (Kd.R_F (Kd.zbl (ok' := (fun k_ => some k_ ≠ (v140 : Value).ownBlock)) (HO144.out) (fun k_ hk => hk.1.1.2))))) (Reps.one (show Kd.FK (Kd.slice 3 (Kd.int .i64)) _ _ y145 [.slice Ao148 y145.length co148] from (Kd.zb3 (Kd.zo (Kd.zbl (ok' := (fun k_ => some k_ ≠ (v140 : Value).ownBlock)) (HO147.out) (fun k_ hk => hk.1.1.2))).2.1 (Kd.R_F (Kd.zbl (ok' := (fun k_ => some k_ ≠ (v140 : Value).ownBlock)) (HO147.out) (fun k_ hk => hk.1.1.2))))) (Reps.one (show Kd.FK (Kd.slice 3 (Kd.int .i64)) _ _ y148 [.slice Ao149 y148.length co149] from (Kd.zb3 (Kd.zo (Kd.zbl (ok' := (fun k_ => some k_ ≠ (v140 : Value).ownBlock)) (HO150.out) (fun k_ hk => hk.1.1.2))).2.1 (Kd.R_F (Kd.zbl (ok' := (fun k_ => some k_ ≠ (v140 : Value).ownBlock)) (HO150.out) (fun k_ hk => hk.1.1.2))))) (Reps.none _ _))))); intro v152 w150 ho151 hb hg_ hnew_; clear hg_ hnew_; (first | rw [← Ny151.out] at ho151 | (simp only [Int.reduceToNat] at ho151; rw [← Ny151.out] at ho151)); have n0_ := za.mk (Kd.zby (Zq7 HO141) hb); have n1_ := za.mk (Kd.zem ho151 (zg (Zq2 HB))); have n2_ := za.mk (zf (Zq2 HB) hb); clear HO141; clear HB; clear HO144; clear HO147; clear HO150; have HO141 := n0_; have HO153 := n1_; have HB := n2_; clear n0_ n1_ n2_; clear hb ho151; obtain ⟨Ao152, co152, eo152⟩ := Kd.zb6 HO141.out; subst eo152; obtain ⟨Ao153, co153, eo153⟩ := Kd.zen HO153.out; subst eo153) | ((with_reducible refine zbw (f := 9) rfl ?_); refine zc0 (some 17) rfl rfl Try.func9 (by kernel_rfl) rfl #[.slice Ao152 y139.length co152, .slice Ao153 y151.length co153, .int .i64 2] rfl Zmt ?_; (with_reducible refine (zh.calls k _ _ y139 _ _ y151 2 t154 t157 _ ?side1 ?side2 ?side3 ?side4 A3.out).mono ?_); (case side1 => exact Zq4 ((Kd.zo HO141.out).2.2)); (case side2 => exact (Kd.zo HO141.out).2.1); (case side3 => exact Zq4 ((Kd.zbq HO153.out).2.2)); (case side4 => exact (Kd.zbq HO153.out).2.1); rintro e w154 ⟨v155, v158, rfl, ho0, ho1, hb⟩; refine ⟨_, rfl, ?_⟩; have n0_ := za.mk (Kd.zbi (Zq7 HO141) (Kd.zbp ho1) hb); have n1_ := za.mk (Kd.zbt (Kd.zcy (Kd.zcy (Kd.zer (Zq9 HO153) hb) (Kd.zbp ho0)) (Kd.zbp ho1)) (fun _ h_ => h_.1)); have n2_ := za.mk (Kd.zb7 (Kd.zx (ok' := fun k_ => some k_ ≠ (v158 : Value).ownBlock ∧ some k_ ≠ (.slice Ao152 y139.length co152 : Value).ownBlock ∧ some k_ ≠ (.slice Ao153 y151.length co153 : Value).ownBlock) (Kd.zdm ho0) (fun k_ hk_ => ⟨hk_.1, (Kd.fresh' (Kd.R_lt (Zq7 HO141)) k_ hk_.2.1), (Kd.fresh' (Kd.N_lt (Zq9 HO153)) k_ hk_.2.1)⟩)) (zg (Zq2 HB))); have n3_ := za.mk (Kd.zb7 (Kd.zcw ho1 (Kd.R_lt (Zq7 HO141))) (zg (Zq2 HB))); have n4_ := za.mk (zf (Zq2 HB) hb); clear HO141; clear HO153; clear HB; have HO141 := n0_; have HO153 := n1_; have HO156 := n2_; have HO159 := n3_; have HB := n4_; clear n0_ n1_ n2_ n3_ n4_; (try clear hb); (try clear hb2); (try clear hk); (try clear hi); (try clear ho0); (try clear ho1)) | ((with_reducible refine zbk (N := 5) rfl ?_); (try (refine zbc (by rfl) ?_; dsimp only)); refine zcv ?hg (N := 5) ?hd (cs := #[.slice none 0 0, .slice none 0 0]) (t := 28) ?hr ?_; (case hd => rfl); (case hg => rfl); (case hr => first | (go_simp; done) | (go_simp; rfl)); intro gb160 hg w155 hbox hb; have n0_ := za.mk (Kd.zby (Zq7 HO141) hb); have n1_ := za.mk (Kd.zcj (Kd.zc5 (Zq9 HO153) gb160 (Nat.le_of_eq hg.symm)) hb); have n2_ := za.mk (Kd.zu (Kd.zci (Zq10 HO156) gb160 (Nat.le_of_eq hg.symm)) hb); have n3_ := za.mk (Kd.zu (Zq10 HO159) hb); have n4_ := za.mk (zf (Zq2 HB) hb); have n5_ := za.mk (hbox); have n6_ := za.mk ((by rw [hg]; exact (zg (Zq2 HB)) : w.heap.size ≤ gb160)); have n7_ := za.mk ((by rw [hg]; exact (zg (Zq2 HB)) : w.heap.size ≤ gb160)); clear HO141; clear HO153; clear HO156; clear HO159; clear HB; have HO141 := n0_; have HO153 := n1_; have HO156 := n2_; have HO159 := n3_; have HB := n4_; have BK160 := n5_; have GW160 := n6_; have GE160 := n7_; clear n0_ n1_ n2_ n3_ n4_ n5_ n6_ n7_; clear hb hbox hg; obtain ⟨Ao156, co156, eo156⟩ := Kd.zcc HO156.out; subst eo156; have hcz157_0 : w155.cell? ⟨gb160, 0, none⟩ = some (.slice none 0 0) := (zba BK160.out 0).trans rfl; have hcz157_1 : w155.cell? ⟨gb160, 1, none⟩ = some (.slice none 0 0) := (zba BK160.out 1).trans rfl; have hfz157_0 := zw BK160.out 0; have hfz157_1 := zw BK160.out 1; obtain ⟨Ao158, co158, eo158⟩ := Kd.zcc HO159.out; subst eo158) | ((with_reducible refine zbw (f := 9) rfl ?_); refine zc0 (some 20) rfl rfl Try.func9 (by kernel_rfl) rfl #[.slice Ao152 y139.length co152, .slice Ao153 y151.length co153, .int .i64 3] rfl Zmt ?_; (with_reducible refine (zh.calls k _ _ y139 _ _ y151 3 t161 t164 _ ?side1 ?side2 ?side3 ?side4 A4.out).mono ?_); (case side1 => refine (Kd.zo (e := 3) (base := w.heap.size) (ok := fun k_ => ((((True ∧ some k_ ≠ (.slice Ao147 y142.length co147 : Value).ownBlock) ∧ some k_ ≠ (.slice Ao148 y145.length co148 : Value).ownBlock) ∧ some k_ ≠ (.slice Ao149 y148.length co149 : Value).ownBlock) ∧ some k_ ≠ (.slice Ao158 t157.length co158 : Value).ownBlock)) (n := y139.length) (c := co152) ?_).2.2; exact (by (with_reducible repeat (first | apply Kd.zb0 | apply Kd.zb2 | apply Kd.zce)); exact (Kd.zbl (Kd.zbz (p := ⟨gb160, 1, none⟩) (Kd.zbz (p := ⟨gb160, 0, none⟩) (Kd.zb5 HO141.out BK160.out (by decide)) (fun _ hk => hk.2) (.slice Ao156 t154.length co156)) (fun _ hk => hk.2) (.slice Ao158 t157.length co158)) (fun _ h_ => h_.1)))); (case side2 => exact (Kd.zo HO141.out).2.1); (case side3 => refine (Kd.zbq (e := 23) (base := w.heap.size) (ok := fun k_ => (((some k_ ≠ (.slice Ao152 y139.length co152 : Value).ownBlock ∧ some k_ ≠ (.slice Ao156 t154.length co156 : Value).ownBlock) ∧ some k_ ≠ (.slice Ao158 t157.length co158 : Value).ownBlock) ∧ k_ ≠ gb160)) (n := y151.length) (c := co153) ?_).2.2; exact (by (with_reducible repeat (first | apply Kd.zcf | apply Kd.zcg | apply Kd.zcp)); exact (Kd.zbt (Kd.zch (p := ⟨gb160, 1, none⟩) (Kd.zch (p := ⟨gb160, 0, none⟩) (Kd.zbt HO153.out (fun k_ hk => (⟨hk, hk.2⟩ : _ ∧ k_ ≠ gb160))) (fun _ hk => hk.2) (.slice Ao156 t154.length co156)) (fun _ hk => hk.2) (.slice Ao158 t157.length co158)) (fun _ h_ => h_.1)))); (case side4 => exact (Kd.zbq HO153.out).2.1); rintro e w159 ⟨v162, v165, rfl, ho0, ho1, hb⟩; refine ⟨_, rfl, ?_⟩; have n0_ := za.mk (Kd.zbi (by (with_reducible repeat (first | apply Kd.zb0 | apply Kd.zb2 | apply Kd.zce)); exact (Kd.zbl (Kd.zbz (p := ⟨gb160, 1, none⟩) (Kd.zbz (p := ⟨gb160, 0, none⟩) (Kd.zb5 HO141.out BK160.out (by decide)) (fun _ hk => hk.2) (.slice Ao156 t154.length co156)) (fun _ hk => hk.2) (.slice Ao158 t157.length co158)) (fun _ h_ => h_.1))) (Kd.zbp ho1) hb); have n1_ := za.mk (Kd.zbt (Kd.zcy (Kd.zcy (Kd.zer (by (with_reducible repeat (first | apply Kd.zcf | apply Kd.zcg | apply Kd.zcp)); exact (Kd.zbt (Kd.zch (p := ⟨gb160, 1, none⟩) (Kd.zch (p := ⟨gb160, 0, none⟩) (Kd.zbt HO153.out (fun k_ hk => (⟨hk, hk.2⟩ : _ ∧ k_ ≠ gb160))) (fun _ hk => hk.2) (.slice Ao156 t154.length co156)) (fun _ hk => hk.2) (.slice Ao158 t157.length co158)) (fun _ h_ => h_.1))) hb) (Kd.zbp ho0)) (Kd.zbp ho1)) (fun _ h_ => h_.1)); have n2_ := za.mk (Kd.zx (Kd.zde (Kd.zde (Kd.zfs (by (with_reducible repeat (first | apply Kd.zbh | apply Kd.zbg | apply Kd.zbu)); exact (Kd.zx (Kd.zbb (p := ⟨gb160, 1, none⟩) (Kd.zbb (p := ⟨gb160, 0, none⟩) (Kd.zx HO156.out (fun k_ hk => (⟨hk, hk.2⟩ : _ ∧ k_ ≠ gb160))) (fun _ hk => hk.2) (.slice Ao156 t154.length co156)) (fun _ hk => hk.2) (.slice Ao158 t157.length co158)) (fun _ h_ => h_.1))) hb) (Kd.zbp ho0)) (Kd.zbp ho1)) (fun _ h_ => h_.1)); have n3_ := za.mk (Kd.zc4 (by (with_reducible repeat (first | apply Kd.zbh | apply Kd.zbg | apply Kd.zbu)); exact (Kd.zx (Kd.zbb (p := ⟨gb160, 1, none⟩) (Kd.zbb (p := ⟨gb160, 0, none⟩) (Kd.zb8 HO159.out BK160.out (by decide)) (fun _ hk => hk.2) (.slice Ao156 t154.length co156)) (fun _ hk => hk.2) (.slice Ao158 t157.length co158)) (fun _ h_ => h_.1))) (Kd.zbp ho1) hb); have n4_ := za.mk (Kd.zb7 (Kd.zx (ok' := fun k_ => some k_ ≠ (v165 : Value).ownBlock ∧ some k_ ≠ (.slice Ao152 y139.length co152 : Value).ownBlock ∧ some k_ ≠ (.slice Ao153 y151.length co153 : Value).ownBlock ∧ some k_ ≠ (.slice Ao156 t154.length co156 : Value).ownBlock ∧ some k_ ≠ (.slice Ao158 t157.length co158 : Value).ownBlock ∧ k_ ≠ gb160) (Kd.zdm ho0) (fun k_ hk_ => ⟨hk_.1, (Kd.fresh' (Kd.R_lt (by (with_reducible repeat (first | apply Kd.zb0 | apply Kd.zb2 | apply Kd.zce)); exact (Kd.zbl (Kd.zbz (p := ⟨gb160, 1, none⟩) (Kd.zbz (p := ⟨gb160, 0, none⟩) (Kd.zb5 HO141.out BK160.out (by decide)) (fun _ hk => hk.2) (.slice Ao156 t154.length co156)) (fun _ hk => hk.2) (.slice Ao158 t157.length co158)) (fun _ h_ => h_.1)))) k_ hk_.2.1), (Kd.fresh' (Kd.N_lt (by (with_reducible repeat (first | apply Kd.zcf | apply Kd.zcg | apply Kd.zcp)); exact (Kd.zbt (Kd.zch (p := ⟨gb160, 1, none⟩) (Kd.zch (p := ⟨gb160, 0, none⟩) (Kd.zbt HO153.out (fun k_ hk => (⟨hk, hk.2⟩ : _ ∧ k_ ≠ gb160))) (fun _ hk => hk.2) (.slice Ao156 t154.length co156)) (fun _ hk => hk.2) (.slice Ao158 t157.length co158)) (fun _ h_ => h_.1)))) k_ hk_.2.1), (Kd.fresh' (Kd.zdk (by (with_reducible repeat (first | apply Kd.zbh | apply Kd.zbg | apply Kd.zbu)); exact (Kd.zx (Kd.zbb (p := ⟨gb160, 1, none⟩) (Kd.zbb (p := ⟨gb160, 0, none⟩) (Kd.zx HO156.out (fun k_ hk => (⟨hk, hk.2⟩ : _ ∧ k_ ≠ gb160))) (fun _ hk => hk.2) (.slice Ao156 t154.length co156)) (fun _ hk => hk.2) (.slice Ao158 t157.length co158)) (fun _ h_ => h_.1)))) k_ hk_.2.1), (Kd.fresh' (Kd.zdk (by (with_reducible repeat (first | apply Kd.zbh | apply Kd.zbg | apply Kd.zbu)); exact (Kd.zx (Kd.zbb (p := ⟨gb160, 1, none⟩) (Kd.zbb (p := ⟨gb160, 0, none⟩) (Kd.zb8 HO159.out BK160.out (by decide)) (fun _ hk => hk.2) (.slice Ao156 t154.length co156)) (fun _ hk => hk.2) (.slice Ao158 t157.length co158)) (fun _ h_ => h_.1)))) k_ hk_.2.1), (Kd.zfn (g := gb160) (o := .cells #[.slice Ao156 t154.length co156, .slice Ao158 t157.length co158] 28 (0, 0)) (by (with_reducible repeat (first | refine zm ?_ _ | refine zy ?_ | refine zn ?_ _)); refine zb1 (cs := #[.slice Ao156 t154.length co156, .slice none 0 0]) ?_ 1 _ rfl; (with_reducible repeat (first | refine zm ?_ _ | refine zy ?_ | refine zn ?_ _)); refine zb1 (cs := #[.slice none 0 0, .slice none 0 0]) ?_ 0 _ rfl; (with_reducible repeat (first | refine zm ?_ _ | refine zy ?_ | refine zn ?_ _)); exact BK160.out) k_ hk_.2.1)⟩)) (zg (Zq8 HB GE160))); have n5_ := za.mk (Kd.zb7 (Kd.zcw (Kd.zcw ho1 (Kd.R_lt (by (with_reducible repeat (first | apply Kd.zb0 | apply Kd.zb2 | apply Kd.zce)); exact (Kd.zbl (Kd.zbz (p := ⟨gb160, 1, none⟩) (Kd.zbz (p := ⟨gb160, 0, none⟩) (Kd.zb5 HO141.out BK160.out (by decide)) (fun _ hk => hk.2) (.slice Ao156 t154.length co156)) (fun _ hk => hk.2) (.slice Ao158 t157.length co158)) (fun _ h_ => h_.1))))) (Kd.zdk (by (with_reducible repeat (first | apply Kd.zbh | apply Kd.zbg | apply Kd.zbu)); exact (Kd.zx (Kd.zbb (p := ⟨gb160, 1, none⟩) (Kd.zbb (p := ⟨gb160, 0, none⟩) (Kd.zb8 HO159.out BK160.out (by decide)) (fun _ hk => hk.2) (.slice Ao156 t154.length co156)) (fun _ hk => hk.2) (.slice Ao158 t157.length co158)) (fun _ h_ => h_.1))))) (zg (Zq8 HB GE160))); have n6_ := za.mk (zbm (g := gb160) (o := .cells #[.slice Ao156 t154.length co156, .slice Ao158 t157.length co158] 28 (0, 0)) (by (with_reducible repeat (first | refine zm ?_ _ | refine zy ?_ | refine zn ?_ _)); refine zb1 (cs := #[.slice Ao156 t154.length co156, .slice none 0 0]) ?_ 1 _ rfl; (with_reducible repeat (first | refine zm ?_ _ | refine zy ?_ | refine zn ?_ _)); refine zb1 (cs := #[.slice none 0 0, .slice none 0 0]) ?_ 0 _ rfl; (with_reducible repeat (first | refine zm ?_ _ | refine zy ?_ | refine zn ?_ _)); exact BK160.out) hb); have n7_ := za.mk (zf (Zq8 HB GE160) hb); clear HO141; clear HO153; clear HO156; clear HO159; clear BK160; clear HB; have HO141 := n0_; have HO153 := n1_; have HO156 := n2_; have HO159 := n3_; have HO163 := n4_; have HO166 := n5_; have BK160 := n6_; have HB := n7_; clear n0_ n1_ n2_ n3_ n4_ n5_ n6_ n7_; (try clear hb); (try clear hb2); (try clear hk); (try clear hi); (try clear ho0); (try clear ho1)) | ((with_reducible refine zbk (N := 6) rfl ?_); (try (refine zbc (by rfl) ?_; dsimp only)); refine zcv ?hg (N := 6) ?hd (cs := #[.slice none 0 0, .slice none 0 0]) (t := 28) ?hr ?_; (case hd => rfl); (case hg => rfl); (case hr => first | (go_simp; done) | (go_simp; rfl)); intro gb167 hg w160 hbox hb; have n0_ := za.mk (Kd.zby (Zq7 HO141) hb); have n1_ := za.mk (Kd.zcj (Kd.zc5 (Zq9 HO153) gb167 (Nat.le_of_eq hg.symm)) hb); have n2_ := za.mk (Kd.zu (Kd.zci (Zq10 HO156) gb167 (Nat.le_of_eq hg.symm)) hb); have n3_ := za.mk (Kd.zu (Zq10 HO159) hb); have n4_ := za.mk (Kd.zu (Kd.zci (Zq10 HO163) gb167 (Nat.le_of_eq hg.symm)) hb); have n5_ := za.mk (Kd.zu (Zq10 HO166) hb); have n6_ := za.mk (zbm (g := gb160) (o := .cells #[.slice Ao156 t154.length co156, .slice Ao158 t157.length co158] 28 (0, 0)) (Zq11 BK160) hb); have n7_ := za.mk (zf (Zq8 HB GE160) hb); have n8_ := za.mk (hbox); have n9_ := za.mk ((by rw [hg]; exact (zg (Zq8 HB GE160)) : w.heap.size ≤ gb167)); have n10_ := za.mk ((by rw [hg]; exact (zg (Zq8 HB GE160)) : w.heap.size ≤ gb167)); have n11_ := za.mk ((by rw [hg]; exact Nat.ne_of_lt (zda (g := gb160) (o := .cells #[.slice Ao156 t154.length co156, .slice Ao158 t157.length co158] 28 (0, 0)) (Zq11 BK160)) : gb160 ≠ gb167)); have n12_ := za.mk ((by rw [hg]; exact Nat.ne_of_gt (zda (g := gb160) (o := .cells #[.slice Ao156 t154.length co156, .slice Ao158 t157.length co158] 28 (0, 0)) (Zq11 BK160)) : gb167 ≠ gb160)); clear HO141; clear HO153; clear HO156; clear HO159; clear HO163; clear HO166; clear BK160; clear HB; have HO141 := n0_; have HO153 := n1_; have HO156 := n2_; have HO159 := n3_; have HO163 := n4_; have HO166 := n5_; have BK160 := n6_; have HB := n7_; have BK167 := n8_; have GW167 := n9_; have GE167 := n10_; have NB160_167 := n11_; have NB167_160 := n12_; clear n0_ n1_ n2_ n3_ n4_ n5_ n6_ n7_ n8_ n9_ n10_ n11_ n12_; clear hb hbox hg; obtain ⟨Ao161, co161, eo161⟩ := Kd.zcc HO163.out; subst eo161; have hnb162 := NB167_160.out; have hnc162 := NB160_167.out; have hcz163_0 : w160.cell? ⟨gb167, 0, none⟩ = some (.slice none 0 0) := (zba BK167.out 0).trans rfl; have hcz163_1 : w160.cell? ⟨gb167, 1, none⟩ = some (.slice none 0 0) := (zba BK167.out 1).trans rfl; have hfz163_0 := zw BK167.out 0; have hfz163_1 := zw BK167.out 1; obtain ⟨Ao164, co164, eo164⟩ := Kd.zcc HO166.out; subst eo164; have hcz165_0 : w160.cell? ⟨gb160, 0, none⟩ = some (.slice Ao156 t154.length co156) := (zba BK160.out 0).trans rfl; have hcz165_1 : w160.cell? ⟨gb160, 1, none⟩ = some (.slice Ao158 t157.length co158) := (zba BK160.out 1).trans rfl; have hfz165_0 := zw BK160.out 0; have hfz165_1 := zw BK160.out 1) | (go_at_call 17; (with_reducible refine (zb.calls k _ _ y139 _ _ y151 2 t168 _ ?side1 ?side2 ?side3 ?side4 A6.out).mono ?_); (case side1 => refine (Kd.zo (e := 3) (base := w.heap.size) (ok := fun k_ => (((((True ∧ some k_ ≠ (.slice Ao147 y142.length co147 : Value).ownBlock) ∧ some k_ ≠ (.slice Ao148 y145.length co148 : Value).ownBlock) ∧ some k_ ≠ (.slice Ao149 y148.length co149 : Value).ownBlock) ∧ some k_ ≠ (.slice Ao158 t157.length co158 : Value).ownBlock) ∧ some k_ ≠ (.slice Ao164 t164.length co164 : Value).ownBlock)) (n := y139.length) (c := co152) ?_).2.2; exact (by (with_reducible repeat (first | apply Kd.zb0 | apply Kd.zb2 | apply Kd.zce)); exact (Kd.zbl (Kd.zbz (p := ⟨gb167, 1, none⟩) (Kd.zbz (p := ⟨gb167, 0, none⟩) (Kd.zb5 HO141.out BK167.out (by decide)) (fun _ hk => hk.2) (.slice Ao161 t161.length co161)) (fun _ hk => hk.2) (.slice Ao164 t164.length co164)) (fun _ h_ => h_.1)))); (case side2 => exact (Kd.zo HO141.out).2.1); (case side3 => refine (Kd.zbq (e := 23) (base := w.heap.size) (ok := fun k_ => ((((((some k_ ≠ (.slice Ao152 y139.length co152 : Value).ownBlock ∧ some k_ ≠ (.slice Ao156 t154.length co156 : Value).ownBlock) ∧ some k_ ≠ (.slice Ao158 t157.length co158 : Value).ownBlock) ∧ k_ ≠ gb160) ∧ some k_ ≠ (.slice Ao161 t161.length co161 : Value).ownBlock) ∧ some k_ ≠ (.slice Ao164 t164.length co164 : Value).ownBlock) ∧ k_ ≠ gb167)) (n := y151.length) (c := co153) ?_).2.2; exact (by (with_reducible repeat (first | apply Kd.zcf | apply Kd.zcg | apply Kd.zcp)); exact (Kd.zbt (Kd.zch (p := ⟨gb167, 1, none⟩) (Kd.zch (p := ⟨gb167, 0, none⟩) (Kd.zbt HO153.out (fun k_ hk => (⟨hk, hk.2⟩ : _ ∧ k_ ≠ gb167))) (fun _ hk => hk.2) (.slice Ao161 t161.length co161)) (fun _ hk => hk.2) (.slice Ao164 t164.length co164)) (fun _ h_ => h_.1)))); (case side4 => exact (Kd.zbq HO153.out).2.1); rintro e w166 ⟨rfl, hb⟩; have n0_ := za.mk (Kd.zby (by (with_reducible repeat (first | apply Kd.zb0 | apply Kd.zb2 | apply Kd.zce)); exact (Kd.zbl (Kd.zbz (p := ⟨gb167, 1, none⟩) (Kd.zbz (p := ⟨gb167, 0, none⟩) (Kd.zb5 HO141.out BK167.out (by decide)) (fun _ hk => hk.2) (.slice Ao161 t161.length co161)) (fun _ hk => hk.2) (.slice Ao164 t164.length co164)) (fun _ h_ => h_.1))) hb); have n1_ := za.mk (Kd.zcj (by (with_reducible repeat (first | apply Kd.zcf | apply Kd.zcg | apply Kd.zcp)); exact (Kd.zbt (Kd.zch (p := ⟨gb167, 1, none⟩) (Kd.zch (p := ⟨gb167, 0, none⟩) (Kd.zbt HO153.out (fun k_ hk => (⟨hk, hk.2⟩ : _ ∧ k_ ≠ gb167))) (fun _ hk => hk.2) (.slice Ao161 t161.length co161)) (fun _ hk => hk.2) (.slice Ao164 t164.length co164)) (fun _ h_ => h_.1))) hb); have n2_ := za.mk (Kd.zu (by (with_reducible repeat (first | apply Kd.zbh | apply Kd.zbg | apply Kd.zbu)); exact (Kd.zx (Kd.zbb (p := ⟨gb167, 1, none⟩) (Kd.zbb (p := ⟨gb167, 0, none⟩) (Kd.zx HO156.out (fun k_ hk => (⟨hk, hk.2⟩ : _ ∧ k_ ≠ gb167))) (fun _ hk => hk.2) (.slice Ao161 t161.length co161)) (fun _ hk => hk.2) (.slice Ao164 t164.length co164)) (fun _ h_ => h_.1))) hb); have n3_ := za.mk (Kd.zu (by (with_reducible repeat (first | apply Kd.zbh | apply Kd.zbg | apply Kd.zbu)); exact (Kd.zx (Kd.zbb (p := ⟨gb167, 1, none⟩) (Kd.zbb (p := ⟨gb167, 0, none⟩) (Kd.zb8 HO159.out BK167.out (by decide)) (fun _ hk => hk.2) (.slice Ao161 t161.length co161)) (fun _ hk => hk.2) (.slice Ao164 t164.length co164)) (fun _ h_ => h_.1))) hb); have n4_ := za.mk (Kd.zu (by (with_reducible repeat (first | apply Kd.zbh | apply Kd.zbg | apply Kd.zbu)); exact (Kd.zx (Kd.zbb (p := ⟨gb167, 1, none⟩) (Kd.zbb (p := ⟨gb167, 0, none⟩) (Kd.zx HO163.out (fun k_ hk => (⟨hk, hk.2⟩ : _ ∧ k_ ≠ gb167))) (fun _ hk => hk.2) (.slice Ao161 t161.length co161)) (fun _ hk => hk.2) (.slice Ao164 t164.length co164)) (fun _ h_ => h_.1))) hb); have n5_ := za.mk (Kd.zu (by (with_reducible repeat (first | apply Kd.zbh | apply Kd.zbg | apply Kd.zbu)); exact (Kd.zx (Kd.zbb (p := ⟨gb167, 1, none⟩) (Kd.zbb (p := ⟨gb167, 0, none⟩) (Kd.zb8 HO166.out BK167.out (by decide)) (fun _ hk => hk.2) (.slice Ao161 t161.length co161)) (fun _ hk => hk.2) (.slice Ao164 t164.length co164)) (fun _ h_ => h_.1))) hb); have n6_ := za.mk (zbm (g := gb160) (o := .cells #[.slice Ao156 t154.length co156, .slice Ao158 t157.length co158] 28 (0, 0)) (by (with_reducible repeat (first | refine zm ?_ _ | refine zy ?_ | refine zn ?_ _)); refine zdh ?_ NB160_167.out _; (with_reducible repeat (first | refine zm ?_ _ | refine zy ?_ | refine zn ?_ _)); refine zdh ?_ NB160_167.out _; (with_reducible repeat (first | refine zm ?_ _ | refine zy ?_ | refine zn ?_ _)); exact BK160.out) hb); have n7_ := za.mk (zbm (g := gb167) (o := .cells #[.slice Ao161 t161.length co161, .slice Ao164 t164.length co164] 28 (0, 0)) (by (with_reducible repeat (first | refine zm ?_ _ | refine zy ?_ | refine zn ?_ _)); refine zb1 (cs := #[.slice Ao161 t161.length co161, .slice none 0 0]) ?_ 1 _ rfl; (with_reducible repeat (first | refine zm ?_ _ | refine zy ?_ | refine zn ?_ _)); refine zb1 (cs := #[.slice none 0 0, .slice none 0 0]) ?_ 0 _ rfl; (with_reducible repeat (first | refine zm ?_ _ | refine zy ?_ | refine zn ?_ _)); exact BK167.out) hb); have n8_ := za.mk (zf (Zq12 HB GE160 GE167) hb); clear HO141; clear HO153; clear HO156; clear HO159; clear HO163; clear HO166; clear BK160; clear BK167; clear HB; have HO141 := n0_; have HO153 := n1_; have HO156 := n2_; have HO159 := n3_; have HO163 := n4_; have HO166 := n5_; have BK160 := n6_; have BK167 := n7_; have HB := n8_; clear n0_ n1_ n2_ n3_ n4_ n5_ n6_ n7_ n8_; (try clear hb); (try clear hb2); (try clear hk); (try clear hi)))
    go_ret;exact ⟨by first | rfl | (simp [zbn, zbo] <;> rfl) | (simp [*, zbn, zbo] <;> rfl), Zq12 HB GE160 GE167⟩
  ·rw [if_neg c5] at H
   have c5b0 : ((t154.length : Int) == 9) = false := beq_eq_false_iff_ne.mpr c5;have c5b1 : ((t154.length : Int) != 9) = true := bne_iff_ne.mpr c5;obtain rfl := Option.some.inj H;go_enter Try.func7, Try.ntmps7
   go_wp2_with (first | ((with_reducible refine zbk (N := 10) rfl ?_); (try (refine zbc (by rfl) ?_; dsimp only)); refine Kd.zc9 (Kd.int .i64) _ 3 ?hg (N := 10) ?hd (xs := ([1, 4, 4, 4] : List Int)) (inner := [.int .i64 1, .int .i64 4, .int .i64 4, .int .i64 4]) (ok := fun _ => True) (okp := fun _ => True) ?hr ?hp (fun _ hk => hk) trivial (Below.refl _ _) (Nat.le_refl _) (by simp) ?_; (case hd => rfl); (case hg => rfl); (case hr => first | (go_simp; done) | (go_simp; rfl)); (case hp => exact (Reps.one (show Kd.M (Kd.int .i64) _ _ _ 1 [.int .i64 1] from rfl) (Reps.one (show Kd.M (Kd.int .i64) _ _ _ 4 [.int .i64 4] from rfl) (Reps.one (show Kd.M (Kd.int .i64) _ _ _ 4 [.int .i64 4] from rfl) (Reps.one (show Kd.M (Kd.int .i64) _ _ _ 4 [.int .i64 4] from rfl) (Reps.none _ _)))))); intro v140 w167 ho168 hb hg_ hnew_; clear hg_ hnew_; (first | rw [← Ny139.out] at ho168 | (simp only [Int.reduceToNat] at ho168; rw [← Ny139.out] at ho168)); have n0_ := za.mk (Kd.zb9 ho168 (zg (Zq2 HB))); have n1_ := za.mk (zf (Zq2 HB) hb); clear HB; have HO141 := n0_; have HB := n1_; clear n0_ n1_; clear hb ho168) | ((with_reducible refine zbk (N := 11) rfl ?_); (try (refine zbc (by rfl) ?_; dsimp only)); refine Kd.zc9 (Kd.int .i64) _ 3 ?hg (N := 11) ?hd (xs := ([0, 1] : List Int)) (inner := [.int .i64 0, .int .i64 1]) (ok := fun _ => True) (okp := fun _ => True) ?hr ?hp (fun _ hk => hk) trivial (Below.refl _ _) (Nat.le_refl _) (by simp) ?_; (case hd => rfl); (case hg => rfl); (case hr => first | (go_simp; done) | (go_simp; rfl)); (case hp => exact (Reps.one (show Kd.M (Kd.int .i64) _ _ _ 0 [.int .i64 0] from rfl) (Reps.one (show Kd.M (Kd.int .i64) _ _ _ 1 [.int .i64 1] from rfl) (Reps.none _ _)))); intro v143 w169 ho170 hb hg_ hnew_; clear hg_ hnew_; (first | rw [← Ny142.out] at ho170 | (simp only [Int.reduceToNat] at ho170; rw [← Ny142.out] at ho170)); have n0_ := za.mk (Kd.zbi (Zq7 HO141) (Kd.zca ho170) hb); have n1_ := za.mk (Kd.zb9 (Kd.zcd ho170 (Kd.R_lt (Zq7 HO141))) (zg (Zq2 HB))); have n2_ := za.mk (zf (Zq2 HB) hb); clear HO141; clear HB; have HO141 := n0_; have HO144 := n1_; have HB := n2_; clear n0_ n1_ n2_; clear hb ho170) | ((with_reducible refine zbk (N := 12) rfl ?_); (try (refine zbc (by rfl) ?_; dsimp only)); refine Kd.zc9 (Kd.int .i64) _ 3 ?hg (N := 12) ?hd (xs := ([0, 2] : List Int)) (inner := [.int .i64 0, .int .i64 2]) (ok := fun _ => True) (okp := fun _ => True) ?hr ?hp (fun _ hk => hk) trivial (Below.refl _ _) (Nat.le_refl _) (by simp) ?_; (case hd => rfl); (case hg => rfl); (case hr => first | (go_simp; done) | (go_simp; rfl)); (case hp => exact (Reps.one (show Kd.M (Kd.int .i64) _ _ _ 0 [.int .i64 0] from rfl) (Reps.one (show Kd.M (Kd.int .i64) _ _ _ 2 [.int .i64 2] from rfl) (Reps.none _ _)))); intro v146 w171 ho172 hb hg_ hnew_; clear hg_ hnew_; (first | rw [← Ny145.out] at ho172 | (simp only [Int.reduceToNat] at ho172; rw [← Ny145.out] at ho172)); have n0_ := za.mk (Kd.zbi (Zq7 HO141) (Kd.zca ho172) hb); have n1_ := za.mk (Kd.zbi (Zq7 HO144) (Kd.zca ho172) hb); have n2_ := za.mk (Kd.zb9 (Kd.zcd (Kd.zcd ho172 (Kd.R_lt (Zq7 HO141))) (Kd.R_lt (Zq7 HO144))) (zg (Zq2 HB))); have n3_ := za.mk (zf (Zq2 HB) hb); clear HO141; clear HO144; clear HB; have HO141 := n0_; have HO144 := n1_; have HO147 := n2_; have HB := n3_; clear n0_ n1_ n2_ n3_; clear hb ho172) | ((with_reducible refine zbk (N := 13) rfl ?_); (try (refine zbc (by rfl) ?_; dsimp only)); refine Kd.zc9 (Kd.int .i64) _ 3 ?hg (N := 13) ?hd (xs := ([0, 3] : List Int)) (inner := [.int .i64 0, .int .i64 3]) (ok := fun _ => True) (okp := fun _ => True) ?hr ?hp (fun _ hk => hk) trivial (Below.refl _ _) (Nat.le_refl _) (by simp) ?_; (case hd => rfl); (case hg => rfl); (case hr => first | (go_simp; done) | (go_simp; rfl)); (case hp => exact (Reps.one (show Kd.M (Kd.int .i64) _ _ _ 0 [.int .i64 0] from rfl) (Reps.one (show Kd.M (Kd.int .i64) _ _ _ 3 [.int .i64 3] from rfl) (Reps.none _ _)))); intro v149 w173 ho174 hb hg_ hnew_; clear hg_ hnew_; (first | rw [← Ny148.out] at ho174 | (simp only [Int.reduceToNat] at ho174; rw [← Ny148.out] at ho174)); have n0_ := za.mk (Kd.zbi (Zq7 HO141) (Kd.zca ho174) hb); have n1_ := za.mk (Kd.zbi (Zq7 HO144) (Kd.zca ho174) hb); have n2_ := za.mk (Kd.zbi (Zq7 HO147) (Kd.zca ho174) hb); have n3_ := za.mk (Kd.zb9 (Kd.zcd (Kd.zcd (Kd.zcd ho174 (Kd.R_lt (Zq7 HO141))) (Kd.R_lt (Zq7 HO144))) (Kd.R_lt (Zq7 HO147))) (zg (Zq2 HB))); have n4_ := za.mk (zf (Zq2 HB) hb); clear HO141; clear HO144; clear HO147; clear HB; have HO141 := n0_; have HO144 := n1_; have HO147 := n2_; have HO150 := n3_; have HB := n4_; clear n0_ n1_ n2_ n3_ n4_; clear hb ho174; obtain ⟨Ao175, co175, eo175⟩ := Kd.zb6 HO144.out; subst eo175; obtain ⟨Ao176, co176, eo176⟩ := Kd.zb6 HO147.out; subst eo176; obtain ⟨Ao177, co177, eo177⟩ := Kd.zb6 HO150.out; subst eo177) | ((with_reducible refine zbk (N := 14) rfl ?_); (try (refine zbc (by rfl) ?_; dsimp only)); refine Kd.N_lit (Kd.slice 3 (Kd.int .i64)) _ 23 ?hg (N' := 14) ?hd (xs := ([y142, y145, y148] : List (List Int))) (inner := [.slice Ao175 y142.length co175, .slice Ao176 y145.length co176, .slice Ao177 y148.length co177]) (ok := (fun k_ => some k_ ≠ (v140 : Value).ownBlock)) (okp := (fun k_ => some k_ ≠ (v140 : Value).ownBlock)) ?hr ?hp (fun _ hk => hk) ((show ∀ k_, w173.heap.size ≤ k_ → (fun k_ => some k_ ≠ (v140 : Value).ownBlock) k_ from fun k_ hk => Kd.fresh' (Kd.R_lt (Zq7 HO141)) k_ hk) _ (Nat.le_refl _)) (Below.refl _ _) (Nat.le_refl _) (by simp) ?_; (case hd => rfl); (case hg => rfl); (case hr => first | (go_simp; done) | (go_simp; rfl)); (case hp => exact (Reps.one (show Kd.FK (Kd.slice 3 (Kd.int .i64)) _ _ y142 [.slice Ao175 y142.length co175] from (Kd.zb3 (Kd.zo (Kd.zbl (ok' := (fun k_ => some k_ ≠ (v140 : Value).ownBlock)) (HO144.out) (fun k_ hk => hk.1.1.2))).2.1 (Kd.R_F (Kd.zbl (ok' := (fun k_ => some k_ ≠ (v140 : Value).ownBlock)) (HO144.out) (fun k_ hk => hk.1.1.2))))) (Reps.one (show Kd.FK (Kd.slice 3 (Kd.int .i64)) _ _ y145 [.slice Ao176 y145.length co176] from (Kd.zb3 (Kd.zo (Kd.zbl (ok' := (fun k_ => some k_ ≠ (v140 : Value).ownBlock)) (HO147.out) (fun k_ hk => hk.1.1.2))).2.1 (Kd.R_F (Kd.zbl (ok' := (fun k_ => some k_ ≠ (v140 : Value).ownBlock)) (HO147.out) (fun k_ hk => hk.1.1.2))))) (Reps.one (show Kd.FK (Kd.slice 3 (Kd.int .i64)) _ _ y148 [.slice Ao177 y148.length co177] from (Kd.zb3 (Kd.zo (Kd.zbl (ok' := (fun k_ => some k_ ≠ (v140 : Value).ownBlock)) (HO150.out) (fun k_ hk => hk.1.1.2))).2.1 (Kd.R_F (Kd.zbl (ok' := (fun k_ => some k_ ≠ (v140 : Value).ownBlock)) (HO150.out) (fun k_ hk => hk.1.1.2))))) (Reps.none _ _))))); intro v152 w178 ho179 hb hg_ hnew_; clear hg_ hnew_; (first | rw [← Ny151.out] at ho179 | (simp only [Int.reduceToNat] at ho179; rw [← Ny151.out] at ho179)); have n0_ := za.mk (Kd.zby (Zq7 HO141) hb); have n1_ := za.mk (Kd.zem ho179 (zg (Zq2 HB))); have n2_ := za.mk (zf (Zq2 HB) hb); clear HO141; clear HB; clear HO144; clear HO147; clear HO150; have HO141 := n0_; have HO153 := n1_; have HB := n2_; clear n0_ n1_ n2_; clear hb ho179; obtain ⟨Ao180, co180, eo180⟩ := Kd.zb6 HO141.out; subst eo180; obtain ⟨Ao181, co181, eo181⟩ := Kd.zen HO153.out; subst eo181) | ((with_reducible refine zbw (f := 9) rfl ?_); refine zc0 (some 17) rfl rfl Try.func9 (by kernel_rfl) rfl #[.slice Ao180 y139.length co180, .slice Ao181 y151.length co181, .int .i64 2] rfl Zmt ?_; (with_reducible refine (zh.calls k _ _ y139 _ _ y151 2 t154 t157 _ ?side1 ?side2 ?side3 ?side4 A3.out).mono ?_); (case side1 => exact Zq4 ((Kd.zo HO141.out).2.2)); (case side2 => exact (Kd.zo HO141.out).2.1); (case side3 => exact Zq4 ((Kd.zbq HO153.out).2.2)); (case side4 => exact (Kd.zbq HO153.out).2.1); rintro e w182 ⟨v155, v158, rfl, ho0, ho1, hb⟩; refine ⟨_, rfl, ?_⟩; have n0_ := za.mk (Kd.zbi (Zq7 HO141) (Kd.zbp ho1) hb); have n1_ := za.mk (Kd.zbt (Kd.zcy (Kd.zcy (Kd.zer (Zq9 HO153) hb) (Kd.zbp ho0)) (Kd.zbp ho1)) (fun _ h_ => h_.1)); have n2_ := za.mk (Kd.zb7 (Kd.zx (ok' := fun k_ => some k_ ≠ (v158 : Value).ownBlock ∧ some k_ ≠ (.slice Ao180 y139.length co180 : Value).ownBlock ∧ some k_ ≠ (.slice Ao181 y151.length co181 : Value).ownBlock) (Kd.zdm ho0) (fun k_ hk_ => ⟨hk_.1, (Kd.fresh' (Kd.R_lt (Zq7 HO141)) k_ hk_.2.1), (Kd.fresh' (Kd.N_lt (Zq9 HO153)) k_ hk_.2.1)⟩)) (zg (Zq2 HB))); have n3_ := za.mk (Kd.zb7 (Kd.zcw ho1 (Kd.R_lt (Zq7 HO141))) (zg (Zq2 HB))); have n4_ := za.mk (zf (Zq2 HB) hb); clear HO141; clear HO153; clear HB; have HO141 := n0_; have HO153 := n1_; have HO156 := n2_; have HO159 := n3_; have HB := n4_; clear n0_ n1_ n2_ n3_ n4_; (try clear hb); (try clear hb2); (try clear hk); (try clear hi); (try clear ho0); (try clear ho1)) | ((with_reducible refine zbk (N := 5) rfl ?_); (try (refine zbc (by rfl) ?_; dsimp only)); refine zcv ?hg (N := 5) ?hd (cs := #[.slice none 0 0, .slice none 0 0]) (t := 28) ?hr ?_; (case hd => rfl); (case hg => rfl); (case hr => first | (go_simp; done) | (go_simp; rfl)); intro gb160 hg w183 hbox hb; have n0_ := za.mk (Kd.zby (Zq7 HO141) hb); have n1_ := za.mk (Kd.zcj (Kd.zc5 (Zq9 HO153) gb160 (Nat.le_of_eq hg.symm)) hb); have n2_ := za.mk (Kd.zu (Kd.zci (Zq10 HO156) gb160 (Nat.le_of_eq hg.symm)) hb); have n3_ := za.mk (Kd.zu (Zq10 HO159) hb); have n4_ := za.mk (zf (Zq2 HB) hb); have n5_ := za.mk (hbox); have n6_ := za.mk ((by rw [hg]; exact (zg (Zq2 HB)) : w.heap.size ≤ gb160)); have n7_ := za.mk ((by rw [hg]; exact (zg (Zq2 HB)) : w.heap.size ≤ gb160)); clear HO141; clear HO153; clear HO156; clear HO159; clear HB; have HO141 := n0_; have HO153 := n1_; have HO156 := n2_; have HO159 := n3_; have HB := n4_; have BK160 := n5_; have GW160 := n6_; have GE160 := n7_; clear n0_ n1_ n2_ n3_ n4_ n5_ n6_ n7_; clear hb hbox hg; obtain ⟨Ao184, co184, eo184⟩ := Kd.zcc HO156.out; subst eo184; have hcz185_0 : w183.cell? ⟨gb160, 0, none⟩ = some (.slice none 0 0) := (zba BK160.out 0).trans rfl; have hcz185_1 : w183.cell? ⟨gb160, 1, none⟩ = some (.slice none 0 0) := (zba BK160.out 1).trans rfl; have hfz185_0 := zw BK160.out 0; have hfz185_1 := zw BK160.out 1; obtain ⟨Ao186, co186, eo186⟩ := Kd.zcc HO159.out; subst eo186) | ((with_reducible refine zbw (f := 9) rfl ?_); refine zc0 (some 20) rfl rfl Try.func9 (by kernel_rfl) rfl #[.slice Ao180 y139.length co180, .slice Ao181 y151.length co181, .int .i64 3] rfl Zmt ?_; (with_reducible refine (zh.calls k _ _ y139 _ _ y151 3 t161 t164 _ ?side1 ?side2 ?side3 ?side4 A4.out).mono ?_); (case side1 => refine (Kd.zo (e := 3) (base := w.heap.size) (ok := fun k_ => ((((True ∧ some k_ ≠ (.slice Ao175 y142.length co175 : Value).ownBlock) ∧ some k_ ≠ (.slice Ao176 y145.length co176 : Value).ownBlock) ∧ some k_ ≠ (.slice Ao177 y148.length co177 : Value).ownBlock) ∧ some k_ ≠ (.slice Ao186 t157.length co186 : Value).ownBlock)) (n := y139.length) (c := co180) ?_).2.2; exact (by (with_reducible repeat (first | apply Kd.zb0 | apply Kd.zb2 | apply Kd.zce)); exact (Kd.zbl (Kd.zbz (p := ⟨gb160, 1, none⟩) (Kd.zbz (p := ⟨gb160, 0, none⟩) (Kd.zb5 HO141.out BK160.out (by decide)) (fun _ hk => hk.2) (.slice Ao184 t154.length co184)) (fun _ hk => hk.2) (.slice Ao186 t157.length co186)) (fun _ h_ => h_.1)))); (case side2 => exact (Kd.zo HO141.out).2.1); (case side3 => refine (Kd.zbq (e := 23) (base := w.heap.size) (ok := fun k_ => (((some k_ ≠ (.slice Ao180 y139.length co180 : Value).ownBlock ∧ some k_ ≠ (.slice Ao184 t154.length co184 : Value).ownBlock) ∧ some k_ ≠ (.slice Ao186 t157.length co186 : Value).ownBlock) ∧ k_ ≠ gb160)) (n := y151.length) (c := co181) ?_).2.2; exact (by (with_reducible repeat (first | apply Kd.zcf | apply Kd.zcg | apply Kd.zcp)); exact (Kd.zbt (Kd.zch (p := ⟨gb160, 1, none⟩) (Kd.zch (p := ⟨gb160, 0, none⟩) (Kd.zbt HO153.out (fun k_ hk => (⟨hk, hk.2⟩ : _ ∧ k_ ≠ gb160))) (fun _ hk => hk.2) (.slice Ao184 t154.length co184)) (fun _ hk => hk.2) (.slice Ao186 t157.length co186)) (fun _ h_ => h_.1)))); (case side4 => exact (Kd.zbq HO153.out).2.1); rintro e w187 ⟨v162, v165, rfl, ho0, ho1, hb⟩; refine ⟨_, rfl, ?_⟩; have n0_ := za.mk (Kd.zbi (by (with_reducible repeat (first | apply Kd.zb0 | apply Kd.zb2 | apply Kd.zce)); exact (Kd.zbl (Kd.zbz (p := ⟨gb160, 1, none⟩) (Kd.zbz (p := ⟨gb160, 0, none⟩) (Kd.zb5 HO141.out BK160.out (by decide)) (fun _ hk => hk.2) (.slice Ao184 t154.length co184)) (fun _ hk => hk.2) (.slice Ao186 t157.length co186)) (fun _ h_ => h_.1))) (Kd.zbp ho1) hb); have n1_ := za.mk (Kd.zbt (Kd.zcy (Kd.zcy (Kd.zer (by (with_reducible repeat (first | apply Kd.zcf | apply Kd.zcg | apply Kd.zcp)); exact (Kd.zbt (Kd.zch (p := ⟨gb160, 1, none⟩) (Kd.zch (p := ⟨gb160, 0, none⟩) (Kd.zbt HO153.out (fun k_ hk => (⟨hk, hk.2⟩ : _ ∧ k_ ≠ gb160))) (fun _ hk => hk.2) (.slice Ao184 t154.length co184)) (fun _ hk => hk.2) (.slice Ao186 t157.length co186)) (fun _ h_ => h_.1))) hb) (Kd.zbp ho0)) (Kd.zbp ho1)) (fun _ h_ => h_.1)); have n2_ := za.mk (Kd.zx (Kd.zde (Kd.zde (Kd.zfs (by (with_reducible repeat (first | apply Kd.zbh | apply Kd.zbg | apply Kd.zbu)); exact (Kd.zx (Kd.zbb (p := ⟨gb160, 1, none⟩) (Kd.zbb (p := ⟨gb160, 0, none⟩) (Kd.zx HO156.out (fun k_ hk => (⟨hk, hk.2⟩ : _ ∧ k_ ≠ gb160))) (fun _ hk => hk.2) (.slice Ao184 t154.length co184)) (fun _ hk => hk.2) (.slice Ao186 t157.length co186)) (fun _ h_ => h_.1))) hb) (Kd.zbp ho0)) (Kd.zbp ho1)) (fun _ h_ => h_.1)); have n3_ := za.mk (Kd.zc4 (by (with_reducible repeat (first | apply Kd.zbh | apply Kd.zbg | apply Kd.zbu)); exact (Kd.zx (Kd.zbb (p := ⟨gb160, 1, none⟩) (Kd.zbb (p := ⟨gb160, 0, none⟩) (Kd.zb8 HO159.out BK160.out (by decide)) (fun _ hk => hk.2) (.slice Ao184 t154.length co184)) (fun _ hk => hk.2) (.slice Ao186 t157.length co186)) (fun _ h_ => h_.1))) (Kd.zbp ho1) hb); have n4_ := za.mk (Kd.zb7 (Kd.zx (ok' := fun k_ => some k_ ≠ (v165 : Value).ownBlock ∧ some k_ ≠ (.slice Ao180 y139.length co180 : Value).ownBlock ∧ some k_ ≠ (.slice Ao181 y151.length co181 : Value).ownBlock ∧ some k_ ≠ (.slice Ao184 t154.length co184 : Value).ownBlock ∧ some k_ ≠ (.slice Ao186 t157.length co186 : Value).ownBlock ∧ k_ ≠ gb160) (Kd.zdm ho0) (fun k_ hk_ => ⟨hk_.1, (Kd.fresh' (Kd.R_lt (by (with_reducible repeat (first | apply Kd.zb0 | apply Kd.zb2 | apply Kd.zce)); exact (Kd.zbl (Kd.zbz (p := ⟨gb160, 1, none⟩) (Kd.zbz (p := ⟨gb160, 0, none⟩) (Kd.zb5 HO141.out BK160.out (by decide)) (fun _ hk => hk.2) (.slice Ao184 t154.length co184)) (fun _ hk => hk.2) (.slice Ao186 t157.length co186)) (fun _ h_ => h_.1)))) k_ hk_.2.1), (Kd.fresh' (Kd.N_lt (by (with_reducible repeat (first | apply Kd.zcf | apply Kd.zcg | apply Kd.zcp)); exact (Kd.zbt (Kd.zch (p := ⟨gb160, 1, none⟩) (Kd.zch (p := ⟨gb160, 0, none⟩) (Kd.zbt HO153.out (fun k_ hk => (⟨hk, hk.2⟩ : _ ∧ k_ ≠ gb160))) (fun _ hk => hk.2) (.slice Ao184 t154.length co184)) (fun _ hk => hk.2) (.slice Ao186 t157.length co186)) (fun _ h_ => h_.1)))) k_ hk_.2.1), (Kd.fresh' (Kd.zdk (by (with_reducible repeat (first | apply Kd.zbh | apply Kd.zbg | apply Kd.zbu)); exact (Kd.zx (Kd.zbb (p := ⟨gb160, 1, none⟩) (Kd.zbb (p := ⟨gb160, 0, none⟩) (Kd.zx HO156.out (fun k_ hk => (⟨hk, hk.2⟩ : _ ∧ k_ ≠ gb160))) (fun _ hk => hk.2) (.slice Ao184 t154.length co184)) (fun _ hk => hk.2) (.slice Ao186 t157.length co186)) (fun _ h_ => h_.1)))) k_ hk_.2.1), (Kd.fresh' (Kd.zdk (by (with_reducible repeat (first | apply Kd.zbh | apply Kd.zbg | apply Kd.zbu)); exact (Kd.zx (Kd.zbb (p := ⟨gb160, 1, none⟩) (Kd.zbb (p := ⟨gb160, 0, none⟩) (Kd.zb8 HO159.out BK160.out (by decide)) (fun _ hk => hk.2) (.slice Ao184 t154.length co184)) (fun _ hk => hk.2) (.slice Ao186 t157.length co186)) (fun _ h_ => h_.1)))) k_ hk_.2.1), (Kd.zfn (g := gb160) (o := .cells #[.slice Ao184 t154.length co184, .slice Ao186 t157.length co186] 28 (0, 0)) (by (with_reducible repeat (first | refine zm ?_ _ | refine zy ?_ | refine zn ?_ _)); refine zb1 (cs := #[.slice Ao184 t154.length co184, .slice none 0 0]) ?_ 1 _ rfl; (with_reducible repeat (first | refine zm ?_ _ | refine zy ?_ | refine zn ?_ _)); refine zb1 (cs := #[.slice none 0 0, .slice none 0 0]) ?_ 0 _ rfl; (with_reducible repeat (first | refine zm ?_ _ | refine zy ?_ | refine zn ?_ _)); exact BK160.out) k_ hk_.2.1)⟩)) (zg (Zq8 HB GE160))); have n5_ := za.mk (Kd.zb7 (Kd.zcw (Kd.zcw ho1 (Kd.R_lt (by (with_reducible repeat (first | apply Kd.zb0 | apply Kd.zb2 | apply Kd.zce)); exact (Kd.zbl (Kd.zbz (p := ⟨gb160, 1, none⟩) (Kd.zbz (p := ⟨gb160, 0, none⟩) (Kd.zb5 HO141.out BK160.out (by decide)) (fun _ hk => hk.2) (.slice Ao184 t154.length co184)) (fun _ hk => hk.2) (.slice Ao186 t157.length co186)) (fun _ h_ => h_.1))))) (Kd.zdk (by (with_reducible repeat (first | apply Kd.zbh | apply Kd.zbg | apply Kd.zbu)); exact (Kd.zx (Kd.zbb (p := ⟨gb160, 1, none⟩) (Kd.zbb (p := ⟨gb160, 0, none⟩) (Kd.zb8 HO159.out BK160.out (by decide)) (fun _ hk => hk.2) (.slice Ao184 t154.length co184)) (fun _ hk => hk.2) (.slice Ao186 t157.length co186)) (fun _ h_ => h_.1))))) (zg (Zq8 HB GE160))); have n6_ := za.mk (zbm (g := gb160) (o := .cells #[.slice Ao184 t154.length co184, .slice Ao186 t157.length co186] 28 (0, 0)) (by (with_reducible repeat (first | refine zm ?_ _ | refine zy ?_ | refine zn ?_ _)); refine zb1 (cs := #[.slice Ao184 t154.length co184, .slice none 0 0]) ?_ 1 _ rfl; (with_reducible repeat (first | refine zm ?_ _ | refine zy ?_ | refine zn ?_ _)); refine zb1 (cs := #[.slice none 0 0, .slice none 0 0]) ?_ 0 _ rfl; (with_reducible repeat (first | refine zm ?_ _ | refine zy ?_ | refine zn ?_ _)); exact BK160.out) hb); have n7_ := za.mk (zf (Zq8 HB GE160) hb); clear HO141; clear HO153; clear HO156; clear HO159; clear BK160; clear HB; have HO141 := n0_; have HO153 := n1_; have HO156 := n2_; have HO159 := n3_; have HO163 := n4_; have HO166 := n5_; have BK160 := n6_; have HB := n7_; clear n0_ n1_ n2_ n3_ n4_ n5_ n6_ n7_; (try clear hb); (try clear hb2); (try clear hk); (try clear hi); (try clear ho0); (try clear ho1)) | ((with_reducible refine zbk (N := 6) rfl ?_); (try (refine zbc (by rfl) ?_; dsimp only)); refine zcv ?hg (N := 6) ?hd (cs := #[.slice none 0 0, .slice none 0 0]) (t := 28) ?hr ?_; (case hd => rfl); (case hg => rfl); (case hr => first | (go_simp; done) | (go_simp; rfl)); intro gb167 hg w188 hbox hb; have n0_ := za.mk (Kd.zby (Zq7 HO141) hb); have n1_ := za.mk (Kd.zcj (Kd.zc5 (Zq9 HO153) gb167 (Nat.le_of_eq hg.symm)) hb); have n2_ := za.mk (Kd.zu (Kd.zci (Zq10 HO156) gb167 (Nat.le_of_eq hg.symm)) hb); have n3_ := za.mk (Kd.zu (Zq10 HO159) hb); have n4_ := za.mk (Kd.zu (Kd.zci (Zq10 HO163) gb167 (Nat.le_of_eq hg.symm)) hb); have n5_ := za.mk (Kd.zu (Zq10 HO166) hb); have n6_ := za.mk (zbm (g := gb160) (o := .cells #[.slice Ao184 t154.length co184, .slice Ao186 t157.length co186] 28 (0, 0)) (Zq11 BK160) hb); have n7_ := za.mk (zf (Zq8 HB GE160) hb); have n8_ := za.mk (hbox); have n9_ := za.mk ((by rw [hg]; exact (zg (Zq8 HB GE160)) : w.heap.size ≤ gb167)); have n10_ := za.mk ((by rw [hg]; exact (zg (Zq8 HB GE160)) : w.heap.size ≤ gb167)); have n11_ := za.mk ((by rw [hg]; exact Nat.ne_of_lt (zda (g := gb160) (o := .cells #[.slice Ao184 t154.length co184, .slice Ao186 t157.length co186] 28 (0, 0)) (Zq11 BK160)) : gb160 ≠ gb167)); have n12_ := za.mk ((by rw [hg]; exact Nat.ne_of_gt (zda (g := gb160) (o := .cells #[.slice Ao184 t154.length co184, .slice Ao186 t157.length co186] 28 (0, 0)) (Zq11 BK160)) : gb167 ≠ gb160)); clear HO141; clear HO153; clear HO156; clear HO159; clear HO163; clear HO166; clear BK160; clear HB; have HO141 := n0_; have HO153 := n1_; have HO156 := n2_; have HO159 := n3_; have HO163 := n4_; have HO166 := n5_; have BK160 := n6_; have HB := n7_; have BK167 := n8_; have GW167 := n9_; have GE167 := n10_; have NB160_167 := n11_; have NB167_160 := n12_; clear n0_ n1_ n2_ n3_ n4_ n5_ n6_ n7_ n8_ n9_ n10_ n11_ n12_; clear hb hbox hg; obtain ⟨Ao189, co189, eo189⟩ := Kd.zcc HO163.out; subst eo189; have hnb190 := NB167_160.out; have hnc190 := NB160_167.out; have hcz191_0 : w188.cell? ⟨gb167, 0, none⟩ = some (.slice none 0 0) := (zba BK167.out 0).trans rfl; have hcz191_1 : w188.cell? ⟨gb167, 1, none⟩ = some (.slice none 0 0) := (zba BK167.out 1).trans rfl; have hfz191_0 := zw BK167.out 0; have hfz191_1 := zw BK167.out 1; obtain ⟨Ao192, co192, eo192⟩ := Kd.zcc HO166.out; subst eo192; have hcz193_0 : w188.cell? ⟨gb160, 0, none⟩ = some (.slice Ao184 t154.length co184) := (zba BK160.out 0).trans rfl; have hcz193_1 : w188.cell? ⟨gb160, 1, none⟩ = some (.slice Ao186 t157.length co186) := (zba BK160.out 1).trans rfl; have hfz193_0 := zw BK160.out 0; have hfz193_1 := zw BK160.out 1))
   go_ret;exact ⟨by first | rfl | (simp [zbn, zbo] <;> rfl) | (simp [*, zbn, zbo] <;> rfl), Zq12 HB GE160 GE167⟩
def laws_FnGraphExample.Pure : Prop := ∀ (l0 : List Int), l0.length * 1 ≤ 140737488351232 → (l0.length ≤ maxLen ∧ ∀ y0 ∈ l0, (Lit.int .u8 y0).wf = true) → ∃ k, laws_FnGraphExample.f k l0 = some true
def zc8 (w0 W : World) (g : Nat) (f0 : List Int) (f1 : Int) : Prop := ∃ A0 c0, W.heap[g]? = some (.cells #[.slice A0 f0.length c0, .int .i64 f1] 63 (0, 0)) ∧ w0.heap.size ≤ g ∧ Kd.C (Kd.int .u8) w0 A0 f0.length f0
theorem zc8.grown {w0 W : World} {g : Nat} {f0 : List Int} {f1 : Int} {W1 : World} {row : Option Nat} (h : zc8 w0 W g f0 f1) (hw : W.grownBy W1 row) (hne : some g ≠ row) : zc8 w0 W1 g f0 f1 := by
 obtain ⟨A0, c0, hb, hg, hr0⟩ := h
 exact ⟨A0, c0, blk_grown hb hw hne, hg, hr0⟩
theorem zc8.kept {w0 W : World} {g : Nat} {f0 : List Int} {f1 : Int} {W1 : World} {S : Nat → Prop} (h : zc8 w0 W g f0 f1) (hk : Kept W W1 S) (hne : ¬ S g) : zc8 w0 W1 g f0 f1 := by
 obtain ⟨A0, c0, hb, hg, hr0⟩ := h
 exact ⟨A0, c0, blk_kept hb hk hne, hg, hr0⟩
theorem zc8.below {w0 W : World} {g : Nat} {f0 : List Int} {f1 : Int} {W1 : World} (h : zc8 w0 W g f0 f1) (hw : Below W.heap.size W W1) : zc8 w0 W1 g f0 f1 := h.grown (zd7 hw none) (by simp)
theorem zc8.alloc {w0 W : World} {g : Nat} {f0 : List Int} {f1 : Int} (h : zc8 w0 W g f0 f1) (o : Obj) : zc8 w0 (W.alloc o) g f0 f1 := h.below (zbv (Below.refl _ _) o)
theorem zc8.drewN {w0 W : World} {g : Nat} {f0 : List Int} {f1 : Int} (h : zc8 w0 W g f0 f1) (m : Nat) : zc8 w0 (W.drewN m) g f0 f1 := h
theorem zc8.drew {w0 W : World} {g : Nat} {f0 : List Int} {f1 : Int} (h : zc8 w0 W g f0 f1) : zc8 w0 W.drew g f0 f1 := h
theorem zc8.at_ {w0 W : World} {g : Nat} {f0 : List Int} {f1 : Int} {w' : World} {m : Nat} (hq : W.drewN m = w') (h : zc8 w0 W g f0 f1) : zc8 w0 w' g f0 f1 := by subst hq; exact zc8.drewN h m
theorem zc8.apart {w0 W : World} {g : Nat} {f0 : List Int} {f1 : Int} {α : Type} {d : Kd α} {e : Nat} {base : Nat} {ok : Nat → Prop} {v : Value} {xs : List α} (h : zc8 w0 W g f0 f1) (ho : d.R e W base ok v xs) (ht : ∀ q, q ∈ e :: d.E → q ≠ 63) : d.R e W base (fun k => ok k ∧ k ≠ g) v xs := by
 obtain ⟨A0, c0, hb, hg, hr0⟩ := h
 exact Kd.zb5 ho hb ht
theorem zc8.far {w0 W : World} {g : Nat} {f0 : List Int} {f1 : Int} {p : Addr} (h : zc8 w0 W g f0 f1) (hne : g ≠ p.block) (u : Value) : zc8 w0 (W.setCell p u) g f0 f1 := by
 obtain ⟨A0, c0, hb, hg, hr0⟩ := h
 exact ⟨A0, c0, zdh hb hne u, hg, hr0⟩
theorem zc8.new (w0 W : World) (A0 : Option Addr) (c0 : Nat) (f0 : List Int) (f1 : Int) (hB : Below w0.heap.size w0 W) (hr0 : Kd.C (Kd.int .u8) w0 A0 f0.length f0) : zc8 w0 (W.alloc (.cells #[.slice A0 f0.length c0, .int .i64 f1] 63)) W.heap.size f0 f1 := ⟨A0, c0, by simpa using heap_alloc_new W _, hB.size, hr0⟩
structure GsW (w : World) (n go : Nat) (L F : Option Addr) (cl cf : Nat) (vr : Value) (left fin : List Int) (rows : List (List Int)) (W : World) : Prop where
  o0 : W.cell? ⟨go, 0, none⟩ = some vr
  f0 : W.frozen? ⟨go, 0, none⟩ = false
  o1 : W.cell? ⟨go, 1, none⟩ = some (.slice F n cf)
  lR : Kd.R (Kd.int .i64) 3 W w.heap.size (fun k => some k = (Value.slice L n cl).ownBlock) (.slice L n cl) left
  fR : Kd.R (Kd.int .i64) 3 W w.heap.size (fun k => some k = (Value.slice F n cf).ownBlock) (.slice F n cf) fin
  rR : Kd.R (Kd.slice 3 (Kd.int .i64)) 23 W w.heap.size (fun k => k ≠ go ∧ some k ≠ (Value.slice L n cl).ownBlock ∧ some k ≠ (Value.slice F n cf).ownBlock) vr rows
  bel : Below w.heap.size w W
structure GsNe (w : World) (n go : Nat) (L F : Option Addr) (cl cf : Nat) : Prop where
  gon : w.heap.size ≤ go
  gL : ∀ k, (Value.slice L n cl).ownBlock = some k → w.heap.size ≤ k ∧ k ≠ go
  gF : ∀ k, (Value.slice F n cf).ownBlock = some k → w.heap.size ≤ k ∧ k ≠ go
  LF : ∀ k, (Value.slice L n cl).ownBlock = some k → some k ≠ (Value.slice F n cf).ownBlock
section
variable {w W W1 : World} {n go : Nat} {L F : Option Addr} {cl cf : Nat} {vr : Value} {left fin : List Int} {rows : List (List Int)}
theorem GsW.below (h : GsW w n go L F cl cf vr left fin rows W) (hb : Below W.heap.size W W1) : GsW w n go L F cl cf vr left fin rows W1 :=
  ⟨(hb.cell (World.block_lt_of_cell? _ _ h.o0)).trans h.o0, (hb.frozen (World.block_lt_of_cell? _ _ h.o0)).trans h.f0, (hb.cell (World.block_lt_of_cell? _ _ h.o1)).trans h.o1,
   Kd.zby h.lR hb, Kd.zby h.fR hb, Kd.zby h.rR hb, zf h.bel hb⟩
theorem GsW.setLeft {g : Nat} (h : GsW w n go (some ⟨g, 0, none⟩) F cl cf vr left fin rows W) (ne : GsNe w n go (some ⟨g, 0, none⟩) F cl cf) (i : Nat) (x : Int) :
    GsW w n go (some ⟨g, 0, none⟩) F cl cf vr (left.set i x) fin rows (W.setCell ⟨g, i, none⟩ (.int .i64 x)) := by
  have ho : (Value.slice (some ⟨g, 0, none⟩) n cl).ownBlock = some g := rfl
  have hg := ne.gL g ho
  have h1 := (Kd.zec h.lR (i : Int) x).1
  rw [Int.toNat_natCast] at h1
  refine ⟨?_, by rw [World.frozen?_setCell]; exact h.f0, ?_, h1, Kd.zbz h.fR (fun k hk e => ne.LF g ho (by rw [← hk]; exact congrArg some e.symm)) _, Kd.zbz h.rR (fun k hk e => hk.2.1 (by rw [ho]; exact congrArg some e)) _, h.bel.setCell hg.1 _⟩
  · rw [World.cell?_setCell_far _ _ _ _ hg.2]; exact h.o0
  · rw [World.cell?_setCell_far _ _ _ _ hg.2]; exact h.o1
theorem GsW.setFin {g : Nat} (h : GsW w n go L (some ⟨g, 0, none⟩) cl cf vr left fin rows W) (ne : GsNe w n go L (some ⟨g, 0, none⟩) cl cf) (i : Nat) (x : Int) :
    GsW w n go L (some ⟨g, 0, none⟩) cl cf vr left (fin.set i x) rows (W.setCell ⟨g, i, none⟩ (.int .i64 x)) := by
  have ho : (Value.slice (some ⟨g, 0, none⟩) n cf).ownBlock = some g := rfl
  have hg := ne.gF g ho
  have h1 := (Kd.zec h.fR (i : Int) x).1
  rw [Int.toNat_natCast] at h1
  refine ⟨?_, by rw [World.frozen?_setCell]; exact h.f0, ?_, Kd.zbz h.lR (fun k hk e => ne.LF k hk.symm (by rw [ho]; exact congrArg some e)) _, h1, Kd.zbz h.rR (fun k hk e => hk.2.2 (by rw [ho]; exact congrArg some e)) _, h.bel.setCell hg.1 _⟩
  · rw [World.cell?_setCell_far _ _ _ _ hg.2]; exact h.o0
  · rw [World.cell?_setCell_far _ _ _ _ hg.2]; exact h.o1
end
theorem GsW.setRows {w W W1 : World} {n go : Nat} {L F : Option Addr} {cl cf : Nat} {vr v1 : Value} {left fin : List Int} {rows rows1 : List (List Int)} (h : GsW w n go L F cl cf vr left fin rows W) (ne : GsNe w n go L F cl cf) (hg : W.grownBy W1 vr.ownBlock) (hb : Below w.heap.size w W1)
    (hr : Kd.R (Kd.slice 3 (Kd.int .i64)) 23 W1 w.heap.size (fun k => k ≠ go ∧ some k ≠ (Value.slice L n cl).ownBlock ∧ some k ≠ (Value.slice F n cf).ownBlock) v1 rows1) : GsW w n go L F cl cf v1 left fin rows1 (W1.setCell ⟨go, 0, none⟩ v1) := by
  have hv := h.rR.1
  have hgo : some go ≠ vr.ownBlock := fun e => (hv go e.symm).1 rfl
  have c0 := hg.cell h.o0 hgo
  have c1 := hg.cell h.o1 hgo
  have fz : W1.frozen? ⟨go, 0, none⟩ = false := (World.frozen?_of_block (hg.block go (World.block_lt_of_cell? _ _ h.o0) hgo)).trans h.f0
  refine ⟨World.cell?_setCell_same _ _ _ c0, by rw [World.frozen?_setCell]; exact fz, ?_, ?_, ?_, Kd.zbz hr (fun k hk e => hk.1 e) _, hb.setCell ne.gon _⟩
  · rw [World.cell?_setCell_other _ _ _ _ (by simp)]; exact c1
  · exact Kd.zbz (Kd.zfw h.lR hg (fun k hk e => (hv k e.symm).2.1 hk)) (fun k hk e => (ne.gL k hk.symm).2 e) _
  · exact Kd.zbz (Kd.zfw h.fR hg (fun k hk e => (hv k e.symm).2.2 hk)) (fun k hk e => (ne.gF k hk.symm).2 e) _
end Go.Proofs.Ytebgfobjhlcopaa.P
namespace Go.Proofs.Ytebgfobjhlcopaa.Base
open Go.RowKit Go.Proofs.Ytebgfobjhlcopaa.P Go.Proofs.YtebgfobjhlcopaaW.PrintWords Go.Proofs.YtebgfobjhlcopaaW.PrintLast Go.Proofs.YtebgfobjhlcopaaW.PrintMore
theorem w64 {x : Int} (h0 : -9223372036854775808 ≤ x) (h1 : x < 9223372036854775808) : wrap64 x = x := by unfold wrap64; omega
theorem in_f (a b c : Int) : zco.f a b c = some (decide (b ≤ a ∧ a ≤ c)) := by
  unfold zco.f
  by_cases h : a ≥ b
  · rw [if_pos h]; simp [show b ≤ a from h]
  · rw [if_neg h]; simp [show ¬ b ≤ a from h]
theorem zeu {α : Type} (p : Prop) [Decidable p] (x y : Option α) : (some (decide p)).bind (fun t => if t = true then x else y) = if p then x else y := by
  by_cases hp : p <;> simp [hp]
theorem mx_max (a b : Int) : mx a b = max a b := by unfold mx; omega
theorem tdiv_pos {a b : Int} (h : 0 ≤ a) : Int.tdiv a b = a / b := Int.tdiv_eq_ediv_of_nonneg h
end Go.Proofs.Ytebgfobjhlcopaa.Base
namespace Go.Proofs.Ytebgfobjhlcopaa.Gen
open Go.RowKit Go.Proofs.YtebgfobjhlcopaaW.PrintWords Go.Proofs.YtebgfobjhlcopaaW.PrintLast
def Tot {α : Type} (g : Nat → Option α) (P : α → Prop) : Prop := ∃ r, Ev g r ∧ P r
theorem Tot.ret {α : Type} {P : α → Prop} (a : α) (h : P a) : Tot (fun _ => some a) P := ⟨a, Ev.now a, h⟩
theorem Tot.mono {α : Type} {P Q : α → Prop} {g : Nat → Option α} (h : Tot g P) (hpq : ∀ a, P a → Q a) : Tot g Q := by
  obtain ⟨r, h1, h2⟩ := h
  exact ⟨r, h1, hpq r h2⟩
theorem Tot.congr {α : Type} {P : α → Prop} {g f : Nat → Option α} (e : ∀ k, g k = f k) (h : Tot f P) : Tot g P := by
  have : g = f := funext e
  rw [this]; exact h
theorem Tot.step {α : Type} {P : α → Prop} {g f : Nat → Option α} (e : ∀ k, g (k + 1) = f k) (h : Tot f P) : Tot g P := by
  obtain ⟨r, h1, h2⟩ := h
  exact ⟨r, Ev.step e h1, h2⟩
theorem Tot.bind {α β : Type} {P : α → Prop} {Q : β → Prop} {g : Nat → Option α} {f : Nat → α → Option β} (h : Tot g P) (hf : ∀ a, P a → Tot (fun k => f k a) Q) : Tot (fun k => (g k).bind (f k)) Q := by
  obtain ⟨r, h1, h2⟩ := h
  obtain ⟨q, h3, h4⟩ := hf r h2
  exact ⟨q, Ev.bind h1 h3, h4⟩
theorem Tot.yes {α : Type} {P : α → Prop} {c : Prop} [Decidable c] {g f : Nat → Option α} (hc : c) (h : Tot g P) : Tot (fun k => if c then g k else f k) P := by
  simp only [if_pos hc]; exact h
theorem Tot.no {α : Type} {P : α → Prop} {c : Prop} [Decidable c] {g f : Nat → Option α} (hc : ¬ c) (h : Tot f P) : Tot (fun k => if c then g k else f k) P := by
  simp only [if_neg hc]; exact h
theorem Tot.ite {α : Type} {P : α → Prop} {c : Prop} [Decidable c] {g f : Nat → Option α} (h1 : c → Tot g P) (h2 : ¬ c → Tot f P) : Tot (fun k => if c then g k else f k) P := by
  by_cases hc : c
  · exact Tot.yes hc (h1 hc)
  · exact Tot.no hc (h2 hc)
theorem Tot.rounds {g : Nat → Option Bool} (h : Tot g (fun r => r = true)) : ∃ k, g k = some true := by
  obtain ⟨r, h1, rfl⟩ := h
  exact h1.rounds
theorem Tot.val {α : Type} {g : Nat → Option α} {a : α} (h : Ev g a) : Tot g (fun r => r = a) := ⟨a, h, rfl⟩
theorem Tot.ev {α : Type} {g : Nat → Option α} {a : α} (h : Tot g (fun r => r = a)) : Ev g a := by
  obtain ⟨r, h1, rfl⟩ := h
  exact h1
theorem Tot.loop {σ ρ : Type} {P : ρ → Prop} (F : Nat → Nat → σ → Option ρ) (n : Nat) (Inv : Nat → σ → Prop)
    (hstep : ∀ i s, i < n → Inv i s → (∀ s', Inv (i + 1) s' → Tot (fun k => F k (i + 1) s') P) → Tot (fun k => F k i s) P)
    (hend : ∀ s, Inv n s → Tot (fun k => F k n s) P) : ∀ i s, i ≤ n → Inv i s → Tot (fun k => F k i s) P := by
  have key : ∀ d i s, i + d = n → Inv i s → Tot (fun k => F k i s) P := by
    intro d
    induction d with
    | zero => intro i s hi h; obtain rfl : i = n := by omega
              exact hend s h
    | succ d ih => intro i s hi h; exact hstep i s (by omega) h (fun s' hs' => ih (i + 1) s' (by omega) hs')
  intro i s hi h
  exact key (n - i) i s (by omega) h
theorem zd6 (xs : List Int) (i : Nat) (h : i < xs.length) : rd xs (i : Int) = xs[i] := by
  unfold rd
  rw [List.getD_eq_getElem?_getD, Int.toNat_natCast, List.getElem?_eq_getElem h]
  rfl
theorem fill_step {β : Type} (acc tgt : List β) (i : Nat) (hl : acc.length = tgt.length) (h : acc.take i = tgt.take i) (hi : i < tgt.length) : (acc.set i tgt[i]).take (i + 1) = tgt.take (i + 1) := by
  rw [List.take_succ_eq_append_getElem (by simpa [hl] using hi), List.take_succ_eq_append_getElem hi]
  rw [List.take_set_of_le (Nat.le_refl i), h]
  simp
theorem Tot.copy {β : Type} (F : Nat → List β → Int → Option (List β)) (tgt : List β) (z : β)
    (hstep : ∀ k acc (i : Nat) (h : i < tgt.length), acc.length = tgt.length → F (k + 1) acc (i : Int) = F k (acc.set i tgt[i]) ((i : Int) + 1))
    (hend : ∀ k acc, acc.length = tgt.length → F (k + 1) acc (tgt.length : Int) = some acc) : Tot (fun k => F k (List.replicate tgt.length z) 0) (fun r => r = tgt) := by
  have key : ∀ d (i : Nat) acc, i + d = tgt.length → acc.length = tgt.length → acc.take i = tgt.take i → Tot (fun k => F k acc (i : Int)) (fun r => r = tgt) := by
    intro d
    induction d with
    | zero =>
      intro i acc hi hl ht
      obtain rfl : i = tgt.length := by omega
      refine Tot.step (f := fun _ => some acc) (fun k => hend k acc hl) (Tot.ret _ ?_)
      rw [List.take_length, ← hl, List.take_length] at ht
      exact ht
    | succ d ih =>
      intro i acc hi hl ht
      have hlt : i < tgt.length := by omega
      refine Tot.step (fun k => hstep k acc i hlt hl) ?_
      have := ih (i + 1) (acc.set i tgt[i]) (by omega) (by simpa using hl) (fill_step acc tgt i hl ht hlt)
      simpa using this
  simpa using key tgt.length 0 (List.replicate tgt.length z) (by omega) (by simp) (by simp)
theorem Tot.look {ρ : Type} {r : ρ} (F : Nat → Int → Option ρ) (n : Nat) (hstep : ∀ k (i : Nat), i < n → F (k + 1) (i : Int) = F k ((i : Int) + 1)) (hend : ∀ k, F (k + 1) (n : Int) = some r) : Tot (fun k => F k 0) (fun q => q = r) := by
  have key : ∀ d (i : Nat), i + d = n → Tot (fun k => F k (i : Int)) (fun q => q = r) := by
    intro d
    induction d with
    | zero => intro i hi; obtain rfl : i = n := by omega
              exact Tot.step (f := fun _ => some r) (fun k => hend k) (Tot.ret _ rfl)
    | succ d ih => intro i hi; exact Tot.step (fun k => hstep k i (by omega)) (by simpa using ih (i + 1) (by omega))
  simpa using key n 0 (by omega)
end Go.Proofs.Ytebgfobjhlcopaa.Gen
namespace Go.Proofs.Ytebgfobjhlcopaa.Graph
open Go.RowKit Go.Proofs.Ytebgfobjhlcopaa.P Go.Proofs.Ytebgfobjhlcopaa.Base Go.Proofs.Ytebgfobjhlcopaa.Gen Go.Proofs.YtebgfobjhlcopaaW.PrintWords Go.Proofs.YtebgfobjhlcopaaW.PrintLast
def zeh (m : Int) (e : List Int) : Prop := e.length = 2 ∧ 0 ≤ rd e 0 ∧ rd e 0 < rd e 1 ∧ rd e 1 < m
instance (m : Int) (e : List Int) : Decidable (zeh m e) := by unfold zeh; infer_instance
def ze8 (c : List Int) : Prop := ∀ x ∈ c, 1 ≤ x ∧ x ≤ 8
instance (c : List Int) : Decidable (ze8 c) := by unfold ze8; infer_instance
def GV (c : List Int) (es : List (List Int)) : Prop := c.length ≤ 8 ∧ es.length ≤ 64 ∧ ze8 c ∧ ∀ e ∈ es, zeh c.length e
instance (c : List Int) (es : List (List Int)) : Decidable (GV c es) := by unfold GV; infer_instance
theorem rd5_at (xs : List (List Int)) (i : Nat) (h : i < xs.length) : zbd xs (i : Int) = xs[i] := by
  unfold zbd
  rw [List.getD_eq_getElem?_getD, Int.toNat_natCast, List.getElem?_eq_getElem h]
  rfl
theorem costs_f (c : List Int) : zcq.f c = some (decide (¬ ze8 c)) := by
  unfold zcq.f
  congr 1
  rw [Bool.eq_iff_iff, List.any_eq_true]
  unfold ze8
  simp only [zcq.bad, decide_eq_true_eq]
  constructor
  · rintro ⟨x, hx, h⟩ hh
    have := hh x hx
    simp at h
    omega
  · intro hh
    refine Classical.byContradiction fun hc => hh fun x hx => ?_
    refine Classical.byContradiction fun h2 => hc ⟨x, hx, ?_⟩
    simp; omega
theorem all_of {α : Type} {P : α → Prop} {l : List α} (h : ∀ i (h : i < l.length), P l[i]) : ∀ x ∈ l, P x := by
  intro x hx
  obtain ⟨i, hi, rfl⟩ := List.mem_iff_getElem.1 hx
  exact h i hi
theorem upto {α : Type} {P : α → Prop} {l : List α} {j : Nat} (hj : j < l.length) (hm : ∀ i (h : i < l.length), i < j → P l[i]) (h : P l[j]) : ∀ i (h : i < l.length), i < j + 1 → P l[i] := by
  intro i hi hij
  rcases Nat.lt_or_ge i j with h' | h'
  · exact hm i hi h'
  · obtain rfl : i = j := by omega
    exact h
theorem zhl (c : List Int) (es : List (List Int)) (hc : c.length ≤ 2097152) (he : es.length ≤ 2097152) : Ev (fun k => ze.f k c es) (decide (GV c es)) := by
  have loop : ∀ d j, j + d = es.length → (∀ i (h : i < es.length), i < j → zeh c.length es[i]) → Ev (fun k => ze.l0 k c es es (es.length : Int) (j : Int)) (decide (GV c es)) := by
    intro d
    induction d with
    | zero =>
      intro j hj hm
      have ha : ∀ e ∈ es, zeh c.length e := all_of (fun i hi => hm i hi (by omega))
      refine Ev.step (f := fun _ => some (decide (GV c es))) (fun k => ?_) (Ev.now _)
      simp only [ze.l0]
      rw [if_neg (by omega)]
      by_cases h1 : c.length ≤ 8
      · rw [if_pos (by omega)]
        by_cases h2 : es.length ≤ 64
        · rw [if_pos (by omega), costs_f]
          simp only [Option.bind_some]
          congr 1
          rw [Bool.eq_iff_iff]
          unfold GV
          simp [h1, h2]
          exact fun _ => ha
        · rw [if_neg (by omega), decide_eq_false (fun h => h2 h.2.1)]
      · rw [if_neg (by omega), decide_eq_false (fun h => h1 h.1)]
    | succ d ih =>
      intro j hj hm
      have hjl : j < es.length := by omega
      by_cases hok : zeh c.length es[j]
      · refine Ev.step (fun k => ?_) (ih (j + 1) (by omega) (upto hjl hm hok))
        unfold zeh at hok
        simp only [ze.l0]
        rw [if_pos (by omega), if_pos (by omega), if_pos (by omega), rd5_at es j hjl, if_pos (by omega), if_pos (by omega), in_f, zeu, w64 (x := (c.length : Int) - 1) (by omega) (by omega), if_pos (by omega), if_pos (by omega), in_f, zeu, if_pos (by omega), if_neg (by omega), w64 (by omega) (by omega)]
        rfl
      · rw [decide_eq_false (fun h => hok (h.2.2.2 _ (List.getElem_mem hjl)))]
        refine Ev.step (f := fun _ => some false) (fun k => ?_) (Ev.now _)
        unfold zeh at hok
        simp only [ze.l0]
        rw [if_pos (by omega), if_pos (by omega), if_pos (by omega), rd5_at es j hjl]
        by_cases h1 : es[j].length = 2
        · rw [if_pos (by omega), if_pos (by omega), in_f, zeu, w64 (x := (c.length : Int) - 1) (by omega) (by omega)]
          by_cases h2 : 0 ≤ rd es[j] 0 ∧ rd es[j] 0 ≤ (c.length : Int) - 1
          · rw [if_pos h2, if_pos (by omega), in_f, zeu]
            by_cases h3 : rd es[j] 0 ≤ rd es[j] 1 ∧ rd es[j] 1 ≤ (c.length : Int) - 1
            · rw [if_pos h3, if_pos (by omega)]
            · rw [if_neg h3]
          · rw [if_neg h2]
        · rw [if_neg (by omega)]
  have h := loop es.length 0 (by omega) (fun i _ h => by omega)
  refine Ev.congr (fun k => ?_) h
  unfold ze.f
  rfl
end Go.Proofs.Ytebgfobjhlcopaa.Graph
namespace Go.Proofs.Ytebgfobjhlcopaa.Crit
open Go.RowKit Go.Proofs.Ytebgfobjhlcopaa.P Go.Proofs.Ytebgfobjhlcopaa.Base Go.Proofs.Ytebgfobjhlcopaa.Gen Go.Proofs.Ytebgfobjhlcopaa.Graph Go.Proofs.YtebgfobjhlcopaaW.PrintWords Go.Proofs.YtebgfobjhlcopaaW.PrintLast
def stp (out : List Int) (b : Int) (t : Int) (e : List Int) : Int := if rd e 1 = b then max t (rd out (rd e 0)) else t
def bst (out : List Int) (b : Int) (es : List (List Int)) (t : Int) : Int := es.foldl (stp out b) t
def ends (c : List Int) (es : List (List Int)) : Nat → List Int
  | 0 => []
  | n + 1 => ends c es n ++ [bst (ends c es n) (n : Int) es 0 + rd c (n : Int)]
def EV (c : List Int) (es : List (List Int)) (i : Nat) : Int := rd (ends c es (i + 1)) (i : Int)
def mxl (l : List Int) (t : Int) : Int := l.foldl max t
def lng (c : List Int) (es : List (List Int)) : Int := mxl (ends c es c.length) 0
def vl (c : List Int) : Int := c.foldl (· + ·) 0
def zcu (c : List Int) : Nat → Int
  | 0 => 0
  | n + 1 => zcu c n + rd c (n : Int)
theorem zei (c : List Int) (es : List (List Int)) (n : Nat) : (ends c es n).length = n := by
  induction n with
  | zero => rfl
  | succ n ih => simp [ends, ih]
theorem rd_app_lt (a b : List Int) (i : Nat) (h : i < a.length) : rd (a ++ b) (i : Int) = rd a (i : Int) := by
  rw [zd6 _ i (by simp; omega), zd6 _ i h, List.getElem_append_left h]
theorem rd_app_eq (a : List Int) (x : Int) (n : Nat) (h : a.length = n) : rd (a ++ [x]) (n : Int) = x := by
  subst h
  rw [zd6 _ _ (by simp)]
  simp
theorem zc7 (c : List Int) (es : List (List Int)) (n i : Nat) (h : i < n) : rd (ends c es n) (i : Int) = EV c es i := by
  induction n with
  | zero => omega
  | succ n ih =>
    rcases Nat.lt_or_ge i n with h' | h'
    · rw [ends, rd_app_lt _ _ _ (by rw [zei]; exact h'), ih h']
    · obtain rfl : i = n := by omega
      rfl
theorem zgb (c : List Int) (es : List (List Int)) (n : Nat) : EV c es n = bst (ends c es n) (n : Int) es 0 + rd c (n : Int) := by
  unfold EV
  rw [ends]
  exact rd_app_eq _ _ _ (zei c es n)
theorem zd4 (out : List Int) (b : Int) (es : List (List Int)) : ∀ t, t ≤ bst out b es t := by
  induction es with
  | nil => intro t; exact Int.le_refl _
  | cons e es ih =>
    intro t
    refine Int.le_trans ?_ (ih _)
    unfold stp; split <;> omega
theorem bst_ge (out : List Int) (b : Int) (es : List (List Int)) : ∀ t, ∀ e ∈ es, rd e 1 = b → rd out (rd e 0) ≤ bst out b es t := by
  induction es with
  | nil => intro t e he; simp at he
  | cons e es ih =>
    intro t x hx hb
    rcases List.mem_cons.1 hx with rfl | hx
    · refine Int.le_trans ?_ (zd4 out b es _)
      unfold stp; rw [if_pos hb]; omega
    · exact ih _ x hx hb
theorem ze9 (out : List Int) (b M : Int) (es : List (List Int)) : ∀ t, t ≤ M → (∀ e ∈ es, rd e 1 = b → rd out (rd e 0) ≤ M) → bst out b es t ≤ M := by
  induction es with
  | nil => intro t h _; exact h
  | cons e es ih =>
    intro t h hh
    refine ih _ ?_ (fun x hx => hh x (List.mem_cons_of_mem _ hx))
    unfold stp
    split
    · rename_i hb
      have := hh e (List.mem_cons_self ..) hb
      omega
    · exact h
theorem mxl_init (l : List Int) : ∀ t, t ≤ mxl l t := by
  induction l with
  | nil => intro t; exact Int.le_refl _
  | cons a l ih => intro t; exact Int.le_trans (by omega) (ih _)
theorem mxl_ge (l : List Int) : ∀ t, ∀ x ∈ l, x ≤ mxl l t := by
  induction l with
  | nil => intro t x hx; simp at hx
  | cons a l ih =>
    intro t x hx
    rcases List.mem_cons.1 hx with rfl | hx
    · exact Int.le_trans (by omega) (mxl_init l _)
    · exact ih _ x hx
theorem mxl_le (l : List Int) (M : Int) : ∀ t, t ≤ M → (∀ x ∈ l, x ≤ M) → mxl l t ≤ M := by
  induction l with
  | nil => intro t h _; exact h
  | cons a l ih =>
    intro t h hh
    refine ih _ ?_ (fun x hx => hh x (List.mem_cons_of_mem _ hx))
    have := hh a (List.mem_cons_self ..)
    omega
theorem mxl_take (l : List Int) (i : Nat) (h : i < l.length) (t : Int) : mxl (l.take (i + 1)) t = max (mxl (l.take i) t) l[i] := by
  unfold mxl
  rw [List.take_succ_eq_append_getElem h, List.foldl_append]
  rfl
theorem vl_take (l : List Int) (i : Nat) (h : i < l.length) : vl (l.take (i + 1)) = vl (l.take i) + l[i] := by
  unfold vl
  rw [List.take_succ_eq_append_getElem h, List.foldl_append]
  rfl
theorem vl_sum (c : List Int) (n : Nat) (h : n ≤ c.length) : vl (c.take n) = zcu c n := by
  induction n with
  | zero => rfl
  | succ n ih => rw [vl_take _ _ (by omega), ih (by omega), zcu, zd6]
theorem vl_eq (c : List Int) : vl c = zcu c c.length := by
  have := vl_sum c c.length (Nat.le_refl _)
  rwa [List.take_length] at this
def Up (m : Int) (es : List (List Int)) : Prop := ∀ e ∈ es, 0 ≤ rd e 0 ∧ rd e 0 < rd e 1 ∧ rd e 1 < m
def Pos (c : List Int) : Prop := ∀ i : Nat, i < c.length → 1 ≤ rd c (i : Int)
theorem gv_up {c : List Int} {es : List (List Int)} (h : GV c es) : Up c.length es := fun e he => (h.2.2.2 e he).2
theorem zgy {c : List Int} {es : List (List Int)} (h : GV c es) : Pos c := fun i hi => by
  rw [zd6 c i hi]
  exact (h.2.2.1 _ (List.getElem_mem hi)).1
theorem zfa {c : List Int} {es : List (List Int)} (h : GV c es) (i : Nat) (hi : i < c.length) : 1 ≤ rd c (i : Int) ∧ rd c (i : Int) ≤ 8 := by
  rw [zd6 c i hi]
  exact h.2.2.1 _ (List.getElem_mem hi)
theorem zdf {m : Int} {es : List (List Int)} (h : Up m es) {e : List Int} (he : e ∈ es) : ∃ a b : Nat, rd e 0 = (a : Int) ∧ rd e 1 = (b : Int) ∧ a < b ∧ (b : Int) < m := by
  have := h e he
  exact ⟨(rd e 0).toNat, (rd e 1).toNat, by omega, by omega, by omega, by omega⟩
theorem EV_ge (c : List Int) (es : List (List Int)) (n : Nat) : rd c (n : Int) ≤ EV c es n := by
  rw [zgb]
  have := zd4 (ends c es n) (n : Int) es 0
  omega
theorem lng_ge (c : List Int) (es : List (List Int)) (i : Nat) (h : i < c.length) : EV c es i ≤ lng c es := by
  rw [← zc7 c es c.length i h, zd6 _ i (by rw [zei]; exact h)]
  exact mxl_ge _ _ _ (List.getElem_mem _)
theorem zgz (c : List Int) (es : List (List Int)) (M : Int) (h0 : 0 ≤ M) (h : ∀ i, i < c.length → EV c es i ≤ M) : lng c es ≤ M := by
  refine mxl_le _ _ _ h0 (fun x hx => ?_)
  obtain ⟨i, hi, rfl⟩ := List.mem_iff_getElem.1 hx
  have hl := zei c es c.length
  have := h i (by omega)
  rwa [← zc7 c es c.length i (by omega), zd6 _ i hi] at this
theorem zd5 (c : List Int) (es : List (List Int)) : 0 ≤ lng c es := mxl_init _ _
theorem zev {c : List Int} (hp : Pos c) : ∀ n m, n ≤ m → m ≤ c.length → zcu c n ≤ zcu c m := by
  intro n m
  induction m with
  | zero => intro h _; obtain rfl : n = 0 := by omega
            exact Int.le_refl _
  | succ m ih =>
    intro h hm
    rcases Nat.lt_or_ge n (m + 1) with h' | h'
    · have := ih (by omega) (by omega)
      have := hp m (by omega)
      rw [zcu]; omega
    · obtain rfl : n = m + 1 := by omega
      exact Int.le_refl _
theorem zg0 {c : List Int} {es : List (List Int)} (hu : Up c.length es) (hp : Pos c) : ∀ n, n < c.length → EV c es n ≤ zcu c (n + 1) := by
  intro n
  induction n using Nat.strongRecOn with
  | ind n ih =>
    intro hn
    rw [zgb, zcu]
    have : bst (ends c es n) (n : Int) es 0 ≤ zcu c n := by
      refine ze9 _ _ _ _ _ ?_ (fun e he hb => ?_)
      · exact zev hp 0 n (by omega) (by omega)
      · obtain ⟨a, b, ha, hb', hab, _⟩ := zdf hu he
        obtain rfl : b = n := by omega
        rw [ha, zc7 c es b a hab]
        exact Int.le_trans (ih a hab (by omega)) (zev hp _ _ (by omega) (by omega))
    omega
theorem lng_le_vl {c : List Int} {es : List (List Int)} (hu : Up c.length es) (hp : Pos c) : lng c es ≤ vl c := by
  rw [vl_eq]
  refine zgz _ _ _ ?_ (fun i hi => ?_)
  · exact zev hp 0 _ (by omega) (by omega)
  · exact Int.le_trans (zg0 hu hp i hi) (zev hp _ _ (by omega) (by omega))
end Go.Proofs.Ytebgfobjhlcopaa.Crit
namespace Go.Proofs.Ytebgfobjhlcopaa.Gra
open Go.RowKit Go.Proofs.Ytebgfobjhlcopaa.P Go.Proofs.Ytebgfobjhlcopaa.Base Go.Proofs.Ytebgfobjhlcopaa.Gen Go.Proofs.Ytebgfobjhlcopaa.Graph Go.Proofs.Ytebgfobjhlcopaa.Crit Go.Proofs.YtebgfobjhlcopaaW.PrintWords Go.Proofs.YtebgfobjhlcopaaW.PrintLast
def blk (es : List (List Int)) (left : List Int) (i : Int) : Bool := es.any (fun e => decide (rd e 1 = i) && decide (0 < rd left (rd e 0)))
def rdy (es : List (List Int)) (left : List Int) (i : Int) : Bool := decide (0 < rd left i) && !(blk es left i)
def pck (es : List (List Int)) (left : List Int) (m : Int) : Nat → List Int
  | 0 => []
  | i + 1 => if rdy es left (i : Int) = true ∧ ((pck es left m i).length : Int) < m then pck es left m i ++ [(i : Int)] else pck es left m i
def tick (now : Int) (p : List Int × List Int) (i : Int) : List Int × List Int :=
  (p.1.set i.toNat (rd p.1 i - 1), if rd p.1 i - 1 = 0 then p.2.set i.toNat (now + 1) else p.2)
theorem blk_false {es : List (List Int)} {left : List Int} {i : Int} : blk es left i = false ↔ ∀ e ∈ es, rd e 1 = i → rd left (rd e 0) ≤ 0 := by
  unfold blk
  rw [List.any_eq_false]
  constructor
  · intro h e he h1
    have := h e he
    rw [Bool.and_eq_true, decide_eq_true_eq, decide_eq_true_eq] at this
    omega
  · intro h e he
    rw [Bool.and_eq_true, decide_eq_true_eq, decide_eq_true_eq]
    intro hh
    have := h e he hh.1
    omega
theorem zdg {es : List (List Int)} {left : List Int} {i : Int} : rdy es left i = true ↔ 0 < rd left i ∧ ∀ e ∈ es, rd e 1 = i → rd left (rd e 0) ≤ 0 := by
  unfold rdy
  rw [Bool.and_eq_true, decide_eq_true_eq, Bool.not_eq_true', blk_false]
section
variable {es : List (List Int)} {left : List Int} {m : Int}
theorem zgc : ∀ n (x : Int), x ∈ pck es left m n → ∃ i : Nat, i < n ∧ x = (i : Int) ∧ rdy es left (i : Int) = true := by
  intro n
  induction n with
  | zero => intro x h; simp [pck] at h
  | succ n ih =>
    intro x h
    rw [pck] at h
    split at h
    · rename_i hc
      rw [List.mem_append, List.mem_singleton] at h
      rcases h with h | h
      · obtain ⟨i, hi, h⟩ := ih x h; exact ⟨i, by omega, h⟩
      · exact ⟨n, by omega, h, hc.1⟩
    · obtain ⟨i, hi, h⟩ := ih x h; exact ⟨i, by omega, h⟩
theorem pck_nodup : ∀ n, (pck es left m n).Nodup := by
  intro n
  induction n with
  | zero => simp [pck]
  | succ n ih =>
    rw [pck]
    split
    · rw [List.nodup_append]
      refine ⟨ih, by simp, fun a ha b hb => ?_⟩
      rw [List.mem_singleton] at hb
      obtain ⟨i, hi, h, _⟩ := zgc n a ha
      omega
    · exact ih
theorem pck_len (hm : 0 ≤ m) : ∀ n, ((pck es left m n).length : Int) ≤ m := by
  intro n
  induction n with
  | zero => simpa [pck] using hm
  | succ n ih =>
    rw [pck]
    split
    · rename_i hc
      rw [List.length_append, List.length_singleton]; omega
    · exact ih
theorem pck_le : ∀ n, (pck es left m n).length ≤ n := by
  intro n
  induction n with
  | zero => simp [pck]
  | succ n ih =>
    rw [pck]
    split
    · rw [List.length_append, List.length_singleton]; omega
    · omega
theorem pck_full (hm : 0 ≤ m) : ∀ n (i : Nat), i < n → rdy es left (i : Int) = true → (i : Int) ∉ pck es left m n → ((pck es left m n).length : Int) = m := by
  intro n
  induction n with
  | zero => intro i h; omega
  | succ n ih =>
    intro i hi hr hn
    rw [pck] at hn ⊢
    split at hn
    · rename_i hc
      rw [List.mem_append, List.mem_singleton] at hn
      have h1 : (i : Int) ∉ pck es left m n := fun h => hn (Or.inl h)
      have h2 : i ≠ n := fun h => hn (Or.inr (by rw [h]))
      have := ih i (by omega) hr h1
      omega
    · rename_i hc
      rw [if_neg hc]
      by_cases e : i = n
      · subst e
        have := pck_len (es := es) (left := left) hm i
        have : ¬ ((pck es left m i).length : Int) < m := fun h => hc ⟨hr, h⟩
        omega
      · exact ih i (by omega) hr hn
end
theorem zft (l : List Int) (i : Nat) (x : Int) (h : i < l.length) : rd (l.set i x) (i : Int) = x := by
  rw [zd6 _ i (by simpa using h)]
  simp
theorem zfu (l : List Int) (i a : Nat) (x : Int) (h : a ≠ i) : rd (l.set i x) (a : Int) = rd l (a : Int) := by
  unfold rd
  rw [List.getD_eq_getElem?_getD, List.getD_eq_getElem?_getD, Int.toNat_natCast, List.getElem?_set_ne (by omega)]
theorem ticks_len (now : Int) : ∀ (l : List Int) (p : List Int × List Int), (l.foldl (tick now) p).1.length = p.1.length ∧ (l.foldl (tick now) p).2.length = p.2.length := by
  intro l
  induction l with
  | nil => intro p; exact ⟨rfl, rfl⟩
  | cons a l ih =>
    intro p
    have := ih (tick now p a)
    rw [List.foldl_cons, this.1, this.2]
    unfold tick
    constructor
    · simp
    · simp only; split <;> simp
theorem ticks_rd (now : Int) : ∀ (l : List Int) (p : List Int × List Int), l.Nodup → (∀ x ∈ l, ∃ i : Nat, i < p.1.length ∧ x = (i : Int)) → p.2.length = p.1.length → ∀ a : Nat, a < p.1.length →
    rd (l.foldl (tick now) p).1 (a : Int) = rd p.1 (a : Int) - (if (a : Int) ∈ l then 1 else 0) ∧
    rd (l.foldl (tick now) p).2 (a : Int) = if (a : Int) ∈ l ∧ rd p.1 (a : Int) - 1 = 0 then now + 1 else rd p.2 (a : Int) := by
  intro l
  induction l with
  | nil => intro p _ _ _ a _; simp
  | cons x l ih =>
    intro p hn hm hl a ha
    rw [List.nodup_cons] at hn
    obtain ⟨i, hi, rfl⟩ := hm x (List.mem_cons_self ..)
    have hl1 : (tick now p (i : Int)).1.length = p.1.length := by unfold tick; simp
    have hl2 : (tick now p (i : Int)).2.length = p.2.length := by unfold tick; simp only; split <;> simp
    have := ih (tick now p (i : Int)) hn.2 (fun y hy => by rw [hl1]; exact hm y (List.mem_cons_of_mem _ hy)) (by omega) a (by omega)
    rw [List.foldl_cons, this.1, this.2]
    by_cases e : a = i
    · subst e
      have h1 : rd (tick now p (a : Int)).1 (a : Int) = rd p.1 (a : Int) - 1 := by
        unfold tick; rw [Int.toNat_natCast]; exact zft _ _ _ hi
      rw [h1, if_neg hn.1, if_neg (show ¬ ((a : Int) ∈ l ∧ rd p.1 (a : Int) - 1 - 1 = 0) from fun h => hn.1 h.1), if_pos (List.mem_cons_self ..)]
      refine ⟨by omega, ?_⟩
      unfold tick
      simp only [List.mem_cons_self, true_and, Int.toNat_natCast]
      split
      · exact zft _ _ _ (by omega)
      · rfl
    · have h1 : rd (tick now p (i : Int)).1 (a : Int) = rd p.1 (a : Int) := by
        unfold tick; rw [Int.toNat_natCast]; exact zfu _ _ _ _ e
      have h2 : rd (tick now p (i : Int)).2 (a : Int) = rd p.2 (a : Int) := by
        unfold tick
        simp only [Int.toNat_natCast]
        split
        · exact zfu _ _ _ _ e
        · rfl
      have h3 : ((a : Int) ∈ (i : Int) :: l) ↔ (a : Int) ∈ l := by
        rw [List.mem_cons]
        constructor
        · rintro (h | h)
          · omega
          · exact h
        · exact Or.inr
      rw [h1, h2]
      simp only [h3]
      exact ⟨trivial, trivial⟩
structure Inv (es : List (List Int)) (left : List Int) : Prop where
  nn : ∀ i : Nat, i < left.length → 0 ≤ rd left (i : Int)
  up : Up left.length es
  bk : ∀ e ∈ es, 0 < rd left (rd e 0) → 1 ≤ rd left (rd e 1)
theorem zgd {es : List (List Int)} {left : List Int} (h : Inv es left) : ∀ n : Nat, n < left.length → rd left (n : Int) = 0 → EV left es n = 0 := by
  intro n
  induction n using Nat.strongRecOn with
  | ind n ih =>
    intro hn hz
    rw [zgb, hz, Int.add_zero]
    apply Int.le_antisymm
    · refine ze9 _ _ _ _ _ (Int.le_refl _) (fun e he hb => ?_)
      obtain ⟨a, b, ha, hb', hab, _⟩ := zdf h.up he
      obtain rfl : b = n := by omega
      rw [ha, zc7 left es b a hab]
      have h1 := h.bk e he
      rw [ha, hb', hz] at h1
      have h2 := h.nn a (by omega)
      rw [ih a hab (by omega) (by omega)]
      exact Int.le_refl _
    · exact zd4 _ _ _ _
structure Step (es : List (List Int)) (left new : List Int) (T : Nat → Prop) : Prop where
  len : new.length = left.length
  run : ∀ i : Nat, i < left.length → T i → rd new (i : Int) = rd left (i : Int) - 1 ∧ rdy es left (i : Int) = true
  sit : ∀ i : Nat, i < left.length → ¬ T i → rd new (i : Int) = rd left (i : Int)
section
variable {es : List (List Int)} {left new : List Int} {T : Nat → Prop}
theorem Step.inv (h : Inv es left) (s : Step es left new T) : Inv es new := by
  refine ⟨fun i hi => ?_, by rw [s.len]; exact h.up, fun e he h0 => ?_⟩
  · rw [s.len] at hi
    have := h.nn i hi
    by_cases t : T i
    · have h1 := s.run i hi t
      have := (zdg.1 h1.2).1
      omega
    · rw [s.sit i hi t]; exact this
  · obtain ⟨a, b, ha, hb, hab, hbl⟩ := zdf h.up he
    rw [ha] at h0
    rw [hb]
    have hal : 0 < rd left (a : Int) := by
      by_cases t : T a
      · have := (s.run a (by omega) t).1; omega
      · rw [s.sit a (by omega) t] at h0; exact h0
    have hk := h.bk e he
    rw [ha, hb] at hk
    have t : ¬ T b := fun t => by
      have := (zdg.1 (s.run b (by omega) t).2).2 e he hb
      rw [ha] at this; omega
    rw [s.sit b (by omega) t]
    exact hk hal
theorem Step.falls (h : Inv es left) (s : Step es left new T) (ha : ∀ i : Nat, i < left.length → rdy es left (i : Int) = true → T i) : ∀ n : Nat, n < left.length → EV new es n ≤ max 0 (EV left es n - 1) := by
  have hnew := s.inv h
  intro n
  induction n using Nat.strongRecOn with
  | ind n ih =>
    intro hn
    have hnn := h.nn n hn
    by_cases hz : rd left (n : Int) = 0
    · have t : ¬ T n := fun t => by have := (zdg.1 (s.run n hn t).2).1; omega
      rw [zgd hnew n (by rw [s.len]; exact hn) (by rw [s.sit n hn t]; exact hz)]
      omega
    · by_cases hr : rdy es left (n : Int) = true
      · have hrd := (s.run n hn (ha n hn hr)).1
        have hge := EV_ge left es n
        have : bst (ends new es n) (n : Int) es 0 ≤ 0 := by
          refine ze9 _ _ _ _ _ (Int.le_refl _) (fun e he hb => ?_)
          obtain ⟨a, b, ha', hb', hab, _⟩ := zdf h.up he
          obtain rfl : b = n := by omega
          have h1 := (zdg.1 hr).2 e he hb
          rw [ha'] at h1
          have h2 := h.nn a (by omega)
          have t : ¬ T a := fun t => by have := (zdg.1 (s.run a (by omega) t).2).1; omega
          rw [ha', zc7 new es b a hab, zgd hnew a (by rw [s.len]; omega) (by rw [s.sit a (by omega) t]; omega)]
          exact Int.le_refl _
        rw [zgb]; omega
      · have t : ¬ T n := fun t => hr (s.run n hn t).2
        obtain ⟨e, he, hb, hp⟩ : ∃ e ∈ es, rd e 1 = (n : Int) ∧ 0 < rd left (rd e 0) := by
          refine Classical.byContradiction fun hc => hr (zdg.2 ⟨by omega, fun e he hb => ?_⟩)
          exact Classical.byContradiction fun h2 => hc ⟨e, he, hb, by omega⟩
        obtain ⟨a, b, ha', hb', hab, _⟩ := zdf h.up he
        obtain rfl : b = n := by omega
        rw [ha'] at hp
        have h1 := EV_ge left es a
        have h2 : rd (ends left es b) (a : Int) ≤ bst (ends left es b) (b : Int) es 0 := by
          have := bst_ge (ends left es b) (b : Int) es 0 e he hb
          rwa [ha'] at this
        rw [zc7 left es b a hab] at h2
        have : bst (ends new es b) (b : Int) es 0 ≤ bst (ends left es b) (b : Int) es 0 - 1 := by
          refine ze9 _ _ _ _ _ (by omega) (fun f hf hfb => ?_)
          obtain ⟨c, d, hc, hd, hcd, _⟩ := zdf h.up hf
          obtain rfl : d = b := by omega
          rw [hc, zc7 new es d c hcd]
          have h3 := ih c hcd (by omega)
          have h4 := bst_ge (ends left es d) (d : Int) es 0 f hf hfb
          rw [hc, zc7 left es d c hcd] at h4
          omega
        rw [zgb new, zgb left, s.sit b hn t]
        omega
theorem Step.slow (h : Inv es left) (s : Step es left new T) : ∀ n : Nat, n < left.length → EV left es n ≤ EV new es n + 1 ∧ EV new es n ≤ EV left es n := by
  intro n
  induction n using Nat.strongRecOn with
  | ind n ih =>
    intro hn
    have pre : ∀ e ∈ es, rd e 1 = (n : Int) → ∃ a : Nat, rd e 0 = (a : Int) ∧ a < n := fun e he hb => by
      obtain ⟨a, b, ha', hb', hab, _⟩ := zdf h.up he
      exact ⟨a, ha', by omega⟩
    have dn : bst (ends new es n) (n : Int) es 0 ≤ bst (ends left es n) (n : Int) es 0 := by
      refine ze9 _ _ _ _ _ (zd4 ..) (fun e he hb => ?_)
      obtain ⟨a, ha, han⟩ := pre e he hb
      have h1 := bst_ge (ends left es n) (n : Int) es 0 e he hb
      rw [ha, zc7 left es n a han] at h1
      rw [ha, zc7 new es n a han]
      have := (ih a han (by omega)).2
      omega
    rw [zgb left, zgb new]
    by_cases t : T n
    · have hr := s.run n hn t
      have : bst (ends left es n) (n : Int) es 0 ≤ 0 := by
        refine ze9 _ _ _ _ _ (Int.le_refl _) (fun e he hb => ?_)
        obtain ⟨a, ha, han⟩ := pre e he hb
        have h1 := (zdg.1 hr.2).2 e he hb
        rw [ha] at h1
        have h2 := h.nn a (by omega)
        rw [ha, zc7 left es n a han, zgd h a (by omega) (by omega)]
        exact Int.le_refl _
      have := zd4 (ends new es n) (n : Int) es 0
      omega
    · rw [s.sit n hn t]
      have : bst (ends left es n) (n : Int) es 0 ≤ bst (ends new es n) (n : Int) es 0 + 1 := by
        refine ze9 _ _ _ _ _ (by have := zd4 (ends new es n) (n : Int) es 0; omega) (fun e he hb => ?_)
        obtain ⟨a, ha, han⟩ := pre e he hb
        have h1 := bst_ge (ends new es n) (n : Int) es 0 e he hb
        rw [ha, zc7 new es n a han] at h1
        rw [ha, zc7 left es n a han]
        have := (ih a han (by omega)).1
        omega
      omega
end
theorem pck_sum {left new : List Int} {g : Int → Prop} [DecidablePred g] : ∀ n : Nat,
    (∀ i : Nat, i < n → rd new (i : Int) = rd left (i : Int) - (if g (i : Int) then 1 else 0)) → zcu new n = zcu left n - ((((List.range n).filter (fun i => decide (g ((i : Nat) : Int)))).length : Nat) : Int) := by
  intro n
  induction n with
  | zero => intro _; simp [zcu]
  | succ n ih =>
    intro h
    rw [zcu, zcu, ih (fun i hi => h i (by omega)), h n (by omega), List.range_succ, List.filter_append, List.length_append]
    by_cases hg : g (n : Int)
    · simp [hg]; omega
    · simp [hg]; omega
theorem pck_count {es : List (List Int)} {left : List Int} {m : Int} : ∀ n, ((List.range n).filter (fun i => decide (((i : Nat) : Int) ∈ pck es left m n))).length = (pck es left m n).length := by
  intro n
  induction n with
  | zero => simp [pck]
  | succ n ih =>
    rw [List.range_succ, List.filter_append, List.length_append]
    have hnot : (n : Int) ∉ pck es left m n := fun h => by
      obtain ⟨i, hi, h, _⟩ := zgc n _ h
      omega
    have e : (List.range n).filter (fun i => decide (((i : Nat) : Int) ∈ pck es left m (n + 1))) = (List.range n).filter (fun i => decide (((i : Nat) : Int) ∈ pck es left m n)) := by
      apply List.filter_congr
      intro i hi
      rw [List.mem_range] at hi
      rw [decide_eq_decide, pck]
      split
      · rw [List.mem_append, List.mem_singleton]
        constructor
        · rintro (h | h)
          · exact h
          · omega
        · exact Or.inl
      · exact Iff.rfl
    rw [e, ih]
    rw [pck]
    split
    · simp
    · simp [hnot]
section
variable (es : List (List Int)) (m : Int) (c z : List Int)
def st : Nat → List Int × List Int
  | 0 => (c, z)
  | t + 1 => (pck es (st t).1 m c.length).foldl (tick (t : Int)) (st t)
def run (t : Nat) : List Int := pck es (st es m c z t).1 m c.length
def Done (t : Nat) : Prop := ∀ i : Nat, i < c.length → rd (st es m c z t).1 (i : Int) = 0
end
section
variable {es : List (List Int)} {m : Int} {c z : List Int}
theorem zdr (hz : z.length = c.length) : ∀ t, (st es m c z t).1.length = c.length ∧ (st es m c z t).2.length = c.length := by
  intro t
  induction t with
  | zero => exact ⟨rfl, hz⟩
  | succ t ih =>
    rw [st]
    have := ticks_len (t : Int) (pck es (st es m c z t).1 m c.length) (st es m c z t)
    omega
theorem st_rd (hz : z.length = c.length) (t a : Nat) (ha : a < c.length) :
    rd (st es m c z (t + 1)).1 (a : Int) = rd (st es m c z t).1 (a : Int) - (if (a : Int) ∈ run es m c z t then 1 else 0) ∧
    rd (st es m c z (t + 1)).2 (a : Int) = if (a : Int) ∈ run es m c z t ∧ rd (st es m c z t).1 (a : Int) - 1 = 0 then (t : Int) + 1 else rd (st es m c z t).2 (a : Int) := by
  have hl := zdr (es := es) (m := m) hz t
  rw [st]
  refine ticks_rd (t : Int) _ _ (pck_nodup _) (fun x hx => ?_) (by omega) a (by omega)
  obtain ⟨i, hi, h, _⟩ := zgc _ _ hx
  exact ⟨i, by omega, h⟩
theorem zge (hz : z.length = c.length) (t : Nat) : Step es (st es m c z t).1 (st es m c z (t + 1)).1 (fun i => (i : Int) ∈ run es m c z t) := by
  have hl := zdr (es := es) (m := m) hz t
  have hl2 := zdr (es := es) (m := m) hz (t + 1)
  refine ⟨by omega, fun i hi ht => ⟨?_, ?_⟩, fun i hi ht => ?_⟩
  · rw [(st_rd hz t i (by omega)).1, if_pos ht]
  · obtain ⟨j, hj, h, hr⟩ := zgc _ _ ht
    obtain rfl : i = j := by omega
    exact hr
  · rw [(st_rd hz t i (by omega)).1, if_neg ht]; omega
theorem zfb (hz : z.length = c.length) (hu : Up c.length es) (hp : Pos c) : ∀ t, Inv es (st es m c z t).1 := by
  intro t
  induction t with
  | zero =>
    refine ⟨fun i hi => ?_, hu, fun e he _ => ?_⟩
    · have := hp i hi; show 0 ≤ rd c (i : Int); omega
    · obtain ⟨a, b, _, hb, _, hbl⟩ := zdf hu he
      rw [hb]
      exact hp b (by omega)
  | succ t ih => exact Step.inv ih (zge hz t)
theorem sum_zero {l : List Int} (n : Nat) (hnn : ∀ i : Nat, i < n → 0 ≤ rd l (i : Int)) : 0 ≤ zcu l n ∧ (zcu l n = 0 ↔ ∀ i : Nat, i < n → rd l (i : Int) = 0) := by
  induction n with
  | zero => exact ⟨Int.le_refl _, fun _ i hi => by omega, fun _ => rfl⟩
  | succ n ih =>
    have h1 := ih (fun i hi => hnn i (by omega))
    have h2 := hnn n (by omega)
    rw [zcu]
    refine ⟨by omega, fun h i hi => ?_, fun h => ?_⟩
    · by_cases e : i = n
      · subst e; omega
      · exact h1.2.1 (by omega) i (by omega)
    · have := h1.2.2 (fun i hi => h i (by omega))
      have := h n (by omega)
      omega
theorem st_sum (hz : z.length = c.length) (t : Nat) : zcu (st es m c z (t + 1)).1 c.length = zcu (st es m c z t).1 c.length - ((run es m c z t).length : Int) := by
  rw [pck_sum (g := fun x => x ∈ run es m c z t) (left := (st es m c z t).1) (new := (st es m c z (t + 1)).1) c.length (fun i hi => (st_rd hz t i hi).1)]
  congr 2
  exact pck_count c.length
theorem runs (hz : z.length = c.length) (hu : Up c.length es) (hp : Pos c) (hm : 1 ≤ m) (t : Nat) (h : ¬ Done es m c z t) : 1 ≤ (run es m c z t).length := by
  have hi := zfb (m := m) hz hu hp t
  have hl := zdr (es := es) (m := m) hz t
  have key : ∀ n : Nat, n ≤ c.length → (∀ i : Nat, i < n → rd (st es m c z t).1 (i : Int) = 0) ∨ ∃ i : Nat, i < n ∧ rdy es (st es m c z t).1 (i : Int) = true := by
    intro n
    induction n with
    | zero => intro _; exact Or.inl fun i hi => by omega
    | succ n ih =>
      intro hn
      rcases ih (by omega) with h1 | ⟨i, h1, h2⟩
      · by_cases e : rd (st es m c z t).1 (n : Int) = 0
        · left
          intro i hi
          by_cases e2 : i = n
          · subst e2; exact e
          · exact h1 i (by omega)
        · right
          refine ⟨n, by omega, zdg.2 ⟨by have := hi.nn n (by omega); omega, fun f hf hb => ?_⟩⟩
          obtain ⟨a, b, ha, hb', hab, _⟩ := zdf hu hf
          rw [ha, h1 a (by omega)]
          exact Int.le_refl _
      · exact Or.inr ⟨i, by omega, h2⟩
  rcases key c.length (Nat.le_refl _) with h1 | ⟨i, h1, h2⟩
  · exact absurd h1 h
  · by_cases hin : (i : Int) ∈ run es m c z t
    · exact List.length_pos_of_mem hin
    · have := pck_full (by omega) c.length i h1 h2 hin
      unfold run
      omega
theorem zew (hz : z.length = c.length) (hu : Up c.length es) (hp : Pos c) (t : Nat) : 0 ≤ zcu (st es m c z t).1 c.length ∧ (zcu (st es m c z t).1 c.length = 0 ↔ Done es m c z t) := by
  have hi := zfb (m := m) hz hu hp t
  have hl := zdr (es := es) (m := m) hz t
  exact sum_zero c.length (fun i h => hi.nn i (by omega))
theorem lng_zero (hz : z.length = c.length) (hu : Up c.length es) (hp : Pos c) (t : Nat) (h : Done es m c z t) : lng (st es m c z t).1 es = 0 := by
  have hi := zfb (m := m) hz hu hp t
  have hl := zdr (es := es) (m := m) hz t
  apply Int.le_antisymm
  · refine zgz _ _ _ (Int.le_refl _) (fun i hil => ?_)
    rw [zgd hi i hil (h i (by omega))]
    exact Int.le_refl _
  · exact zd5 _ _
theorem lng_slow (hz : z.length = c.length) (hu : Up c.length es) (hp : Pos c) (t : Nat) : lng (st es m c z t).1 es ≤ lng (st es m c z (t + 1)).1 es + 1 ∧ lng (st es m c z (t + 1)).1 es ≤ lng (st es m c z t).1 es := by
  have hi := zfb (m := m) hz hu hp t
  have hs := zge (es := es) (m := m) hz t
  have h0 := zd5 (st es m c z (t + 1)).1 es
  constructor
  · refine zgz _ _ _ (by omega) (fun i hil => ?_)
    have h1 := (hs.slow hi i hil).1
    have h2 := lng_ge (st es m c z (t + 1)).1 es i (by rw [hs.len]; exact hil)
    omega
  · refine zgz _ _ _ (zd5 _ _) (fun i hil => ?_)
    rw [hs.len] at hil
    have h1 := (hs.slow hi i hil).2
    have h2 := lng_ge (st es m c z t).1 es i hil
    omega
theorem lng_falls (hz : z.length = c.length) (hu : Up c.length es) (hp : Pos c) (t : Nat) (h : ∀ i : Nat, i < c.length → rdy es (st es m c z t).1 (i : Int) = true → (i : Int) ∈ run es m c z t) : lng (st es m c z (t + 1)).1 es ≤ max 0 (lng (st es m c z t).1 es - 1) := by
  have hi := zfb (m := m) hz hu hp t
  have hl := zdr (es := es) (m := m) hz t
  have hs := zge (es := es) (m := m) hz t
  refine zgz _ _ _ (by omega) (fun i hil => ?_)
  rw [hs.len] at hil
  have h1 := hs.falls hi (fun i hi hr => h i (by omega) hr) i hil
  have h2 := lng_ge (st es m c z t).1 es i hil
  omega
theorem graham (hz : z.length = c.length) (hu : Up c.length es) (hp : Pos c) (hm : 1 ≤ m) : ∀ t : Nat, (∀ s, s < t → ¬ Done es m c z s) →
    m * t + zcu (st es m c z t).1 c.length + (m - 1) * lng (st es m c z t).1 es ≤ zcu c c.length + (m - 1) * lng c es ∧
    lng c es ≤ lng (st es m c z t).1 es + t ∧ zcu c c.length ≤ zcu (st es m c z t).1 c.length + m * t ∧ zcu (st es m c z t).1 c.length + t ≤ zcu c c.length := by
  intro t
  induction t with
  | zero =>
    intro _
    refine ⟨?_, ?_, ?_, ?_⟩ <;> simp [st]
  | succ t ih =>
    intro h
    obtain ⟨h1, h2, h3, h4⟩ := ih (fun s hs => h s (by omega))
    have hr := runs hz hu hp hm t (h t (by omega))
    have hs := st_sum (es := es) (m := m) hz t
    have hlen : ((run es m c z t).length : Int) ≤ m := pck_len (by omega) _
    have hsl := lng_slow (m := m) hz hu hp t
    have hdn := zew (m := m) hz hu hp t
    have hpos : 1 ≤ lng (st es m c z t).1 es := by
      have h5 : ¬ zcu (st es m c z t).1 c.length = 0 := fun e => h t (by omega) (hdn.2.1 e)
      refine Classical.byContradiction fun hc => h t (by omega) (fun i hi => ?_)
      have hl := zdr (es := es) (m := m) hz t
      have h6 := EV_ge (st es m c z t).1 es i
      have h7 := lng_ge (st es m c z t).1 es i (by omega)
      have h8 := (zfb (m := m) hz hu hp t).nn i (by omega)
      omega
    have e1 : m * ((t + 1 : Nat) : Int) = m * (t : Int) + m := by
      rw [Int.natCast_add, Int.mul_add, Int.natCast_one, Int.mul_one]
    refine ⟨?_, by omega, by omega, by omega⟩
    by_cases hf : ((run es m c z t).length : Int) = m
    · have : (m - 1) * lng (st es m c z (t + 1)).1 es ≤ (m - 1) * lng (st es m c z t).1 es := Int.mul_le_mul_of_nonneg_left hsl.2 (by omega)
      omega
    · have hall := lng_falls (m := m) hz hu hp t (fun i hi hr => Classical.byContradiction fun hn => hf (pck_full (by omega) _ i hi hr hn))
      have : (m - 1) * lng (st es m c z (t + 1)).1 es ≤ (m - 1) * (lng (st es m c z t).1 es - 1) := Int.mul_le_mul_of_nonneg_left (by omega) (by omega)
      rw [Int.mul_sub, Int.mul_one] at this
      omega
theorem ends_by (hz : z.length = c.length) (hu : Up c.length es) (hp : Pos c) (hm : 1 ≤ m) : ∃ T : Nat, (T : Int) ≤ zcu c c.length ∧ Done es m c z T ∧ ∀ s, s < T → ¬ Done es m c z s := by
  have key : ∀ n : Nat, (∀ s, s < n → ¬ Done es m c z s) ∨ ∃ T : Nat, T < n ∧ Done es m c z T ∧ ∀ s, s < T → ¬ Done es m c z s := by
    intro n
    induction n with
    | zero => exact Or.inl fun s hs => by omega
    | succ n ih =>
      rcases ih with h | ⟨T, h1, h2, h3⟩
      · by_cases hd : Done es m c z n
        · exact Or.inr ⟨n, by omega, hd, h⟩
        · left
          intro s hs
          by_cases e : s = n
          · subst e; exact hd
          · exact h s (by omega)
      · exact Or.inr ⟨T, by omega, h2, h3⟩
  have h0 := zew (m := m) hz hu hp 0
  have h0' : 0 ≤ zcu c c.length := h0.1
  rcases key ((zcu c c.length).toNat + 1) with h | ⟨T, h1, h2, h3⟩
  · have h1 := (graham hz hu hp hm _ h).2.2.2
    have h2 := (zew (m := m) hz hu hp ((zcu c c.length).toNat + 1)).1
    omega
  · exact ⟨T, by omega, h2, h3⟩
end
end Go.Proofs.Ytebgfobjhlcopaa.Gra
namespace Go.Proofs.Ytebgfobjhlcopaa.Crit
open Go.RowKit Go.Proofs.Ytebgfobjhlcopaa.P Go.Proofs.Ytebgfobjhlcopaa.Base Go.Proofs.Ytebgfobjhlcopaa.Gen Go.Proofs.Ytebgfobjhlcopaa.Graph Go.Proofs.YtebgfobjhlcopaaW.PrintWords Go.Proofs.YtebgfobjhlcopaaW.PrintLast
def CP (c : List Int) (es : List (List Int)) : Int := if GV c es then lng c es else -1
def MB (c : List Int) (es : List (List Int)) (m : Int) : Int := if GV c es ∧ 1 ≤ m ∧ m ≤ 5 then lng c es + (vl c - lng c es) / m else -1
theorem sum_bd {c : List Int} {es : List (List Int)} (h : GV c es) (n : Nat) (hn : n ≤ c.length) : 0 ≤ zcu c n ∧ zcu c n ≤ 8 * n := by
  induction n with
  | zero => simp [zcu]
  | succ n ih =>
    have h1 := ih (by omega)
    have h2 := zfa h n (by omega)
    rw [zcu]; omega
theorem vl_bd {c : List Int} {es : List (List Int)} (h : GV c es) : 0 ≤ vl c ∧ vl c ≤ 64 := by
  rw [vl_eq]
  have := sum_bd h c.length (Nat.le_refl _)
  have := h.1
  omega
theorem EV_bd {c : List Int} {es : List (List Int)} (h : GV c es) (i : Nat) (hi : i < c.length) : 1 ≤ EV c es i ∧ EV c es i ≤ 64 := by
  have h1 := EV_ge c es i
  have h2 := zfa h i hi
  have h3 := zg0 (gv_up h) (zgy h) i hi
  have h4 := sum_bd h (i + 1) (by omega)
  have := h.1
  omega
theorem lng_bd {c : List Int} {es : List (List Int)} (h : GV c es) : 0 ≤ lng c es ∧ lng c es ≤ vl c := ⟨zd5 _ _, lng_le_vl (gv_up h) (zgy h)⟩
theorem impl_vol_f {c : List Int} {es : List (List Int)} (h : GV c es) : Ev (fun k => zb4.f k c) (vl c) := by
  have loop : ∀ d i, i + d = c.length → Ev (fun k => zb4.l0 k (zcu c i) c (c.length : Int) (i : Int)) (vl c) := by
    intro d
    induction d with
    | zero =>
      intro i hi
      refine Ev.step (f := fun _ => some (vl c)) (fun k => ?_) (Ev.now _)
      simp only [zb4.l0]
      rw [if_neg (by omega), vl_eq]
      congr 2
    | succ d ih =>
      intro i hi
      have hc := h.1
      have h1 := sum_bd h i (by omega)
      have h2 := zfa h i (by omega)
      refine Ev.step (fun k => ?_) (ih (i + 1) (by omega))
      simp only [zb4.l0]
      rw [if_pos (by omega), if_pos (by omega), if_pos (by omega), w64 (x := zcu c i + rd c i) (by omega) (by omega), w64 (by omega) (by omega)]
      rfl
  exact loop c.length 0 (by omega)
theorem bst_drop (out : List Int) (b : Int) (es : List (List Int)) (j : Nat) (h : j < es.length) (t : Int) : bst out b (es.drop j) t = bst out b (es.drop (j + 1)) (stp out b t es[j]) := by
  rw [List.drop_eq_getElem_cons h]
  rfl
theorem rd_set_eq (l : List Int) (i : Nat) (x : Int) (h : i < l.length) : rd (l.set i x) (i : Int) = x := by
  rw [zd6 _ i (by simpa using h)]
  simp
theorem zg1 (l : List Int) (i a : Nat) (x : Int) (h : a ≠ i) : rd (l.set i x) (a : Int) = rd l (a : Int) := by
  unfold rd
  rw [List.getD_eq_getElem?_getD, List.getD_eq_getElem?_getD, Int.toNat_natCast, List.getElem?_set_ne (by omega)]
def Row (c : List Int) (es : List (List Int)) (i : Nat) (t : Int) (x : List Int) : Prop :=
  x.length = c.length ∧ (∀ a : Nat, a < i → rd x (a : Int) = EV c es a) ∧ rd x (i : Int) = t ∧ ∀ a : Nat, i < a → rd x (a : Int) = 0
theorem row_read {c : List Int} {es : List (List Int)} {i : Nat} {t : Int} {x : List Int} (h : Row c es i t x) {a : Nat} (ha : a < i) : rd x (a : Int) = rd (ends c es i) (a : Int) := by
  rw [h.2.1 a ha, zc7 c es i a ha]
theorem row_set {c : List Int} {es : List (List Int)} {i : Nat} {t : Int} {x : List Int} (h : Row c es i t x) (hi : i < c.length) (u : Int) : Row c es i u (x.set i u) := by
  refine ⟨by simpa using h.1, fun a ha => ?_, rd_set_eq _ _ _ (by rw [h.1]; exact hi), fun a ha => ?_⟩
  · rw [zg1 _ _ _ _ (by omega)]; exact h.2.1 a ha
  · rw [zg1 _ _ _ _ (by omega)]; exact h.2.2.2 a ha
theorem row_next {c : List Int} {es : List (List Int)} {i : Nat} {x : List Int} (h : Row c es i (EV c es i) x) : Row c es (i + 1) 0 x := by
  refine ⟨h.1, fun a ha => ?_, h.2.2.2 (i + 1) (by omega), fun a ha => h.2.2.2 a (by omega)⟩
  by_cases e : a = i
  · subst e; exact h.2.2.1
  · exact h.2.1 a (by omega)
theorem row_zero (c : List Int) (es : List (List Int)) : Row c es 0 0 (List.replicate c.length 0) := by
  have hz : ∀ a : Nat, rd (List.replicate c.length 0) (a : Int) = 0 := by
    intro a
    unfold rd
    rw [List.getD_eq_getElem?_getD, Int.toNat_natCast, List.getElem?_replicate]
    split <;> rfl
  exact ⟨by simp, fun a ha => by omega, hz 0, fun a _ => hz a⟩
theorem zfc {c : List Int} {es : List (List Int)} (h : GV c es) : Ev (fun k => zl.f k c es) (lng c es) := by
  have hc := h.1
  have he := h.2.1
  have hel := zei c es c.length
  have inner : ∀ (i : Nat), i < c.length → ∀ R g, (∀ x, Row c es (i + 1) 0 x → Ev (fun k => zl.l0 k es x (max g (EV c es i)) c (c.length : Int) ((i : Int) + 1)) R) → ∀ d j t x, j + d = es.length → Row c es i t x → bst (ends c es i) (i : Int) (es.drop j) t = bst (ends c es i) (i : Int) es 0 → Ev (fun k => zl.l1 k es x g (i : Int) (rd c (i : Int)) c (c.length : Int) (i : Int) es (es.length : Int) (j : Int)) R := by
    intro i hi R g hR d
    have hb := EV_bd h i hi
    have hco := zfa h i hi
    have heq := zgb c es i
    induction d with
    | zero =>
      intro j t x hj hx ht
      rw [List.drop_eq_nil_of_le (by omega)] at ht
      have ht : t = bst (ends c es i) (i : Int) es 0 := ht
      have hx1 := hx.1
      have hx2 := hx.2.2.1
      have hn : Row c es i (EV c es i) (x.set i (EV c es i)) := row_set hx hi _
      refine Ev.step (fun k => ?_) (hR _ (row_next hn))
      simp only [zl.l1]
      rw [if_neg (by omega), if_pos (by omega), if_pos (by omega), Option.bind_some, hx2, w64 (x := t + rd c i) (by omega) (by omega), w64 (by omega) (by omega), show t + rd c (i : Int) = EV c es i by omega, Int.toNat_natCast, hn.2.2.1, mx_max]
    | succ d ih =>
      intro j t x hj hx ht
      have hjl : j < es.length := by omega
      have hok := h.2.2.2 es[j] (List.getElem_mem hjl)
      unfold zeh at hok
      rw [bst_drop _ _ _ _ hjl] at ht
      have hx1 := hx.1
      by_cases hb : rd es[j] 1 = (i : Int)
      · have hx2 := hx.2.2.1
        obtain ⟨a, ha⟩ : ∃ a : Nat, rd es[j] 0 = (a : Int) := ⟨(rd es[j] 0).toNat, by omega⟩
        have e1 : stp (ends c es i) (i : Int) t es[j] = max t (rd x (a : Int)) := by
          unfold stp; rw [if_pos hb, ha, row_read hx (by omega)]
        rw [e1] at ht
        refine Ev.step (fun k => ?_) (ih (j + 1) _ _ (by omega) (row_set hx hi _) ht)
        simp only [zl.l1]
        rw [if_pos (by omega), if_pos (by omega), if_pos (by omega), rd5_at es j hjl, if_pos (by omega), w64 (x := (j : Int) + 1) (by omega) (by omega), if_pos hb, if_pos (by omega), if_pos (by omega), if_pos (by omega), if_pos (by omega), if_pos (by omega), hx2, mx_max, ha, Int.toNat_natCast]
        rfl
      · have e1 : stp (ends c es i) (i : Int) t es[j] = t := by
          unfold stp; rw [if_neg hb]
        rw [e1] at ht
        refine Ev.step (fun k => ?_) (ih (j + 1) _ _ (by omega) hx ht)
        simp only [zl.l1]
        rw [if_pos (by omega), if_pos (by omega), if_pos (by omega), rd5_at es j hjl, if_pos (by omega), w64 (x := (j : Int) + 1) (by omega) (by omega), if_neg hb]
        rfl
  have outer : ∀ d i x, i + d = c.length → Row c es i 0 x → Ev (fun k => zl.l0 k es x (mxl ((ends c es c.length).take i) 0) c (c.length : Int) (i : Int)) (lng c es) := by
    intro d
    induction d with
    | zero =>
      intro i x hi hx
      refine Ev.step (f := fun _ => some (lng c es)) (fun k => ?_) (Ev.now _)
      simp only [zl.l0]
      rw [if_neg (by omega), List.take_of_length_le (by omega)]
      rfl
    | succ d ih =>
      intro i x hi hx
      have hil : i < c.length := by omega
      refine Ev.step (fun k => ?_) (inner i hil _ (mxl ((ends c es c.length).take i) 0) (fun y hy => ?_) es.length 0 0 x (by omega) hx rfl)
      · simp only [zl.l0]
        rw [if_pos (by omega), if_pos (by omega), if_pos (by omega)]
        rfl
      · have := ih (i + 1) y (by omega) hy
        rw [mxl_take _ _ (by omega), ← zd6 _ i (by omega), zc7 c es c.length i hil] at this
        exact this
  have := outer c.length 0 _ (by omega) (row_zero c es)
  refine Ev.congr (fun k => ?_) this
  unfold zl.f
  rw [if_pos (by omega), Int.toNat_natCast, if_pos (by omega)]
  rfl
theorem impl_cp (c : List Int) (es : List (List Int)) (hc : c.length ≤ 2097152) (he : es.length ≤ 2097152) : Ev (fun k => zbj.f k c es) (CP c es) := by
  unfold zbj.f
  refine Ev.bind (zhl c es hc he) ?_
  by_cases h : GV c es
  · simp only [decide_eq_true h, if_true]
    unfold CP; rw [if_pos h]
    exact Ev.bind (zfc h) (Ev.now _)
  · simp only [decide_eq_false h]
    unfold CP; rw [if_neg h]
    exact Ev.now _
theorem mb_val {c : List Int} {es : List (List Int)} (h : GV c es) (m : Int) (hm : 1 ≤ m) : wrap64 (lng c es + wrap64 (Int.tdiv (wrap64 (vl c - lng c es)) m)) = lng c es + (vl c - lng c es) / m := by
  have h1 := lng_bd h
  have h2 := vl_bd h
  rw [w64 (x := vl c - lng c es) (by omega) (by omega), tdiv_pos (by omega)]
  have h3 := Int.ediv_nonneg (show 0 ≤ vl c - lng c es by omega) (show 0 ≤ m by omega)
  have h4 := Int.ediv_le_self m (show 0 ≤ vl c - lng c es by omega)
  rw [w64 (x := (vl c - lng c es) / m) (by omega) (by omega), w64 (by omega) (by omega)]
theorem impl_mb (c : List Int) (es : List (List Int)) (m : Int) (hc : c.length ≤ 2097152) (he : es.length ≤ 2097152) : Ev (fun k => zb.f k c es m) (MB c es m) := by
  unfold zb.f
  refine Ev.bind (zhl c es hc he) ?_
  have bad : ¬ (GV c es ∧ 1 ≤ m ∧ m ≤ 5) → Ev (fun k => zb.j0 k c es m true) (MB c es m) := by
    intro h
    unfold MB; rw [if_neg h]
    exact Ev.step (f := fun _ => some (-1)) (fun k => by simp [zb.j0]) (Ev.now _)
  by_cases h : GV c es
  · simp only [decide_eq_true h, if_true, zcb.f, in_f, Option.bind_some]
    by_cases hm : 1 ≤ m ∧ m ≤ 5
    · rw [decide_eq_true hm]
      refine Ev.step (f := fun k => (zl.f k c es).bind fun t889 => (zb4.f k c).bind fun t890 => if m = 0 then none else some (wrap64 (t889 + wrap64 (Int.tdiv (wrap64 (t890 - t889)) m)))) (fun k => by simp [zb.j0]) ?_
      refine Ev.bind (zfc h) (Ev.bind (impl_vol_f h) ?_)
      have e3 : MB c es m = lng c es + (vl c - lng c es) / m := if_pos ⟨h, hm⟩
      rw [e3, ← mb_val h m hm.1, if_neg (by omega)]
      exact Ev.now _
    · rw [decide_eq_false hm]
      exact bad (fun h' => hm h'.2)
  · simp only [decide_eq_false h]
    exact bad (fun h' => h h'.1)
end Go.Proofs.Ytebgfobjhlcopaa.Crit
namespace Go.Proofs.Ytebgfobjhlcopaa.Rg
open Go.RowKit Go.Proofs.Ytebgfobjhlcopaa.P Go.Proofs.Ytebgfobjhlcopaa.Base Go.Proofs.Ytebgfobjhlcopaa.Gen Go.Proofs.Ytebgfobjhlcopaa.Graph Go.Proofs.Ytebgfobjhlcopaa.Crit Go.Proofs.Ytebgfobjhlcopaa.Gra Go.Proofs.YtebgfobjhlcopaaW.PrintWords Go.Proofs.YtebgfobjhlcopaaW.PrintLast
theorem blk_eq (es : List (List Int)) (left : List Int) (i : Nat) : es.any (blkE left i) = blk es left (i : Int) := by
  unfold blk
  congr 1
  funext e
  unfold blkE
  by_cases h : rd e 1 = (i : Int)
  · rw [if_pos h, decide_eq_true h, Bool.true_and]
  · rw [if_neg h, decide_eq_false h, Bool.false_and]
theorem gpick_pck (es : List (List Int)) (left : List Int) (m : Int) : ∀ n, zcr es left m n = pck es left m n := by
  intro n
  induction n with
  | zero => rfl
  | succ n ih =>
    rw [zcr, pck, ih, blk_eq]
    by_cases h1 : rd left (n : Int) > 0
    · rw [if_pos h1]
      cases hb : blk es left (n : Int) with
      | true =>
        rw [if_pos rfl, if_neg (fun hh => by have := hh.1; unfold rdy at this; rw [hb] at this; simp at this)]
      | false =>
        rw [if_neg (by simp)]
        have hr : rdy es left (n : Int) = true := by unfold rdy; rw [hb, decide_eq_true h1]; rfl
        by_cases h2 : ((pck es left m n).length : Int) < m
        · rw [if_pos h2, if_pos ⟨hr, h2⟩]
        · rw [if_neg h2, if_neg (fun hh => h2 hh.2)]
    · rw [if_neg h1, if_neg (fun hh => by have := hh.1; unfold rdy at this; rw [decide_eq_false h1] at this; simp at this)]
theorem rd_set_or (l : List Int) (i : Nat) (x a : Int) : rd (l.set i x) a = x ∨ rd (l.set i x) a = rd l a := by
  unfold rd
  rw [List.getD_eq_getElem?_getD, List.getD_eq_getElem?_getD, List.getElem?_set]
  split
  · split
    · exact Or.inl rfl
    · rename_i h1 h2
      right
      rw [← h1, List.getElem?_eq_none (by omega)]
  · exact Or.inr rfl
theorem fold_tick {now : Int} (hnow : wrap64 (now + 1) = now + 1) : ∀ (l : List Int) (p : List Int × List Int) (B : Int), (∀ a : Int, -B ≤ rd p.1 a ∧ rd p.1 a ≤ B) → B + l.length ≤ 1000 → l.foldl (zdx now) p = l.foldl (tick now) p := by
  intro l
  induction l with
  | nil => intro p B _ _; rw [List.foldl_nil, List.foldl_nil]
  | cons x l ih =>
    intro p B hB hl
    rw [List.length_cons] at hl
    have hx := hB x
    have e : zdx now p x = tick now p x := by
      unfold zdx tick
      rw [hnow, w64 (x := rd p.1 x - 1) (by omega) (by omega)]
    rw [List.foldl_cons, List.foldl_cons, e]
    refine ih _ (B + 1) (fun a => ?_) (by omega)
    unfold tick
    simp only
    have ha := hB a
    have hor := rd_set_or p.1 x.toNat (rd p.1 x - 1) a
    generalize rd (p.1.set x.toNat (rd p.1 x - 1)) a = y at hor ⊢
    generalize rd p.1 x = u at hx hor
    generalize rd p.1 a = v at ha hor
    omega
theorem zfd (l : List Int) (x : Int) (hl : l.length ≤ 1000000) : Ev (fun k => zbf.f k l x) (decide (x ∈ l)) := by
  have idx : ∀ d i : Nat, i + d = l.length → (∀ y ∈ l.take i, x ≠ y) → ∃ r : Int, Ev (fun k => zi.l0 k l x (l.length : Int) (i : Int)) r ∧ (r ≥ 0 ↔ x ∈ l) := by
    intro d
    induction d with
    | zero =>
      intro i hi hn
      obtain rfl : i = l.length := by omega
      rw [List.take_length] at hn
      refine ⟨-1, Ev.step (f := fun _ => some (-1)) (fun k => ?_) (Ev.now _), ⟨fun h => by omega, fun h => absurd rfl (hn x h)⟩⟩
      simp only [zi.l0]
      rw [if_neg (by omega)]
    | succ d ih =>
      intro i hi hn
      have hil : i < l.length := by omega
      by_cases e : x = l[i]
      · refine ⟨(i : Int), Ev.step (f := fun _ => some (i : Int)) (fun k => ?_) (Ev.now _), ⟨fun _ => e ▸ List.getElem_mem hil, fun _ => by omega⟩⟩
        simp only [zi.l0]
        rw [if_pos (by omega), if_pos (by omega), if_pos (by omega), zd6 _ _ hil, if_pos e]
      · obtain ⟨r, h1, h2⟩ := ih (i + 1) (by omega) (fun y hy => by
          rw [List.take_succ_eq_append_getElem hil] at hy
          rcases List.mem_append.1 hy with h | h
          · exact hn y h
          · rw [List.mem_singleton.1 h]; exact e)
        refine ⟨r, Ev.step (fun k => ?_) h1, h2⟩
        simp only [zi.l0]
        rw [if_pos (by omega), if_pos (by omega), if_pos (by omega), zd6 _ _ hil, if_neg e, w64 (by omega) (by omega)]
        rfl
  obtain ⟨r, h1, h2⟩ := idx l.length 0 (by omega) (fun y hy => by simp at hy)
  unfold zbf.f zi.f
  have h3 : decide (x ∈ l) = decide (r ≥ 0) := decide_eq_decide.2 h2.symm
  rw [h3]
  exact Ev.bind h1 (Ev.now _)
section
variable {es : List (List Int)} {m : Int} {c : List Int}
def zz (c : List Int) : List Int := List.replicate c.length (-1)
theorem zdn (c : List Int) : (zz c).length = c.length := by unfold zz; rw [List.length_replicate]
theorem le_c (t i : Nat) (hi : i < c.length) : rd (st es m c (zz c) t).1 (i : Int) ≤ rd c (i : Int) := by
  induction t with
  | zero => exact Int.le_refl _
  | succ t ih =>
    rw [(st_rd (es := es) (m := m) (zdn c) t i hi).1]
    split <;> omega
theorem fin_rel (hp : Pos c) (t i : Nat) (hi : i < c.length) : (0 < rd (st es m c (zz c) t).1 (i : Int) ∧ rd (st es m c (zz c) t).2 (i : Int) = -1) ∨ (rd (st es m c (zz c) t).1 (i : Int) = 0 ∧ 0 ≤ rd (st es m c (zz c) t).2 (i : Int)) := by
  induction t with
  | zero =>
    left
    refine ⟨by have := hp i hi; show 0 < rd c (i : Int); omega, ?_⟩
    show rd (zz c) (i : Int) = -1
    rw [zd6 _ i (by rw [zdn]; exact hi)]
    unfold zz
    rw [List.getElem_replicate]
  | succ t ih =>
    have h := st_rd (es := es) (m := m) (zdn c) t i hi
    have hs := (zge (es := es) (m := m) (zdn c) t).run i (by rw [(zdr (es := es) (m := m) (zdn c) t).1]; exact hi)
    rw [h.1, h.2]
    by_cases hm : (i : Int) ∈ run es m c (zz c) t
    · have hl := (zdg.1 (hs hm).2).1
      rw [if_pos hm]
      by_cases hz : rd (st es m c (zz c) t).1 (i : Int) - 1 = 0
      · rw [if_pos ⟨hm, hz⟩]
        right; omega
      · rw [if_neg (fun hh => hz hh.2)]
        left
        rcases ih with ⟨_, h2⟩ | ⟨h1, _⟩
        · exact ⟨by omega, h2⟩
        · omega
    · rw [if_neg hm, if_neg (fun hh => hm hh.1), Int.sub_zero]
      exact ih
theorem has_none (hp : Pos c) (t : Nat) : (-1 ∈ (st es m c (zz c) t).2) ↔ ¬ Done es m c (zz c) t := by
  have hl := (zdr (es := es) (m := m) (zdn c) t).2
  constructor
  · intro h hd
    obtain ⟨i, hi, e⟩ := List.getElem_of_mem h
    have h1 := hd i (by omega)
    have h2 := fin_rel (es := es) (m := m) hp t i (by omega)
    rw [zd6 _ i hi, e] at h2
    omega
  · intro h
    refine Classical.byContradiction fun hn => h (fun i hi => ?_)
    rcases fin_rel (es := es) (m := m) hp t i hi with ⟨_, h2⟩ | ⟨h1, _⟩
    · exact absurd (by rw [← h2, zd6 _ i (by omega)]; exact List.getElem_mem _) hn
    · exact h1
theorem all_bd {l : List Int} {B : Int} (hB : 0 ≤ B) (h : ∀ i : Nat, i < l.length → 0 ≤ rd l (i : Int) ∧ rd l (i : Int) ≤ B) (a : Int) : -B ≤ rd l a ∧ rd l a ≤ B := by
  have e : rd l a = rd l ((a.toNat : Nat) : Int) := by unfold rd; rw [Int.toNat_natCast]
  rw [e]
  rcases Nat.lt_or_ge a.toNat l.length with h1 | h1
  · have := h _ h1; omega
  · have : rd l ((a.toNat : Nat) : Int) = 0 := by
      unfold rd
      rw [List.getD_eq_getElem?_getD, Int.toNat_natCast, List.getElem?_eq_none h1]
      rfl
    omega
theorem rg_l0 (h : GV c es) {T : Nat} (hT : T ≤ 64) (hd : Done es m c (zz c) T) (hn : ∀ s, s < T → ¬ Done es m c (zz c) s) : ∀ d t : Nat, t + d = T →
    Ev (fun k => zh.l0 c es m k (t : Int) (st es m c (zz c) t).1 (st es m c (zz c) t).2 ((List.range t).map (run es m c (zz c)))) ((List.range T).map (run es m c (zz c)), (st es m c (zz c) T).2) := by
  have hu := gv_up h
  have hp := zgy h
  have h8 := h.1
  intro d
  induction d with
  | zero =>
    intro t ht
    obtain rfl : t = T := by omega
    have hl := (zdr (es := es) (m := m) (zdn c) t).2
    have hc := zfd (st es m c (zz c) t).2 (-1) (by omega)
    rw [decide_eq_false (fun hh => (has_none (es := es) (m := m) hp t).1 hh hd)] at hc
    refine Ev.step (f := fun k => (zbf.f k (st es m c (zz c) t).2 (-1)).bind fun b => (if b = true then (if ((List.range t).map (run es m c (zz c))).length < 1000000 then (zh.l0 c es m k (wrap64 ((t : Int) + 1)) ((zcr es (st es m c (zz c) t).1 m c.length).foldl (zdx (t : Int)) ((st es m c (zz c) t).1, (st es m c (zz c) t).2)).1 ((zcr es (st es m c (zz c) t).1 m c.length).foldl (zdx (t : Int)) ((st es m c (zz c) t).1, (st es m c (zz c) t).2)).2 ((List.range t).map (run es m c (zz c)) ++ [zcr es (st es m c (zz c) t).1 m c.length])) else (none)) else (some ((List.range t).map (run es m c (zz c)), (st es m c (zz c) t).2)))) (fun k => by rw [zh.l0]) ?_
    exact Ev.bind hc (Ev.step (fun k => by rw [if_neg (by simp)]) (Ev.now _))
  | succ d ih =>
    intro t ht
    have hl := (zdr (es := es) (m := m) (zdn c) t).2
    have hl1 := (zdr (es := es) (m := m) (zdn c) t).1
    have hc := zfd (st es m c (zz c) t).2 (-1) (by omega)
    rw [decide_eq_true ((has_none (es := es) (m := m) hp t).2 (hn t (by omega)))] at hc
    have hw : wrap64 ((t : Int) + 1) = (t : Int) + 1 := w64 (by omega) (by omega)
    have hpl := pck_le (es := es) (left := (st es m c (zz c) t).1) (m := m) c.length
    have hft := fold_tick hw (pck es (st es m c (zz c) t).1 m c.length) (st es m c (zz c) t) 8 (all_bd (by omega) (fun i hi => by
      have h1 := (zfb (m := m) (zdn c) hu hp t).nn i hi
      have h2 := le_c (es := es) (m := m) (c := c) t i (by omega)
      have h3 := (zfa h i (by omega)).2
      exact ⟨h1, Int.le_trans h2 h3⟩)) (by omega)
    have e : (pck es (st es m c (zz c) t).1 m c.length).foldl (zdx (t : Int)) ((st es m c (zz c) t).1, (st es m c (zz c) t).2) = st es m c (zz c) (t + 1) := hft
    have IH := ih (t + 1) (by omega)
    have hr : (List.range (t + 1)).map (run es m c (zz c)) = (List.range t).map (run es m c (zz c)) ++ [pck es (st es m c (zz c) t).1 m c.length] := by rw [List.range_succ, List.map_append]; rfl
    rw [hr] at IH
    refine Ev.step (f := fun k => (zbf.f k (st es m c (zz c) t).2 (-1)).bind fun b => (if b = true then (if ((List.range t).map (run es m c (zz c))).length < 1000000 then (zh.l0 c es m k (((t + 1 : Nat) : Int)) (st es m c (zz c) (t + 1)).1 (st es m c (zz c) (t + 1)).2 ((List.range t).map (run es m c (zz c)) ++ [pck es (st es m c (zz c) t).1 m c.length])) else (none)) else (some ((List.range t).map (run es m c (zz c)), (st es m c (zz c) t).2)))) (fun k => by rw [zh.l0, gpick_pck, e, hw]; rfl) ?_
    refine Ev.bind hc ?_
    exact Ev.congr (fun k => by rw [if_pos rfl, if_pos (by rw [List.length_map, List.length_range]; omega)]) IH
open Classical in
noncomputable def TT (es : List (List Int)) (m : Int) (c : List Int) : Nat := if h : ∃ T : Nat, Done es m c (zz c) T ∧ ∀ s, s < T → ¬ Done es m c (zz c) s then h.choose else 0
theorem TT_is (h : GV c es) (hm : 1 ≤ m) : (TT es m c : Int) ≤ zcu c c.length ∧ Done es m c (zz c) (TT es m c) ∧ ∀ s, s < TT es m c → ¬ Done es m c (zz c) s := by
  obtain ⟨T, h1, h2, h3⟩ := ends_by (m := m) (zdn c) (gv_up h) (zgy h) hm
  have hx : ∃ T : Nat, Done es m c (zz c) T ∧ ∀ s, s < T → ¬ Done es m c (zz c) s := ⟨T, h2, h3⟩
  have e : TT es m c = hx.choose := by unfold TT; rw [dif_pos hx]
  have hs := hx.choose_spec
  rw [← e] at hs
  have eT : TT es m c = T := by
    rcases Nat.lt_trichotomy (TT es m c) T with h4 | h4 | h4
    · exact absurd hs.1 (h3 _ h4)
    · exact h4
    · exact absurd h2 (hs.2 _ h4)
  exact ⟨by rw [eT]; exact h1, hs⟩
noncomputable def RG (c : List Int) (es : List (List Int)) (m : Int) : List (List Int) × List Int := if GV c es ∧ 1 ≤ m ∧ m ≤ 5 then ((List.range (TT es m c)).map (run es m c (zz c)), (st es m c (zz c) (TT es m c)).2) else ([], [])
theorem cores_f (m : Int) : zcb.f m = some (decide (1 ≤ m ∧ m ≤ 5)) := by
  unfold zcb.f
  rw [in_f]
  rfl
theorem impl_rg (c : List Int) (es : List (List Int)) (m : Int) (hc : c.length ≤ 2097152) (he : es.length ≤ 2097152) : Ev (fun k => zh.f k c es m) (RG c es m) := by
  unfold zh.f RG
  refine Ev.bind (zhl c es hc he) ?_
  by_cases h : GV c es
  · rw [decide_eq_true h, cores_f]
    by_cases hm : 1 ≤ m ∧ m ≤ 5
    · rw [if_pos ⟨h, hm⟩]
      obtain ⟨h1, h2, h3⟩ := TT_is h hm.1
      have hb := sum_bd h c.length (Nat.le_refl _)
      have h8 := h.1
      refine Ev.congr (fun k => ?_) (rg_l0 h (T := TT es m c) (by omega) h2 h3 (TT es m c) 0 (by omega))
      rw [if_pos rfl, decide_eq_true hm]
      simp only [Option.bind_some]
      rw [if_pos trivial, if_pos ⟨by omega, fun e hh => by have hE := h.2.2.2 e hh; exact ⟨hE.1, hE.2.1, by have := hE.2.2; omega⟩⟩]
      rfl
    · rw [if_neg (fun hh => hm hh.2)]
      refine Ev.congr (fun k => ?_) (Ev.now _)
      rw [if_pos rfl, decide_eq_false hm]
      rfl
  · rw [decide_eq_false h, if_neg (show ¬ (GV c es ∧ 1 ≤ m ∧ m ≤ 5) from fun hh => h hh.1)]
    exact Ev.congr (fun k => by rw [if_neg (by simp)]) (Ev.now _)
end
end Go.Proofs.Ytebgfobjhlcopaa.Rg
namespace Go.Proofs.Ytebgfobjhlcopaa.Srg
open Go.RowKit Go.Proofs.Ytebgfobjhlcopaa.P Go.Proofs.Ytebgfobjhlcopaa.Base Go.Proofs.Ytebgfobjhlcopaa.Gen Go.Proofs.Ytebgfobjhlcopaa.Graph Go.Proofs.Ytebgfobjhlcopaa.Crit Go.Proofs.Ytebgfobjhlcopaa.Gra Go.Proofs.Ytebgfobjhlcopaa.Rg Go.Proofs.YtebgfobjhlcopaaW.PrintWords Go.Proofs.YtebgfobjhlcopaaW.PrintLast
def dn (left : List Int) : Nat → Nat
  | 0 => 0
  | n + 1 => dn left n + if rd left (n : Int) = 0 then 1 else 0
section
variable {es : List (List Int)} {m : Int} {c : List Int}
def z0 (c : List Int) : List Int := List.replicate c.length 0
end
end Go.Proofs.Ytebgfobjhlcopaa.Srg
namespace Go.Proofs.Ytebgfobjhlcopaa.Pb
open Go.RowKit Go.Proofs.Ytebgfobjhlcopaa.P Go.Proofs.Ytebgfobjhlcopaa.Gen Go.Proofs.Ytebgfobjhlcopaa.Base Go.Proofs.YtebgfobjhlcopaaW.PrintWords Go.Proofs.YtebgfobjhlcopaaW.PrintLast
def Bytes (s : List Int) : Prop := s.length ≤ 2000 ∧ ∀ x ∈ s, 0 ≤ x ∧ x ≤ 255
theorem Bytes.rd {s : List Int} (h : Bytes s) (i : Int) : 0 ≤ rd s i ∧ rd s i ≤ 255 := by
  unfold Go.Proofs.YtebgfobjhlcopaaW.PrintWords.rd
  rw [List.getD_eq_getElem?_getD]
  rcases Nat.lt_or_ge i.toNat s.length with hi | hi
  · rw [List.getElem?_eq_getElem hi]
    exact h.2 _ (List.getElem_mem hi)
  · rw [List.getElem?_eq_none hi]
    simp
theorem zg2 {α β : Type} {Q : β → Prop} (a : α) {f : Nat → α → Option β} (h : Tot (fun k => f k a) Q) : Tot (fun k => (some a).bind (f k)) Q := h
end Go.Proofs.Ytebgfobjhlcopaa.Pb
namespace Go.Proofs.Ytebgfobjhlcopaa.Alive
open Go.RowKit Go.Proofs.Ytebgfobjhlcopaa.P Go.Proofs.Ytebgfobjhlcopaa.Base Go.Proofs.YtebgfobjhlcopaaW.PrintWords Go.Proofs.YtebgfobjhlcopaaW.PrintLast
def TV (c d p : Int) : Prop := 1 ≤ c ∧ c ≤ 8 ∧ c ≤ d ∧ d ≤ p ∧ p ≤ 12
instance (c d p : Int) : Decidable (TV c d p) := by unfold TV; infer_instance
end Go.Proofs.Ytebgfobjhlcopaa.Alive
namespace Go.Proofs.Ytebgfobjhlcopaa.SameG
open Go.RowKit Go.Proofs.Ytebgfobjhlcopaa.P Go.Proofs.Ytebgfobjhlcopaa.Base Go.Proofs.Ytebgfobjhlcopaa.Gen Go.Proofs.Ytebgfobjhlcopaa.Graph Go.Proofs.Ytebgfobjhlcopaa.Crit Go.Proofs.Ytebgfobjhlcopaa.Gra Go.Proofs.Ytebgfobjhlcopaa.Rg Go.Proofs.Ytebgfobjhlcopaa.Srg Go.Proofs.Ytebgfobjhlcopaa.Pb Go.Proofs.Ytebgfobjhlcopaa.Alive Go.Proofs.YtebgfobjhlcopaaW.PrintWords Go.Proofs.YtebgfobjhlcopaaW.PrintLast
theorem ints_tot (l : List Int) (h : l.length ≤ 1000000) : Tot (fun k => zbe.f k l l) (fun r => r = true) := by
  have loop : ∀ d i : Nat, i + d = l.length → Tot (fun k => zbe.l0 k l l (i : Int)) (fun r => r = true) := by
    intro d
    induction d with
    | zero => intro i hi; exact Tot.step (fun k => by rw [zbe.l0]) (Tot.no (by omega) (Tot.ret _ rfl))
    | succ d ih =>
      intro i hi
      refine Tot.step (fun k => by rw [zbe.l0]) (Tot.yes (by omega) (Tot.yes (by omega) (Tot.yes (by omega) (Tot.yes rfl ?_))))
      rw [w64 (by omega) (by omega)]
      exact ih (i + 1) (by omega)
  unfold zbe.f
  exact Tot.yes rfl (loop l.length 0 (by omega))
section
variable {c : List Int} {es : List (List Int)} {m : Int}
theorem RG_yes (hg : GV c es) (h1 : 1 ≤ m) (h5 : m ≤ 5) : RG c es m = ((List.range (TT es m c)).map (run es m c (zz c)), (st es m c (zz c) (TT es m c)).2) := if_pos ⟨hg, h1, h5⟩
theorem bounds (hg : GV c es) (hm : 1 ≤ m) : (TT es m c : Int) ≤ lng c es + (vl c - lng c es) / m ∧ lng c es ≤ (TT es m c : Int) ∧ vl c ≤ (TT es m c : Int) * m := by
  have h := TT_is hg hm
  have hu := gv_up hg
  have hp := zgy hg
  have G := graham (m := m) (zdn c) hu hp hm (TT es m c) h.2.2
  have hz := lng_zero (es := es) (m := m) (zdn c) hu hp _ h.2.1
  have hs := ((zew (m := m) (zdn c) hu hp (TT es m c)).2).2 h.2.1
  rw [hz, hs] at G
  have hv := vl_eq c
  rw [← hv] at G
  obtain ⟨G1, G2, G3, _⟩ := G
  refine ⟨?_, by omega, by rw [Int.mul_comm]; omega⟩
  have e : m * (TT es m c : Int) - m * lng c es ≤ vl c - lng c es := by
    have e1 : (m - 1) * lng c es = m * lng c es - lng c es := by rw [Int.sub_mul, Int.one_mul]
    omega
  have e2 : ((TT es m c : Int) - lng c es) * m ≤ vl c - lng c es := by rw [Int.sub_mul, Int.mul_comm _ m, Int.mul_comm (lng c es) m]; exact e
  have := (Int.le_ediv_iff_mul_le (c := m) (by omega)).2 e2
  omega
end
end Go.Proofs.Ytebgfobjhlcopaa.SameG
namespace Go.Proofs.Ytebgfobjhlcopaa.Pure
open Go.RowKit Go.Proofs.Ytebgfobjhlcopaa.P Go.Proofs.Ytebgfobjhlcopaa.Base Go.Proofs.Ytebgfobjhlcopaa.Gen Go.Proofs.YtebgfobjhlcopaaW.PrintWords Go.Proofs.YtebgfobjhlcopaaW.PrintLast
open Go.Proofs.Ytebgfobjhlcopaa.Pb Go.Proofs.Ytebgfobjhlcopaa.Alive Go.Proofs.Ytebgfobjhlcopaa.Graph Go.Proofs.Ytebgfobjhlcopaa.Crit Go.Proofs.Ytebgfobjhlcopaa.Gra Go.Proofs.Ytebgfobjhlcopaa.Rg Go.Proofs.Ytebgfobjhlcopaa.Srg Go.Proofs.Ytebgfobjhlcopaa.SameG
def exC : List Int := [1, 4, 4, 4]
def exE : List (List Int) := [[0, 1], [0, 2], [0, 3]]
theorem zhm : GV exC exE := by decide
instance (es : List (List Int)) (m : Int) (c z : List Int) (t : Nat) : Decidable (Done es m c z t) := by unfold Done; infer_instance
theorem TT_eq {c : List Int} {es : List (List Int)} {m : Int} (hg : GV c es) (hm : 1 ≤ m) (T : Nat) (h1 : Done es m c (zz c) T) (h2 : ∀ s, s < T → ¬ Done es m c (zz c) s) : TT es m c = T := by
  have h := TT_is hg hm
  rcases Nat.lt_trichotomy (TT es m c) T with h4 | h4 | h4
  · exact absurd h.2.1 (h2 _ h4)
  · exact h4
  · exact absurd h1 (h.2.2 _ h4)
theorem ex_two : TT exE 2 exC = 9 := TT_eq zhm (by omega) 9 (by decide) (by decide)
theorem ex_three : TT exE 3 exC = 5 := TT_eq zhm (by omega) 5 (by decide) (by decide)
theorem ex_fin : (st exE 3 exC (zz exC) 5).2 = [1, 5, 5, 5] := by decide
theorem ex_lng : lng exC exE = 5 := by decide
theorem ex_vl : vl exC = 13 := by decide
theorem FnGraphExample : laws_FnGraphExample.Pure := by
  intro l0 _ hl
  apply Tot.rounds
  unfold laws_FnGraphExample.f
  refine Tot.ite (fun _ => Tot.ret _ rfl) (fun _ => ?_)
  refine zg2 _ (zg2 _ ?_)
  have e2 : RG exC exE 2 = ((List.range 9).map (run exE 2 exC (zz exC)), (st exE 2 exC (zz exC) 9).2) := by rw [RG_yes zhm (by omega) (by omega), ex_two]
  have e3 : RG exC exE 3 = ((List.range 5).map (run exE 3 exC (zz exC)), [1, 5, 5, 5]) := by rw [RG_yes zhm (by omega) (by omega), ex_three, ex_fin]
  have m2 : MB exC exE 2 = 9 := by rw [show MB exC exE 2 = lng exC exE + (vl exC - lng exC exE) / 2 from if_pos ⟨zhm, by omega, by omega⟩, ex_lng, ex_vl]; rfl
  have m3 : MB exC exE 3 = 7 := by rw [show MB exC exE 3 = lng exC exE + (vl exC - lng exC exE) / 3 from if_pos ⟨zhm, by omega, by omega⟩, ex_lng, ex_vl]; rfl
  have cp : CP exC exE = 5 := by rw [show CP exC exE = lng exC exE from if_pos zhm, ex_lng]
  have hc : exC.length ≤ 2097152 := by decide
  have he : exE.length ≤ 2097152 := by decide
  refine Tot.bind (Tot.val (impl_rg exC exE 2 hc he)) ?_
  rintro _ rfl
  refine Tot.bind (Tot.val (impl_rg exC exE 3 hc he)) ?_
  rintro _ rfl
  rw [e2, e3]
  refine Tot.yes (by simp) (Tot.bind (Tot.val (impl_mb exC exE 2 hc he)) ?_)
  rintro _ rfl
  refine Tot.yes m2 (Tot.yes (by simp) (Tot.bind (Tot.val (impl_mb exC exE 3 hc he)) ?_))
  rintro _ rfl
  refine Tot.yes m3 (Tot.bind (Tot.val (impl_cp exC exE hc he)) ?_)
  rintro _ rfl
  refine Tot.yes cp (Tot.bind (ints_tot [1, 5, 5, 5] (by decide)) ?_)
  rintro _ rfl
  exact Tot.ret _ rfl
end Go.Proofs.Ytebgfobjhlcopaa.Pure
namespace Go.Proofs.Ytebgfobjhlcopaa.Opn
open Go.ChangeShapes Go.WideShapes Go.Deep Go.RowKit Go.Proofs.YtebgfobjhlcopaaW.PrintWords
section
variable {H : Type} {enc : TypeId × Value → H} {P : Program} {W : World} {base : Nat} {spare : Nat → Bool} {held : Bool}
def Opens {α : Type} (enc : TypeId × Value → H) (P : Program) (W : World) (base : Nat) (spare : Nat → Bool) (held : Bool) (t : TypeId) (d : Kd α) (G : α → Prop) : Prop :=
  ∀ (fuel : Nat) (cs : List Value) (x : DataW H × List MemPlace), DataW.trod enc P W base spare held fuel t cs = some x → ∃ a, d.K W a cs ∧ G a
theorem opens_int {t : TypeId} {k : IntKind} (hu : P.underlying t = some (.int k)) : Opens enc P W base spare held t (Kd.int k) (fun x => (Lit.int k x).wf = true) := by
  intro fuel cs x h
  obtain ⟨n, hc, _, hw⟩ := DataW.trod_int hu h
  exact ⟨n, hc, hw⟩
theorem list_of {α : Type} (m : Nat) (R : Nat → α → Prop) (h : ∀ i, i < m → ∃ a, R i a) : ∃ xs : List α, xs.length = m ∧ ∀ i a, xs[i]? = some a → R i a := by
  induction m with
  | zero => exact ⟨[], rfl, fun i a ha => by simp at ha⟩
  | succ m ih =>
    obtain ⟨xs, hl, hx⟩ := ih (fun i hi => h i (by omega))
    obtain ⟨a, ha⟩ := h m (by omega)
    refine ⟨xs ++ [a], by simp [hl], fun i b hb => ?_⟩
    rcases Nat.lt_or_ge i m with hi | hi
    · rw [List.getElem?_append_left (by omega)] at hb
      exact hx i b hb
    · have hi' : i = m := by
        have := (List.getElem?_eq_some_iff.1 hb).1
        simp at this
        omega
      subst hi'
      have : a = b := by simpa [hl] using hb
      subst this
      exact ha
theorem slice_row {α : Type} {t e : TypeId} {d : Kd α} {G : α → Prop} (hu : P.underlying t = some (.slice e)) (hC : P.cellsOf e = d.sz) (he : Opens enc P W base spare held e d G)
    {fuel : Nat} {A : Option Addr} {n cap : Nat} {x : DataW H × List MemPlace} (h : DataW.trod enc P W base spare held fuel t [.slice A n cap] = some x) :
    ∃ xs : List α, xs.length = n ∧ n ≤ cap ∧ n ≤ maxLen ∧ d.C W A xs.length xs ∧ ∀ y ∈ xs, G y := by
  rcases open_slice hu h with ⟨h0, _⟩ | ⟨a, len, c, m, k, D, Pl, hcs, _, hl, hm, hmm, _, hel⟩
  · simp only [List.cons.injEq, Value.slice.injEq, and_true] at h0
    obtain ⟨rfl, rfl, rfl⟩ := h0
    exact ⟨[], rfl, Nat.le_refl _, by simp [maxLen], Kd.C_nil d W, fun y hy => by simp at hy⟩
  · simp only [List.cons.injEq, Value.slice.injEq, and_true] at hcs
    obtain ⟨rfl, rfl, rfl⟩ := hcs
    have hle : n ≤ m := by rw [hmm]; split <;> omega
    obtain ⟨xs, hxl, hx⟩ := list_of (α := α) n (fun i y => G y ∧ ∃ cs', d.K W y cs' ∧ cs'.length = d.sz ∧ ∀ j, j < d.sz → W.cell? ((a.add (i * d.sz)).add j) = cs'[j]?) (by
      intro i hi
      obtain ⟨cs', hc, ht⟩ := hel i (by omega)
      obtain ⟨y, hK, hG⟩ := he _ _ _ ht
      rw [hC] at hc
      obtain ⟨_, hcl, hcc⟩ := World.cells?_some hc
      exact ⟨y, hG, cs', hK, hcl, hcc⟩)
    refine ⟨xs, hxl, hl, by omega, ⟨rfl, by simp only [maxLen] at hm; omega, fun hp => ⟨a, rfl, fun j p hj => ?_⟩⟩, fun y hy => ?_⟩
    · obtain ⟨_, cs', hK, hcl, hcc⟩ := hx j p hj
      refine ⟨cs', hcl, hK, fun i u hi => ?_⟩
      have hlt : i < d.sz := by
        have := (List.getElem?_eq_some_iff.1 hi).1
        omega
      rw [← Go.Deep.add_add, hcc i hlt, hi]
    · obtain ⟨i, hi, rfl⟩ := List.getElem_of_mem hy
      exact (hx i _ (List.getElem?_eq_getElem hi)).1
theorem sized_row {t e : TypeId} {A : Option Addr} {n cap : Nat} {d : DataW H} {ps : List MemPlace} {ts : List TypeId} {ds : List (DataW H)} {j : Nat}
    (hsz : (DataW.weightsEach P ts ds).all (· ≤ reachBytes) = true) (ht : ts[j]? = some t) (hd : ds[j]? = some d) (hu : P.underlying t = some (.slice e)) {B : Nat} (hB : P.bytesOf e = B)
    (h : DataW.Trod enc P W base spare held t (.slice A n cap) d ps) : n * B ≤ 140737488351232 := by
  obtain ⟨fuel, hf⟩ := h
  have hf' : DataW.trod enc P W base spare held fuel t [.slice A n cap] = some (d, ps) := hf
  rcases open_slice hu hf' with ⟨h0, _⟩ | ⟨a, len, c, m, k, D, Pl, hcs, _, hl, hm, hmm, hx, hel⟩
  · simp only [List.cons.injEq, Value.slice.injEq, and_true] at h0
    obtain ⟨rfl, rfl, rfl⟩ := h0
    simp
  · simp only [List.cons.injEq, Value.slice.injEq, and_true] at hcs
    obtain ⟨rfl, rfl, rfl⟩ := hcs
    obtain ⟨hx, _⟩ := Prod.mk.inj hx
    subst hx
    have z := sized_slice hsz ht hd hu
    rw [hB] at z
    simp only [List.length_map, List.length_range] at z
    exact Nat.le_trans (Nat.mul_le_mul_right _ (by omega)) z
end
end Go.Proofs.Ytebgfobjhlcopaa.Opn
namespace Go.Proofs.Ytebgfobjhlcopaa.Head
open Go
def chars (l : List Nat) : List Char := l.map Char.ofNat
def w1 : List Nat := [104, 97, 114, 110, 101, 115, 115]
def w2 : List Nat := [53, 57, 99, 56, 55, 98, 101, 99, 57, 52, 48, 54, 101, 57, 48, 57, 53, 52, 100, 53, 57, 57, 100, 55, 55, 100, 99, 57, 51, 55, 50, 48, 54, 55, 57, 57, 99, 49, 48, 97, 101, 56, 98, 49, 53, 51, 50, 57, 100, 102, 53, 52, 49, 101, 55, 54, 98, 100, 55, 98, 98, 97, 55, 48]
def w3 : List Nat := [99, 117, 116]
def w4 : List Nat := [97, 116, 32, 108, 111, 111, 112, 46, 101, 120, 97, 109, 112, 108, 101, 47, 100, 101, 97, 100, 108, 105, 110, 101, 115, 99, 104, 101, 100, 117, 108, 101, 114, 47, 108, 97, 119, 115, 46, 70, 110, 82, 117, 110, 71, 114, 97, 112, 104, 32, 108, 111, 111, 112, 46, 101, 120, 97, 109, 112, 108, 101, 47, 100, 101, 97, 100, 108, 105, 110, 101, 115, 99, 104, 101, 100, 117, 108, 101, 114, 47, 108, 97, 119, 115, 46, 70, 110, 71, 114, 97, 112, 104, 87, 105, 100, 101, 32, 108, 111, 111, 112, 46, 101, 120, 97, 109, 112, 108, 101, 47, 100, 101, 97, 100, 108, 105, 110, 101, 115, 99, 104, 101, 100, 117, 108, 101, 114, 47, 108, 97, 119, 115, 46, 70, 110, 69, 120, 97, 99, 116, 82, 117, 110, 71, 114, 97, 112, 104, 32, 108, 111, 111, 112, 46, 101, 120, 97, 109, 112, 108, 101, 47, 100, 101, 97, 100, 108, 105, 110, 101, 115, 99, 104, 101, 100, 117, 108, 101, 114, 47, 108, 97, 119, 115, 46, 70, 110, 71, 114, 97, 104, 97, 109, 32, 108, 111, 111, 112, 46, 101, 120, 97, 109, 112, 108, 101, 47, 100, 101, 97, 100, 108, 105, 110, 101, 115, 99, 104, 101, 100, 117, 108, 101, 114, 47, 108, 97, 119, 115, 46, 70, 110, 71, 114, 97, 112, 104, 69, 120, 97, 109, 112, 108, 101]
theorem io_eq : Try.prog.initOrder = String.ofList (chars (w1 ++ 32 :: (w2 ++ 32 :: (w3 ++ 32 :: w4)))) := by kernel_rfl
theorem io_list : Try.prog.initOrder.toList = chars (w1 ++ 32 :: (w2 ++ 32 :: (w3 ++ 32 :: w4))) := by rw [io_eq, String.toList_ofList]
theorem ws_one (c : Char) (r w : List Char) (ws : List (List Char)) (hc : c ≠ Char.ofNat 32) (h : wordsSigns r = w :: ws) : wordsSigns (c :: r) = (c :: w) :: ws := by
  have e : wordsSigns (c :: r) = match wordsSigns r with
    | w :: ws => (c :: w) :: ws
    | [] => [[c]] := by
    rw [wordsSigns]
    · rfl
    · exact hc
  rw [e, h]
theorem ws_word (w : List Char) (h : ∀ c ∈ w, c ≠ Char.ofNat 32) (r : List Char) : wordsSigns (w ++ Char.ofNat 32 :: r) = w :: wordsSigns r := by
  induction w with
  | nil => rfl
  | cons c w ih => exact ws_one _ _ _ _ (h c (by simp)) (ih (fun x hx => h x (by simp [hx])))
theorem ws_nat (w r : List Nat) (h : w.all (fun n => !(Char.ofNat n == Char.ofNat 32)) = true) : wordsSigns (chars (w ++ 32 :: r)) = chars w :: wordsSigns (chars r) := by
  have e : chars (w ++ 32 :: r) = chars w ++ Char.ofNat 32 :: chars r := by simp [chars]
  rw [e]
  refine ws_word _ (fun c hc => ?_) _
  obtain ⟨n, hn, rfl⟩ := List.mem_map.1 hc
  have := List.all_eq_true.1 h n hn
  simpa using this
theorem zgf : behindMainWord (wordsSigns Try.prog.initOrder.toList) = chars w3 :: wordsSigns (chars w4) := by
  rw [io_list, ws_nat _ _ (by kernel_rfl), ws_nat _ _ (by kernel_rfl), ws_nat _ _ (by kernel_rfl)]
  generalize wordsSigns (chars w4) = R
  kernel_rfl
theorem make_gen (P : Program) (c : List Char) (R : List (List Char)) (h : behindMainWord (wordsSigns P.initOrder.toList) = c :: R) (h1 : (c == "gc".toList || c == "spec".toList) = false) (h2 : (c == "cut".toList) = true) : P.make = some .cut := by
  unfold Program.make
  rw [h]
  simp only [h1, h2, Bool.true_or, if_true, Bool.false_eq_true, if_false]
theorem make : Try.prog.make = some .cut := make_gen _ _ _ zgf (by kernel_rfl) (by kernel_rfl)
theorem enter_gen (P : Program) (c : List Char) (R : List (List Char)) (h : behindMainWord (wordsSigns P.initOrder.toList) = c :: R) (h1 : ∀ R, stripLifts liftWords (c :: R) = ([], c :: R)) (h2 : (some c == some "cut".toList) = true)
    (h3 : P.laysLater = false) (h4 : P.bearsReflect = false) (h5 : P.doorFits [] = true) : P.mayEnter = true := by
  unfold Program.mayEnter
  rw [h]
  simp only [h1, h2, h3, h4, h5, List.head?_cons, Bool.not_false, Bool.or_true, Bool.and_true, List.contains_nil]
theorem enter : Try.prog.mayEnter = true := enter_gen _ _ _ zgf (fun R => by kernel_rfl) (by kernel_rfl) (by kernel_rfl) (by kernel_rfl) (by kernel_rfl)
theorem lifts : Try.prog.liftsFinal = false := by
  unfold Program.liftsFinal Program.headLifts
  simp only [zgf]
  generalize wordsSigns (chars w4) = R
  kernel_rfl
end Go.Proofs.Ytebgfobjhlcopaa.Head
