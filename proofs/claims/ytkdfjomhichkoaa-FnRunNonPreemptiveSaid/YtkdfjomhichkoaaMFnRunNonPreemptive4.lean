/- The law FnRunNonPreemptive for every input, part 4 of its proof: what the program's functions answer, and the plain law. No condition. -/
import Derived.Test.YtkdfjomhichkoaaMFnRunNonPreemptive1
import Derived.Test.YtkdfjomhichkoaaMFnRunNonPreemptive3
-- Laid by a program of this work.
namespace Go.Proofs.Ytkdfjomhichkoaa.P
open Go.RowKit Go.Proofs.YtkdfjomhichkoaaW.PrintWords Go.Proofs.YtkdfjomhichkoaaW.PrintLast Go.Proofs.YtkdfjomhichkoaaW.PrintMore
attribute [local go_sem] max2_int min2_int max_two min_two max_three min_three max_four min_four   -- for this text's walks alone
set_option linter.unusedVariables false
set_option linter.unusedSimpArgs false

/-! ### spec_l20Jobs: function 47 -/
mutual
def spec_l20Jobs.l0 : Nat → List (S88) → Int → List (S34) → List Int → Int → Int → List Int → Int → Option ((List (S34)) × Int)
 | 0, _, _, _, _, _, _, _, _ => none
 | k + 1, x1, x2, x7, x8, x9, x10, x1000, x1001 => if x10 < 100 then (spec_l20Jobs.l1 k x1 x2 x7 x8 x9 x10 0 x1000 x1001) else ((spec_l20Rd_odd.f k x1000 x1001 x2).bind fun bt236 => (if bt236.1 = true then (spec_l20Jobs.j3 k x1 x7 (decide ((x7.length : Int) > 0)) x1000 bt236.2) else (spec_l20Jobs.j3 k x1 x7 false x1000 bt236.2)))
def spec_l20Jobs.l1 : Nat → List (S88) → Int → List (S34) → List Int → Int → Int → Int → List Int → Int → Option ((List (S34)) × Int)
 | 0, _, _, _, _, _, _, _, _, _ => none
 | k + 1, x1, x2, x7, x8, x9, x10, x11, x1000, x1001 => if x11 < (x1.length : Int) then (if 0 ≤ x11 then (if x11 < (x8.length : Int) then (if x10 < (rd x8 x11) then (spec_l20Jobs.j2 k x1 x2 x7 x8 x9 x10 x11 true x1000 x1001) else (if (x7.length : Int) = 60 then (spec_l20Jobs.j2 k x1 x2 x7 x8 x9 x10 x11 true x1000 x1001) else (if x9 < 2 then ((spec_l20Rd_pick.f k x1000 x1001 (wrap64 (3 + (wrap64 (7 * x9))))).bind fun bt217 => (spec_l20Jobs.j2 k x1 x2 x7 x8 x9 x10 x11 (decide (bt217.1 > 1)) x1000 bt217.2)) else (spec_l20Jobs.j2 k x1 x2 x7 x8 x9 x10 x11 false x1000 x1001)))) else (none)) else (none)) else (spec_l20Jobs.l0 k x1 x2 x7 x8 x9 (wrap64 (x10 + 1)) x1000 x1001)
def spec_l20Jobs.j2 : Nat → List (S88) → Int → List (S34) → List Int → Int → Int → Int → Bool → List Int → Int → Option ((List (S34)) × Int)
 | 0, _, _, _, _, _, _, _, _, _, _ => none
 | k + 1, x1, x2, x7, x8, x9, x10, x11, x52, x1000, x1001 => if x52 = true then (spec_l20Jobs.l1 k x1 x2 x7 x8 x9 x10 (wrap64 (x11 + 1)) x1000 x1001) else (if 0 ≤ x11 then (if x11 < (x1.length : Int) then ((spec_l20Rd_pick.f k x1000 x1001 3).bind fun bt220 => (if bt220.1 = 0 then ((spec_l20Rd_pick.f k x1000 bt220.2 ((rd_T88 x1 x11).f0)).bind fun bt222 => (if x7.length < 4398046511104 then (if x11 < (x8.length : Int) then (spec_l20Jobs.l1 k x1 x2 (x7 ++ [(⟨x11, x10, wrap64 (x10 + ((rd_T88 x1 x11).f1)), wrap64 (1 + bt222.1)⟩ : S34)]) (x8.set (x11 : Int).toNat (wrap64 (x10 + ((rd_T88 x1 x11).f2)))) x9 x10 (wrap64 (x11 + 1)) x1000 bt222.2) else (none)) else (none))) else (if x7.length < 4398046511104 then (if x11 < (x8.length : Int) then (spec_l20Jobs.l1 k x1 x2 (x7 ++ [(⟨x11, x10, wrap64 (x10 + ((rd_T88 x1 x11).f1)), (rd_T88 x1 x11).f0⟩ : S34)]) (x8.set (x11 : Int).toNat (wrap64 (x10 + ((rd_T88 x1 x11).f2)))) x9 x10 (wrap64 (x11 + 1)) x1000 bt220.2) else (none)) else (none)))) else (none)) else (none))
def spec_l20Jobs.j3 : Nat → List (S88) → List (S34) → Bool → List Int → Int → Option ((List (S34)) × Int)
 | 0, _, _, _, _, _ => none
 | k + 1, x1, x7, x96, x1000, x1001 => if x96 = true then ((spec_l20Rd_pick.f k x1000 x1001 (x7.length : Int)).bind fun bt238 => ((spec_l20Rd_pick.f k x1000 bt238.2 6).bind fun bt240 => (if bt240.1 = 0 then ((some (([(-1), (x1.length : Int)] : List Int) : List Int)).bind fun y242 => ((spec_l20Rd_pick.f k x1000 bt240.2 2).bind fun bt245 => (if 0 ≤ bt245.1 then (if bt245.1 < (y242.length : Int) then (if 0 ≤ bt238.1 then (if bt238.1 < (x7.length : Int) then (some ((x7.set (bt238.1 : Int).toNat (⟨rd y242 bt245.1, (rd_T34 x7 bt238.1).f1, (rd_T34 x7 bt238.1).f2, (rd_T34 x7 bt238.1).f3⟩ : S34)), bt245.2)) else (none)) else (none)) else (none)) else (none)))) else (if bt240.1 = 1 then (if 0 ≤ bt238.1 then (if bt238.1 < (x7.length : Int) then ((some (([(-1), 120, wrap64 (((rd_T34 x7 bt238.1).f1) + 1)] : List Int) : List Int)).bind fun y250 => ((spec_l20Rd_pick.f k x1000 bt240.2 3).bind fun bt253 => (if 0 ≤ bt253.1 then (if bt253.1 < (y250.length : Int) then (some ((x7.set (bt238.1 : Int).toNat (⟨(rd_T34 x7 bt238.1).f0, rd y250 bt253.1, (rd_T34 x7 bt238.1).f2, (rd_T34 x7 bt238.1).f3⟩ : S34)), bt253.2)) else (none)) else (none)))) else (none)) else (none)) else (if bt240.1 = 2 then (if 0 ≤ bt238.1 then (if bt238.1 < (x7.length : Int) then (some ((x7.set (bt238.1 : Int).toNat (⟨(rd_T34 x7 bt238.1).f0, (rd_T34 x7 bt238.1).f1, wrap64 (((rd_T34 x7 bt238.1).f2) + 1), (rd_T34 x7 bt238.1).f3⟩ : S34)), bt240.2)) else (none)) else (none)) else (if bt240.1 = 3 then ((some (([0, 9] : List Int) : List Int)).bind fun y259 => ((spec_l20Rd_pick.f k x1000 bt240.2 2).bind fun bt262 => (if 0 ≤ bt262.1 then (if bt262.1 < (y259.length : Int) then (if 0 ≤ bt238.1 then (if bt238.1 < (x7.length : Int) then (some ((x7.set (bt238.1 : Int).toNat (⟨(rd_T34 x7 bt238.1).f0, (rd_T34 x7 bt238.1).f1, (rd_T34 x7 bt238.1).f2, rd y259 bt262.1⟩ : S34)), bt262.2)) else (none)) else (none)) else (none)) else (none)))) else (if bt240.1 = 4 then (if 0 ≤ bt238.1 then (if bt238.1 < (x7.length : Int) then (if x7.length < 4398046511104 then (some ((x7 ++ [(⟨(rd_T34 x7 bt238.1).f0, (rd_T34 x7 bt238.1).f1, (rd_T34 x7 bt238.1).f2, (rd_T34 x7 bt238.1).f3⟩ : S34)]), bt240.2)) else (none)) else (none)) else (none)) else (spec_l20Jobs.l2 k x7 x1000 bt240.2)))))))) else (some (x7, x1001))
def spec_l20Jobs.l2 : Nat → List (S34) → List Int → Int → Option ((List (S34)) × Int)
 | 0, _, _, _ => none
 | k + 1, x7, x1000, x1001 => if (x7.length : Int) ≤ 60 then (if x7.length < 4398046511104 then (spec_l20Jobs.l2 k (x7 ++ [(⟨0, 119, 120, 1⟩ : S34)]) x1000 x1001) else (none)) else (some (x7, x1001))
end
def spec_l20Jobs.f (k : Nat) (s0_0 : List Int) (s0_1 : Int) (l1 : List (S88)) (a2 : Int) : Option ((List (S34)) × Int) := if 0 ≤ (l1.length : Int) then (if ((l1.length : Int) : Int).toNat ≤ 35184372088832 then ((spec_l20Rd_pick.f k s0_0 s0_1 3).bind fun bt214 => (spec_l20Jobs.l0 k l1 a2 (([] : List (S34))) (List.replicate ((l1.length : Int) : Int).toNat 0) bt214.1 0 s0_0 bt214.2)) else (none)) else (none)
theorem spec_l20Jobs.mono_l : ∀ k, (∀ y0 y1 y2 y3 y4 y5 y6 y7, LeO (spec_l20Jobs.l0 k y0 y1 y2 y3 y4 y5 y6 y7) (spec_l20Jobs.l0 (k + 1) y0 y1 y2 y3 y4 y5 y6 y7)) ∧ (∀ y0 y1 y2 y3 y4 y5 y6 y7 y8, LeO (spec_l20Jobs.l1 k y0 y1 y2 y3 y4 y5 y6 y7 y8) (spec_l20Jobs.l1 (k + 1) y0 y1 y2 y3 y4 y5 y6 y7 y8)) ∧ (∀ y0 y1 y2 y3 y4 y5 y6 y7 y8 y9, LeO (spec_l20Jobs.j2 k y0 y1 y2 y3 y4 y5 y6 y7 y8 y9) (spec_l20Jobs.j2 (k + 1) y0 y1 y2 y3 y4 y5 y6 y7 y8 y9)) ∧ (∀ y0 y1 y2 y3 y4, LeO (spec_l20Jobs.j3 k y0 y1 y2 y3 y4) (spec_l20Jobs.j3 (k + 1) y0 y1 y2 y3 y4)) ∧ (∀ y0 y1 y2, LeO (spec_l20Jobs.l2 k y0 y1 y2) (spec_l20Jobs.l2 (k + 1) y0 y1 y2))
 | 0 => ⟨fun _ _ _ _ _ _ _ _ r h => by simp [spec_l20Jobs.l0] at h, fun _ _ _ _ _ _ _ _ _ r h => by simp [spec_l20Jobs.l1] at h, fun _ _ _ _ _ _ _ _ _ _ r h => by simp [spec_l20Jobs.j2] at h, fun _ _ _ _ _ r h => by simp [spec_l20Jobs.j3] at h, fun _ _ _ r h => by simp [spec_l20Jobs.l2] at h⟩
 | k + 1 => by
  obtain ⟨ih0, ih1, ih2, ih3, ih4⟩ := spec_l20Jobs.mono_l k
  refine ⟨?_, ?_, ?_, ?_, ?_⟩
  ·intro y0 y1 y2 y3 y4 y5 y6 y7
   unfold spec_l20Jobs.l0
   repeat' first
   | (with_reducible exact ih0 _ _ _ _ _ _ _ _)
   | (with_reducible exact ih1 _ _ _ _ _ _ _ _ _)
   | (with_reducible exact ih2 _ _ _ _ _ _ _ _ _ _)
   | (with_reducible exact ih3 _ _ _ _ _)
   | (with_reducible exact ih4 _ _ _)
   | (with_reducible exact spec_l20Rd_odd.mono _ _ _ _)
   | (with_reducible exact spec_l20Rd_pick.mono _ _ _ _)
   | (with_reducible exact LeO.refl _)
   | (with_reducible exact LeO.none _)
   | (with_reducible refine LeO.ite ?_ ?_)
   | (with_reducible refine LeO.bind ?_ (fun _ => ?_))
   | exact ih0 _ _ _ _ _ _ _ _
   | exact ih1 _ _ _ _ _ _ _ _ _
   | exact ih2 _ _ _ _ _ _ _ _ _ _
   | exact ih3 _ _ _ _ _
   | exact ih4 _ _ _
   | exact spec_l20Rd_odd.mono _ _ _ _
   | exact spec_l20Rd_pick.mono _ _ _ _
   | exact LeO.none _
   | refine LeO.ite ?_ ?_
   | refine LeO.bind ?_ (fun _ => ?_)
  ·intro y0 y1 y2 y3 y4 y5 y6 y7 y8
   unfold spec_l20Jobs.l1
   repeat' first
   | (with_reducible exact ih0 _ _ _ _ _ _ _ _)
   | (with_reducible exact ih1 _ _ _ _ _ _ _ _ _)
   | (with_reducible exact ih2 _ _ _ _ _ _ _ _ _ _)
   | (with_reducible exact ih3 _ _ _ _ _)
   | (with_reducible exact ih4 _ _ _)
   | (with_reducible exact spec_l20Rd_odd.mono _ _ _ _)
   | (with_reducible exact spec_l20Rd_pick.mono _ _ _ _)
   | (with_reducible exact LeO.refl _)
   | (with_reducible exact LeO.none _)
   | (with_reducible refine LeO.ite ?_ ?_)
   | (with_reducible refine LeO.bind ?_ (fun _ => ?_))
   | exact ih0 _ _ _ _ _ _ _ _
   | exact ih1 _ _ _ _ _ _ _ _ _
   | exact ih2 _ _ _ _ _ _ _ _ _ _
   | exact ih3 _ _ _ _ _
   | exact ih4 _ _ _
   | exact spec_l20Rd_odd.mono _ _ _ _
   | exact spec_l20Rd_pick.mono _ _ _ _
   | exact LeO.none _
   | refine LeO.ite ?_ ?_
   | refine LeO.bind ?_ (fun _ => ?_)
  ·intro y0 y1 y2 y3 y4 y5 y6 y7 y8 y9
   unfold spec_l20Jobs.j2
   repeat' first
   | (with_reducible exact ih0 _ _ _ _ _ _ _ _)
   | (with_reducible exact ih1 _ _ _ _ _ _ _ _ _)
   | (with_reducible exact ih2 _ _ _ _ _ _ _ _ _ _)
   | (with_reducible exact ih3 _ _ _ _ _)
   | (with_reducible exact ih4 _ _ _)
   | (with_reducible exact spec_l20Rd_odd.mono _ _ _ _)
   | (with_reducible exact spec_l20Rd_pick.mono _ _ _ _)
   | (with_reducible exact LeO.refl _)
   | (with_reducible exact LeO.none _)
   | (with_reducible refine LeO.ite ?_ ?_)
   | (with_reducible refine LeO.bind ?_ (fun _ => ?_))
   | exact ih0 _ _ _ _ _ _ _ _
   | exact ih1 _ _ _ _ _ _ _ _ _
   | exact ih2 _ _ _ _ _ _ _ _ _ _
   | exact ih3 _ _ _ _ _
   | exact ih4 _ _ _
   | exact spec_l20Rd_odd.mono _ _ _ _
   | exact spec_l20Rd_pick.mono _ _ _ _
   | exact LeO.none _
   | refine LeO.ite ?_ ?_
   | refine LeO.bind ?_ (fun _ => ?_)
  ·intro y0 y1 y2 y3 y4
   unfold spec_l20Jobs.j3
   repeat' first
   | (with_reducible exact ih0 _ _ _ _ _ _ _ _)
   | (with_reducible exact ih1 _ _ _ _ _ _ _ _ _)
   | (with_reducible exact ih2 _ _ _ _ _ _ _ _ _ _)
   | (with_reducible exact ih3 _ _ _ _ _)
   | (with_reducible exact ih4 _ _ _)
   | (with_reducible exact spec_l20Rd_odd.mono _ _ _ _)
   | (with_reducible exact spec_l20Rd_pick.mono _ _ _ _)
   | (with_reducible exact LeO.refl _)
   | (with_reducible exact LeO.none _)
   | (with_reducible refine LeO.ite ?_ ?_)
   | (with_reducible refine LeO.bind ?_ (fun _ => ?_))
   | exact ih0 _ _ _ _ _ _ _ _
   | exact ih1 _ _ _ _ _ _ _ _ _
   | exact ih2 _ _ _ _ _ _ _ _ _ _
   | exact ih3 _ _ _ _ _
   | exact ih4 _ _ _
   | exact spec_l20Rd_odd.mono _ _ _ _
   | exact spec_l20Rd_pick.mono _ _ _ _
   | exact LeO.none _
   | refine LeO.ite ?_ ?_
   | refine LeO.bind ?_ (fun _ => ?_)
  ·intro y0 y1 y2
   unfold spec_l20Jobs.l2
   repeat' first
   | (with_reducible exact ih0 _ _ _ _ _ _ _ _)
   | (with_reducible exact ih1 _ _ _ _ _ _ _ _ _)
   | (with_reducible exact ih2 _ _ _ _ _ _ _ _ _ _)
   | (with_reducible exact ih3 _ _ _ _ _)
   | (with_reducible exact ih4 _ _ _)
   | (with_reducible exact spec_l20Rd_odd.mono _ _ _ _)
   | (with_reducible exact spec_l20Rd_pick.mono _ _ _ _)
   | (with_reducible exact LeO.refl _)
   | (with_reducible exact LeO.none _)
   | (with_reducible refine LeO.ite ?_ ?_)
   | (with_reducible refine LeO.bind ?_ (fun _ => ?_))
   | exact ih0 _ _ _ _ _ _ _ _
   | exact ih1 _ _ _ _ _ _ _ _ _
   | exact ih2 _ _ _ _ _ _ _ _ _ _
   | exact ih3 _ _ _ _ _
   | exact ih4 _ _ _
   | exact spec_l20Rd_odd.mono _ _ _ _
   | exact spec_l20Rd_pick.mono _ _ _ _
   | exact LeO.none _
   | refine LeO.ite ?_ ?_
   | refine LeO.bind ?_ (fun _ => ?_)
theorem spec_l20Jobs.mono : ∀ a0 a1 a2 a3 k, LeO (spec_l20Jobs.f k a0 a1 a2 a3) (spec_l20Jobs.f (k + 1) a0 a1 a2 a3) := by
 intro a0 a1 a2 a3 k
 obtain ⟨ih0, ih1, ih2, ih3, ih4⟩ := spec_l20Jobs.mono_l k
 unfold spec_l20Jobs.f
 repeat' first
   | (with_reducible exact ih0 _ _ _ _ _ _ _ _)
   | (with_reducible exact ih1 _ _ _ _ _ _ _ _ _)
   | (with_reducible exact ih2 _ _ _ _ _ _ _ _ _ _)
   | (with_reducible exact ih3 _ _ _ _ _)
   | (with_reducible exact ih4 _ _ _)
   | (with_reducible exact spec_l20Rd_odd.mono _ _ _ _)
   | (with_reducible exact spec_l20Rd_pick.mono _ _ _ _)
   | (with_reducible exact LeO.refl _)
   | (with_reducible exact LeO.none _)
   | (with_reducible refine LeO.ite ?_ ?_)
   | (with_reducible refine LeO.bind ?_ (fun _ => ?_))
   | exact ih0 _ _ _ _ _ _ _ _
   | exact ih1 _ _ _ _ _ _ _ _ _
   | exact ih2 _ _ _ _ _ _ _ _ _ _
   | exact ih3 _ _ _ _ _
   | exact ih4 _ _ _
   | exact spec_l20Rd_odd.mono _ _ _ _
   | exact spec_l20Rd_pick.mono _ _ _ _
   | exact LeO.none _
   | refine LeO.ite ?_ ?_
   | refine LeO.bind ?_ (fun _ => ?_)
def spec_l20Jobs.T24 : Bool × List (List Nat × List Nat) := (true, [([], []), ([], []), ([], []), ([], []), ([2, 3], [2, 3]), ([4], [4]), ([5], [5]), ([6], [6]), ([7], [7]), ([], []), ([9], [9]), ([8, 10], [8, 10]), ([11], [11]), ([0, 1, 0, 1, 2, 3, 4, 5, 6, 7, 8, 9, 10, 11, 12], [0, 1]), ([13, 0, 1, 2, 3, 4, 5, 6, 7, 8, 9, 10, 11, 12], [13]), ([14, 12, 10, 0, 1, 2, 3, 4, 5, 6, 7, 8, 9, 10, 11, 12], [12, 14])])
def spec_l20Jobs.B24 : List Nat := [0, 0, 0, 0, 12, 28, 60, 124, 252, 0, 512, 2044, 4092, 8191, 16383, 32767]
theorem spec_l20Jobs.tab24 : rtab .any (opsOf Try.f47 24) = spec_l20Jobs.T24 := by kernel_rfl
theorem spec_l20Jobs.bits24 : waitsOk spec_l20Jobs.T24.2 spec_l20Jobs.B24 = true := by kernel_rfl
set_option maxHeartbeats 8000000 in
set_option maxRecDepth 100000 in
theorem spec_l20Jobs.calls (k : Nat) (g : Nat) (s0_0 : List Int) (s0_1 : Int) (A1 : Option Addr) (c1 : Nat) (l1 : List (S88)) (a2 : Int) (r1 : List (S34)) (r2 : Int) (w0 w : World) (hI : IsS110 w0 w g s0_0 s0_1) (hB : Below w0.heap.size w0 w) (hr1 : ∀ W_, KeepBut w W_ g none → Kd.C k88 W_ A1 l1.length l1) (hc1 : l1.length ≤ c1) (h : spec_l20Jobs.f k s0_0 s0_1 l1 a2 = some (r1, r2)) :
  Calls Try.prog 47 #[.pointer (some ⟨g, 0, none⟩), .slice A1 l1.length c1, .int .i64 a2] w fun e w' => ∃ v0_ : Value, e = .returned (v0_) ∧ Kd.R k34 34 w' w.heap.size (fun _ => True) v0_ r1 ∧ IsS110 w0 w' g s0_0 r2 ∧ Below w0.heap.size w0 w' ∧ KeepBut w w' g none := by
 have hu34 := Try.underlying34
 have HR1 := Aside0.mk hr1
 have HC1 := Aside0.mk hc1
 clear hr1 hc1
 have HI0 := Aside0.mk hI
 have HK := Aside0.mk (KeepBut.refl w g none)
 have HL := Aside0.mk hB.size
 clear hI
 have HW0 := Aside0.mk hB.size
 have HB := Aside0.mk hB
 clear hB
 have H : (if 0 ≤ (l1.length : Int) then (if ((l1.length : Int) : Int).toNat ≤ 35184372088832 then ((spec_l20Rd_pick.f k s0_0 s0_1 3).bind fun bt214 => (spec_l20Jobs.l0 k l1 a2 (([] : List (S34))) (List.replicate ((l1.length : Int) : Int).toNat 0) bt214.1 0 s0_0 bt214.2)) else (none)) else (none)) = some (r1, r2) := h
 clear h
 obtain ⟨y208, hy208⟩ : ∃ y_ : List (S34), y_ = (([] : List (S34))) := ⟨_, rfl⟩
 replace H : (if 0 ≤ (l1.length : Int) then (if ((l1.length : Int) : Int).toNat ≤ 35184372088832 then ((spec_l20Rd_pick.f k s0_0 s0_1 3).bind fun bt214 => (spec_l20Jobs.l0 k l1 a2 y208 (List.replicate ((l1.length : Int) : Int).toNat 0) bt214.1 0 s0_0 bt214.2)) else (none)) else (none)) = some (r1, r2) := by first | (rw [hy208]; with_reducible exact H) | (have H2_ := (Option.bind_some _ _).symm.trans H; rw [hy208]; with_reducible exact H2_) | (have H2_ := (Option.bind_some _ _).symm.trans H; with_reducible exact H2_) | with_reducible exact H | (rw [hy208]; exact H) | exact H
 have Ny208 := Aside0.mk hy208
 clear hy208
 by_cases c4 : 0 ≤ (l1.length : Int)
 ·rw [if_pos c4] at H
  have c4b0 := eq_true c4
  have c4b1 : decide (0 ≤ (l1.length : Int)) = true := decide_eq_true c4
  clear c4
  by_cases c5 : ((l1.length : Int) : Int).toNat ≤ 35184372088832
  ·rw [if_pos c5] at H
   have c5b0 := eq_true c5
   have c5b1 : decide (((l1.length : Int) : Int).toNat ≤ 35184372088832) = true := decide_eq_true c5
   clear c5
   obtain ⟨y211, hy211⟩ : ∃ y_ : List Int, y_ = (List.replicate ((l1.length : Int) : Int).toNat 0) := ⟨_, rfl⟩
   replace H : ((spec_l20Rd_pick.f k s0_0 s0_1 3).bind fun bt214 => (spec_l20Jobs.l0 k l1 a2 y208 y211 bt214.1 0 s0_0 bt214.2)) = some (r1, r2) := by first | (rw [hy211]; with_reducible exact H) | (have H2_ := (Option.bind_some _ _).symm.trans H; rw [hy211]; with_reducible exact H2_) | (have H2_ := (Option.bind_some _ _).symm.trans H; with_reducible exact H2_) | with_reducible exact H | (rw [hy211]; exact H) | exact H
   have Ny211 := Aside0.mk hy211
   clear hy211
   replace H := Option.bind_eq_some_iff.mp H
   obtain ⟨⟨t214, t215⟩, A60, H⟩ := H
   replace H : (spec_l20Jobs.l0 k l1 a2 y208 y211 t214 0 s0_0 t215) = some (r1, r2) := H
   have A6 := Aside0.mk A60
   clear A60
   have H' := Aside0.mk H
   clear H
   go_enter Try.func47, Try.ntmps47
   go_wp2_with (first | ((with_reducible refine gate_dst (N := 14) rfl ?_); (try (refine gate_guard (by rfl) ?_; dsimp only)); refine Kd.R_lit k34 _ 34 ?hg (N := 14) ?hd (xs := ([] : List (S34))) (inner := []) (ok := fun _ => True) (okp := fun _ => True) ?hr ?hp (fun _ hk => hk) trivial (Below.refl _ _) (Nat.le_refl _) (by simp) ?_; (case hd => rfl); (case hg => rfl); (case hr => first | (go_simp; done) | (go_simp; rfl)); (case hp => exact (Reps.none _ _)); intro v209 w7 ho8 hb hg_ hnew_; clear hg_ hnew_; (first | rw [← Ny208.out] at ho8 | (simp only [Int.reduceToNat] at ho8; rw [← Ny208.out] at ho8)); have n0_ := Aside0.mk (Kd.R_lower ho8 (keep_size (w := w) (g := g) (row := none) (by repeat (first | (with_reducible first | exact HK.out | apply KeepBut.set_ | apply keep_drewN | apply keep_drew | apply keep_alloc) | exact HK.out)))); have n1_ := Aside0.mk (IsS110.below (by repeat (first | (with_reducible first | exact HI0.out | apply IsS110.alloc | apply IsS110.drewN | apply IsS110.drew | apply IsS110.set_1) | exact HI0.out)) hb); have n2_ := Aside0.mk (KeepBut.trans (by repeat (first | (with_reducible first | exact HK.out | apply KeepBut.set_ | apply keep_drewN | apply keep_drew | apply keep_alloc) | exact HK.out)) (KeepBut.of_below hb g none) (.inl rfl)); have n3_ := Aside0.mk (below_step (by repeat (first | (with_reducible first | exact HB.out | apply below_alloc | apply pw_below_drewN | apply below_drew1 | refine below_set ?_ (IsS110.ge HI0.out)) | exact HB.out)) hb); clear HI0; clear HK; clear HB; have HO210 := n0_; have HI0 := n1_; have HK := n2_; have HB := n3_; clear n0_ n1_ n2_ n3_; clear hb ho8) | ((with_reducible refine gate_dst (N := 17) rfl ?_); (try (refine gate_guard (by rfl) ?_; dsimp only)); refine Kd.R_make (Kd.int .i64) _ 3 rfl (N := 17) rfl 27 _ _ rfl (l1.length : Int) rfl rfl Try.underlying27 (.int .i64 0) 8 info3 rfl (by decide) (by omega) 0 (ok := fun _ => True) (okp := fun _ => True) rfl (fun _ hk => hk) trivial (of_decide_eq_true (by first | (with_reducible assumption) | assumption)) (Nat.le_trans (Nat.mul_le_mul_right _ (of_decide_eq_true (by first | (with_reducible assumption) | assumption) : (l1.length : Int).toNat ≤ 35184372088832)) (by omega)) (Below.refl _ _) (Nat.le_refl _) ?_; intro v212 w9 ho10 hb hg_ hnew_; clear hg_ hnew_; (first | rw [← Ny211.out] at ho10 | (simp only [Int.reduceToNat] at ho10; rw [← Ny211.out] at ho10)); have n0_ := Aside0.mk (Kd.R_below (by (with_reducible repeat (first | apply Kd.R_alloc | apply Kd.R_drewN | apply Kd.R_drew)); exact HO210.out) hb); have n1_ := Aside0.mk (Kd.R_lower ho10 (keep_size (w := w) (g := g) (row := none) (by repeat (first | (with_reducible first | exact HK.out | apply KeepBut.set_ | apply keep_drewN | apply keep_drew | apply keep_alloc) | exact HK.out)))); have n2_ := Aside0.mk (IsS110.below (by repeat (first | (with_reducible first | exact HI0.out | apply IsS110.alloc | apply IsS110.drewN | apply IsS110.drew | apply IsS110.set_1) | exact HI0.out)) hb); have n3_ := Aside0.mk (KeepBut.trans (by repeat (first | (with_reducible first | exact HK.out | apply KeepBut.set_ | apply keep_drewN | apply keep_drew | apply keep_alloc) | exact HK.out)) (KeepBut.of_below hb g none) (.inl rfl)); have n4_ := Aside0.mk (below_step (by repeat (first | (with_reducible first | exact HB.out | apply below_alloc | apply pw_below_drewN | apply below_drew1 | refine below_set ?_ (IsS110.ge HI0.out)) | exact HB.out)) hb); clear HO210; clear HI0; clear HK; clear HB; have HO210 := n0_; have HO213 := n1_; have HI0 := n2_; have HK := n3_; have HB := n4_; clear n0_ n1_ n2_ n3_ n4_; clear hb ho10) | ((with_reducible refine gate_callee (f := 68) rfl ?_); refine goesL_ (some 19) rfl rfl Try.func68 (by kernel_rfl) rfl #[.pointer (some ⟨g, 0, none⟩), .int .i64 3] rfl (by (try simp only [List.map_toArray, List.map_cons, List.map_nil]); first | done | rfl | (simp only [List.length_drop, List.length_take]; rfl)) ?_; (with_reducible refine (spec_l20Rd_pick.calls k g s0_0 s0_1 3 t214 t215 w0 _ ?side1 ?side2 A6.out).mono ?_); (case side1 => repeat (first | (with_reducible first | exact HI0.out | apply IsS110.alloc | apply IsS110.drewN | apply IsS110.drew | apply IsS110.set_1) | exact HI0.out)); (case side2 => repeat (first | (with_reducible first | exact HB.out | apply below_alloc | apply pw_below_drewN | apply below_drew1 | refine below_set ?_ (IsS110.ge HI0.out)) | exact HB.out)); rintro e w11 ⟨rfl, hi, hb, hk⟩; refine ⟨_, rfl, ?_⟩; have n0_ := Aside0.mk (Kd.R_mono (Kd.R_keep (IsS110.apart (show IsS110 w0 _ g s0_0 s0_1 from by repeat (first | (with_reducible first | exact HI0.out | apply IsS110.alloc | apply IsS110.drewN | apply IsS110.drew | apply IsS110.set_1) | exact HI0.out)) (by (with_reducible repeat (first | apply Kd.R_alloc | apply Kd.R_drewN | apply Kd.R_drew)); exact HO210.out) (by decide)) hk (fun _ h => h.2)) (fun _ h => h.1)); have n1_ := Aside0.mk (Kd.R_mono (Kd.R_keep (IsS110.apart (show IsS110 w0 _ g s0_0 s0_1 from by repeat (first | (with_reducible first | exact HI0.out | apply IsS110.alloc | apply IsS110.drewN | apply IsS110.drew | apply IsS110.set_1) | exact HI0.out)) (by (with_reducible repeat (first | apply Kd.R_alloc | apply Kd.R_drewN | apply Kd.R_drew)); exact HO213.out) (by decide)) hk (fun _ h => h.2)) (fun _ h => h.1)); have n2_ := Aside0.mk (KeepBut.trans (by repeat (first | (with_reducible first | exact HK.out | apply KeepBut.set_ | apply keep_drewN | apply keep_drew | apply keep_alloc) | exact HK.out)) hk (.inl rfl)); have n3_ := Aside0.mk (hb); have n4_ := Aside0.mk (hi); clear HO210; clear HO213; clear HK; clear HB; clear HI0; have HO210 := n0_; have HO213 := n1_; have HK := n2_; have HB := n3_; have HI0 := n4_; clear n0_ n1_ n2_ n3_ n4_; (try clear hb); (try clear hb2); (try clear hk); (try clear hi)))
   go_loopg [7, 10] k (fun kq v7 v10 w' => ∃ (x7_1 : List (S34)) (x8_1 : List Int) (x10_1 : Int) (x1001_1 : Int), v10 = .int .i64 x10_1 ∧ Aside0 (spec_l20Jobs.l0 kq l1 a2 x7_1 x8_1 t214 x10_1 s0_0 x1001_1 = some (r1, r2)) ∧ Aside0 (kq ≤ k) ∧ Aside0 (Kd.R k34 34 w' w.heap.size (fun _ => True) v7 x7_1) ∧ Aside0 (Kd.R (Kd.int .i64) 3 w' w.heap.size (fun _ => True) v212 x8_1) ∧ Aside0 (IsS110 w0 w' g s0_0 x1001_1) ∧ Aside0 (KeepBut w w' g none) ∧ Aside0 (Below w0.heap.size w0 w'))
   case atStart => exact ⟨(y208), (y211), (0), (t215), (by first | rfl | (simp; done) | (simp [*]; done)), H', ⟨Nat.le_refl _⟩, ⟨by (with_reducible repeat (first | apply Kd.R_alloc | apply Kd.R_drewN | apply Kd.R_drew)); exact HO210.out⟩, ⟨by (with_reducible repeat (first | apply Kd.R_alloc | apply Kd.R_drewN | apply Kd.R_drew)); exact HO213.out⟩, ⟨by repeat (first | (with_reducible first | exact HI0.out | apply IsS110.alloc | apply IsS110.drewN | apply IsS110.drew | apply IsS110.set_1) | exact HI0.out)⟩, ⟨by repeat (first | (with_reducible first | exact HK.out | apply KeepBut.set_ | apply keep_drewN | apply keep_drew | apply keep_alloc) | exact HK.out)⟩, ⟨by repeat (first | (with_reducible first | exact HB.out | apply below_alloc | apply pw_below_drewN | apply below_drew1 | refine below_set ?_ (IsS110.ge HI0.out)) | exact HB.out)⟩⟩
   case round =>
    clear H'
    try clear c1
    try clear p2
    try clear c4
    try clear c4b0
    try clear c4b1
    try clear c5
    try clear c5b0
    try clear c5b1
    try clear c6
    obtain ⟨x7_1, x8_1, x10_1, x1001_1, rfl, HA, HK1, HO_7, HO_8, HI0, HK, HB⟩ := hrel
    cases gk with
    | zero => exact absurd HA.out (by simp [spec_l20Jobs.l0])
    | succ k1 =>
     have H := HA.out
     clear HA
     simp only [spec_l20Jobs.l0] at H
     by_cases c12 : x10_1 < 100
     ·rw [if_pos c12] at H
      have c12b0 : decide (x10_1 < 100) = true := decide_eq_true c12
      clear c12
      have H' := Aside0.mk H
      clear H
      go_wp2
      go_loopg [7, 11] k1 (fun kq v7 v11 w' => ∃ (x7_2 : List (S34)) (x8_2 : List Int) (x11_2 : Int) (x1001_2 : Int), v11 = .int .i64 x11_2 ∧ Aside0 (spec_l20Jobs.l1 kq l1 a2 x7_2 x8_2 t214 x10_1 x11_2 s0_0 x1001_2 = some (r1, r2)) ∧ Aside0 (kq ≤ k1) ∧ Aside0 (Kd.R k34 34 w' w.heap.size (fun _ => True) v7 x7_2) ∧ Aside0 (Kd.R (Kd.int .i64) 3 w' w.heap.size (fun _ => True) v212 x8_2) ∧ Aside0 (IsS110 w0 w' g s0_0 x1001_2) ∧ Aside0 (KeepBut w w' g none) ∧ Aside0 (Below w0.heap.size w0 w'))
      case atStart => exact ⟨(x7_1), (x8_1), (0), (x1001_1), (by first | rfl | (simp; done) | (simp [*]; done)), H', ⟨Nat.le_refl _⟩, ⟨by (with_reducible repeat (first | apply Kd.R_alloc | apply Kd.R_drewN | apply Kd.R_drew)); exact HO_7.out⟩, ⟨by (with_reducible repeat (first | apply Kd.R_alloc | apply Kd.R_drewN | apply Kd.R_drew)); exact HO_8.out⟩, ⟨by repeat (first | (with_reducible first | exact HI0.out | apply IsS110.alloc | apply IsS110.drewN | apply IsS110.drew | apply IsS110.set_1) | exact HI0.out)⟩, ⟨by repeat (first | (with_reducible first | exact HK.out | apply KeepBut.set_ | apply keep_drewN | apply keep_drew | apply keep_alloc) | exact HK.out)⟩, ⟨by repeat (first | (with_reducible first | exact HB.out | apply below_alloc | apply pw_below_drewN | apply below_drew1 | refine below_set ?_ (IsS110.ge HI0.out)) | exact HB.out)⟩⟩
      case round =>
       clear H'
       try clear c1
       try clear p2
       try clear c4
       try clear c4b0
       try clear c4b1
       try clear c5
       try clear c5b0
       try clear c5b1
       try clear c6
       try clear c12
       try clear c12b0
       try clear p2
       obtain ⟨x7_2, x8_2, x11_2, x1001_2, rfl, HA, HK2, HO_7, HO_8, HI0, HK, HB⟩ := hrel
       cases gk with
       | zero => exact absurd HA.out (by simp [spec_l20Jobs.l1])
       | succ k2 =>
        have H := HA.out
        clear HA
        simp only [spec_l20Jobs.l1] at H
        by_cases c13 : x11_2 < (l1.length : Int)
        ·rw [if_pos c13] at H
         have c13b0 : decide (x11_2 < (l1.length : Int)) = true := decide_eq_true c13
         clear c13
         have HC14 := Aside0.mk H
         clear H
         go_upto_region 10 with (fail)
         go_cut [52] (fun v52 wc => ∃ (kq : Nat) (x52_13 : Bool) (x1001_13 : Int), v52 = .bool x52_13 ∧ Aside0 (spec_l20Jobs.j2 kq l1 a2 x7_2 x8_2 t214 x10_1 x11_2 x52_13 s0_0 x1001_13 = some (r1, r2)) ∧ Aside0 (kq ≤ k2) ∧ Aside0 (Kd.R k34 34 wc w.heap.size (fun _ => True) u7 x7_2) ∧ Aside0 (Kd.R (Kd.int .i64) 3 wc w.heap.size (fun _ => True) v212 x8_2) ∧ Aside0 (IsS110 w0 wc g s0_0 x1001_13) ∧ Aside0 (KeepBut w wc g none) ∧ Aside0 (Below w0.heap.size w0 wc))
         case first =>
          have H := HC14.out
          clear HC14
          by_cases c15 : 0 ≤ x11_2
          ·rw [if_pos c15] at H
           have c15b0 : decide (0 ≤ x11_2) = true := decide_eq_true c15
           clear c15
           (first | rw [c15b0] | (simp only [i64_w, i32_w]; rw [c15b0]) | skip)
           by_cases c16 : x11_2 < (x8_2.length : Int)
           ·rw [if_pos c16] at H
            have c16b0 : decide (x11_2 < (x8_2.length : Int)) = true := decide_eq_true c16
            clear c16
            by_cases c17 : x10_1 < (rd x8_2 x11_2)
            ·rw [if_pos c17] at H
             have c17b0 : decide (x10_1 < (rd x8_2 x11_2)) = true := decide_eq_true c17
             clear c17
             have H' := Aside0.mk H
             clear H
             obtain ⟨Ao18, co18, eo18⟩ := Kd.R_slice HO_8.out
             subst eo18
             have p216 : 0 ≤ (x11_2 : Int) := of_decide_eq_true (by first | (with_reducible assumption) | assumption)
             have q216 : x11_2 < (x8_2.length : Int) := of_decide_eq_true (by first | (with_reducible assumption) | assumption)
             obtain ⟨ad216, e216, hx216_0⟩ := Kd.at_int (Kd.R_reads' HO_8.out).2.2 x11_2 p216 q216
             cases e216
             replace p216 := eq_true p216
             replace q216 := eq_true q216
             go_wp2
             go_meet
             case rel => exact ⟨_, (true), (x1001_2), (by first | rfl | (simp; done) | (simp [*]; done)), H', ⟨by have := HK1.out; have := HK2.out; first | omega | exact Nat.le_refl _⟩, ⟨by (with_reducible repeat (first | apply Kd.R_alloc | apply Kd.R_drewN | apply Kd.R_drew)); exact HO_7.out⟩, ⟨by (with_reducible repeat (first | apply Kd.R_alloc | apply Kd.R_drewN | apply Kd.R_drew)); exact HO_8.out⟩, ⟨by repeat (first | (with_reducible first | exact HI0.out | apply IsS110.alloc | apply IsS110.drewN | apply IsS110.drew | apply IsS110.set_1) | exact HI0.out)⟩, ⟨by repeat (first | (with_reducible first | exact HK.out | apply KeepBut.set_ | apply keep_drewN | apply keep_drew | apply keep_alloc) | exact HK.out)⟩, ⟨by repeat (first | (with_reducible first | exact HB.out | apply below_alloc | apply pw_below_drewN | apply below_drew1 | refine below_set ?_ (IsS110.ge HI0.out)) | exact HB.out)⟩⟩
            ·rw [if_neg c17] at H
             have c17b0 : decide (x10_1 < (rd x8_2 x11_2)) = false := decide_eq_false c17
             clear c17
             by_cases c19 : (x7_2.length : Int) = 60
             ·rw [if_pos c19] at H
              have c19b0 : ((x7_2.length : Int) == 60) = true := beq_iff_eq.mpr c19
              have c19b1 : ((x7_2.length : Int) != 60) = false := bne_eq_false_iff_eq.mpr c19
              clear c19
              have H' := Aside0.mk H
              clear H
              obtain ⟨Ao20, co20, eo20⟩ := Kd.R_slice HO_8.out
              subst eo20
              have p216 : 0 ≤ (x11_2 : Int) := of_decide_eq_true (by first | (with_reducible assumption) | assumption)
              have q216 : x11_2 < (x8_2.length : Int) := of_decide_eq_true (by first | (with_reducible assumption) | assumption)
              obtain ⟨ad216, e216, hx216_0⟩ := Kd.at_int (Kd.R_reads' HO_8.out).2.2 x11_2 p216 q216
              cases e216
              replace p216 := eq_true p216
              replace q216 := eq_true q216
              obtain ⟨Ao21, co21, eo21⟩ := Kd.R_slice HO_7.out
              subst eo21
              go_wp2
              go_meet
              case rel => exact ⟨_, (true), (x1001_2), (by first | rfl | (simp; done) | (simp [*]; done)), H', ⟨by have := HK1.out; have := HK2.out; first | omega | exact Nat.le_refl _⟩, ⟨by (with_reducible repeat (first | apply Kd.R_alloc | apply Kd.R_drewN | apply Kd.R_drew)); exact HO_7.out⟩, ⟨by (with_reducible repeat (first | apply Kd.R_alloc | apply Kd.R_drewN | apply Kd.R_drew)); exact HO_8.out⟩, ⟨by repeat (first | (with_reducible first | exact HI0.out | apply IsS110.alloc | apply IsS110.drewN | apply IsS110.drew | apply IsS110.set_1) | exact HI0.out)⟩, ⟨by repeat (first | (with_reducible first | exact HK.out | apply KeepBut.set_ | apply keep_drewN | apply keep_drew | apply keep_alloc) | exact HK.out)⟩, ⟨by repeat (first | (with_reducible first | exact HB.out | apply below_alloc | apply pw_below_drewN | apply below_drew1 | refine below_set ?_ (IsS110.ge HI0.out)) | exact HB.out)⟩⟩
             ·rw [if_neg c19] at H
              have c19b0 : ((x7_2.length : Int) == 60) = false := beq_eq_false_iff_ne.mpr c19
              have c19b1 : ((x7_2.length : Int) != 60) = true := bne_iff_ne.mpr c19
              by_cases c22 : t214 < 2
              ·rw [if_pos c22] at H
               have c22b0 : decide (t214 < 2) = true := decide_eq_true c22
               clear c22
               replace H := Option.bind_eq_some_iff.mp H
               obtain ⟨⟨t217, t218⟩, A230, H⟩ := H
               replace H : (spec_l20Jobs.j2 k2 l1 a2 x7_2 x8_2 t214 x10_1 x11_2 (decide (t217 > 1)) s0_0 t218) = some (r1, r2) := H
               have A23 := Aside0.mk A230
               clear A230
               have H' := Aside0.mk H
               clear H
               obtain ⟨Ao24, co24, eo24⟩ := Kd.R_slice HO_8.out
               subst eo24
               have p216 : 0 ≤ (x11_2 : Int) := of_decide_eq_true (by first | (with_reducible assumption) | assumption)
               have q216 : x11_2 < (x8_2.length : Int) := of_decide_eq_true (by first | (with_reducible assumption) | assumption)
               obtain ⟨ad216, e216, hx216_0⟩ := Kd.at_int (Kd.R_reads' HO_8.out).2.2 x11_2 p216 q216
               cases e216
               replace p216 := eq_true p216
               replace q216 := eq_true q216
               obtain ⟨Ao25, co25, eo25⟩ := Kd.R_slice HO_7.out
               subst eo25
               go_wp2_with (first | (go_at_call 68; (with_reducible refine (spec_l20Rd_pick.calls k2 g s0_0 x1001_2 (wrap64 (3 + (wrap64 (7 * t214)))) t217 t218 w0 _ ?side1 ?side2 A23.out).mono ?_); (case side1 => repeat (first | (with_reducible first | exact HI0.out | apply IsS110.alloc | apply IsS110.drewN | apply IsS110.drew | apply IsS110.set_1) | exact HI0.out)); (case side2 => repeat (first | (with_reducible first | exact HB.out | apply below_alloc | apply pw_below_drewN | apply below_drew1 | refine below_set ?_ (IsS110.ge HI0.out)) | exact HB.out)); rintro e w26 ⟨rfl, hi, hb, hk⟩; have n0_ := Aside0.mk (Kd.R_mono (Kd.R_keep (IsS110.apart (show IsS110 w0 _ g s0_0 x1001_2 from by repeat (first | (with_reducible first | exact HI0.out | apply IsS110.alloc | apply IsS110.drewN | apply IsS110.drew | apply IsS110.set_1) | exact HI0.out)) (by (with_reducible repeat (first | apply Kd.R_alloc | apply Kd.R_drewN | apply Kd.R_drew)); exact HO_7.out) (by decide)) hk (fun _ h => h.2)) (fun _ h => h.1)); have n1_ := Aside0.mk (Kd.R_mono (Kd.R_keep (IsS110.apart (show IsS110 w0 _ g s0_0 x1001_2 from by repeat (first | (with_reducible first | exact HI0.out | apply IsS110.alloc | apply IsS110.drewN | apply IsS110.drew | apply IsS110.set_1) | exact HI0.out)) (by (with_reducible repeat (first | apply Kd.R_alloc | apply Kd.R_drewN | apply Kd.R_drew)); exact HO_8.out) (by decide)) hk (fun _ h => h.2)) (fun _ h => h.1)); have n2_ := Aside0.mk (KeepBut.trans (by repeat (first | (with_reducible first | exact HK.out | apply KeepBut.set_ | apply keep_drewN | apply keep_drew | apply keep_alloc) | exact HK.out)) hk (.inl rfl)); have n3_ := Aside0.mk (hb); have n4_ := Aside0.mk (hi); clear HO_7; clear HO_8; clear HK; clear HB; clear HI0; have HO_7 := n0_; have HO_8 := n1_; have HK := n2_; have HB := n3_; have HI0 := n4_; clear n0_ n1_ n2_ n3_ n4_; (try clear hb); (try clear hb2); (try clear hk); (try clear hi)))
               go_meet
               case rel => exact ⟨_, (decide (t217 > 1)), (t218), (by first | rfl | (simp; done) | (simp [*]; done)), H', ⟨by have := HK1.out; have := HK2.out; first | omega | exact Nat.le_refl _⟩, ⟨by (with_reducible repeat (first | apply Kd.R_alloc | apply Kd.R_drewN | apply Kd.R_drew)); exact HO_7.out⟩, ⟨by (with_reducible repeat (first | apply Kd.R_alloc | apply Kd.R_drewN | apply Kd.R_drew)); exact HO_8.out⟩, ⟨by repeat (first | (with_reducible first | exact HI0.out | apply IsS110.alloc | apply IsS110.drewN | apply IsS110.drew | apply IsS110.set_1) | exact HI0.out)⟩, ⟨by repeat (first | (with_reducible first | exact HK.out | apply KeepBut.set_ | apply keep_drewN | apply keep_drew | apply keep_alloc) | exact HK.out)⟩, ⟨by repeat (first | (with_reducible first | exact HB.out | apply below_alloc | apply pw_below_drewN | apply below_drew1 | refine below_set ?_ (IsS110.ge HI0.out)) | exact HB.out)⟩⟩
              ·rw [if_neg c22] at H
               have c22b0 : decide (t214 < 2) = false := decide_eq_false c22
               clear c22
               have H' := Aside0.mk H
               clear H
               obtain ⟨Ao27, co27, eo27⟩ := Kd.R_slice HO_8.out
               subst eo27
               have p216 : 0 ≤ (x11_2 : Int) := of_decide_eq_true (by first | (with_reducible assumption) | assumption)
               have q216 : x11_2 < (x8_2.length : Int) := of_decide_eq_true (by first | (with_reducible assumption) | assumption)
               obtain ⟨ad216, e216, hx216_0⟩ := Kd.at_int (Kd.R_reads' HO_8.out).2.2 x11_2 p216 q216
               cases e216
               replace p216 := eq_true p216
               replace q216 := eq_true q216
               obtain ⟨Ao28, co28, eo28⟩ := Kd.R_slice HO_7.out
               subst eo28
               go_wp2
               go_meet
               case rel => exact ⟨_, (false), (x1001_2), (by first | rfl | (simp; done) | (simp [*]; done)), H', ⟨by have := HK1.out; have := HK2.out; first | omega | exact Nat.le_refl _⟩, ⟨by (with_reducible repeat (first | apply Kd.R_alloc | apply Kd.R_drewN | apply Kd.R_drew)); exact HO_7.out⟩, ⟨by (with_reducible repeat (first | apply Kd.R_alloc | apply Kd.R_drewN | apply Kd.R_drew)); exact HO_8.out⟩, ⟨by repeat (first | (with_reducible first | exact HI0.out | apply IsS110.alloc | apply IsS110.drewN | apply IsS110.drew | apply IsS110.set_1) | exact HI0.out)⟩, ⟨by repeat (first | (with_reducible first | exact HK.out | apply KeepBut.set_ | apply keep_drewN | apply keep_drew | apply keep_alloc) | exact HK.out)⟩, ⟨by repeat (first | (with_reducible first | exact HB.out | apply below_alloc | apply pw_below_drewN | apply below_drew1 | refine below_set ?_ (IsS110.ge HI0.out)) | exact HB.out)⟩⟩
           ·rw [if_neg c16] at H
            exact absurd H (by simp)
          ·rw [if_neg c15] at H
           exact absurd H (by simp)
         case rest =>
          clear HC14
          try clear c1
          try clear c2
          try clear p2
          try clear q2
          try clear hx2
          try clear c4
          try clear c4b0
          try clear c4b1
          try clear c5
          try clear c5b0
          try clear c5b1
          try clear c6
          try clear p6
          try clear c12
          try clear c12b0
          try clear c13
          try clear c13b0
          try clear c15
          try clear c15b0
          try clear c16
          try clear c16b0
          try clear c17
          try clear c17b0
          try clear c19
          try clear c19b0
          try clear c19b1
          try clear p21
          try clear q21
          try clear hx21
          try clear c22
          try clear c22b0
          try clear hx216_0
          try clear p2
          try clear p216
          try clear q216
          obtain ⟨kq, x52_13, x1001_13, rfl, HA, HJ13, HO_7, HO_8, HI0, HK, HB⟩ := hcut
          cases kq with
          | zero => exact absurd HA.out (by simp [spec_l20Jobs.j2])
          | succ kj13 =>
           have H := HA.out
           clear HA
           simp only [spec_l20Jobs.j2] at H
           by_cases c29 : x52_13 = true
           ·subst c29
            have H1 : (spec_l20Jobs.l1 kj13 l1 a2 x7_2 x8_2 t214 x10_1 (wrap64 (x11_2 + 1)) s0_0 x1001_13) = some (r1, r2) := by rw [if_pos rfl] at H; exact H
            clear H
            have H := H1
            clear H1
            have H' := Aside0.mk H
            clear H
            go_wp2
            go_roundg kj13
            case measure => have := HK1.out; have := HK2.out; have := HJ13.out; omega
            case rel => exact ⟨(x7_2), (x8_2), (wrap64 (x11_2 + 1)), (x1001_13), (by first | rfl | (simp; done) | (simp [*]; done)), H', ⟨by have := HK1.out; have := HK2.out; have := HJ13.out; omega⟩, ⟨by (with_reducible repeat (first | apply Kd.R_alloc | apply Kd.R_drewN | apply Kd.R_drew)); exact HO_7.out⟩, ⟨by (with_reducible repeat (first | apply Kd.R_alloc | apply Kd.R_drewN | apply Kd.R_drew)); exact HO_8.out⟩, ⟨by repeat (first | (with_reducible first | exact HI0.out | apply IsS110.alloc | apply IsS110.drewN | apply IsS110.drew | apply IsS110.set_1) | exact HI0.out)⟩, ⟨by repeat (first | (with_reducible first | exact HK.out | apply KeepBut.set_ | apply keep_drewN | apply keep_drew | apply keep_alloc) | exact HK.out)⟩, ⟨by repeat (first | (with_reducible first | exact HB.out | apply below_alloc | apply pw_below_drewN | apply below_drew1 | refine below_set ?_ (IsS110.ge HI0.out)) | exact HB.out)⟩⟩
           ·replace c29 := Bool.eq_false_iff.mpr c29
            subst c29
            have H1 : (if 0 ≤ x11_2 then (if x11_2 < (l1.length : Int) then ((spec_l20Rd_pick.f kj13 s0_0 x1001_13 3).bind fun bt220 => (if bt220.1 = 0 then ((spec_l20Rd_pick.f kj13 s0_0 bt220.2 ((rd_T88 l1 x11_2).f0)).bind fun bt222 => (if x7_2.length < 4398046511104 then (if x11_2 < (x8_2.length : Int) then (spec_l20Jobs.l1 kj13 l1 a2 (x7_2 ++ [(⟨x11_2, x10_1, wrap64 (x10_1 + ((rd_T88 l1 x11_2).f1)), wrap64 (1 + bt222.1)⟩ : S34)]) (x8_2.set (x11_2 : Int).toNat (wrap64 (x10_1 + ((rd_T88 l1 x11_2).f2)))) t214 x10_1 (wrap64 (x11_2 + 1)) s0_0 bt222.2) else (none)) else (none))) else (if x7_2.length < 4398046511104 then (if x11_2 < (x8_2.length : Int) then (spec_l20Jobs.l1 kj13 l1 a2 (x7_2 ++ [(⟨x11_2, x10_1, wrap64 (x10_1 + ((rd_T88 l1 x11_2).f1)), (rd_T88 l1 x11_2).f0⟩ : S34)]) (x8_2.set (x11_2 : Int).toNat (wrap64 (x10_1 + ((rd_T88 l1 x11_2).f2)))) t214 x10_1 (wrap64 (x11_2 + 1)) s0_0 bt220.2) else (none)) else (none)))) else (none)) else (none)) = some (r1, r2) := by rw [if_neg (show ¬ (false = true) by decide)] at H; exact H
            clear H
            have H := H1
            clear H1
            by_cases c30 : 0 ≤ x11_2
            ·rw [if_pos c30] at H
             have c30b0 : decide (0 ≤ x11_2) = true := decide_eq_true c30
             clear c30
             by_cases c31 : x11_2 < (l1.length : Int)
             ·rw [if_pos c31] at H
              have c31b0 : decide (x11_2 < (l1.length : Int)) = true := decide_eq_true c31
              clear c31
              replace H := Option.bind_eq_some_iff.mp H
              obtain ⟨⟨t220, t221⟩, A320, H⟩ := H
              replace H : (if t220 = 0 then ((spec_l20Rd_pick.f kj13 s0_0 t221 ((rd_T88 l1 x11_2).f0)).bind fun bt222 => (if x7_2.length < 4398046511104 then (if x11_2 < (x8_2.length : Int) then (spec_l20Jobs.l1 kj13 l1 a2 (x7_2 ++ [(⟨x11_2, x10_1, wrap64 (x10_1 + ((rd_T88 l1 x11_2).f1)), wrap64 (1 + bt222.1)⟩ : S34)]) (x8_2.set (x11_2 : Int).toNat (wrap64 (x10_1 + ((rd_T88 l1 x11_2).f2)))) t214 x10_1 (wrap64 (x11_2 + 1)) s0_0 bt222.2) else (none)) else (none))) else (if x7_2.length < 4398046511104 then (if x11_2 < (x8_2.length : Int) then (spec_l20Jobs.l1 kj13 l1 a2 (x7_2 ++ [(⟨x11_2, x10_1, wrap64 (x10_1 + ((rd_T88 l1 x11_2).f1)), (rd_T88 l1 x11_2).f0⟩ : S34)]) (x8_2.set (x11_2 : Int).toNat (wrap64 (x10_1 + ((rd_T88 l1 x11_2).f2)))) t214 x10_1 (wrap64 (x11_2 + 1)) s0_0 t221) else (none)) else (none))) = some (r1, r2) := H
              have A32 := Aside0.mk A320
              clear A320
              by_cases c33 : t220 = 0
              ·rw [if_pos c33] at H
               have c33b0 : (t220 == 0) = true := beq_iff_eq.mpr c33
               have c33b1 : (t220 != 0) = false := bne_eq_false_iff_eq.mpr c33
               clear c33
               replace H := Option.bind_eq_some_iff.mp H
               obtain ⟨⟨t222, t223⟩, A340, H⟩ := H
               replace H : (if x7_2.length < 4398046511104 then (if x11_2 < (x8_2.length : Int) then (spec_l20Jobs.l1 kj13 l1 a2 (x7_2 ++ [(⟨x11_2, x10_1, wrap64 (x10_1 + ((rd_T88 l1 x11_2).f1)), wrap64 (1 + t222)⟩ : S34)]) (x8_2.set (x11_2 : Int).toNat (wrap64 (x10_1 + ((rd_T88 l1 x11_2).f2)))) t214 x10_1 (wrap64 (x11_2 + 1)) s0_0 t223) else (none)) else (none)) = some (r1, r2) := H
               have A34 := Aside0.mk A340
               clear A340
               by_cases c35 : x7_2.length < 4398046511104
               ·rw [if_pos c35] at H
                have LMc35 := Aside0.mk c35
                clear c35
                obtain ⟨y225, hy225⟩ : ∃ y_ : List (S34), y_ = (x7_2 ++ [(⟨x11_2, x10_1, wrap64 (x10_1 + ((rd_T88 l1 x11_2).f1)), wrap64 (1 + t222)⟩ : S34)]) := ⟨_, rfl⟩
                replace H : (if x11_2 < (x8_2.length : Int) then (spec_l20Jobs.l1 kj13 l1 a2 y225 (x8_2.set (x11_2 : Int).toNat (wrap64 (x10_1 + ((rd_T88 l1 x11_2).f2)))) t214 x10_1 (wrap64 (x11_2 + 1)) s0_0 t223) else (none)) = some (r1, r2) := by first | (rw [hy225]; with_reducible exact H) | (have H2_ := (Option.bind_some _ _).symm.trans H; rw [hy225]; with_reducible exact H2_) | (have H2_ := (Option.bind_some _ _).symm.trans H; with_reducible exact H2_) | with_reducible exact H | (rw [hy225]; exact H) | exact H
                have Ny225 := Aside0.mk hy225
                clear hy225
                by_cases c36 : x11_2 < (x8_2.length : Int)
                ·rw [if_pos c36] at H
                 have c36b0 : decide (x11_2 < (x8_2.length : Int)) = true := decide_eq_true c36
                 clear c36
                 obtain ⟨y229, hy229⟩ : ∃ y_ : List Int, y_ = (x8_2.set (x11_2 : Int).toNat (wrap64 (x10_1 + ((rd_T88 l1 x11_2).f2)))) := ⟨_, rfl⟩
                 replace H : (spec_l20Jobs.l1 kj13 l1 a2 y225 y229 t214 x10_1 (wrap64 (x11_2 + 1)) s0_0 t223) = some (r1, r2) := by first | (rw [hy229]; with_reducible exact H) | (have H2_ := (Option.bind_some _ _).symm.trans H; rw [hy229]; with_reducible exact H2_) | (have H2_ := (Option.bind_some _ _).symm.trans H; with_reducible exact H2_) | with_reducible exact H | (rw [hy229]; exact H) | exact H
                 have Ny229 := Aside0.mk hy229
                 clear hy229
                 have H' := Aside0.mk H
                 clear H
                 have p219 : 0 ≤ (x11_2 : Int) := of_decide_eq_true (by first | (with_reducible assumption) | assumption)
                 have q219 : x11_2 < (l1.length : Int) := of_decide_eq_true (by first | (with_reducible assumption) | assumption)
                 obtain ⟨ad219, e219, hx219_0, hx219_1, hx219_2⟩ := at_T88 (Kd.C_foot_now HR1.out HK.out) x11_2 p219 q219
                 cases e219
                 replace p219 := eq_true p219
                 replace q219 := eq_true q219
                 go_wp2_with (first | ((with_reducible refine gate_callee (f := 68) rfl ?_); refine goesL_ (some 59) rfl rfl Try.func68 (by kernel_rfl) rfl #[.pointer (some ⟨g, 0, none⟩), .int .i64 3] rfl (by (try simp only [List.map_toArray, List.map_cons, List.map_nil]); first | done | rfl | (simp only [List.length_drop, List.length_take]; rfl)) ?_; (with_reducible refine (spec_l20Rd_pick.calls kj13 g s0_0 x1001_13 3 t220 t221 w0 _ ?side1 ?side2 A32.out).mono ?_); (case side1 => repeat (first | (with_reducible first | exact HI0.out | apply IsS110.alloc | apply IsS110.drewN | apply IsS110.drew | apply IsS110.set_1) | exact HI0.out)); (case side2 => repeat (first | (with_reducible first | exact HB.out | apply below_alloc | apply pw_below_drewN | apply below_drew1 | refine below_set ?_ (IsS110.ge HI0.out)) | exact HB.out)); rintro e w38 ⟨rfl, hi, hb, hk⟩; refine ⟨_, rfl, ?_⟩; have n0_ := Aside0.mk (Kd.R_mono (Kd.R_keep (IsS110.apart (show IsS110 w0 _ g s0_0 x1001_13 from by repeat (first | (with_reducible first | exact HI0.out | apply IsS110.alloc | apply IsS110.drewN | apply IsS110.drew | apply IsS110.set_1) | exact HI0.out)) (by (with_reducible repeat (first | apply Kd.R_alloc | apply Kd.R_drewN | apply Kd.R_drew)); exact HO_7.out) (by decide)) hk (fun _ h => h.2)) (fun _ h => h.1)); have n1_ := Aside0.mk (Kd.R_mono (Kd.R_keep (IsS110.apart (show IsS110 w0 _ g s0_0 x1001_13 from by repeat (first | (with_reducible first | exact HI0.out | apply IsS110.alloc | apply IsS110.drewN | apply IsS110.drew | apply IsS110.set_1) | exact HI0.out)) (by (with_reducible repeat (first | apply Kd.R_alloc | apply Kd.R_drewN | apply Kd.R_drew)); exact HO_8.out) (by decide)) hk (fun _ h => h.2)) (fun _ h => h.1)); have n2_ := Aside0.mk (KeepBut.trans (by repeat (first | (with_reducible first | exact HK.out | apply KeepBut.set_ | apply keep_drewN | apply keep_drew | apply keep_alloc) | exact HK.out)) hk (.inl rfl)); have n3_ := Aside0.mk (hb); have n4_ := Aside0.mk (hi); clear HO_7; clear HO_8; clear HK; clear HB; clear HI0; have HO_7 := n0_; have HO_8 := n1_; have HK := n2_; have HB := n3_; have HI0 := n4_; clear n0_ n1_ n2_ n3_ n4_; (try clear hb); (try clear hb2); (try clear hk); (try clear hi)) | ((with_reducible refine gate_callee (f := 68) rfl ?_); refine goesL_ (some 63) rfl rfl Try.func68 (by kernel_rfl) rfl #[.pointer (some ⟨g, 0, none⟩), .int .i64 ((rd_T88 l1 x11_2).f0)] rfl (by (try simp only [List.map_toArray, List.map_cons, List.map_nil]); first | done | rfl | (simp only [List.length_drop, List.length_take]; rfl)) ?_; (with_reducible refine (spec_l20Rd_pick.calls kj13 g s0_0 t221 ((rd_T88 l1 x11_2).f0) t222 t223 w0 _ ?side1 ?side2 A34.out).mono ?_); (case side1 => repeat (first | (with_reducible first | exact HI0.out | apply IsS110.alloc | apply IsS110.drewN | apply IsS110.drew | apply IsS110.set_1) | exact HI0.out)); (case side2 => repeat (first | (with_reducible first | exact HB.out | apply below_alloc | apply pw_below_drewN | apply below_drew1 | refine below_set ?_ (IsS110.ge HI0.out)) | exact HB.out)); rintro e w39 ⟨rfl, hi, hb, hk⟩; refine ⟨_, rfl, ?_⟩; have n0_ := Aside0.mk (Kd.R_mono (Kd.R_keep (IsS110.apart (show IsS110 w0 _ g s0_0 t221 from by repeat (first | (with_reducible first | exact HI0.out | apply IsS110.alloc | apply IsS110.drewN | apply IsS110.drew | apply IsS110.set_1) | exact HI0.out)) (by (with_reducible repeat (first | apply Kd.R_alloc | apply Kd.R_drewN | apply Kd.R_drew)); exact HO_7.out) (by decide)) hk (fun _ h => h.2)) (fun _ h => h.1)); have n1_ := Aside0.mk (Kd.R_mono (Kd.R_keep (IsS110.apart (show IsS110 w0 _ g s0_0 t221 from by repeat (first | (with_reducible first | exact HI0.out | apply IsS110.alloc | apply IsS110.drewN | apply IsS110.drew | apply IsS110.set_1) | exact HI0.out)) (by (with_reducible repeat (first | apply Kd.R_alloc | apply Kd.R_drewN | apply Kd.R_drew)); exact HO_8.out) (by decide)) hk (fun _ h => h.2)) (fun _ h => h.1)); have n2_ := Aside0.mk (KeepBut.trans (by repeat (first | (with_reducible first | exact HK.out | apply KeepBut.set_ | apply keep_drewN | apply keep_drew | apply keep_alloc) | exact HK.out)) hk (.inl rfl)); have n3_ := Aside0.mk (hb); have n4_ := Aside0.mk (hi); clear HO_7; clear HO_8; clear HK; clear HB; clear HI0; have HO_7 := n0_; have HO_8 := n1_; have HK := n2_; have HB := n3_; have HI0 := n4_; clear n0_ n1_ n2_ n3_ n4_; (try clear hb); (try clear hb2); (try clear hk); (try clear hi); have p224 : 0 ≤ (x11_2 : Int) := of_decide_eq_true (by first | (with_reducible assumption) | assumption); have q224 : x11_2 < (l1.length : Int) := of_decide_eq_true (by first | (with_reducible assumption) | assumption); obtain ⟨ad224, e224, hx224_0, hx224_1, hx224_2⟩ := at_T88 (Kd.C_foot_now HR1.out HK.out) x11_2 p224 q224; obtain rfl : ad219 = ad224 := (by injection e224); replace p224 := eq_true p224; replace q224 := eq_true q224) | ((with_reducible refine gate_builtin (b := .append) (xs := #[.tmp 65, .tmp 77]) rfl ?_); (try (refine gate_guard (by rfl) ?_; dsimp only)); at_builtin; refine Kd.R_append k34 w.heap.size rfl (.tmp 65) (.tmp 77) 24 34 (.agg #[(.int .i64 0), (.int .i64 0), (.int .i64 0), (.int .i64 0)]) 32 rfl Try.underlying24 info34 rfl (by decide) (by omega) u7 x7_2 (⟨x11_2, x10_1, wrap64 (x10_1 + ((rd_T88 l1 x11_2).f1)), wrap64 (1 + t222)⟩ : S34) [.int .i64 x11_2, .int .i64 x10_1, .int .i64 (wrap64 (x10_1 + ((rd_T88 l1 x11_2).f1))), .int .i64 (wrap64 (1 + t222))] (fun _ => True) (fun _ => False) rfl rfl ?aP (fun _ hk => hk.elim) ?aF ?aO (Below.refl _ _) ?aS ?aL ?_; (case aP => exact k34_mkM _ _ _ (⟨x11_2, x10_1, wrap64 (x10_1 + ((rd_T88 l1 x11_2).f1)), wrap64 (1 + t222)⟩ : S34)); (case aF => exact (fun _ _ => trivial)); (case aO => exact (by (with_reducible repeat (first | apply Kd.R_alloc | apply Kd.R_drewN | apply Kd.R_drew)); exact HO_7.out)); (case aS => exact (keep_size (w := w) (g := g) (row := none) (by repeat (first | (with_reducible first | exact HK.out | apply KeepBut.set_ | apply keep_drewN | apply keep_drew | apply keep_alloc) | exact HK.out)))); (case aL => have := LMc35.out; omega); intro v226 w40 ho hb hg hat; rw [← Ny225.out] at ho; have n0_ := Aside0.mk (Kd.R_over' (by (with_reducible repeat (first | apply Kd.R_alloc | apply Kd.R_drewN | apply Kd.R_drew)); exact HO_8.out) (Kd.R_typed (by (with_reducible repeat (first | apply Kd.R_alloc | apply Kd.R_drewN | apply Kd.R_drew)); exact HO_7.out)) (by decide) hg); have n1_ := Aside0.mk (IsS110.grown (by repeat (first | (with_reducible first | exact HI0.out | apply IsS110.alloc | apply IsS110.drewN | apply IsS110.drew | apply IsS110.set_1) | exact HI0.out)) hg (IsS110.own_ne HI0.out HO_7.out (by decide))); have n2_ := Aside0.mk (below_weaken (by repeat (first | (with_reducible first | exact HB.out | apply below_alloc | apply pw_below_drewN | apply below_drew1 | refine below_set ?_ (IsS110.ge HI0.out)) | exact HB.out)) HL.out hb); have n3_ := Aside0.mk (KeepBut.trans (by repeat (first | (with_reducible first | exact HK.out | apply KeepBut.set_ | apply keep_drewN | apply keep_drew | apply keep_alloc) | exact HK.out)) (KeepBut.of_grown hg g) (Kd.R_base2 HO_7.out)); have n4_ := Aside0.mk (ho); clear HO_8; clear HI0; clear HB; clear HK; clear HO_7; have HO_8 := n0_; have HI0 := n1_; have HB := n2_; have HK := n3_; have HO227 := n4_; clear n0_ n1_ n2_ n3_ n4_; clear ho hb hg hat; have p228 : 0 ≤ (x11_2 : Int) := of_decide_eq_true (by first | (with_reducible assumption) | assumption); have q228 : x11_2 < (l1.length : Int) := of_decide_eq_true (by first | (with_reducible assumption) | assumption); obtain ⟨ad228, e228, hx228_0, hx228_1, hx228_2⟩ := at_T88 (Kd.C_foot_now HR1.out HK.out) x11_2 p228 q228; obtain rfl : ad219 = ad228 := (by injection e228); replace p228 := eq_true p228; replace q228 := eq_true q228; have p37 : 0 ≤ (x11_2 : Int) := of_decide_eq_true (by first | (with_reducible assumption) | assumption); have q37 : (x11_2 : Int) < ((x8_2.length : Int) : Int) := of_decide_eq_true (by first | (with_reducible assumption) | assumption); obtain ⟨go37, co37, eo37, gb37, gl37, cl37, HG37⟩ := Kd.R_form HO_8.out (by omega); (first | cases eo37 | (injection eo37 with ea_ en_ ec_; (first | subst ea_ | (injection ea_ with ea_; subst ea_)); subst ec_; clear en_)); have GB37 := Aside0.mk gb37; have GG37 := Aside0.mk HG37; clear gb37 gl37 HG37; obtain ⟨hx37_0, hf37_0⟩ := Kd.R_celln 0 HO_8.out (x11_2 : Int) p37 q37; replace p37 := eq_true p37; replace q37 := eq_true q37; obtain ⟨hy41_, hz41_⟩ := Kd.R_celln 0 HO_8.out (x11_2 : Int) (of_decide_eq_true (by first | (with_reducible assumption) | assumption)) (of_decide_eq_true (by first | (with_reducible assumption) | assumption)); have HP41 := Kd.R_putg HO_8.out (x11_2 : Int) (wrap64 (x10_1 + ((rd_T88 l1 x11_2).f2)))) | ((with_reducible refine gate_store (t := 3) (p := 88) rfl ?_); refine store_event (t := 3) (p := 88) (v := ?vo_w42) (w1 := (w40.setCell ⟨go37, (x11_2 : Int).toNat, none⟩ (.int .i64 (wrap64 (x10_1 + ((rd_T88 l1 x11_2).f2)))))) ?hg ?ho ?hn ?hr ?_; (case ho => rfl); (case hg => rfl); (case hn => rfl); (case hr => first | (go_simp; done) | (go_simp; rfl)); intro w42 hw; have hg : w40.grownBy w42 (some go37) := (by rw [hw]; exact HP41.2); have hp_ : Kd.R (Kd.int .i64) 3 w42 w.heap.size (fun _ => True) (.slice (some ⟨go37, 0, none⟩) x8_2.length co37) y229 := (by rw [hw, Ny229.out]; exact HP41.1); clear HP41; have n0_ := Aside0.mk (hp_); have n1_ := Aside0.mk (IsS110.grown (by repeat (first | (with_reducible first | exact HI0.out | apply IsS110.alloc | apply IsS110.drewN | apply IsS110.drew | apply IsS110.set_1) | exact HI0.out)) hg (IsS110.own_ne HI0.out HO_8.out (by decide))); have n2_ := Aside0.mk (Kd.R_over' (v := (.slice (some ⟨go37, 0, none⟩) x8_2.length co37)) (by (with_reducible repeat (first | apply Kd.R_alloc | apply Kd.R_drewN | apply Kd.R_drew)); exact HO227.out) (Kd.R_typed HO_8.out) (by decide) hg); have n3_ := Aside0.mk ((by rw [hw]; exact below_set (HB.out) (Nat.le_trans HL.out GB37.out) : Below w0.heap.size w0 w42)); have n4_ := Aside0.mk (KeepBut.trans (by repeat (first | (with_reducible first | exact HK.out | apply KeepBut.set_ | apply keep_drewN | apply keep_drew | apply keep_alloc) | exact HK.out)) (KeepBut.of_grown hg g) (Kd.R_base2 HO_8.out)); clear HO_8; clear HI0; clear HO227; clear HB; clear HK; have HO_8 := n0_; have HI0 := n1_; have HO227 := n2_; have HB := n3_; have HK := n4_; clear n0_ n1_ n2_ n3_ n4_; clear hg hw hp_))
                 go_roundg kj13
                 case measure => have := HK1.out; have := HK2.out; have := HJ13.out; omega
                 case rel => exact ⟨(y225), (y229), (wrap64 (x11_2 + 1)), (t223), (by first | rfl | (simp; done) | (simp [*]; done)), H', ⟨by have := HK1.out; have := HK2.out; have := HJ13.out; omega⟩, ⟨by (with_reducible repeat (first | apply Kd.R_alloc | apply Kd.R_drewN | apply Kd.R_drew)); exact HO227.out⟩, ⟨by (with_reducible repeat (first | apply Kd.R_alloc | apply Kd.R_drewN | apply Kd.R_drew)); exact HO_8.out⟩, ⟨by repeat (first | (with_reducible first | exact HI0.out | apply IsS110.alloc | apply IsS110.drewN | apply IsS110.drew | apply IsS110.set_1) | exact HI0.out)⟩, ⟨by repeat (first | (with_reducible first | exact HK.out | apply KeepBut.set_ | apply keep_drewN | apply keep_drew | apply keep_alloc) | exact HK.out)⟩, ⟨by repeat (first | (with_reducible first | exact HB.out | apply below_alloc | apply pw_below_drewN | apply below_drew1 | refine below_set ?_ (IsS110.ge HI0.out)) | exact HB.out)⟩⟩
                ·rw [if_neg c36] at H
                 exact absurd H (by simp)
               ·rw [if_neg c35] at H
                exact absurd H (by simp)
              ·rw [if_neg c33] at H
               have c33b0 : (t220 == 0) = false := beq_eq_false_iff_ne.mpr c33
               have c33b1 : (t220 != 0) = true := bne_iff_ne.mpr c33
               by_cases c43 : x7_2.length < 4398046511104
               ·rw [if_pos c43] at H
                have LMc43 := Aside0.mk c43
                clear c43
                obtain ⟨y231, hy231⟩ : ∃ y_ : List (S34), y_ = (x7_2 ++ [(⟨x11_2, x10_1, wrap64 (x10_1 + ((rd_T88 l1 x11_2).f1)), (rd_T88 l1 x11_2).f0⟩ : S34)]) := ⟨_, rfl⟩
                replace H : (if x11_2 < (x8_2.length : Int) then (spec_l20Jobs.l1 kj13 l1 a2 y231 (x8_2.set (x11_2 : Int).toNat (wrap64 (x10_1 + ((rd_T88 l1 x11_2).f2)))) t214 x10_1 (wrap64 (x11_2 + 1)) s0_0 t221) else (none)) = some (r1, r2) := by first | (rw [hy231]; with_reducible exact H) | (have H2_ := (Option.bind_some _ _).symm.trans H; rw [hy231]; with_reducible exact H2_) | (have H2_ := (Option.bind_some _ _).symm.trans H; with_reducible exact H2_) | with_reducible exact H | (rw [hy231]; exact H) | exact H
                have Ny231 := Aside0.mk hy231
                clear hy231
                by_cases c44 : x11_2 < (x8_2.length : Int)
                ·rw [if_pos c44] at H
                 have c44b0 : decide (x11_2 < (x8_2.length : Int)) = true := decide_eq_true c44
                 clear c44
                 obtain ⟨y235, hy235⟩ : ∃ y_ : List Int, y_ = (x8_2.set (x11_2 : Int).toNat (wrap64 (x10_1 + ((rd_T88 l1 x11_2).f2)))) := ⟨_, rfl⟩
                 replace H : (spec_l20Jobs.l1 kj13 l1 a2 y231 y235 t214 x10_1 (wrap64 (x11_2 + 1)) s0_0 t221) = some (r1, r2) := by first | (rw [hy235]; with_reducible exact H) | (have H2_ := (Option.bind_some _ _).symm.trans H; rw [hy235]; with_reducible exact H2_) | (have H2_ := (Option.bind_some _ _).symm.trans H; with_reducible exact H2_) | with_reducible exact H | (rw [hy235]; exact H) | exact H
                 have Ny235 := Aside0.mk hy235
                 clear hy235
                 have H' := Aside0.mk H
                 clear H
                 have p219 : 0 ≤ (x11_2 : Int) := of_decide_eq_true (by first | (with_reducible assumption) | assumption)
                 have q219 : x11_2 < (l1.length : Int) := of_decide_eq_true (by first | (with_reducible assumption) | assumption)
                 obtain ⟨ad219, e219, hx219_0, hx219_1, hx219_2⟩ := at_T88 (Kd.C_foot_now HR1.out HK.out) x11_2 p219 q219
                 cases e219
                 replace p219 := eq_true p219
                 replace q219 := eq_true q219
                 go_wp2_with (first | ((with_reducible refine gate_callee (f := 68) rfl ?_); refine goesL_ (some 59) rfl rfl Try.func68 (by kernel_rfl) rfl #[.pointer (some ⟨g, 0, none⟩), .int .i64 3] rfl (by (try simp only [List.map_toArray, List.map_cons, List.map_nil]); first | done | rfl | (simp only [List.length_drop, List.length_take]; rfl)) ?_; (with_reducible refine (spec_l20Rd_pick.calls kj13 g s0_0 x1001_13 3 t220 t221 w0 _ ?side1 ?side2 A32.out).mono ?_); (case side1 => repeat (first | (with_reducible first | exact HI0.out | apply IsS110.alloc | apply IsS110.drewN | apply IsS110.drew | apply IsS110.set_1) | exact HI0.out)); (case side2 => repeat (first | (with_reducible first | exact HB.out | apply below_alloc | apply pw_below_drewN | apply below_drew1 | refine below_set ?_ (IsS110.ge HI0.out)) | exact HB.out)); rintro e w46 ⟨rfl, hi, hb, hk⟩; refine ⟨_, rfl, ?_⟩; have n0_ := Aside0.mk (Kd.R_mono (Kd.R_keep (IsS110.apart (show IsS110 w0 _ g s0_0 x1001_13 from by repeat (first | (with_reducible first | exact HI0.out | apply IsS110.alloc | apply IsS110.drewN | apply IsS110.drew | apply IsS110.set_1) | exact HI0.out)) (by (with_reducible repeat (first | apply Kd.R_alloc | apply Kd.R_drewN | apply Kd.R_drew)); exact HO_7.out) (by decide)) hk (fun _ h => h.2)) (fun _ h => h.1)); have n1_ := Aside0.mk (Kd.R_mono (Kd.R_keep (IsS110.apart (show IsS110 w0 _ g s0_0 x1001_13 from by repeat (first | (with_reducible first | exact HI0.out | apply IsS110.alloc | apply IsS110.drewN | apply IsS110.drew | apply IsS110.set_1) | exact HI0.out)) (by (with_reducible repeat (first | apply Kd.R_alloc | apply Kd.R_drewN | apply Kd.R_drew)); exact HO_8.out) (by decide)) hk (fun _ h => h.2)) (fun _ h => h.1)); have n2_ := Aside0.mk (KeepBut.trans (by repeat (first | (with_reducible first | exact HK.out | apply KeepBut.set_ | apply keep_drewN | apply keep_drew | apply keep_alloc) | exact HK.out)) hk (.inl rfl)); have n3_ := Aside0.mk (hb); have n4_ := Aside0.mk (hi); clear HO_7; clear HO_8; clear HK; clear HB; clear HI0; have HO_7 := n0_; have HO_8 := n1_; have HK := n2_; have HB := n3_; have HI0 := n4_; clear n0_ n1_ n2_ n3_ n4_; (try clear hb); (try clear hb2); (try clear hk); (try clear hi); have p230 : 0 ≤ (x11_2 : Int) := of_decide_eq_true (by first | (with_reducible assumption) | assumption); have q230 : x11_2 < (l1.length : Int) := of_decide_eq_true (by first | (with_reducible assumption) | assumption); obtain ⟨ad230, e230, hx230_0, hx230_1, hx230_2⟩ := at_T88 (Kd.C_foot_now HR1.out HK.out) x11_2 p230 q230; obtain rfl : ad219 = ad230 := (by injection e230); replace p230 := eq_true p230; replace q230 := eq_true q230) | ((with_reducible refine gate_builtin (b := .append) (xs := #[.tmp 65, .tmp 77]) rfl ?_); (try (refine gate_guard (by rfl) ?_; dsimp only)); at_builtin; refine Kd.R_append k34 w.heap.size rfl (.tmp 65) (.tmp 77) 24 34 (.agg #[(.int .i64 0), (.int .i64 0), (.int .i64 0), (.int .i64 0)]) 32 rfl Try.underlying24 info34 rfl (by decide) (by omega) u7 x7_2 (⟨x11_2, x10_1, wrap64 (x10_1 + ((rd_T88 l1 x11_2).f1)), (rd_T88 l1 x11_2).f0⟩ : S34) [.int .i64 x11_2, .int .i64 x10_1, .int .i64 (wrap64 (x10_1 + ((rd_T88 l1 x11_2).f1))), .int .i64 ((rd_T88 l1 x11_2).f0)] (fun _ => True) (fun _ => False) rfl rfl ?aP (fun _ hk => hk.elim) ?aF ?aO (Below.refl _ _) ?aS ?aL ?_; (case aP => exact k34_mkM _ _ _ (⟨x11_2, x10_1, wrap64 (x10_1 + ((rd_T88 l1 x11_2).f1)), (rd_T88 l1 x11_2).f0⟩ : S34)); (case aF => exact (fun _ _ => trivial)); (case aO => exact (by (with_reducible repeat (first | apply Kd.R_alloc | apply Kd.R_drewN | apply Kd.R_drew)); exact HO_7.out)); (case aS => exact (keep_size (w := w) (g := g) (row := none) (by repeat (first | (with_reducible first | exact HK.out | apply KeepBut.set_ | apply keep_drewN | apply keep_drew | apply keep_alloc) | exact HK.out)))); (case aL => have := LMc43.out; omega); intro v232 w47 ho hb hg hat; rw [← Ny231.out] at ho; have n0_ := Aside0.mk (Kd.R_over' (by (with_reducible repeat (first | apply Kd.R_alloc | apply Kd.R_drewN | apply Kd.R_drew)); exact HO_8.out) (Kd.R_typed (by (with_reducible repeat (first | apply Kd.R_alloc | apply Kd.R_drewN | apply Kd.R_drew)); exact HO_7.out)) (by decide) hg); have n1_ := Aside0.mk (IsS110.grown (by repeat (first | (with_reducible first | exact HI0.out | apply IsS110.alloc | apply IsS110.drewN | apply IsS110.drew | apply IsS110.set_1) | exact HI0.out)) hg (IsS110.own_ne HI0.out HO_7.out (by decide))); have n2_ := Aside0.mk (below_weaken (by repeat (first | (with_reducible first | exact HB.out | apply below_alloc | apply pw_below_drewN | apply below_drew1 | refine below_set ?_ (IsS110.ge HI0.out)) | exact HB.out)) HL.out hb); have n3_ := Aside0.mk (KeepBut.trans (by repeat (first | (with_reducible first | exact HK.out | apply KeepBut.set_ | apply keep_drewN | apply keep_drew | apply keep_alloc) | exact HK.out)) (KeepBut.of_grown hg g) (Kd.R_base2 HO_7.out)); have n4_ := Aside0.mk (ho); clear HO_8; clear HI0; clear HB; clear HK; clear HO_7; have HO_8 := n0_; have HI0 := n1_; have HB := n2_; have HK := n3_; have HO233 := n4_; clear n0_ n1_ n2_ n3_ n4_; clear ho hb hg hat; have p234 : 0 ≤ (x11_2 : Int) := of_decide_eq_true (by first | (with_reducible assumption) | assumption); have q234 : x11_2 < (l1.length : Int) := of_decide_eq_true (by first | (with_reducible assumption) | assumption); obtain ⟨ad234, e234, hx234_0, hx234_1, hx234_2⟩ := at_T88 (Kd.C_foot_now HR1.out HK.out) x11_2 p234 q234; obtain rfl : ad219 = ad234 := (by injection e234); replace p234 := eq_true p234; replace q234 := eq_true q234; have p45 : 0 ≤ (x11_2 : Int) := of_decide_eq_true (by first | (with_reducible assumption) | assumption); have q45 : (x11_2 : Int) < ((x8_2.length : Int) : Int) := of_decide_eq_true (by first | (with_reducible assumption) | assumption); obtain ⟨go45, co45, eo45, gb45, gl45, cl45, HG45⟩ := Kd.R_form HO_8.out (by omega); (first | cases eo45 | (injection eo45 with ea_ en_ ec_; (first | subst ea_ | (injection ea_ with ea_; subst ea_)); subst ec_; clear en_)); have GB45 := Aside0.mk gb45; have GG45 := Aside0.mk HG45; clear gb45 gl45 HG45; obtain ⟨hx45_0, hf45_0⟩ := Kd.R_celln 0 HO_8.out (x11_2 : Int) p45 q45; replace p45 := eq_true p45; replace q45 := eq_true q45; obtain ⟨hy48_, hz48_⟩ := Kd.R_celln 0 HO_8.out (x11_2 : Int) (of_decide_eq_true (by first | (with_reducible assumption) | assumption)) (of_decide_eq_true (by first | (with_reducible assumption) | assumption)); have HP48 := Kd.R_putg HO_8.out (x11_2 : Int) (wrap64 (x10_1 + ((rd_T88 l1 x11_2).f2)))) | ((with_reducible refine gate_store (t := 3) (p := 88) rfl ?_); refine store_event (t := 3) (p := 88) (v := ?vo_w49) (w1 := (w47.setCell ⟨go45, (x11_2 : Int).toNat, none⟩ (.int .i64 (wrap64 (x10_1 + ((rd_T88 l1 x11_2).f2)))))) ?hg ?ho ?hn ?hr ?_; (case ho => rfl); (case hg => rfl); (case hn => rfl); (case hr => first | (go_simp; done) | (go_simp; rfl)); intro w49 hw; have hg : w47.grownBy w49 (some go45) := (by rw [hw]; exact HP48.2); have hp_ : Kd.R (Kd.int .i64) 3 w49 w.heap.size (fun _ => True) (.slice (some ⟨go45, 0, none⟩) x8_2.length co45) y235 := (by rw [hw, Ny235.out]; exact HP48.1); clear HP48; have n0_ := Aside0.mk (hp_); have n1_ := Aside0.mk (IsS110.grown (by repeat (first | (with_reducible first | exact HI0.out | apply IsS110.alloc | apply IsS110.drewN | apply IsS110.drew | apply IsS110.set_1) | exact HI0.out)) hg (IsS110.own_ne HI0.out HO_8.out (by decide))); have n2_ := Aside0.mk (Kd.R_over' (v := (.slice (some ⟨go45, 0, none⟩) x8_2.length co45)) (by (with_reducible repeat (first | apply Kd.R_alloc | apply Kd.R_drewN | apply Kd.R_drew)); exact HO233.out) (Kd.R_typed HO_8.out) (by decide) hg); have n3_ := Aside0.mk ((by rw [hw]; exact below_set (HB.out) (Nat.le_trans HL.out GB45.out) : Below w0.heap.size w0 w49)); have n4_ := Aside0.mk (KeepBut.trans (by repeat (first | (with_reducible first | exact HK.out | apply KeepBut.set_ | apply keep_drewN | apply keep_drew | apply keep_alloc) | exact HK.out)) (KeepBut.of_grown hg g) (Kd.R_base2 HO_8.out)); clear HO_8; clear HI0; clear HO233; clear HB; clear HK; have HO_8 := n0_; have HI0 := n1_; have HO233 := n2_; have HB := n3_; have HK := n4_; clear n0_ n1_ n2_ n3_ n4_; clear hg hw hp_))
                 go_roundg kj13
                 case measure => have := HK1.out; have := HK2.out; have := HJ13.out; omega
                 case rel => exact ⟨(y231), (y235), (wrap64 (x11_2 + 1)), (t221), (by first | rfl | (simp; done) | (simp [*]; done)), H', ⟨by have := HK1.out; have := HK2.out; have := HJ13.out; omega⟩, ⟨by (with_reducible repeat (first | apply Kd.R_alloc | apply Kd.R_drewN | apply Kd.R_drew)); exact HO233.out⟩, ⟨by (with_reducible repeat (first | apply Kd.R_alloc | apply Kd.R_drewN | apply Kd.R_drew)); exact HO_8.out⟩, ⟨by repeat (first | (with_reducible first | exact HI0.out | apply IsS110.alloc | apply IsS110.drewN | apply IsS110.drew | apply IsS110.set_1) | exact HI0.out)⟩, ⟨by repeat (first | (with_reducible first | exact HK.out | apply KeepBut.set_ | apply keep_drewN | apply keep_drew | apply keep_alloc) | exact HK.out)⟩, ⟨by repeat (first | (with_reducible first | exact HB.out | apply below_alloc | apply pw_below_drewN | apply below_drew1 | refine below_set ?_ (IsS110.ge HI0.out)) | exact HB.out)⟩⟩
                ·rw [if_neg c44] at H
                 exact absurd H (by simp)
               ·rw [if_neg c43] at H
                exact absurd H (by simp)
             ·rw [if_neg c31] at H
              exact absurd H (by simp)
            ·rw [if_neg c30] at H
             exact absurd H (by simp)
        ·rw [if_neg c13] at H
         have c13b0 : decide (x11_2 < (l1.length : Int)) = false := decide_eq_false c13
         clear c13
         have H' := Aside0.mk H
         clear H
         go_wp2
         go_roundg k2
         case measure => have := HK1.out; have := HK2.out; omega
         case rel => exact ⟨(x7_2), (x8_2), (wrap64 (x10_1 + 1)), (x1001_2), (by first | rfl | (simp; done) | (simp [*]; done)), H', ⟨by have := HK1.out; have := HK2.out; omega⟩, ⟨by (with_reducible repeat (first | apply Kd.R_alloc | apply Kd.R_drewN | apply Kd.R_drew)); exact HO_7.out⟩, ⟨by (with_reducible repeat (first | apply Kd.R_alloc | apply Kd.R_drewN | apply Kd.R_drew)); exact HO_8.out⟩, ⟨by repeat (first | (with_reducible first | exact HI0.out | apply IsS110.alloc | apply IsS110.drewN | apply IsS110.drew | apply IsS110.set_1) | exact HI0.out)⟩, ⟨by repeat (first | (with_reducible first | exact HK.out | apply KeepBut.set_ | apply keep_drewN | apply keep_drew | apply keep_alloc) | exact HK.out)⟩, ⟨by repeat (first | (with_reducible first | exact HB.out | apply below_alloc | apply pw_below_drewN | apply below_drew1 | refine below_set ?_ (IsS110.ge HI0.out)) | exact HB.out)⟩⟩
     ·rw [if_neg c12] at H
      have c12b0 : decide (x10_1 < 100) = false := decide_eq_false c12
      clear c12
      have HC50 := Aside0.mk H
      clear H
      go_upto_region 16 with (fail)
      go_cut [96] (fun v96 wc => ∃ (kq : Nat) (x96_49 : Bool) (x1001_49 : Int), v96 = .bool x96_49 ∧ Aside0 (spec_l20Jobs.j3 kq l1 x7_1 x96_49 s0_0 x1001_49 = some (r1, r2)) ∧ Aside0 (kq ≤ k1) ∧ Aside0 (Kd.R k34 34 wc w.heap.size (fun _ => True) u7 x7_1) ∧ Aside0 (IsS110 w0 wc g s0_0 x1001_49) ∧ Aside0 (KeepBut w wc g none) ∧ Aside0 (Below w0.heap.size w0 wc))
      case first =>
       have H := HC50.out
       clear HC50
       replace H := Option.bind_eq_some_iff.mp H
       obtain ⟨⟨t236, t237⟩, A510, H⟩ := H
       replace H : (if t236 = true then (spec_l20Jobs.j3 k1 l1 x7_1 (decide ((x7_1.length : Int) > 0)) s0_0 t237) else (spec_l20Jobs.j3 k1 l1 x7_1 false s0_0 t237)) = some (r1, r2) := H
       have A51 := Aside0.mk A510
       clear A510
       by_cases c52 : t236 = true
       ·subst c52
        have H1 : (spec_l20Jobs.j3 k1 l1 x7_1 (decide ((x7_1.length : Int) > 0)) s0_0 t237) = some (r1, r2) := by rw [if_pos rfl] at H; exact H
        clear H
        have H := H1
        clear H1
        have H' := Aside0.mk H
        clear H
        go_wp2_with (first | ((with_reducible refine gate_callee (f := 89) rfl ?_); refine goesL_ (some 91) rfl rfl Try.func89 (by kernel_rfl) rfl #[.pointer (some ⟨g, 0, none⟩), .int .i64 a2] rfl (by (try simp only [List.map_toArray, List.map_cons, List.map_nil]); first | done | rfl | (simp only [List.length_drop, List.length_take]; rfl)) ?_; (with_reducible refine (spec_l20Rd_odd.calls k1 g s0_0 x1001_1 a2 true t237 w0 _ ?side1 ?side2 A51.out).mono ?_); (case side1 => repeat (first | (with_reducible first | exact HI0.out | apply IsS110.alloc | apply IsS110.drewN | apply IsS110.drew | apply IsS110.set_1) | exact HI0.out)); (case side2 => repeat (first | (with_reducible first | exact HB.out | apply below_alloc | apply pw_below_drewN | apply below_drew1 | refine below_set ?_ (IsS110.ge HI0.out)) | exact HB.out)); rintro e w53 ⟨rfl, hi, hb, hk⟩; refine ⟨_, rfl, ?_⟩; have n0_ := Aside0.mk (Kd.R_mono (Kd.R_keep (IsS110.apart (show IsS110 w0 _ g s0_0 x1001_1 from by repeat (first | (with_reducible first | exact HI0.out | apply IsS110.alloc | apply IsS110.drewN | apply IsS110.drew | apply IsS110.set_1) | exact HI0.out)) (by (with_reducible repeat (first | apply Kd.R_alloc | apply Kd.R_drewN | apply Kd.R_drew)); exact HO_7.out) (by decide)) hk (fun _ h => h.2)) (fun _ h => h.1)); have n1_ := Aside0.mk (Kd.R_mono (Kd.R_keep (IsS110.apart (show IsS110 w0 _ g s0_0 x1001_1 from by repeat (first | (with_reducible first | exact HI0.out | apply IsS110.alloc | apply IsS110.drewN | apply IsS110.drew | apply IsS110.set_1) | exact HI0.out)) (by (with_reducible repeat (first | apply Kd.R_alloc | apply Kd.R_drewN | apply Kd.R_drew)); exact HO_8.out) (by decide)) hk (fun _ h => h.2)) (fun _ h => h.1)); have n2_ := Aside0.mk (KeepBut.trans (by repeat (first | (with_reducible first | exact HK.out | apply KeepBut.set_ | apply keep_drewN | apply keep_drew | apply keep_alloc) | exact HK.out)) hk (.inl rfl)); have n3_ := Aside0.mk (hb); have n4_ := Aside0.mk (hi); clear HO_7; clear HO_8; clear HK; clear HB; clear HI0; have HO_7 := n0_; have HO_8 := n1_; have HK := n2_; have HB := n3_; have HI0 := n4_; clear n0_ n1_ n2_ n3_ n4_; (try clear hb); (try clear hb2); (try clear hk); (try clear hi); obtain ⟨Ao54, co54, eo54⟩ := Kd.R_slice HO_7.out; subst eo54))
        go_meet
        case rel => exact ⟨_, (decide ((x7_1.length : Int) > 0)), (t237), (by first | rfl | (simp; done) | (simp [*]; done)), H', ⟨by have := HK1.out; first | omega | exact Nat.le_refl _⟩, ⟨by (with_reducible repeat (first | apply Kd.R_alloc | apply Kd.R_drewN | apply Kd.R_drew)); exact HO_7.out⟩, ⟨by repeat (first | (with_reducible first | exact HI0.out | apply IsS110.alloc | apply IsS110.drewN | apply IsS110.drew | apply IsS110.set_1) | exact HI0.out)⟩, ⟨by repeat (first | (with_reducible first | exact HK.out | apply KeepBut.set_ | apply keep_drewN | apply keep_drew | apply keep_alloc) | exact HK.out)⟩, ⟨by repeat (first | (with_reducible first | exact HB.out | apply below_alloc | apply pw_below_drewN | apply below_drew1 | refine below_set ?_ (IsS110.ge HI0.out)) | exact HB.out)⟩⟩
       ·replace c52 := Bool.eq_false_iff.mpr c52
        subst c52
        have H1 : (spec_l20Jobs.j3 k1 l1 x7_1 false s0_0 t237) = some (r1, r2) := by rw [if_neg (show ¬ (false = true) by decide)] at H; exact H
        clear H
        have H := H1
        clear H1
        have H' := Aside0.mk H
        clear H
        go_wp2_with (first | ((with_reducible refine gate_callee (f := 89) rfl ?_); refine goesL_ (some 91) rfl rfl Try.func89 (by kernel_rfl) rfl #[.pointer (some ⟨g, 0, none⟩), .int .i64 a2] rfl (by (try simp only [List.map_toArray, List.map_cons, List.map_nil]); first | done | rfl | (simp only [List.length_drop, List.length_take]; rfl)) ?_; (with_reducible refine (spec_l20Rd_odd.calls k1 g s0_0 x1001_1 a2 false t237 w0 _ ?side1 ?side2 A51.out).mono ?_); (case side1 => repeat (first | (with_reducible first | exact HI0.out | apply IsS110.alloc | apply IsS110.drewN | apply IsS110.drew | apply IsS110.set_1) | exact HI0.out)); (case side2 => repeat (first | (with_reducible first | exact HB.out | apply below_alloc | apply pw_below_drewN | apply below_drew1 | refine below_set ?_ (IsS110.ge HI0.out)) | exact HB.out)); rintro e w55 ⟨rfl, hi, hb, hk⟩; refine ⟨_, rfl, ?_⟩; have n0_ := Aside0.mk (Kd.R_mono (Kd.R_keep (IsS110.apart (show IsS110 w0 _ g s0_0 x1001_1 from by repeat (first | (with_reducible first | exact HI0.out | apply IsS110.alloc | apply IsS110.drewN | apply IsS110.drew | apply IsS110.set_1) | exact HI0.out)) (by (with_reducible repeat (first | apply Kd.R_alloc | apply Kd.R_drewN | apply Kd.R_drew)); exact HO_7.out) (by decide)) hk (fun _ h => h.2)) (fun _ h => h.1)); have n1_ := Aside0.mk (Kd.R_mono (Kd.R_keep (IsS110.apart (show IsS110 w0 _ g s0_0 x1001_1 from by repeat (first | (with_reducible first | exact HI0.out | apply IsS110.alloc | apply IsS110.drewN | apply IsS110.drew | apply IsS110.set_1) | exact HI0.out)) (by (with_reducible repeat (first | apply Kd.R_alloc | apply Kd.R_drewN | apply Kd.R_drew)); exact HO_8.out) (by decide)) hk (fun _ h => h.2)) (fun _ h => h.1)); have n2_ := Aside0.mk (KeepBut.trans (by repeat (first | (with_reducible first | exact HK.out | apply KeepBut.set_ | apply keep_drewN | apply keep_drew | apply keep_alloc) | exact HK.out)) hk (.inl rfl)); have n3_ := Aside0.mk (hb); have n4_ := Aside0.mk (hi); clear HO_7; clear HO_8; clear HK; clear HB; clear HI0; have HO_7 := n0_; have HO_8 := n1_; have HK := n2_; have HB := n3_; have HI0 := n4_; clear n0_ n1_ n2_ n3_ n4_; (try clear hb); (try clear hb2); (try clear hk); (try clear hi)))
        go_meet
        case rel => exact ⟨_, (false), (t237), (by first | rfl | (simp; done) | (simp [*]; done)), H', ⟨by have := HK1.out; first | omega | exact Nat.le_refl _⟩, ⟨by (with_reducible repeat (first | apply Kd.R_alloc | apply Kd.R_drewN | apply Kd.R_drew)); exact HO_7.out⟩, ⟨by repeat (first | (with_reducible first | exact HI0.out | apply IsS110.alloc | apply IsS110.drewN | apply IsS110.drew | apply IsS110.set_1) | exact HI0.out)⟩, ⟨by repeat (first | (with_reducible first | exact HK.out | apply KeepBut.set_ | apply keep_drewN | apply keep_drew | apply keep_alloc) | exact HK.out)⟩, ⟨by repeat (first | (with_reducible first | exact HB.out | apply below_alloc | apply pw_below_drewN | apply below_drew1 | refine below_set ?_ (IsS110.ge HI0.out)) | exact HB.out)⟩⟩
      case rest =>
       clear HC50
       try clear c1
       try clear c2
       try clear p2
       try clear q2
       try clear hx2
       try clear c3
       try clear p3
       try clear q3
       try clear hx3
       try clear hf3
       try clear c4
       try clear c4b0
       try clear c4b1
       try clear p4
       try clear q4
       try clear hx4
       try clear hf4
       try clear c5
       try clear c5b0
       try clear c5b1
       try clear c6
       try clear p6
       try clear c8
       try clear c12
       try clear c12b0
       try clear c13
       try clear c13b0
       try clear c15
       try clear c15b0
       try clear c16
       try clear c16b0
       try clear c17
       try clear c17b0
       try clear c19
       try clear c19b0
       try clear c19b1
       try clear p21
       try clear q21
       try clear hx21
       try clear c22
       try clear c22b0
       try clear p22
       try clear q22
       try clear hx22
       try clear p23
       try clear q23
       try clear hx23
       try clear c29
       try clear c30
       try clear c30b0
       try clear c31
       try clear c31b0
       try clear c33
       try clear c33b0
       try clear c33b1
       try clear c35
       try clear c36
       try clear c36b0
       try clear p37
       try clear q37
       try clear hx37
       try clear hf37
       try clear c43
       try clear c44
       try clear c44b0
       try clear p45
       try clear q45
       try clear hx45
       try clear hf45
       try clear c47
       try clear c52
       try clear hx216_0
       try clear hx219_0
       try clear hx219_1
       try clear hx219_2
       try clear hx224_0
       try clear hx224_1
       try clear hx224_2
       try clear hx228_0
       try clear hx228_1
       try clear hx228_2
       try clear hx230_0
       try clear hx230_1
       try clear hx230_2
       try clear hx234_0
       try clear hx234_1
       try clear hx234_2
       try clear hx37_0
       try clear hx45_0
       try clear p2
       try clear p21
       try clear p216
       try clear p219
       try clear p224
       try clear p228
       try clear p230
       try clear p234
       try clear p37
       try clear p45
       try clear p6
       try clear q2
       try clear q21
       try clear q216
       try clear q219
       try clear q224
       try clear q228
       try clear q230
       try clear q234
       try clear q37
       try clear q45
       obtain ⟨kq, x96_49, x1001_49, rfl, HA, HJ49, HO_7, HI0, HK, HB⟩ := hcut
       cases kq with
       | zero => exact absurd HA.out (by simp [spec_l20Jobs.j3])
       | succ kj49 =>
        have H := HA.out
        clear HA
        simp only [spec_l20Jobs.j3] at H
        by_cases c56 : x96_49 = true
        ·subst c56
         have H1 : ((spec_l20Rd_pick.f kj49 s0_0 x1001_49 (x7_1.length : Int)).bind fun bt238 => ((spec_l20Rd_pick.f kj49 s0_0 bt238.2 6).bind fun bt240 => (if bt240.1 = 0 then ((some (([(-1), (l1.length : Int)] : List Int) : List Int)).bind fun y242 => ((spec_l20Rd_pick.f kj49 s0_0 bt240.2 2).bind fun bt245 => (if 0 ≤ bt245.1 then (if bt245.1 < (y242.length : Int) then (if 0 ≤ bt238.1 then (if bt238.1 < (x7_1.length : Int) then (some ((x7_1.set (bt238.1 : Int).toNat (⟨rd y242 bt245.1, (rd_T34 x7_1 bt238.1).f1, (rd_T34 x7_1 bt238.1).f2, (rd_T34 x7_1 bt238.1).f3⟩ : S34)), bt245.2)) else (none)) else (none)) else (none)) else (none)))) else (if bt240.1 = 1 then (if 0 ≤ bt238.1 then (if bt238.1 < (x7_1.length : Int) then ((some (([(-1), 120, wrap64 (((rd_T34 x7_1 bt238.1).f1) + 1)] : List Int) : List Int)).bind fun y250 => ((spec_l20Rd_pick.f kj49 s0_0 bt240.2 3).bind fun bt253 => (if 0 ≤ bt253.1 then (if bt253.1 < (y250.length : Int) then (some ((x7_1.set (bt238.1 : Int).toNat (⟨(rd_T34 x7_1 bt238.1).f0, rd y250 bt253.1, (rd_T34 x7_1 bt238.1).f2, (rd_T34 x7_1 bt238.1).f3⟩ : S34)), bt253.2)) else (none)) else (none)))) else (none)) else (none)) else (if bt240.1 = 2 then (if 0 ≤ bt238.1 then (if bt238.1 < (x7_1.length : Int) then (some ((x7_1.set (bt238.1 : Int).toNat (⟨(rd_T34 x7_1 bt238.1).f0, (rd_T34 x7_1 bt238.1).f1, wrap64 (((rd_T34 x7_1 bt238.1).f2) + 1), (rd_T34 x7_1 bt238.1).f3⟩ : S34)), bt240.2)) else (none)) else (none)) else (if bt240.1 = 3 then ((some (([0, 9] : List Int) : List Int)).bind fun y259 => ((spec_l20Rd_pick.f kj49 s0_0 bt240.2 2).bind fun bt262 => (if 0 ≤ bt262.1 then (if bt262.1 < (y259.length : Int) then (if 0 ≤ bt238.1 then (if bt238.1 < (x7_1.length : Int) then (some ((x7_1.set (bt238.1 : Int).toNat (⟨(rd_T34 x7_1 bt238.1).f0, (rd_T34 x7_1 bt238.1).f1, (rd_T34 x7_1 bt238.1).f2, rd y259 bt262.1⟩ : S34)), bt262.2)) else (none)) else (none)) else (none)) else (none)))) else (if bt240.1 = 4 then (if 0 ≤ bt238.1 then (if bt238.1 < (x7_1.length : Int) then (if x7_1.length < 4398046511104 then (some ((x7_1 ++ [(⟨(rd_T34 x7_1 bt238.1).f0, (rd_T34 x7_1 bt238.1).f1, (rd_T34 x7_1 bt238.1).f2, (rd_T34 x7_1 bt238.1).f3⟩ : S34)]), bt240.2)) else (none)) else (none)) else (none)) else (spec_l20Jobs.l2 kj49 x7_1 s0_0 bt240.2)))))))) = some (r1, r2) := by rw [if_pos rfl] at H; exact H
         clear H
         have H := H1
         clear H1
         replace H := Option.bind_eq_some_iff.mp H
         obtain ⟨⟨t238, t239⟩, A570, H⟩ := H
         replace H : ((spec_l20Rd_pick.f kj49 s0_0 t239 6).bind fun bt240 => (if bt240.1 = 0 then ((some (([(-1), (l1.length : Int)] : List Int) : List Int)).bind fun y242 => ((spec_l20Rd_pick.f kj49 s0_0 bt240.2 2).bind fun bt245 => (if 0 ≤ bt245.1 then (if bt245.1 < (y242.length : Int) then (if 0 ≤ t238 then (if t238 < (x7_1.length : Int) then (some ((x7_1.set (t238 : Int).toNat (⟨rd y242 bt245.1, (rd_T34 x7_1 t238).f1, (rd_T34 x7_1 t238).f2, (rd_T34 x7_1 t238).f3⟩ : S34)), bt245.2)) else (none)) else (none)) else (none)) else (none)))) else (if bt240.1 = 1 then (if 0 ≤ t238 then (if t238 < (x7_1.length : Int) then ((some (([(-1), 120, wrap64 (((rd_T34 x7_1 t238).f1) + 1)] : List Int) : List Int)).bind fun y250 => ((spec_l20Rd_pick.f kj49 s0_0 bt240.2 3).bind fun bt253 => (if 0 ≤ bt253.1 then (if bt253.1 < (y250.length : Int) then (some ((x7_1.set (t238 : Int).toNat (⟨(rd_T34 x7_1 t238).f0, rd y250 bt253.1, (rd_T34 x7_1 t238).f2, (rd_T34 x7_1 t238).f3⟩ : S34)), bt253.2)) else (none)) else (none)))) else (none)) else (none)) else (if bt240.1 = 2 then (if 0 ≤ t238 then (if t238 < (x7_1.length : Int) then (some ((x7_1.set (t238 : Int).toNat (⟨(rd_T34 x7_1 t238).f0, (rd_T34 x7_1 t238).f1, wrap64 (((rd_T34 x7_1 t238).f2) + 1), (rd_T34 x7_1 t238).f3⟩ : S34)), bt240.2)) else (none)) else (none)) else (if bt240.1 = 3 then ((some (([0, 9] : List Int) : List Int)).bind fun y259 => ((spec_l20Rd_pick.f kj49 s0_0 bt240.2 2).bind fun bt262 => (if 0 ≤ bt262.1 then (if bt262.1 < (y259.length : Int) then (if 0 ≤ t238 then (if t238 < (x7_1.length : Int) then (some ((x7_1.set (t238 : Int).toNat (⟨(rd_T34 x7_1 t238).f0, (rd_T34 x7_1 t238).f1, (rd_T34 x7_1 t238).f2, rd y259 bt262.1⟩ : S34)), bt262.2)) else (none)) else (none)) else (none)) else (none)))) else (if bt240.1 = 4 then (if 0 ≤ t238 then (if t238 < (x7_1.length : Int) then (if x7_1.length < 4398046511104 then (some ((x7_1 ++ [(⟨(rd_T34 x7_1 t238).f0, (rd_T34 x7_1 t238).f1, (rd_T34 x7_1 t238).f2, (rd_T34 x7_1 t238).f3⟩ : S34)]), bt240.2)) else (none)) else (none)) else (none)) else (spec_l20Jobs.l2 kj49 x7_1 s0_0 bt240.2))))))) = some (r1, r2) := H
         have A57 := Aside0.mk A570
         clear A570
         replace H := Option.bind_eq_some_iff.mp H
         obtain ⟨⟨t240, t241⟩, A580, H⟩ := H
         replace H : (if t240 = 0 then ((some (([(-1), (l1.length : Int)] : List Int) : List Int)).bind fun y242 => ((spec_l20Rd_pick.f kj49 s0_0 t241 2).bind fun bt245 => (if 0 ≤ bt245.1 then (if bt245.1 < (y242.length : Int) then (if 0 ≤ t238 then (if t238 < (x7_1.length : Int) then (some ((x7_1.set (t238 : Int).toNat (⟨rd y242 bt245.1, (rd_T34 x7_1 t238).f1, (rd_T34 x7_1 t238).f2, (rd_T34 x7_1 t238).f3⟩ : S34)), bt245.2)) else (none)) else (none)) else (none)) else (none)))) else (if t240 = 1 then (if 0 ≤ t238 then (if t238 < (x7_1.length : Int) then ((some (([(-1), 120, wrap64 (((rd_T34 x7_1 t238).f1) + 1)] : List Int) : List Int)).bind fun y250 => ((spec_l20Rd_pick.f kj49 s0_0 t241 3).bind fun bt253 => (if 0 ≤ bt253.1 then (if bt253.1 < (y250.length : Int) then (some ((x7_1.set (t238 : Int).toNat (⟨(rd_T34 x7_1 t238).f0, rd y250 bt253.1, (rd_T34 x7_1 t238).f2, (rd_T34 x7_1 t238).f3⟩ : S34)), bt253.2)) else (none)) else (none)))) else (none)) else (none)) else (if t240 = 2 then (if 0 ≤ t238 then (if t238 < (x7_1.length : Int) then (some ((x7_1.set (t238 : Int).toNat (⟨(rd_T34 x7_1 t238).f0, (rd_T34 x7_1 t238).f1, wrap64 (((rd_T34 x7_1 t238).f2) + 1), (rd_T34 x7_1 t238).f3⟩ : S34)), t241)) else (none)) else (none)) else (if t240 = 3 then ((some (([0, 9] : List Int) : List Int)).bind fun y259 => ((spec_l20Rd_pick.f kj49 s0_0 t241 2).bind fun bt262 => (if 0 ≤ bt262.1 then (if bt262.1 < (y259.length : Int) then (if 0 ≤ t238 then (if t238 < (x7_1.length : Int) then (some ((x7_1.set (t238 : Int).toNat (⟨(rd_T34 x7_1 t238).f0, (rd_T34 x7_1 t238).f1, (rd_T34 x7_1 t238).f2, rd y259 bt262.1⟩ : S34)), bt262.2)) else (none)) else (none)) else (none)) else (none)))) else (if t240 = 4 then (if 0 ≤ t238 then (if t238 < (x7_1.length : Int) then (if x7_1.length < 4398046511104 then (some ((x7_1 ++ [(⟨(rd_T34 x7_1 t238).f0, (rd_T34 x7_1 t238).f1, (rd_T34 x7_1 t238).f2, (rd_T34 x7_1 t238).f3⟩ : S34)]), t241)) else (none)) else (none)) else (none)) else (spec_l20Jobs.l2 kj49 x7_1 s0_0 t241)))))) = some (r1, r2) := H
         have A58 := Aside0.mk A580
         clear A580
         by_cases c59 : t240 = 0
         ·rw [if_pos c59] at H
          have c59b0 : (t240 == 0) = true := beq_iff_eq.mpr c59
          have c59b1 : (t240 != 0) = false := bne_eq_false_iff_eq.mpr c59
          clear c59
          obtain ⟨y242, hy242⟩ : ∃ y_ : List Int, y_ = (([(-1), (l1.length : Int)] : List Int)) := ⟨_, rfl⟩
          replace H : ((spec_l20Rd_pick.f kj49 s0_0 t241 2).bind fun bt245 => (if 0 ≤ bt245.1 then (if bt245.1 < (y242.length : Int) then (if 0 ≤ t238 then (if t238 < (x7_1.length : Int) then (some ((x7_1.set (t238 : Int).toNat (⟨rd y242 bt245.1, (rd_T34 x7_1 t238).f1, (rd_T34 x7_1 t238).f2, (rd_T34 x7_1 t238).f3⟩ : S34)), bt245.2)) else (none)) else (none)) else (none)) else (none))) = some (r1, r2) := by first | (rw [hy242]; with_reducible exact H) | (have H2_ := (Option.bind_some _ _).symm.trans H; rw [hy242]; with_reducible exact H2_) | (have H2_ := (Option.bind_some _ _).symm.trans H; with_reducible exact H2_) | with_reducible exact H | (rw [hy242]; exact H) | exact H
          have Ny242 := Aside0.mk hy242
          clear hy242
          replace H := Option.bind_eq_some_iff.mp H
          obtain ⟨⟨t245, t246⟩, A600, H⟩ := H
          replace H : (if 0 ≤ t245 then (if t245 < (y242.length : Int) then (if 0 ≤ t238 then (if t238 < (x7_1.length : Int) then (some ((x7_1.set (t238 : Int).toNat (⟨rd y242 t245, (rd_T34 x7_1 t238).f1, (rd_T34 x7_1 t238).f2, (rd_T34 x7_1 t238).f3⟩ : S34)), t246)) else (none)) else (none)) else (none)) else (none)) = some (r1, r2) := H
          have A60 := Aside0.mk A600
          clear A600
          by_cases c61 : 0 ≤ t245
          ·rw [if_pos c61] at H
           have c61b0 : decide (0 ≤ t245) = true := decide_eq_true c61
           clear c61
           by_cases c62 : t245 < (y242.length : Int)
           ·rw [if_pos c62] at H
            have c62b0 : decide (t245 < (y242.length : Int)) = true := decide_eq_true c62
            clear c62
            by_cases c63 : 0 ≤ t238
            ·rw [if_pos c63] at H
             have c63b0 : decide (0 ≤ t238) = true := decide_eq_true c63
             clear c63
             by_cases c64 : t238 < (x7_1.length : Int)
             ·rw [if_pos c64] at H
              have c64b0 : decide (t238 < (x7_1.length : Int)) = true := decide_eq_true c64
              clear c64
              obtain ⟨y248, hy248⟩ : ∃ y_ : List (S34), y_ = (x7_1.set (t238 : Int).toNat (⟨rd y242 t245, (rd_T34 x7_1 t238).f1, (rd_T34 x7_1 t238).f2, (rd_T34 x7_1 t238).f3⟩ : S34)) := ⟨_, rfl⟩
              replace H : (some (y248, t246)) = some (r1, r2) := by first | (rw [hy248]; with_reducible exact H) | (have H2_ := (Option.bind_some _ _).symm.trans H; rw [hy248]; with_reducible exact H2_) | (have H2_ := (Option.bind_some _ _).symm.trans H; with_reducible exact H2_) | with_reducible exact H | (rw [hy248]; exact H) | exact H
              have Ny248 := Aside0.mk hy248
              clear hy248
              simp only [Option.some.injEq, Prod.mk.injEq] at H
              obtain ⟨rfl, rfl⟩ := H
              obtain ⟨Ao66, co66, eo66⟩ := Kd.R_slice HO_7.out
              subst eo66
              go_wp2_with (first | ((with_reducible refine gate_callee (f := 68) rfl ?_); refine goesL_ (some 100) rfl rfl Try.func68 (by kernel_rfl) rfl #[.pointer (some ⟨g, 0, none⟩), .int .i64 (x7_1.length : Int)] rfl (by (try simp only [List.map_toArray, List.map_cons, List.map_nil]); first | done | rfl | (simp only [List.length_drop, List.length_take]; rfl)) ?_; (with_reducible refine (spec_l20Rd_pick.calls kj49 g s0_0 x1001_49 (x7_1.length : Int) t238 t239 w0 _ ?side1 ?side2 A57.out).mono ?_); (case side1 => repeat (first | (with_reducible first | exact HI0.out | apply IsS110.alloc | apply IsS110.drewN | apply IsS110.drew | apply IsS110.set_1) | exact HI0.out)); (case side2 => repeat (first | (with_reducible first | exact HB.out | apply below_alloc | apply pw_below_drewN | apply below_drew1 | refine below_set ?_ (IsS110.ge HI0.out)) | exact HB.out)); rintro e w67 ⟨rfl, hi, hb, hk⟩; refine ⟨_, rfl, ?_⟩; have n0_ := Aside0.mk (Kd.R_mono (Kd.R_keep (IsS110.apart (show IsS110 w0 _ g s0_0 x1001_49 from by repeat (first | (with_reducible first | exact HI0.out | apply IsS110.alloc | apply IsS110.drewN | apply IsS110.drew | apply IsS110.set_1) | exact HI0.out)) (by (with_reducible repeat (first | apply Kd.R_alloc | apply Kd.R_drewN | apply Kd.R_drew)); exact HO_7.out) (by decide)) hk (fun _ h => h.2)) (fun _ h => h.1)); have n1_ := Aside0.mk (KeepBut.trans (by repeat (first | (with_reducible first | exact HK.out | apply KeepBut.set_ | apply keep_drewN | apply keep_drew | apply keep_alloc) | exact HK.out)) hk (.inl rfl)); have n2_ := Aside0.mk (hb); have n3_ := Aside0.mk (hi); clear HO_7; clear HK; clear HB; clear HI0; have HO_7 := n0_; have HK := n1_; have HB := n2_; have HI0 := n3_; clear n0_ n1_ n2_ n3_; (try clear hb); (try clear hb2); (try clear hk); (try clear hi)) | ((with_reducible refine gate_callee (f := 68) rfl ?_); refine goesL_ (some 102) rfl rfl Try.func68 (by kernel_rfl) rfl #[.pointer (some ⟨g, 0, none⟩), .int .i64 6] rfl (by (try simp only [List.map_toArray, List.map_cons, List.map_nil]); first | done | rfl | (simp only [List.length_drop, List.length_take]; rfl)) ?_; (with_reducible refine (spec_l20Rd_pick.calls kj49 g s0_0 t239 6 t240 t241 w0 _ ?side1 ?side2 A58.out).mono ?_); (case side1 => repeat (first | (with_reducible first | exact HI0.out | apply IsS110.alloc | apply IsS110.drewN | apply IsS110.drew | apply IsS110.set_1) | exact HI0.out)); (case side2 => repeat (first | (with_reducible first | exact HB.out | apply below_alloc | apply pw_below_drewN | apply below_drew1 | refine below_set ?_ (IsS110.ge HI0.out)) | exact HB.out)); rintro e w68 ⟨rfl, hi, hb, hk⟩; refine ⟨_, rfl, ?_⟩; have n0_ := Aside0.mk (Kd.R_mono (Kd.R_keep (IsS110.apart (show IsS110 w0 _ g s0_0 t239 from by repeat (first | (with_reducible first | exact HI0.out | apply IsS110.alloc | apply IsS110.drewN | apply IsS110.drew | apply IsS110.set_1) | exact HI0.out)) (by (with_reducible repeat (first | apply Kd.R_alloc | apply Kd.R_drewN | apply Kd.R_drew)); exact HO_7.out) (by decide)) hk (fun _ h => h.2)) (fun _ h => h.1)); have n1_ := Aside0.mk (KeepBut.trans (by repeat (first | (with_reducible first | exact HK.out | apply KeepBut.set_ | apply keep_drewN | apply keep_drew | apply keep_alloc) | exact HK.out)) hk (.inl rfl)); have n2_ := Aside0.mk (hb); have n3_ := Aside0.mk (hi); clear HO_7; clear HK; clear HB; clear HI0; have HO_7 := n0_; have HK := n1_; have HB := n2_; have HI0 := n3_; clear n0_ n1_ n2_ n3_; (try clear hb); (try clear hb2); (try clear hk); (try clear hi)) | ((with_reducible refine gate_dst (N := 116) rfl ?_); (try (refine gate_guard (by rfl) ?_; dsimp only)); refine Kd.R_lit (Kd.int .i64) _ 3 ?hg (N := 116) ?hd (xs := ([(-1), (l1.length : Int)] : List Int)) (inner := [.int .i64 (-1), .int .i64 (l1.length : Int)]) (ok := fun _ => True) (okp := fun _ => True) ?hr ?hp (fun _ hk => hk) trivial (Below.refl _ _) (Nat.le_refl _) (by simp) ?_; (case hd => rfl); (case hg => rfl); (case hr => first | (go_simp; done) | (go_simp; rfl)); (case hp => exact (Reps.one (show Kd.M (Kd.int .i64) _ _ _ (-1) [.int .i64 (-1)] from rfl) (Reps.one (show Kd.M (Kd.int .i64) _ _ _ (l1.length : Int) [.int .i64 (l1.length : Int)] from rfl) (Reps.none _ _)))); intro v243 w69 ho70 hb hg_ hnew_; clear hg_ hnew_; (first | rw [← Ny242.out] at ho70 | (simp only [Int.reduceToNat] at ho70; rw [← Ny242.out] at ho70)); have n0_ := Aside0.mk (Kd.R_below (by (with_reducible repeat (first | apply Kd.R_alloc | apply Kd.R_drewN | apply Kd.R_drew)); exact HO_7.out) hb); have n1_ := Aside0.mk (Kd.R_lower ho70 (keep_size (w := w) (g := g) (row := none) (by repeat (first | (with_reducible first | exact HK.out | apply KeepBut.set_ | apply keep_drewN | apply keep_drew | apply keep_alloc) | exact HK.out)))); have n2_ := Aside0.mk (IsS110.below (by repeat (first | (with_reducible first | exact HI0.out | apply IsS110.alloc | apply IsS110.drewN | apply IsS110.drew | apply IsS110.set_1) | exact HI0.out)) hb); have n3_ := Aside0.mk (KeepBut.trans (by repeat (first | (with_reducible first | exact HK.out | apply KeepBut.set_ | apply keep_drewN | apply keep_drew | apply keep_alloc) | exact HK.out)) (KeepBut.of_below hb g none) (.inl rfl)); have n4_ := Aside0.mk (below_step (by repeat (first | (with_reducible first | exact HB.out | apply below_alloc | apply pw_below_drewN | apply below_drew1 | refine below_set ?_ (IsS110.ge HI0.out)) | exact HB.out)) hb); clear HO_7; clear HI0; clear HK; clear HB; have HO_7 := n0_; have HO244 := n1_; have HI0 := n2_; have HK := n3_; have HB := n4_; clear n0_ n1_ n2_ n3_ n4_; clear hb ho70) | ((with_reducible refine gate_callee (f := 68) rfl ?_); refine goesL_ (some 118) rfl rfl Try.func68 (by kernel_rfl) rfl #[.pointer (some ⟨g, 0, none⟩), .int .i64 2] rfl (by (try simp only [List.map_toArray, List.map_cons, List.map_nil]); first | done | rfl | (simp only [List.length_drop, List.length_take]; rfl)) ?_; (with_reducible refine (spec_l20Rd_pick.calls kj49 g s0_0 t241 2 t245 t246 w0 _ ?side1 ?side2 A60.out).mono ?_); (case side1 => repeat (first | (with_reducible first | exact HI0.out | apply IsS110.alloc | apply IsS110.drewN | apply IsS110.drew | apply IsS110.set_1) | exact HI0.out)); (case side2 => repeat (first | (with_reducible first | exact HB.out | apply below_alloc | apply pw_below_drewN | apply below_drew1 | refine below_set ?_ (IsS110.ge HI0.out)) | exact HB.out)); rintro e w71 ⟨rfl, hi, hb, hk⟩; refine ⟨_, rfl, ?_⟩; have n0_ := Aside0.mk (Kd.R_mono (Kd.R_keep (IsS110.apart (show IsS110 w0 _ g s0_0 t241 from by repeat (first | (with_reducible first | exact HI0.out | apply IsS110.alloc | apply IsS110.drewN | apply IsS110.drew | apply IsS110.set_1) | exact HI0.out)) (by (with_reducible repeat (first | apply Kd.R_alloc | apply Kd.R_drewN | apply Kd.R_drew)); exact HO_7.out) (by decide)) hk (fun _ h => h.2)) (fun _ h => h.1)); have n1_ := Aside0.mk (Kd.R_mono (Kd.R_keep (IsS110.apart (show IsS110 w0 _ g s0_0 t241 from by repeat (first | (with_reducible first | exact HI0.out | apply IsS110.alloc | apply IsS110.drewN | apply IsS110.drew | apply IsS110.set_1) | exact HI0.out)) (by (with_reducible repeat (first | apply Kd.R_alloc | apply Kd.R_drewN | apply Kd.R_drew)); exact HO244.out) (by decide)) hk (fun _ h => h.2)) (fun _ h => h.1)); have n2_ := Aside0.mk (KeepBut.trans (by repeat (first | (with_reducible first | exact HK.out | apply KeepBut.set_ | apply keep_drewN | apply keep_drew | apply keep_alloc) | exact HK.out)) hk (.inl rfl)); have n3_ := Aside0.mk (hb); have n4_ := Aside0.mk (hi); clear HO_7; clear HO244; clear HK; clear HB; clear HI0; have HO_7 := n0_; have HO244 := n1_; have HK := n2_; have HB := n3_; have HI0 := n4_; clear n0_ n1_ n2_ n3_ n4_; (try clear hb); (try clear hb2); (try clear hk); (try clear hi); obtain ⟨Ao72, co72, eo72⟩ := Kd.R_slice HO244.out; subst eo72; have p247 : 0 ≤ (t245 : Int) := of_decide_eq_true (by first | (with_reducible assumption) | assumption); have q247 : t245 < (y242.length : Int) := of_decide_eq_true (by first | (with_reducible assumption) | assumption); obtain ⟨ad247, e247, hx247_0⟩ := Kd.at_int (Kd.R_reads' HO244.out).2.2 t245 p247 q247; cases e247; replace p247 := eq_true p247; replace q247 := eq_true q247; have p65 : 0 ≤ (t238 : Int) := of_decide_eq_true (by first | (with_reducible assumption) | assumption); have q65 : (t238 : Int) < ((x7_1.length : Int) : Int) := of_decide_eq_true (by first | (with_reducible assumption) | assumption); obtain ⟨go65, co65, eo65, gb65, gl65, cl65, HG65⟩ := Kd.R_form HO_7.out (by omega); (first | cases eo65 | (injection eo65 with ea_ en_ ec_; (first | subst ea_ | (injection ea_ with ea_; subst ea_)); subst ec_; clear en_)); have GB65 := Aside0.mk gb65; have GG65 := Aside0.mk HG65; clear gb65 gl65 HG65; obtain ⟨ce65, hcl65, hM65, hcc65, hfr65⟩ := Kd.R_elem HO_7.out z34 (t238 : Int) p65 q65; obtain rfl := k34_openM hM65; have hx65_0 : w71.cell? ⟨go65, (t238 : Int).toNat * 4, none⟩ = some (.int .i64 ((rd_T34 x7_1 t238).f0)) := hcc65 0 _ rfl; have hx65_1 : w71.cell? ⟨go65, (t238 : Int).toNat * 4 + 1, none⟩ = some (.int .i64 ((rd_T34 x7_1 t238).f1)) := hcc65 1 _ rfl; have hx65_2 : w71.cell? ⟨go65, (t238 : Int).toNat * 4 + 2, none⟩ = some (.int .i64 ((rd_T34 x7_1 t238).f2)) := hcc65 2 _ rfl; have hx65_3 : w71.cell? ⟨go65, (t238 : Int).toNat * 4 + 3, none⟩ = some (.int .i64 ((rd_T34 x7_1 t238).f3)) := hcc65 3 _ rfl; have hf65_0 : w71.frozen? ⟨go65, (t238 : Int).toNat * 4, none⟩ = false := hfr65 0; have hf65_1 : w71.frozen? ⟨go65, (t238 : Int).toNat * 4 + 1, none⟩ = false := hfr65 1; have hf65_2 : w71.frozen? ⟨go65, (t238 : Int).toNat * 4 + 2, none⟩ = false := hfr65 2; have hf65_3 : w71.frozen? ⟨go65, (t238 : Int).toNat * 4 + 3, none⟩ = false := hfr65 3; (try clear hcl65); (try clear hcc65); (try clear hfr65); (try clear hM65); replace p65 := eq_true p65; replace q65 := eq_true q65; have HX73 := Aside0.mk (show Kd.R k34 34 w71 w.heap.size (fun _ => True) (.slice (some ⟨go65, 0, none⟩) x7_1.length co66) x7_1 from (by (with_reducible repeat (first | apply Kd.R_alloc | apply Kd.R_drewN | apply Kd.R_drew)); exact HO_7.out)); obtain ⟨ce73, hcl73, hM73, hcc73, hfr73⟩ := Kd.R_elem HX73.out z34 (t238 : Int) (of_decide_eq_true (by first | (with_reducible assumption) | assumption)) (by have h_ : (t238 : Int) < ((x7_1.length : Int) : Int) := of_decide_eq_true (by first | (with_reducible assumption) | assumption); first | exact h_ | (have e_ := (Kd.R_reads' HO_7.out).1; omega) | simpa using h_); obtain rfl := k34_openM hM73; have HP73 := Kd.R_seg HX73.out (t238 : Int) (of_decide_eq_true (by first | (with_reducible assumption) | assumption)) (by have h_ : (t238 : Int) < ((x7_1.length : Int) : Int) := of_decide_eq_true (by first | (with_reducible assumption) | assumption); first | exact h_ | (have e_ := (Kd.R_reads' HO_7.out).1; omega) | simpa using h_) (seg := [.int .i64 (rd y242 t245)]) (j := 0) hcl73 hcc73 (show 1 ≤ 4 from by decide) (x' := (⟨rd y242 t245, (rd_T34 x7_1 t238).f1, (rd_T34 x7_1 t238).f2, (rd_T34 x7_1 t238).f3⟩ : S34)) (k34_mkM _ _ _ (⟨rd y242 t245, (rd_T34 x7_1 t238).f1, (rd_T34 x7_1 t238).f2, (rd_T34 x7_1 t238).f3⟩ : S34) ) (fun _ hk => hk); have hx73_0 := hcc73 0 _ rfl; (try simp only [show (k34).sz = 4 from rfl, Nat.mul_one, Nat.add_zero] at hx73_0); have hf73_0 := hfr73 0; (try simp only [show (k34).sz = 4 from rfl, Nat.mul_one, Nat.add_zero] at hf73_0); (try clear hcl73); (try clear hcc73); (try clear hfr73); (try clear hM73)) | ((with_reducible refine gate_store (t := 3) (p := 122) rfl ?_); refine store_event (t := 3) (p := 122) (v := ?vo_w74) (w1 := (w71.setCell ⟨go65, (t238 : Int).toNat * 4, none⟩ (.int .i64 (rd y242 t245)))) ?hg ?ho ?hn ?hr ?_; (case ho => rfl); (case hg => rfl); (case hn => rfl); (case hr => first | (go_simp; done) | (go_simp; rfl)); intro w74 hw; have hg : w71.grownBy w74 (some go65) := (by rw [hw]; exact HP73.2); have hp_ : Kd.R k34 34 w74 w.heap.size (fun _ => True) (.slice (some ⟨go65, 0, none⟩) x7_1.length co66) y248 := (by rw [hw, Ny248.out]; exact HP73.1); clear HP73; have n0_ := Aside0.mk (hp_); have n1_ := Aside0.mk (IsS110.grown (by repeat (first | (with_reducible first | exact HI0.out | apply IsS110.alloc | apply IsS110.drewN | apply IsS110.drew | apply IsS110.set_1) | exact HI0.out)) hg (IsS110.own_ne HI0.out HO_7.out (by decide))); have n2_ := Aside0.mk (Kd.R_over' (v := (.slice (some ⟨go65, 0, none⟩) x7_1.length co66)) (by (with_reducible repeat (first | apply Kd.R_alloc | apply Kd.R_drewN | apply Kd.R_drew)); exact HO244.out) (Kd.R_typed HO_7.out) (by decide) hg); have n3_ := Aside0.mk ((by rw [hw]; exact below_set (HB.out) (Nat.le_trans HL.out GB65.out) : Below w0.heap.size w0 w74)); have n4_ := Aside0.mk (KeepBut.trans (by repeat (first | (with_reducible first | exact HK.out | apply KeepBut.set_ | apply keep_drewN | apply keep_drew | apply keep_alloc) | exact HK.out)) (KeepBut.of_grown hg g) (Kd.R_base2 HO_7.out)); clear HO_7; clear HI0; clear HO244; clear HB; clear HK; have HO_7 := n0_; have HI0 := n1_; have HO244 := n2_; have HB := n3_; have HK := n4_; clear n0_ n1_ n2_ n3_ n4_; clear hg hw hp_))
              go_ret
              exact ⟨_, by first | rfl | (simp [errW_none, errW_some] <;> rfl) | (simp [*, errW_none, errW_some] <;> rfl), by (with_reducible repeat (first | apply Kd.R_alloc | apply Kd.R_drewN | apply Kd.R_drew)); exact HO_7.out, by repeat (first | (with_reducible first | exact HI0.out | apply IsS110.alloc | apply IsS110.drewN | apply IsS110.drew | apply IsS110.set_1) | exact HI0.out), by repeat (first | (with_reducible first | exact HB.out | apply below_alloc | apply pw_below_drewN | apply below_drew1 | refine below_set ?_ (IsS110.ge HI0.out)) | exact HB.out), by repeat (first | (with_reducible first | exact HK.out | apply KeepBut.set_ | apply keep_drewN | apply keep_drew | apply keep_alloc) | exact HK.out)⟩
             ·rw [if_neg c64] at H
              exact absurd H (by simp)
            ·rw [if_neg c63] at H
             exact absurd H (by simp)
           ·rw [if_neg c62] at H
            exact absurd H (by simp)
          ·rw [if_neg c61] at H
           exact absurd H (by simp)
         ·rw [if_neg c59] at H
          have c59b0 : (t240 == 0) = false := beq_eq_false_iff_ne.mpr c59
          have c59b1 : (t240 != 0) = true := bne_iff_ne.mpr c59
          by_cases c75 : t240 = 1
          ·rw [if_pos c75] at H
           have c75b0 : (t240 == 1) = true := beq_iff_eq.mpr c75
           have c75b1 : (t240 != 1) = false := bne_eq_false_iff_eq.mpr c75
           clear c75
           by_cases c76 : 0 ≤ t238
           ·rw [if_pos c76] at H
            have c76b0 : decide (0 ≤ t238) = true := decide_eq_true c76
            clear c76
            by_cases c77 : t238 < (x7_1.length : Int)
            ·rw [if_pos c77] at H
             have c77b0 : decide (t238 < (x7_1.length : Int)) = true := decide_eq_true c77
             clear c77
             obtain ⟨y250, hy250⟩ : ∃ y_ : List Int, y_ = (([(-1), 120, wrap64 (((rd_T34 x7_1 t238).f1) + 1)] : List Int)) := ⟨_, rfl⟩
             replace H : ((spec_l20Rd_pick.f kj49 s0_0 t241 3).bind fun bt253 => (if 0 ≤ bt253.1 then (if bt253.1 < (y250.length : Int) then (some ((x7_1.set (t238 : Int).toNat (⟨(rd_T34 x7_1 t238).f0, rd y250 bt253.1, (rd_T34 x7_1 t238).f2, (rd_T34 x7_1 t238).f3⟩ : S34)), bt253.2)) else (none)) else (none))) = some (r1, r2) := by first | (rw [hy250]; with_reducible exact H) | (have H2_ := (Option.bind_some _ _).symm.trans H; rw [hy250]; with_reducible exact H2_) | (have H2_ := (Option.bind_some _ _).symm.trans H; with_reducible exact H2_) | with_reducible exact H | (rw [hy250]; exact H) | exact H
             have Ny250 := Aside0.mk hy250
             clear hy250
             replace H := Option.bind_eq_some_iff.mp H
             obtain ⟨⟨t253, t254⟩, A780, H⟩ := H
             replace H : (if 0 ≤ t253 then (if t253 < (y250.length : Int) then (some ((x7_1.set (t238 : Int).toNat (⟨(rd_T34 x7_1 t238).f0, rd y250 t253, (rd_T34 x7_1 t238).f2, (rd_T34 x7_1 t238).f3⟩ : S34)), t254)) else (none)) else (none)) = some (r1, r2) := H
             have A78 := Aside0.mk A780
             clear A780
             by_cases c79 : 0 ≤ t253
             ·rw [if_pos c79] at H
              have c79b0 : decide (0 ≤ t253) = true := decide_eq_true c79
              clear c79
              by_cases c80 : t253 < (y250.length : Int)
              ·rw [if_pos c80] at H
               have c80b0 : decide (t253 < (y250.length : Int)) = true := decide_eq_true c80
               clear c80
               obtain ⟨y256, hy256⟩ : ∃ y_ : List (S34), y_ = (x7_1.set (t238 : Int).toNat (⟨(rd_T34 x7_1 t238).f0, rd y250 t253, (rd_T34 x7_1 t238).f2, (rd_T34 x7_1 t238).f3⟩ : S34)) := ⟨_, rfl⟩
               replace H : (some (y256, t254)) = some (r1, r2) := by first | (rw [hy256]; with_reducible exact H) | (have H2_ := (Option.bind_some _ _).symm.trans H; rw [hy256]; with_reducible exact H2_) | (have H2_ := (Option.bind_some _ _).symm.trans H; with_reducible exact H2_) | with_reducible exact H | (rw [hy256]; exact H) | exact H
               have Ny256 := Aside0.mk hy256
               clear hy256
               simp only [Option.some.injEq, Prod.mk.injEq] at H
               obtain ⟨rfl, rfl⟩ := H
               obtain ⟨Ao82, co82, eo82⟩ := Kd.R_slice HO_7.out
               subst eo82
               try go_wp2_with (first | ((with_reducible refine gate_callee (f := 68) rfl ?_); refine goesL_ (some 100) rfl rfl Try.func68 (by kernel_rfl) rfl #[.pointer (some ⟨g, 0, none⟩), .int .i64 (x7_1.length : Int)] rfl (by (try simp only [List.map_toArray, List.map_cons, List.map_nil]); first | done | rfl | (simp only [List.length_drop, List.length_take]; rfl)) ?_; (with_reducible refine (spec_l20Rd_pick.calls kj49 g s0_0 x1001_49 (x7_1.length : Int) t238 t239 w0 _ ?side1 ?side2 A57.out).mono ?_); (case side1 => repeat (first | (with_reducible first | exact HI0.out | apply IsS110.alloc | apply IsS110.drewN | apply IsS110.drew | apply IsS110.set_1) | exact HI0.out)); (case side2 => repeat (first | (with_reducible first | exact HB.out | apply below_alloc | apply pw_below_drewN | apply below_drew1 | refine below_set ?_ (IsS110.ge HI0.out)) | exact HB.out)); rintro e w83 ⟨rfl, hi, hb, hk⟩; refine ⟨_, rfl, ?_⟩; have n0_ := Aside0.mk (Kd.R_mono (Kd.R_keep (IsS110.apart (show IsS110 w0 _ g s0_0 x1001_49 from by repeat (first | (with_reducible first | exact HI0.out | apply IsS110.alloc | apply IsS110.drewN | apply IsS110.drew | apply IsS110.set_1) | exact HI0.out)) (by (with_reducible repeat (first | apply Kd.R_alloc | apply Kd.R_drewN | apply Kd.R_drew)); exact HO_7.out) (by decide)) hk (fun _ h => h.2)) (fun _ h => h.1)); have n1_ := Aside0.mk (KeepBut.trans (by repeat (first | (with_reducible first | exact HK.out | apply KeepBut.set_ | apply keep_drewN | apply keep_drew | apply keep_alloc) | exact HK.out)) hk (.inl rfl)); have n2_ := Aside0.mk (hb); have n3_ := Aside0.mk (hi); clear HO_7; clear HK; clear HB; clear HI0; have HO_7 := n0_; have HK := n1_; have HB := n2_; have HI0 := n3_; clear n0_ n1_ n2_ n3_; (try clear hb); (try clear hb2); (try clear hk); (try clear hi)) | ((with_reducible refine gate_callee (f := 68) rfl ?_); refine goesL_ (some 102) rfl rfl Try.func68 (by kernel_rfl) rfl #[.pointer (some ⟨g, 0, none⟩), .int .i64 6] rfl (by (try simp only [List.map_toArray, List.map_cons, List.map_nil]); first | done | rfl | (simp only [List.length_drop, List.length_take]; rfl)) ?_; (with_reducible refine (spec_l20Rd_pick.calls kj49 g s0_0 t239 6 t240 t241 w0 _ ?side1 ?side2 A58.out).mono ?_); (case side1 => repeat (first | (with_reducible first | exact HI0.out | apply IsS110.alloc | apply IsS110.drewN | apply IsS110.drew | apply IsS110.set_1) | exact HI0.out)); (case side2 => repeat (first | (with_reducible first | exact HB.out | apply below_alloc | apply pw_below_drewN | apply below_drew1 | refine below_set ?_ (IsS110.ge HI0.out)) | exact HB.out)); rintro e w84 ⟨rfl, hi, hb, hk⟩; refine ⟨_, rfl, ?_⟩; have n0_ := Aside0.mk (Kd.R_mono (Kd.R_keep (IsS110.apart (show IsS110 w0 _ g s0_0 t239 from by repeat (first | (with_reducible first | exact HI0.out | apply IsS110.alloc | apply IsS110.drewN | apply IsS110.drew | apply IsS110.set_1) | exact HI0.out)) (by (with_reducible repeat (first | apply Kd.R_alloc | apply Kd.R_drewN | apply Kd.R_drew)); exact HO_7.out) (by decide)) hk (fun _ h => h.2)) (fun _ h => h.1)); have n1_ := Aside0.mk (KeepBut.trans (by repeat (first | (with_reducible first | exact HK.out | apply KeepBut.set_ | apply keep_drewN | apply keep_drew | apply keep_alloc) | exact HK.out)) hk (.inl rfl)); have n2_ := Aside0.mk (hb); have n3_ := Aside0.mk (hi); clear HO_7; clear HK; clear HB; clear HI0; have HO_7 := n0_; have HK := n1_; have HB := n2_; have HI0 := n3_; clear n0_ n1_ n2_ n3_; (try clear hb); (try clear hb2); (try clear hk); (try clear hi)))
               have pi255 : (0 ≤ (t253 : Int)) = True := eq_true (of_decide_eq_true (by first | (with_reducible assumption) | assumption))
               have qi255 : (t253 < (y250.length : Int)) = True := eq_true (of_decide_eq_true (by first | (with_reducible assumption) | assumption))
               have n0_ := Aside0.mk (Kd.R_drew HO_7.out)
               have n1_ := Aside0.mk (IsS110.drew HI0.out)
               have n2_ := Aside0.mk (keep_drew HK.out)
               have n3_ := Aside0.mk (below_drew1 HB.out)
               clear HO_7
               clear HI0
               clear HK
               clear HB
               have HO_7 := n0_
               have HI0 := n1_
               have HK := n2_
               have HB := n3_
               clear n0_ n1_ n2_ n3_
               have p249 : 0 ≤ (t238 : Int) := of_decide_eq_true (by first | (with_reducible assumption) | assumption)
               have q249 : t238 < (x7_1.length : Int) := of_decide_eq_true (by first | (with_reducible assumption) | assumption)
               obtain ⟨ad249, e249, hx249_0, hx249_1, hx249_2, hx249_3⟩ := at_T34 (Kd.R_reads' HO_7.out).2.2 t238 p249 q249
               cases e249
               replace p249 := eq_true p249
               replace q249 := eq_true q249
               refine start_ (n := 16) (S := fun w' => w'.cell? (ad249.add ((t238).toNat * 4)) = some (.int .i64 ((rd_T34 x7_1 t238).f0)) ∧ w'.cell? ⟨(ad249.add ((t238).toNat * 4)).block, (ad249.add ((t238).toNat * 4)).off + 1, none⟩ = some (.int .i64 ((rd_T34 x7_1 t238).f1)) ∧ w'.cell? ⟨(ad249.add ((t238).toNat * 4)).block, (ad249.add ((t238).toNat * 4)).off + 2, none⟩ = some (.int .i64 ((rd_T34 x7_1 t238).f2)) ∧ w'.cell? ⟨(ad249.add ((t238).toNat * 4)).block, (ad249.add ((t238).toNat * 4)).off + 3, none⟩ = some (.int .i64 ((rd_T34 x7_1 t238).f3))) (ds := [15]) #[false, false, false, false, false, false, false, false, false, false, false, false, false, false, false, false] (by kernel_rfl) rfl rfl ⟨hx249_0, hx249_1, hx249_2, hx249_3⟩ (fun hHeld => ?_); refine with_tabW spec_l20Jobs.tab24 spec_l20Jobs.bits24 (fun HT_ HW_ => ?_)
               generalize w84.drew = w85 at HO_7 HI0 HK HB hx249_0 hx249_1 hx249_2 hx249_3 hHeld ⊢
               refine pure_ (i := 0) (N := some 125) (v := ?_) (a' := ?_) #[true, false, false, false, false, false, false, false, false, false, false, false, false, false, false, false] rfl rfl (any_of HT_.out (by kernel_rfl)) (fun _ _ _ h => h) (Or.inl ⟨by rfl, ?_⟩) ?_ ?_
               rotate_left
               ·intro w'
                go_simp
                with_reducible rfl
               rotate_left
               ·simp only [Act.put, List.setIfInBounds_toArray, List.set_cons_zero, List.set_cons_succ, i64_w, i32_w]
                rfl
               refine pure_ (i := 1) (N := some 126) (v := ?_) (a' := ?_) #[true, true, false, false, false, false, false, false, false, false, false, false, false, false, false, false] rfl rfl (any_of HT_.out (by kernel_rfl)) (fun _ _ _ h => h) (Or.inl ⟨by rfl, ?_⟩) ?_ ?_
               rotate_left
               ·intro w'
                go_simp
                with_reducible rfl
               rotate_left
               ·simp only [Act.put, List.setIfInBounds_toArray, List.set_cons_zero, List.set_cons_succ, i64_w, i32_w]
                rfl
               refine pure_ (i := 2) (N := some 127) (v := ?_) (a' := ?_) #[true, true, true, false, false, false, false, false, false, false, false, false, false, false, false, false] rfl rfl (any_of HT_.out (by kernel_rfl)) (fun _ _ _ h => h) (Or.inl ⟨by rfl, ?_⟩) ?_ ?_
               rotate_left
               ·intro w'
                go_simp
                with_reducible rfl
               rotate_left
               ·simp only [Act.put, List.setIfInBounds_toArray, List.set_cons_zero, List.set_cons_succ, i64_w, i32_w]
                rfl
               refine pure_ (i := 3) (N := some 128) (v := ?_) (a' := ?_) #[true, true, true, true, false, false, false, false, false, false, false, false, false, false, false, false] rfl rfl (any_of HT_.out (by kernel_rfl)) (fun _ _ _ h => h) (Or.inl ⟨by rfl, ?_⟩) ?_ ?_
               rotate_left
               ·intro w'
                go_simp
                with_reducible rfl
               rotate_left
               ·simp only [Act.put, List.setIfInBounds_toArray, List.set_cons_zero, List.set_cons_succ, i64_w, i32_w]
                rfl
               refine pure_ (i := 4) (N := some 129) (v := ?_) (a' := ?_) #[true, true, true, true, true, false, false, false, false, false, false, false, false, false, false, false] rfl rfl (any_of HT_.out (by kernel_rfl)) (fun _ _ _ h => h) (Or.inl ⟨by rfl, ?_⟩) ?_ ?_
               rotate_left
               ·intro w'
                go_simp
                with_reducible rfl
               rotate_left
               ·simp only [Act.put, List.setIfInBounds_toArray, List.set_cons_zero, List.set_cons_succ, i64_w, i32_w]
                rfl
               refine pure_ (i := 5) (N := some 130) (v := ?_) (a' := ?_) #[true, true, true, true, true, true, false, false, false, false, false, false, false, false, false, false] rfl rfl (any_of HT_.out (by kernel_rfl)) (fun _ _ _ h => h) (Or.inl ⟨by rfl, ?_⟩) ?_ ?_
               rotate_left
               ·intro w'
                go_simp
                with_reducible rfl
               rotate_left
               ·simp only [Act.put, List.setIfInBounds_toArray, List.set_cons_zero, List.set_cons_succ, i64_w, i32_w]
                rfl
               refine pure_ (i := 9) (N := some 134) (v := ?_) (a' := ?_) #[true, true, true, true, true, true, false, false, false, true, false, false, false, false, false, false] rfl rfl (any_of HT_.out (by kernel_rfl)) (fun _ _ _ h => h) (Or.inl ⟨by rfl, ?_⟩) ?_ ?_
               rotate_left
               ·intro w'
                go_simp
                with_reducible rfl
               rotate_left
               ·simp only [Act.put, List.setIfInBounds_toArray, List.set_cons_zero, List.set_cons_succ, i64_w, i32_w]
                rfl
               refine take_ (i := 6) (N := some 131) (v := ?_) (a' := ?_) #[true, true, true, true, true, true, true, false, false, true, false, false, false, false, false, false] rfl rfl (take_ofW HT_.out HW_.out (by kernel_rfl)) (fun _ _ _ h => h) (Or.inl ⟨by rfl, ?_⟩) hHeld ?_ ?_
               rotate_left
               ·rintro w' ⟨s0, s1, s2, s3⟩
                go_simp
                with_reducible rfl
               rotate_left
               ·simp only [Act.put, List.setIfInBounds_toArray, List.set_cons_zero, List.set_cons_succ, i64_w, i32_w]
                rfl
               refine pure_ (i := 7) (N := some 132) (v := ?_) (a' := ?_) #[true, true, true, true, true, true, true, true, false, true, false, false, false, false, false, false] rfl rfl (any_of HT_.out (by kernel_rfl)) (fun _ _ _ h => h) (Or.inl ⟨by rfl, ?_⟩) ?_ ?_
               rotate_left
               ·intro w'
                go_simp
                with_reducible rfl
               rotate_left
               ·simp only [Act.put, List.setIfInBounds_toArray, List.set_cons_zero, List.set_cons_succ, i64_w, i32_w]
                rfl
               refine join_ (σ := Value × Addr) 5 #[true, true, true, true, true, true, true, true, true, true, true, false, false, false, false, false] (fun s_ => [(133, s_.1), (135, .int .i64 t253)]) (fun s_ w' => (w'.cell? (ad249.add ((t238).toNat * 4)) = some (.int .i64 ((rd_T34 x7_1 t238).f0)) ∧ w'.cell? ⟨(ad249.add ((t238).toNat * 4)).block, (ad249.add ((t238).toNat * 4)).off + 1, none⟩ = some (.int .i64 ((rd_T34 x7_1 t238).f1)) ∧ w'.cell? ⟨(ad249.add ((t238).toNat * 4)).block, (ad249.add ((t238).toNat * 4)).off + 2, none⟩ = some (.int .i64 ((rd_T34 x7_1 t238).f2)) ∧ w'.cell? ⟨(ad249.add ((t238).toNat * 4)).block, (ad249.add ((t238).toNat * 4)).off + 3, none⟩ = some (.int .i64 ((rd_T34 x7_1 t238).f3))) ∧ (Kd.R (Kd.int .i64) 3 w' w.heap.size (fun _ => True) s_.1 y250) ∧ (Kd.R k34 34 w' w.heap.size (fun _ => True) (.slice (some ad249) x7_1.length co82) x7_1) ∧ (∃ c_, (s_.1 : Value) = .slice (some s_.2) y250.length c_) ∧ (IsS110 w0 w' g s0_0 t254) ∧ (KeepBut w w' g none) ∧ (Below w0.heap.size w0 w')) ?_ ?_
               rotate_left
               ·intro hCont
                refine two_ (i := 8) (j := 10) (Ni := some 133) (Nj := some 135) #[true, true, true, true, true, true, true, true, true, true, false, false, false, false, false, false] #[true, true, true, true, true, true, true, true, false, true, true, false, false, false, false, false] rfl rfl rfl rfl (two_of HT_.out (by kernel_rfl)) (by decide) (by decide) (fun K hK => ?_) (fun K hK => ?_)
                ·skip
                 refine Kd.R_lit_step (Kd.int .i64) _ 3 ?hg (N := 133) ?hd (xs := ([(-1), 120, wrap64 (((rd_T34 x7_1 t238).f1) + 1)] : List Int)) (inner := [.int .i64 (-1), .int .i64 120, .int .i64 (wrap64 (((rd_T34 x7_1 t238).f1) + 1))]) (ok := fun _ => True) (okp := fun _ => True) ?hr ?hp (fun _ hk => hk) trivial (Below.refl _ _) (Nat.le_refl _) (by simp) ?_; (case hd => rfl); (case hg => rfl); (case hr => first | (go_simp; done) | (go_simp; rfl)); (case hp => exact (Reps.one (show Kd.M (Kd.int .i64) _ _ _ (-1) [.int .i64 (-1)] from rfl) (Reps.one (show Kd.M (Kd.int .i64) _ _ _ 120 [.int .i64 120] from rfl) (Reps.one (show Kd.M (Kd.int .i64) _ _ _ (wrap64 (((rd_T34 x7_1 t238).f1) + 1)) [.int .i64 (wrap64 (((rd_T34 x7_1 t238).f1) + 1))] from rfl) (Reps.none _ _)))))
                 intro v251 w86 ho87 hb hg_ hnew_
                 have HS0_ := (hb.cell (World.block_lt_of_cell? _ _ (hHeld.1))).trans (hHeld.1)
                 have HS1_ := (hb.cell (World.block_lt_of_cell? _ _ (hHeld.2.1))).trans (hHeld.2.1)
                 have HS2_ := (hb.cell (World.block_lt_of_cell? _ _ (hHeld.2.2.1))).trans (hHeld.2.2.1)
                 have HS3_ := (hb.cell (World.block_lt_of_cell? _ _ (hHeld.2.2.2))).trans (hHeld.2.2.2)
                 clear hg_ hnew_
                 (first | rw [← Ny250.out] at ho87 | (simp only [Int.reduceToNat] at ho87; rw [← Ny250.out] at ho87))
                 have n0_ := Aside0.mk (Kd.R_below (by (with_reducible repeat (first | apply Kd.R_alloc | apply Kd.R_drewN | apply Kd.R_drew)); exact HO_7.out) hb)
                 have n1_ := Aside0.mk (Kd.R_lower ho87 (keep_size (w := w) (g := g) (row := none) (by repeat (first | (with_reducible first | exact HK.out | apply KeepBut.set_ | apply keep_drewN | apply keep_drew | apply keep_alloc) | exact HK.out))))
                 have n2_ := Aside0.mk (IsS110.below (by repeat (first | (with_reducible first | exact HI0.out | apply IsS110.alloc | apply IsS110.drewN | apply IsS110.drew | apply IsS110.set_1) | exact HI0.out)) hb)
                 have n3_ := Aside0.mk (KeepBut.trans (by repeat (first | (with_reducible first | exact HK.out | apply KeepBut.set_ | apply keep_drewN | apply keep_drew | apply keep_alloc) | exact HK.out)) (KeepBut.of_below hb g none) (.inl rfl))
                 have n4_ := Aside0.mk (below_step (by repeat (first | (with_reducible first | exact HB.out | apply below_alloc | apply pw_below_drewN | apply below_drew1 | refine below_set ?_ (IsS110.ge HI0.out)) | exact HB.out)) hb)
                 clear HO_7
                 clear HI0
                 clear HK
                 clear HB
                 have HO_7 := n0_
                 have HO252 := n1_
                 have HI0 := n2_
                 have HK := n3_
                 have HB := n4_
                 clear n0_ n1_ n2_ n3_ n4_
                 clear hb ho87
                 obtain ⟨Ao88, co88, eo88⟩ := Kd.R_slice HO252.out
                 subst eo88
                 obtain ⟨ado88, fo88, _⟩ := Kd.at_int (Kd.R_reads' HO252.out).2.2 0 (by decide) (by rw [Ny250.out]; simp)
                 cases fo88
                 refine hK.out _ _ ⟨HS0_, HS1_, HS2_, HS3_⟩ (fun hHeld => ?_)
                 clear hK K
                 refine norm_ (a' := ?_) ?_ ?_
                 rotate_left
                 ·show Act.put _ (some 133) _ = _
                  simp only [Act.put, List.setIfInBounds_toArray, List.set_cons_zero, List.set_cons_succ, i64_w, i32_w]
                  rfl
                 refine one_ (i := 10) (N := some 135) #[true, true, true, true, true, true, true, true, true, true, true, false, false, false, false, false] rfl rfl (one_of HT_.out (by kernel_rfl)) (by decide) (fun K hK => ?_)
                 refine goes_ Try.func68 (by kernel_rfl) rfl #[.pointer (some ⟨g, 0, none⟩), .int .i64 3] (by rfl) rfl rfl (by (try simp only [List.map_toArray, List.map_cons, List.map_nil]); first | done | rfl | (simp only [List.length_drop, List.length_take]; rfl)) ?_
                 with_reducible refine (spec_l20Rd_pick.calls kj49 g s0_0 t241 3 t253 t254 w0 _ ?side1 ?side2 A78.out).mono ?_
                 (case side1 => repeat (first | (with_reducible first | exact HI0.out | apply IsS110.alloc | apply IsS110.drewN | apply IsS110.drew | apply IsS110.set_1) | exact HI0.out))
                 (case side2 => repeat (first | (with_reducible first | exact HB.out | apply below_alloc | apply pw_below_drewN | apply below_drew1 | refine below_set ?_ (IsS110.ge HI0.out)) | exact HB.out))
                 rintro e w89 ⟨rfl, hi, hb, hk⟩
                 have HS0_ := keep_cell hk (hHeld.1) (by first | (rw [add_block]; exact Kd.own_blk (IsS110.own_ne HI0.out HO_7.out (by decide))) | (show (Addr.add _ _).block ≠ _; rw [add_block]; exact Kd.own_blk (IsS110.own_ne HI0.out HO_7.out (by decide))) | exact Kd.own_blk (IsS110.own_ne HI0.out HO_7.out (by decide)))
                 have HS1_ := keep_cell hk (hHeld.2.1) (by first | (rw [add_block]; exact Kd.own_blk (IsS110.own_ne HI0.out HO_7.out (by decide))) | (show (Addr.add _ _).block ≠ _; rw [add_block]; exact Kd.own_blk (IsS110.own_ne HI0.out HO_7.out (by decide))) | exact Kd.own_blk (IsS110.own_ne HI0.out HO_7.out (by decide)))
                 have HS2_ := keep_cell hk (hHeld.2.2.1) (by first | (rw [add_block]; exact Kd.own_blk (IsS110.own_ne HI0.out HO_7.out (by decide))) | (show (Addr.add _ _).block ≠ _; rw [add_block]; exact Kd.own_blk (IsS110.own_ne HI0.out HO_7.out (by decide))) | exact Kd.own_blk (IsS110.own_ne HI0.out HO_7.out (by decide)))
                 have HS3_ := keep_cell hk (hHeld.2.2.2) (by first | (rw [add_block]; exact Kd.own_blk (IsS110.own_ne HI0.out HO_7.out (by decide))) | (show (Addr.add _ _).block ≠ _; rw [add_block]; exact Kd.own_blk (IsS110.own_ne HI0.out HO_7.out (by decide))) | exact Kd.own_blk (IsS110.own_ne HI0.out HO_7.out (by decide)))
                 refine ⟨_, rfl, ?_⟩
                 have n0_ := Aside0.mk (Kd.R_mono (Kd.R_keep (IsS110.apart (show IsS110 w0 _ g s0_0 t241 from by repeat (first | (with_reducible first | exact HI0.out | apply IsS110.alloc | apply IsS110.drewN | apply IsS110.drew | apply IsS110.set_1) | exact HI0.out)) (by (with_reducible repeat (first | apply Kd.R_alloc | apply Kd.R_drewN | apply Kd.R_drew)); exact HO_7.out) (by decide)) hk (fun _ h => h.2)) (fun _ h => h.1))
                 have n1_ := Aside0.mk (Kd.R_mono (Kd.R_keep (IsS110.apart (show IsS110 w0 _ g s0_0 t241 from by repeat (first | (with_reducible first | exact HI0.out | apply IsS110.alloc | apply IsS110.drewN | apply IsS110.drew | apply IsS110.set_1) | exact HI0.out)) (by (with_reducible repeat (first | apply Kd.R_alloc | apply Kd.R_drewN | apply Kd.R_drew)); exact HO252.out) (by decide)) hk (fun _ h => h.2)) (fun _ h => h.1))
                 have n2_ := Aside0.mk (KeepBut.trans (by repeat (first | (with_reducible first | exact HK.out | apply KeepBut.set_ | apply keep_drewN | apply keep_drew | apply keep_alloc) | exact HK.out)) hk (.inl rfl))
                 have n3_ := Aside0.mk (hb)
                 have n4_ := Aside0.mk (hi)
                 clear HO_7
                 clear HO252
                 clear HK
                 clear HB
                 clear HI0
                 have HO_7 := n0_
                 have HO252 := n1_
                 have HK := n2_
                 have HB := n3_
                 have HI0 := n4_
                 clear n0_ n1_ n2_ n3_ n4_
                 (try clear hb)
                 (try clear hb2)
                 (try clear hk)
                 (try clear hi)
                 refine hK.out _ _ ⟨HS0_, HS1_, HS2_, HS3_⟩ (fun hHeld => ?_)
                 clear hK K
                 refine norm_ (a' := ?_) ?_ ?_
                 rotate_left
                 ·show Act.put _ (some 135) _ = _
                  simp only [Act.put, List.setIfInBounds_toArray, List.set_cons_zero, List.set_cons_succ, i64_w, i32_w]
                  rfl
                 exact norm_ (by simp only [putAll, Act.put, List.setIfInBounds_toArray, List.set_cons_zero, List.set_cons_succ]) (hCont (.slice (some ado88) y250.length co88, ado88) _ ⟨hHeld, (by (with_reducible repeat (first | apply Kd.R_alloc | apply Kd.R_drewN | apply Kd.R_drew)); exact HO252.out), (by (with_reducible repeat (first | apply Kd.R_alloc | apply Kd.R_drewN | apply Kd.R_drew)); exact HO_7.out), ⟨_, rfl⟩, (by repeat (first | (with_reducible first | exact HI0.out | apply IsS110.alloc | apply IsS110.drewN | apply IsS110.drew | apply IsS110.set_1) | exact HI0.out)), (by repeat (first | (with_reducible first | exact HK.out | apply KeepBut.set_ | apply keep_drewN | apply keep_drew | apply keep_alloc) | exact HK.out)), (by repeat (first | (with_reducible first | exact HB.out | apply below_alloc | apply pw_below_drewN | apply below_drew1 | refine below_set ?_ (IsS110.ge HI0.out)) | exact HB.out))⟩)
                ·skip
                 refine goes_ Try.func68 (by kernel_rfl) rfl #[.pointer (some ⟨g, 0, none⟩), .int .i64 3] (by rfl) rfl rfl (by (try simp only [List.map_toArray, List.map_cons, List.map_nil]); first | done | rfl | (simp only [List.length_drop, List.length_take]; rfl)) ?_
                 with_reducible refine (spec_l20Rd_pick.calls kj49 g s0_0 t241 3 t253 t254 w0 _ ?side1 ?side2 A78.out).mono ?_
                 (case side1 => repeat (first | (with_reducible first | exact HI0.out | apply IsS110.alloc | apply IsS110.drewN | apply IsS110.drew | apply IsS110.set_1) | exact HI0.out))
                 (case side2 => repeat (first | (with_reducible first | exact HB.out | apply below_alloc | apply pw_below_drewN | apply below_drew1 | refine below_set ?_ (IsS110.ge HI0.out)) | exact HB.out))
                 rintro e w86 ⟨rfl, hi, hb, hk⟩
                 have HS0_ := keep_cell hk (hHeld.1) (by first | (rw [add_block]; exact Kd.own_blk (IsS110.own_ne HI0.out HO_7.out (by decide))) | (show (Addr.add _ _).block ≠ _; rw [add_block]; exact Kd.own_blk (IsS110.own_ne HI0.out HO_7.out (by decide))) | exact Kd.own_blk (IsS110.own_ne HI0.out HO_7.out (by decide)))
                 have HS1_ := keep_cell hk (hHeld.2.1) (by first | (rw [add_block]; exact Kd.own_blk (IsS110.own_ne HI0.out HO_7.out (by decide))) | (show (Addr.add _ _).block ≠ _; rw [add_block]; exact Kd.own_blk (IsS110.own_ne HI0.out HO_7.out (by decide))) | exact Kd.own_blk (IsS110.own_ne HI0.out HO_7.out (by decide)))
                 have HS2_ := keep_cell hk (hHeld.2.2.1) (by first | (rw [add_block]; exact Kd.own_blk (IsS110.own_ne HI0.out HO_7.out (by decide))) | (show (Addr.add _ _).block ≠ _; rw [add_block]; exact Kd.own_blk (IsS110.own_ne HI0.out HO_7.out (by decide))) | exact Kd.own_blk (IsS110.own_ne HI0.out HO_7.out (by decide)))
                 have HS3_ := keep_cell hk (hHeld.2.2.2) (by first | (rw [add_block]; exact Kd.own_blk (IsS110.own_ne HI0.out HO_7.out (by decide))) | (show (Addr.add _ _).block ≠ _; rw [add_block]; exact Kd.own_blk (IsS110.own_ne HI0.out HO_7.out (by decide))) | exact Kd.own_blk (IsS110.own_ne HI0.out HO_7.out (by decide)))
                 refine ⟨_, rfl, ?_⟩
                 have n0_ := Aside0.mk (Kd.R_mono (Kd.R_keep (IsS110.apart (show IsS110 w0 _ g s0_0 t241 from by repeat (first | (with_reducible first | exact HI0.out | apply IsS110.alloc | apply IsS110.drewN | apply IsS110.drew | apply IsS110.set_1) | exact HI0.out)) (by (with_reducible repeat (first | apply Kd.R_alloc | apply Kd.R_drewN | apply Kd.R_drew)); exact HO_7.out) (by decide)) hk (fun _ h => h.2)) (fun _ h => h.1))
                 have n1_ := Aside0.mk (KeepBut.trans (by repeat (first | (with_reducible first | exact HK.out | apply KeepBut.set_ | apply keep_drewN | apply keep_drew | apply keep_alloc) | exact HK.out)) hk (.inl rfl))
                 have n2_ := Aside0.mk (hb)
                 have n3_ := Aside0.mk (hi)
                 clear HO_7
                 clear HK
                 clear HB
                 clear HI0
                 have HO_7 := n0_
                 have HK := n1_
                 have HB := n2_
                 have HI0 := n3_
                 clear n0_ n1_ n2_ n3_
                 (try clear hb)
                 (try clear hb2)
                 (try clear hk)
                 (try clear hi)
                 refine hK.out _ _ ⟨HS0_, HS1_, HS2_, HS3_⟩ (fun hHeld => ?_)
                 clear hK K
                 refine norm_ (a' := ?_) ?_ ?_
                 rotate_left
                 ·show Act.put _ (some 135) _ = _
                  simp only [Act.put, List.setIfInBounds_toArray, List.set_cons_zero, List.set_cons_succ, i64_w, i32_w]
                  rfl
                 refine one_ (i := 8) (N := some 133) #[true, true, true, true, true, true, true, true, true, true, true, false, false, false, false, false] rfl rfl (one_of HT_.out (by kernel_rfl)) (by decide) (fun K hK => ?_)
                 refine Kd.R_lit_step (Kd.int .i64) _ 3 ?hg (N := 133) ?hd (xs := ([(-1), 120, wrap64 (((rd_T34 x7_1 t238).f1) + 1)] : List Int)) (inner := [.int .i64 (-1), .int .i64 120, .int .i64 (wrap64 (((rd_T34 x7_1 t238).f1) + 1))]) (ok := fun _ => True) (okp := fun _ => True) ?hr ?hp (fun _ hk => hk) trivial (Below.refl _ _) (Nat.le_refl _) (by simp) ?_; (case hd => rfl); (case hg => rfl); (case hr => first | (go_simp; done) | (go_simp; rfl)); (case hp => exact (Reps.one (show Kd.M (Kd.int .i64) _ _ _ (-1) [.int .i64 (-1)] from rfl) (Reps.one (show Kd.M (Kd.int .i64) _ _ _ 120 [.int .i64 120] from rfl) (Reps.one (show Kd.M (Kd.int .i64) _ _ _ (wrap64 (((rd_T34 x7_1 t238).f1) + 1)) [.int .i64 (wrap64 (((rd_T34 x7_1 t238).f1) + 1))] from rfl) (Reps.none _ _)))))
                 intro v251 w87 ho88 hb hg_ hnew_
                 have HS0_ := (hb.cell (World.block_lt_of_cell? _ _ (hHeld.1))).trans (hHeld.1)
                 have HS1_ := (hb.cell (World.block_lt_of_cell? _ _ (hHeld.2.1))).trans (hHeld.2.1)
                 have HS2_ := (hb.cell (World.block_lt_of_cell? _ _ (hHeld.2.2.1))).trans (hHeld.2.2.1)
                 have HS3_ := (hb.cell (World.block_lt_of_cell? _ _ (hHeld.2.2.2))).trans (hHeld.2.2.2)
                 clear hg_ hnew_
                 (first | rw [← Ny250.out] at ho88 | (simp only [Int.reduceToNat] at ho88; rw [← Ny250.out] at ho88))
                 have n0_ := Aside0.mk (Kd.R_below (by (with_reducible repeat (first | apply Kd.R_alloc | apply Kd.R_drewN | apply Kd.R_drew)); exact HO_7.out) hb)
                 have n1_ := Aside0.mk (Kd.R_lower ho88 (keep_size (w := w) (g := g) (row := none) (by repeat (first | (with_reducible first | exact HK.out | apply KeepBut.set_ | apply keep_drewN | apply keep_drew | apply keep_alloc) | exact HK.out))))
                 have n2_ := Aside0.mk (IsS110.below (by repeat (first | (with_reducible first | exact HI0.out | apply IsS110.alloc | apply IsS110.drewN | apply IsS110.drew | apply IsS110.set_1) | exact HI0.out)) hb)
                 have n3_ := Aside0.mk (KeepBut.trans (by repeat (first | (with_reducible first | exact HK.out | apply KeepBut.set_ | apply keep_drewN | apply keep_drew | apply keep_alloc) | exact HK.out)) (KeepBut.of_below hb g none) (.inl rfl))
                 have n4_ := Aside0.mk (below_step (by repeat (first | (with_reducible first | exact HB.out | apply below_alloc | apply pw_below_drewN | apply below_drew1 | refine below_set ?_ (IsS110.ge HI0.out)) | exact HB.out)) hb)
                 clear HO_7
                 clear HI0
                 clear HK
                 clear HB
                 have HO_7 := n0_
                 have HO252 := n1_
                 have HI0 := n2_
                 have HK := n3_
                 have HB := n4_
                 clear n0_ n1_ n2_ n3_ n4_
                 clear hb ho88
                 obtain ⟨Ao89, co89, eo89⟩ := Kd.R_slice HO252.out
                 subst eo89
                 obtain ⟨ado89, fo89, _⟩ := Kd.at_int (Kd.R_reads' HO252.out).2.2 0 (by decide) (by rw [Ny250.out]; simp)
                 cases fo89
                 refine hK.out _ _ ⟨HS0_, HS1_, HS2_, HS3_⟩ (fun hHeld => ?_)
                 clear hK K
                 refine norm_ (a' := ?_) ?_ ?_
                 rotate_left
                 ·show Act.put _ (some 133) _ = _
                  simp only [Act.put, List.setIfInBounds_toArray, List.set_cons_zero, List.set_cons_succ, i64_w, i32_w]
                  rfl
                 exact norm_ (by simp only [putAll, Act.put, List.setIfInBounds_toArray, List.set_cons_zero, List.set_cons_succ]) (hCont (.slice (some ado89) y250.length co89, ado89) _ ⟨hHeld, (by (with_reducible repeat (first | apply Kd.R_alloc | apply Kd.R_drewN | apply Kd.R_drew)); exact HO252.out), (by (with_reducible repeat (first | apply Kd.R_alloc | apply Kd.R_drewN | apply Kd.R_drew)); exact HO_7.out), ⟨_, rfl⟩, (by repeat (first | (with_reducible first | exact HI0.out | apply IsS110.alloc | apply IsS110.drewN | apply IsS110.drew | apply IsS110.set_1) | exact HI0.out)), (by repeat (first | (with_reducible first | exact HK.out | apply KeepBut.set_ | apply keep_drewN | apply keep_drew | apply keep_alloc) | exact HK.out)), (by repeat (first | (with_reducible first | exact HB.out | apply below_alloc | apply pw_below_drewN | apply below_drew1 | refine below_set ?_ (IsS110.ge HI0.out)) | exact HB.out))⟩)
               rintro ⟨v251, adz_v251⟩ w90 ⟨hS_, h0_, h1_, h2_, h3_, h4_, h5_⟩
               have n0_ : Aside0 (Kd.R (Kd.int .i64) 3 w90 w.heap.size (fun _ => True) v251 y250) := ⟨h0_⟩
               have n1_ : Aside0 (Kd.R k34 34 w90 w.heap.size (fun _ => True) (.slice (some ad249) x7_1.length co82) x7_1) := ⟨h1_⟩
               have n2_ : Aside0 (∃ c_, (v251 : Value) = .slice (some adz_v251) y250.length c_) := ⟨h2_⟩
               have n3_ : Aside0 (IsS110 w0 w90 g s0_0 t254) := ⟨h3_⟩
               have n4_ : Aside0 (KeepBut w w90 g none) := ⟨h4_⟩
               have n5_ : Aside0 (Below w0.heap.size w0 w90) := ⟨h5_⟩
               clear HO_7
               clear HI0
               clear HK
               clear HB
               clear h0_ h1_ h2_ h3_ h4_ h5_
               have HO252 := n0_
               have HO_7 := n1_
               have HA_HO252 := n2_
               have HI0 := n3_
               have HK := n4_
               have HB := n5_
               clear n0_ n1_ n2_ n3_ n4_ n5_
               have hHeld : w90.cell? (ad249.add ((t238).toNat * 4)) = some (.int .i64 ((rd_T34 x7_1 t238).f0)) ∧ w90.cell? ⟨(ad249.add ((t238).toNat * 4)).block, (ad249.add ((t238).toNat * 4)).off + 1, none⟩ = some (.int .i64 ((rd_T34 x7_1 t238).f1)) ∧ w90.cell? ⟨(ad249.add ((t238).toNat * 4)).block, (ad249.add ((t238).toNat * 4)).off + 2, none⟩ = some (.int .i64 ((rd_T34 x7_1 t238).f2)) ∧ w90.cell? ⟨(ad249.add ((t238).toNat * 4)).block, (ad249.add ((t238).toNat * 4)).off + 3, none⟩ = some (.int .i64 ((rd_T34 x7_1 t238).f3)) := hS_
               obtain ⟨co91, eo91⟩ := HA_HO252.out
               clear HA_HO252
               subst eo91
               have p81 : 0 ≤ (t238 : Int) := of_decide_eq_true (by first | (with_reducible assumption) | assumption)
               have q81 : (t238 : Int) < ((x7_1.length : Int) : Int) := of_decide_eq_true (by first | (with_reducible assumption) | assumption)
               obtain ⟨go81, co81, eo81, gb81, gl81, cl81, HG81⟩ := Kd.R_form HO_7.out (by omega)
               (first | cases eo81 | (injection eo81 with ea_ en_ ec_; (first | subst ea_ | (injection ea_ with ea_; subst ea_)); subst ec_; clear en_))
               have GB81 := Aside0.mk gb81
               have GG81 := Aside0.mk HG81
               clear gb81 gl81 HG81
               (first | simp only [add_plain] at hx249_0 | skip)
               (first | simp only [add_plain] at hx249_1 | skip)
               (first | simp only [add_plain] at hx249_2 | skip)
               (first | simp only [add_plain] at hx249_3 | skip)
               obtain ⟨ce81, hcl81, hM81, hcc81, hfr81⟩ := Kd.R_elem HO_7.out z34 (t238 : Int) p81 q81
               obtain rfl := k34_openM hM81
               have hx81_0 : World.cell? _ ⟨go81, (t238 : Int).toNat * 4, none⟩ = some (.int .i64 ((rd_T34 x7_1 t238).f0)) := hcc81 0 _ rfl
               have hx81_1 : World.cell? _ ⟨go81, (t238 : Int).toNat * 4 + 1, none⟩ = some (.int .i64 ((rd_T34 x7_1 t238).f1)) := hcc81 1 _ rfl
               have hx81_2 : World.cell? _ ⟨go81, (t238 : Int).toNat * 4 + 2, none⟩ = some (.int .i64 ((rd_T34 x7_1 t238).f2)) := hcc81 2 _ rfl
               have hx81_3 : World.cell? _ ⟨go81, (t238 : Int).toNat * 4 + 3, none⟩ = some (.int .i64 ((rd_T34 x7_1 t238).f3)) := hcc81 3 _ rfl
               have hf81_0 : World.frozen? _ ⟨go81, (t238 : Int).toNat * 4, none⟩ = false := hfr81 0
               have hf81_1 : World.frozen? _ ⟨go81, (t238 : Int).toNat * 4 + 1, none⟩ = false := hfr81 1
               have hf81_2 : World.frozen? _ ⟨go81, (t238 : Int).toNat * 4 + 2, none⟩ = false := hfr81 2
               have hf81_3 : World.frozen? _ ⟨go81, (t238 : Int).toNat * 4 + 3, none⟩ = false := hfr81 3
               clear hcl81 hcc81 hfr81 hM81
               replace p81 := eq_true p81
               replace q81 := eq_true q81
               have HN0_go81 := Aside0.mk (show g ≠ go81 from by have h_ := IsS110.own_ne HI0.out HO_7.out (by decide); intro e_; exact h_ (by rw [e_]; rfl))
               obtain ⟨ce92, hcl92, hM92, hcc92, hfr92⟩ := Kd.R_elem HO_7.out z34 (t238 : Int) (of_decide_eq_true (by first | (with_reducible assumption) | assumption)) (by have h_ : (t238 : Int) < ((x7_1.length : Int) : Int) := of_decide_eq_true (by first | (with_reducible assumption) | assumption); first | exact h_ | (have e_ := (Kd.R_reads' HO_7.out).1; omega) | simpa using h_)
               obtain rfl := k34_openM hM92
               have HP92 := (Kd.R_seg HO_7.out (t238 : Int) (of_decide_eq_true (by first | (with_reducible assumption) | assumption)) (by have h_ : (t238 : Int) < ((x7_1.length : Int) : Int) := of_decide_eq_true (by first | (with_reducible assumption) | assumption); first | exact h_ | (have e_ := (Kd.R_reads' HO_7.out).1; omega) | simpa using h_) (seg := [.int .i64 (rd y250 t253)]) (j := 1) hcl92 hcc92 (show 2 ≤ 4 from by decide) (x' := (⟨(rd_T34 x7_1 t238).f0, rd y250 t253, (rd_T34 x7_1 t238).f2, (rd_T34 x7_1 t238).f3⟩ : S34)) (k34_mkM _ _ _ (⟨(rd_T34 x7_1 t238).f0, rd y250 t253, (rd_T34 x7_1 t238).f2, (rd_T34 x7_1 t238).f3⟩ : S34) ) (fun _ hk => hk)).1
               rw [← Ny256.out] at HP92
               have HQ92 := Aside0.mk HP92
               clear hcl92 hcc92 hfr92 hM92 HP92
               refine norm_ (a' := ?_) ?_ ?_
               rotate_left
               ·simp only [putAll, Act.put, List.setIfInBounds_toArray, List.set_cons_zero, List.set_cons_succ]
                rfl
               refine pure_ (i := 11) (N := some 136) (v := ?_) (a' := ?_) #[true, true, true, true, true, true, true, true, true, true, true, true, false, false, false, false] rfl rfl (any_of HT_.out (by kernel_rfl)) (fun _ _ _ h => h) (Or.inl ⟨by rfl, ?_⟩) ?_ ?_
               rotate_left
               ·intro w'
                go_simp
                with_reducible rfl
               rotate_left
               ·simp only [Act.put, List.setIfInBounds_toArray, List.set_cons_zero, List.set_cons_succ, i64_w, i32_w]
                rfl
               refine one_ (i := 12) (N := some 137) #[true, true, true, true, true, true, true, true, true, true, true, true, true, false, false, false] rfl rfl (one_of HT_.out (by kernel_rfl)) (by decide) (fun K hK => ?_)
               (have p255 : 0 ≤ (t253 : Int) := of_decide_eq_true (by first | (with_reducible assumption) | assumption); have q255 : t253 < (y250.length : Int) := of_decide_eq_true (by first | (with_reducible assumption) | assumption); obtain ⟨ad255, e255, hx255_0⟩ := Kd.at_int (Kd.R_reads' HO252.out).2.2 t253 p255 q255; obtain rfl : adz_v251 = ad255 := (by injection e255))
               refine value_ (w1 := ?_) (v := ?_) (by rfl) rfl ?_ ?_
               rotate_left 2
               ·go_simp
                constructor
                ·rfl
                ·rfl
               clear hx255_0
               refine hK.out _ _ ⟨hHeld.1, hHeld.2.1, hHeld.2.2.1, hHeld.2.2.2⟩ (fun hHeld => ?_)
               clear hK K
               refine norm_ (a' := ?_) ?_ ?_
               rotate_left
               ·show Act.put _ (some 137) _ = _
                simp only [Act.put, List.setIfInBounds_toArray, List.set_cons_zero, List.set_cons_succ, i64_w, i32_w]
                rfl
               refine pure_ (i := 13) (N := some 138) (v := ?_) (a' := ?_) #[true, true, true, true, true, true, true, true, true, true, true, true, true, true, false, false] rfl rfl (any_of HT_.out (by kernel_rfl)) (fun _ _ _ h => h) (Or.inl ⟨by rfl, ?_⟩) ?_ ?_
               rotate_left
               ·intro w'
                go_simp
                with_reducible rfl
               rotate_left
               ·simp only [Act.put, List.setIfInBounds_toArray, List.set_cons_zero, List.set_cons_succ, i64_w, i32_w]
                rfl
               refine pure_ (i := 14) (N := some 139) (v := ?_) (a' := ?_) #[true, true, true, true, true, true, true, true, true, true, true, true, true, true, true, false] rfl rfl (any_of HT_.out (by kernel_rfl)) (fun _ _ _ h => h) (Or.inl ⟨by rfl, ?_⟩) ?_ ?_
               rotate_left
               ·intro w'
                go_simp
                with_reducible rfl
               rotate_left
               ·simp only [Act.put, List.setIfInBounds_toArray, List.set_cons_zero, List.set_cons_succ, i64_w, i32_w]
                rfl
               refine last_ (i := 15) (N := none) #[true, true, true, true, true, true, true, true, true, true, true, true, true, true, true, true] rfl rfl (one_of HT_.out (by kernel_rfl)) (by decide) (fun K hK => ?_)
               refine skip_ (w1 := ?_) (by rfl) rfl ?_ ?_
               rotate_left
               ·go_simp
                rfl
               refine hK.out _ _ ?_
               clear hK K
               refine done_ (done_of HT_.out (by kernel_rfl)) ?_
               try go_wp2
               go_ret
               exact ⟨_, by first | rfl | (simp [errW_none, errW_some] <;> rfl) | (simp [*, errW_none, errW_some] <;> rfl), by (with_reducible repeat (first | apply Kd.R_alloc | apply Kd.R_drewN | apply Kd.R_drew)); exact HQ92.out, by repeat (first | (with_reducible first | exact HI0.out | apply IsS110.alloc | apply IsS110.drewN | apply IsS110.drew | apply IsS110.set_1 | refine IsS110.far ?_ HN0_go81.out _) | exact HI0.out), by repeat (first | (with_reducible first | exact HB.out | apply below_alloc | apply pw_below_drewN | apply below_drew1 | refine below_set ?_ (Nat.le_trans HL.out GB81.out) | refine below_set ?_ (IsS110.ge HI0.out)) | exact HB.out), by repeat (first | (with_reducible first | exact HK.out | apply KeepBut.set_ | apply keep_drewN | apply keep_drew | apply keep_alloc | refine keep_far ?_ GB81.out _) | exact HK.out)⟩
              ·rw [if_neg c80] at H
               exact absurd H (by simp)
             ·rw [if_neg c79] at H
              exact absurd H (by simp)
            ·rw [if_neg c77] at H
             exact absurd H (by simp)
           ·rw [if_neg c76] at H
            exact absurd H (by simp)
          ·rw [if_neg c75] at H
           have c75b0 : (t240 == 1) = false := beq_eq_false_iff_ne.mpr c75
           have c75b1 : (t240 != 1) = true := bne_iff_ne.mpr c75
           by_cases c93 : t240 = 2
           ·rw [if_pos c93] at H
            have c93b0 : (t240 == 2) = true := beq_iff_eq.mpr c93
            have c93b1 : (t240 != 2) = false := bne_eq_false_iff_eq.mpr c93
            clear c93
            by_cases c94 : 0 ≤ t238
            ·rw [if_pos c94] at H
             have c94b0 : decide (0 ≤ t238) = true := decide_eq_true c94
             clear c94
             by_cases c95 : t238 < (x7_1.length : Int)
             ·rw [if_pos c95] at H
              have c95b0 : decide (t238 < (x7_1.length : Int)) = true := decide_eq_true c95
              clear c95
              obtain ⟨y258, hy258⟩ : ∃ y_ : List (S34), y_ = (x7_1.set (t238 : Int).toNat (⟨(rd_T34 x7_1 t238).f0, (rd_T34 x7_1 t238).f1, wrap64 (((rd_T34 x7_1 t238).f2) + 1), (rd_T34 x7_1 t238).f3⟩ : S34)) := ⟨_, rfl⟩
              replace H : (some (y258, t241)) = some (r1, r2) := by first | (rw [hy258]; with_reducible exact H) | (have H2_ := (Option.bind_some _ _).symm.trans H; rw [hy258]; with_reducible exact H2_) | (have H2_ := (Option.bind_some _ _).symm.trans H; with_reducible exact H2_) | with_reducible exact H | (rw [hy258]; exact H) | exact H
              have Ny258 := Aside0.mk hy258
              clear hy258
              simp only [Option.some.injEq, Prod.mk.injEq] at H
              obtain ⟨rfl, rfl⟩ := H
              obtain ⟨Ao97, co97, eo97⟩ := Kd.R_slice HO_7.out
              subst eo97
              go_wp2_with (first | ((with_reducible refine gate_callee (f := 68) rfl ?_); refine goesL_ (some 100) rfl rfl Try.func68 (by kernel_rfl) rfl #[.pointer (some ⟨g, 0, none⟩), .int .i64 (x7_1.length : Int)] rfl (by (try simp only [List.map_toArray, List.map_cons, List.map_nil]); first | done | rfl | (simp only [List.length_drop, List.length_take]; rfl)) ?_; (with_reducible refine (spec_l20Rd_pick.calls kj49 g s0_0 x1001_49 (x7_1.length : Int) t238 t239 w0 _ ?side1 ?side2 A57.out).mono ?_); (case side1 => repeat (first | (with_reducible first | exact HI0.out | apply IsS110.alloc | apply IsS110.drewN | apply IsS110.drew | apply IsS110.set_1) | exact HI0.out)); (case side2 => repeat (first | (with_reducible first | exact HB.out | apply below_alloc | apply pw_below_drewN | apply below_drew1 | refine below_set ?_ (IsS110.ge HI0.out)) | exact HB.out)); rintro e w98 ⟨rfl, hi, hb, hk⟩; refine ⟨_, rfl, ?_⟩; have n0_ := Aside0.mk (Kd.R_mono (Kd.R_keep (IsS110.apart (show IsS110 w0 _ g s0_0 x1001_49 from by repeat (first | (with_reducible first | exact HI0.out | apply IsS110.alloc | apply IsS110.drewN | apply IsS110.drew | apply IsS110.set_1) | exact HI0.out)) (by (with_reducible repeat (first | apply Kd.R_alloc | apply Kd.R_drewN | apply Kd.R_drew)); exact HO_7.out) (by decide)) hk (fun _ h => h.2)) (fun _ h => h.1)); have n1_ := Aside0.mk (KeepBut.trans (by repeat (first | (with_reducible first | exact HK.out | apply KeepBut.set_ | apply keep_drewN | apply keep_drew | apply keep_alloc) | exact HK.out)) hk (.inl rfl)); have n2_ := Aside0.mk (hb); have n3_ := Aside0.mk (hi); clear HO_7; clear HK; clear HB; clear HI0; have HO_7 := n0_; have HK := n1_; have HB := n2_; have HI0 := n3_; clear n0_ n1_ n2_ n3_; (try clear hb); (try clear hb2); (try clear hk); (try clear hi)) | ((with_reducible refine gate_callee (f := 68) rfl ?_); refine goesL_ (some 102) rfl rfl Try.func68 (by kernel_rfl) rfl #[.pointer (some ⟨g, 0, none⟩), .int .i64 6] rfl (by (try simp only [List.map_toArray, List.map_cons, List.map_nil]); first | done | rfl | (simp only [List.length_drop, List.length_take]; rfl)) ?_; (with_reducible refine (spec_l20Rd_pick.calls kj49 g s0_0 t239 6 t240 t241 w0 _ ?side1 ?side2 A58.out).mono ?_); (case side1 => repeat (first | (with_reducible first | exact HI0.out | apply IsS110.alloc | apply IsS110.drewN | apply IsS110.drew | apply IsS110.set_1) | exact HI0.out)); (case side2 => repeat (first | (with_reducible first | exact HB.out | apply below_alloc | apply pw_below_drewN | apply below_drew1 | refine below_set ?_ (IsS110.ge HI0.out)) | exact HB.out)); rintro e w99 ⟨rfl, hi, hb, hk⟩; refine ⟨_, rfl, ?_⟩; have n0_ := Aside0.mk (Kd.R_mono (Kd.R_keep (IsS110.apart (show IsS110 w0 _ g s0_0 t239 from by repeat (first | (with_reducible first | exact HI0.out | apply IsS110.alloc | apply IsS110.drewN | apply IsS110.drew | apply IsS110.set_1) | exact HI0.out)) (by (with_reducible repeat (first | apply Kd.R_alloc | apply Kd.R_drewN | apply Kd.R_drew)); exact HO_7.out) (by decide)) hk (fun _ h => h.2)) (fun _ h => h.1)); have n1_ := Aside0.mk (KeepBut.trans (by repeat (first | (with_reducible first | exact HK.out | apply KeepBut.set_ | apply keep_drewN | apply keep_drew | apply keep_alloc) | exact HK.out)) hk (.inl rfl)); have n2_ := Aside0.mk (hb); have n3_ := Aside0.mk (hi); clear HO_7; clear HK; clear HB; clear HI0; have HO_7 := n0_; have HK := n1_; have HB := n2_; have HI0 := n3_; clear n0_ n1_ n2_ n3_; (try clear hb); (try clear hb2); (try clear hk); (try clear hi); have p257 : 0 ≤ (t238 : Int) := of_decide_eq_true (by first | (with_reducible assumption) | assumption); have q257 : t238 < (x7_1.length : Int) := of_decide_eq_true (by first | (with_reducible assumption) | assumption); obtain ⟨ad257, e257, hx257_0, hx257_1, hx257_2, hx257_3⟩ := at_T34 (Kd.R_reads' HO_7.out).2.2 t238 p257 q257; cases e257; replace p257 := eq_true p257; replace q257 := eq_true q257; have p96 : 0 ≤ (t238 : Int) := of_decide_eq_true (by first | (with_reducible assumption) | assumption); have q96 : (t238 : Int) < ((x7_1.length : Int) : Int) := of_decide_eq_true (by first | (with_reducible assumption) | assumption); obtain ⟨go96, co96, eo96, gb96, gl96, cl96, HG96⟩ := Kd.R_form HO_7.out (by omega); (first | cases eo96 | (injection eo96 with ea_ en_ ec_; (first | subst ea_ | (injection ea_ with ea_; subst ea_)); subst ec_; clear en_)); have GB96 := Aside0.mk gb96; have GG96 := Aside0.mk HG96; clear gb96 gl96 HG96; (first | simp only [add_plain] at hx257_0 | skip); (first | simp only [add_plain] at hx257_1 | skip); (first | simp only [add_plain] at hx257_2 | skip); (first | simp only [add_plain] at hx257_3 | skip); obtain ⟨ce96, hcl96, hM96, hcc96, hfr96⟩ := Kd.R_elem HO_7.out z34 (t238 : Int) p96 q96; obtain rfl := k34_openM hM96; have hx96_0 : w99.cell? ⟨go96, (t238 : Int).toNat * 4, none⟩ = some (.int .i64 ((rd_T34 x7_1 t238).f0)) := hcc96 0 _ rfl; have hx96_1 : w99.cell? ⟨go96, (t238 : Int).toNat * 4 + 1, none⟩ = some (.int .i64 ((rd_T34 x7_1 t238).f1)) := hcc96 1 _ rfl; have hx96_2 : w99.cell? ⟨go96, (t238 : Int).toNat * 4 + 2, none⟩ = some (.int .i64 ((rd_T34 x7_1 t238).f2)) := hcc96 2 _ rfl; have hx96_3 : w99.cell? ⟨go96, (t238 : Int).toNat * 4 + 3, none⟩ = some (.int .i64 ((rd_T34 x7_1 t238).f3)) := hcc96 3 _ rfl; have hf96_0 : w99.frozen? ⟨go96, (t238 : Int).toNat * 4, none⟩ = false := hfr96 0; have hf96_1 : w99.frozen? ⟨go96, (t238 : Int).toNat * 4 + 1, none⟩ = false := hfr96 1; have hf96_2 : w99.frozen? ⟨go96, (t238 : Int).toNat * 4 + 2, none⟩ = false := hfr96 2; have hf96_3 : w99.frozen? ⟨go96, (t238 : Int).toNat * 4 + 3, none⟩ = false := hfr96 3; (try clear hcl96); (try clear hcc96); (try clear hfr96); (try clear hM96); replace p96 := eq_true p96; replace q96 := eq_true q96; have HX100 := Aside0.mk (show Kd.R k34 34 w99 w.heap.size (fun _ => True) (.slice (some ⟨go96, 0, none⟩) x7_1.length co97) x7_1 from (by (with_reducible repeat (first | apply Kd.R_alloc | apply Kd.R_drewN | apply Kd.R_drew)); exact HO_7.out)); obtain ⟨ce100, hcl100, hM100, hcc100, hfr100⟩ := Kd.R_elem HX100.out z34 (t238 : Int) (of_decide_eq_true (by first | (with_reducible assumption) | assumption)) (by have h_ : (t238 : Int) < ((x7_1.length : Int) : Int) := of_decide_eq_true (by first | (with_reducible assumption) | assumption); first | exact h_ | (have e_ := (Kd.R_reads' HO_7.out).1; omega) | simpa using h_); obtain rfl := k34_openM hM100; have HP100 := Kd.R_seg HX100.out (t238 : Int) (of_decide_eq_true (by first | (with_reducible assumption) | assumption)) (by have h_ : (t238 : Int) < ((x7_1.length : Int) : Int) := of_decide_eq_true (by first | (with_reducible assumption) | assumption); first | exact h_ | (have e_ := (Kd.R_reads' HO_7.out).1; omega) | simpa using h_) (seg := [.int .i64 (wrap64 (((rd_T34 x7_1 t238).f2) + 1))]) (j := 2) hcl100 hcc100 (show 3 ≤ 4 from by decide) (x' := (⟨(rd_T34 x7_1 t238).f0, (rd_T34 x7_1 t238).f1, wrap64 (((rd_T34 x7_1 t238).f2) + 1), (rd_T34 x7_1 t238).f3⟩ : S34)) (k34_mkM _ _ _ (⟨(rd_T34 x7_1 t238).f0, (rd_T34 x7_1 t238).f1, wrap64 (((rd_T34 x7_1 t238).f2) + 1), (rd_T34 x7_1 t238).f3⟩ : S34) ) (fun _ hk => hk); have hx100_2 := hcc100 2 _ rfl; (try simp only [show (k34).sz = 4 from rfl, Nat.mul_one, Nat.add_zero] at hx100_2); have hf100_2 := hfr100 2; (try simp only [show (k34).sz = 4 from rfl, Nat.mul_one, Nat.add_zero] at hf100_2); (try clear hcl100); (try clear hcc100); (try clear hfr100); (try clear hM100)) | ((with_reducible refine gate_store (t := 3) (p := 151) rfl ?_); refine store_event (t := 3) (p := 151) (v := ?vo_w101) (w1 := (w99.setCell ⟨go96, (t238 : Int).toNat * 4 + 2, none⟩ (.int .i64 (wrap64 (((rd_T34 x7_1 t238).f2) + 1))))) ?hg ?ho ?hn ?hr ?_; (case ho => rfl); (case hg => rfl); (case hn => rfl); (case hr => first | (go_simp; done) | (go_simp; rfl)); intro w101 hw; have hg : w99.grownBy w101 (some go96) := (by rw [hw]; exact HP100.2); have hp_ : Kd.R k34 34 w101 w.heap.size (fun _ => True) (.slice (some ⟨go96, 0, none⟩) x7_1.length co97) y258 := (by rw [hw, Ny258.out]; exact HP100.1); clear HP100; have n0_ := Aside0.mk (hp_); have n1_ := Aside0.mk (IsS110.grown (by repeat (first | (with_reducible first | exact HI0.out | apply IsS110.alloc | apply IsS110.drewN | apply IsS110.drew | apply IsS110.set_1) | exact HI0.out)) hg (IsS110.own_ne HI0.out HO_7.out (by decide))); have n2_ := Aside0.mk ((by rw [hw]; exact below_set (HB.out) (Nat.le_trans HL.out GB96.out) : Below w0.heap.size w0 w101)); have n3_ := Aside0.mk (KeepBut.trans (by repeat (first | (with_reducible first | exact HK.out | apply KeepBut.set_ | apply keep_drewN | apply keep_drew | apply keep_alloc) | exact HK.out)) (KeepBut.of_grown hg g) (Kd.R_base2 HO_7.out)); clear HO_7; clear HI0; clear HB; clear HK; have HO_7 := n0_; have HI0 := n1_; have HB := n2_; have HK := n3_; clear n0_ n1_ n2_ n3_; clear hg hw hp_))
              go_ret
              exact ⟨_, by first | rfl | (simp [errW_none, errW_some] <;> rfl) | (simp [*, errW_none, errW_some] <;> rfl), by (with_reducible repeat (first | apply Kd.R_alloc | apply Kd.R_drewN | apply Kd.R_drew)); exact HO_7.out, by repeat (first | (with_reducible first | exact HI0.out | apply IsS110.alloc | apply IsS110.drewN | apply IsS110.drew | apply IsS110.set_1) | exact HI0.out), by repeat (first | (with_reducible first | exact HB.out | apply below_alloc | apply pw_below_drewN | apply below_drew1 | refine below_set ?_ (IsS110.ge HI0.out)) | exact HB.out), by repeat (first | (with_reducible first | exact HK.out | apply KeepBut.set_ | apply keep_drewN | apply keep_drew | apply keep_alloc) | exact HK.out)⟩
             ·rw [if_neg c95] at H
              exact absurd H (by simp)
            ·rw [if_neg c94] at H
             exact absurd H (by simp)
           ·rw [if_neg c93] at H
            have c93b0 : (t240 == 2) = false := beq_eq_false_iff_ne.mpr c93
            have c93b1 : (t240 != 2) = true := bne_iff_ne.mpr c93
            by_cases c102 : t240 = 3
            ·rw [if_pos c102] at H
             have c102b0 : (t240 == 3) = true := beq_iff_eq.mpr c102
             have c102b1 : (t240 != 3) = false := bne_eq_false_iff_eq.mpr c102
             clear c102
             obtain ⟨y259, hy259⟩ : ∃ y_ : List Int, y_ = (([0, 9] : List Int)) := ⟨_, rfl⟩
             replace H : ((spec_l20Rd_pick.f kj49 s0_0 t241 2).bind fun bt262 => (if 0 ≤ bt262.1 then (if bt262.1 < (y259.length : Int) then (if 0 ≤ t238 then (if t238 < (x7_1.length : Int) then (some ((x7_1.set (t238 : Int).toNat (⟨(rd_T34 x7_1 t238).f0, (rd_T34 x7_1 t238).f1, (rd_T34 x7_1 t238).f2, rd y259 bt262.1⟩ : S34)), bt262.2)) else (none)) else (none)) else (none)) else (none))) = some (r1, r2) := by first | (rw [hy259]; with_reducible exact H) | (have H2_ := (Option.bind_some _ _).symm.trans H; rw [hy259]; with_reducible exact H2_) | (have H2_ := (Option.bind_some _ _).symm.trans H; with_reducible exact H2_) | with_reducible exact H | (rw [hy259]; exact H) | exact H
             have Ny259 := Aside0.mk hy259
             clear hy259
             replace H := Option.bind_eq_some_iff.mp H
             obtain ⟨⟨t262, t263⟩, A1030, H⟩ := H
             replace H : (if 0 ≤ t262 then (if t262 < (y259.length : Int) then (if 0 ≤ t238 then (if t238 < (x7_1.length : Int) then (some ((x7_1.set (t238 : Int).toNat (⟨(rd_T34 x7_1 t238).f0, (rd_T34 x7_1 t238).f1, (rd_T34 x7_1 t238).f2, rd y259 t262⟩ : S34)), t263)) else (none)) else (none)) else (none)) else (none)) = some (r1, r2) := H
             have A103 := Aside0.mk A1030
             clear A1030
             by_cases c104 : 0 ≤ t262
             ·rw [if_pos c104] at H
              have c104b0 : decide (0 ≤ t262) = true := decide_eq_true c104
              clear c104
              by_cases c105 : t262 < (y259.length : Int)
              ·rw [if_pos c105] at H
               have c105b0 : decide (t262 < (y259.length : Int)) = true := decide_eq_true c105
               clear c105
               by_cases c106 : 0 ≤ t238
               ·rw [if_pos c106] at H
                have c106b0 : decide (0 ≤ t238) = true := decide_eq_true c106
                clear c106
                by_cases c107 : t238 < (x7_1.length : Int)
                ·rw [if_pos c107] at H
                 have c107b0 : decide (t238 < (x7_1.length : Int)) = true := decide_eq_true c107
                 clear c107
                 obtain ⟨y265, hy265⟩ : ∃ y_ : List (S34), y_ = (x7_1.set (t238 : Int).toNat (⟨(rd_T34 x7_1 t238).f0, (rd_T34 x7_1 t238).f1, (rd_T34 x7_1 t238).f2, rd y259 t262⟩ : S34)) := ⟨_, rfl⟩
                 replace H : (some (y265, t263)) = some (r1, r2) := by first | (rw [hy265]; with_reducible exact H) | (have H2_ := (Option.bind_some _ _).symm.trans H; rw [hy265]; with_reducible exact H2_) | (have H2_ := (Option.bind_some _ _).symm.trans H; with_reducible exact H2_) | with_reducible exact H | (rw [hy265]; exact H) | exact H
                 have Ny265 := Aside0.mk hy265
                 clear hy265
                 simp only [Option.some.injEq, Prod.mk.injEq] at H
                 obtain ⟨rfl, rfl⟩ := H
                 obtain ⟨Ao109, co109, eo109⟩ := Kd.R_slice HO_7.out
                 subst eo109
                 go_wp2_with (first | ((with_reducible refine gate_callee (f := 68) rfl ?_); refine goesL_ (some 100) rfl rfl Try.func68 (by kernel_rfl) rfl #[.pointer (some ⟨g, 0, none⟩), .int .i64 (x7_1.length : Int)] rfl (by (try simp only [List.map_toArray, List.map_cons, List.map_nil]); first | done | rfl | (simp only [List.length_drop, List.length_take]; rfl)) ?_; (with_reducible refine (spec_l20Rd_pick.calls kj49 g s0_0 x1001_49 (x7_1.length : Int) t238 t239 w0 _ ?side1 ?side2 A57.out).mono ?_); (case side1 => repeat (first | (with_reducible first | exact HI0.out | apply IsS110.alloc | apply IsS110.drewN | apply IsS110.drew | apply IsS110.set_1) | exact HI0.out)); (case side2 => repeat (first | (with_reducible first | exact HB.out | apply below_alloc | apply pw_below_drewN | apply below_drew1 | refine below_set ?_ (IsS110.ge HI0.out)) | exact HB.out)); rintro e w110 ⟨rfl, hi, hb, hk⟩; refine ⟨_, rfl, ?_⟩; have n0_ := Aside0.mk (Kd.R_mono (Kd.R_keep (IsS110.apart (show IsS110 w0 _ g s0_0 x1001_49 from by repeat (first | (with_reducible first | exact HI0.out | apply IsS110.alloc | apply IsS110.drewN | apply IsS110.drew | apply IsS110.set_1) | exact HI0.out)) (by (with_reducible repeat (first | apply Kd.R_alloc | apply Kd.R_drewN | apply Kd.R_drew)); exact HO_7.out) (by decide)) hk (fun _ h => h.2)) (fun _ h => h.1)); have n1_ := Aside0.mk (KeepBut.trans (by repeat (first | (with_reducible first | exact HK.out | apply KeepBut.set_ | apply keep_drewN | apply keep_drew | apply keep_alloc) | exact HK.out)) hk (.inl rfl)); have n2_ := Aside0.mk (hb); have n3_ := Aside0.mk (hi); clear HO_7; clear HK; clear HB; clear HI0; have HO_7 := n0_; have HK := n1_; have HB := n2_; have HI0 := n3_; clear n0_ n1_ n2_ n3_; (try clear hb); (try clear hb2); (try clear hk); (try clear hi)) | ((with_reducible refine gate_callee (f := 68) rfl ?_); refine goesL_ (some 102) rfl rfl Try.func68 (by kernel_rfl) rfl #[.pointer (some ⟨g, 0, none⟩), .int .i64 6] rfl (by (try simp only [List.map_toArray, List.map_cons, List.map_nil]); first | done | rfl | (simp only [List.length_drop, List.length_take]; rfl)) ?_; (with_reducible refine (spec_l20Rd_pick.calls kj49 g s0_0 t239 6 t240 t241 w0 _ ?side1 ?side2 A58.out).mono ?_); (case side1 => repeat (first | (with_reducible first | exact HI0.out | apply IsS110.alloc | apply IsS110.drewN | apply IsS110.drew | apply IsS110.set_1) | exact HI0.out)); (case side2 => repeat (first | (with_reducible first | exact HB.out | apply below_alloc | apply pw_below_drewN | apply below_drew1 | refine below_set ?_ (IsS110.ge HI0.out)) | exact HB.out)); rintro e w111 ⟨rfl, hi, hb, hk⟩; refine ⟨_, rfl, ?_⟩; have n0_ := Aside0.mk (Kd.R_mono (Kd.R_keep (IsS110.apart (show IsS110 w0 _ g s0_0 t239 from by repeat (first | (with_reducible first | exact HI0.out | apply IsS110.alloc | apply IsS110.drewN | apply IsS110.drew | apply IsS110.set_1) | exact HI0.out)) (by (with_reducible repeat (first | apply Kd.R_alloc | apply Kd.R_drewN | apply Kd.R_drew)); exact HO_7.out) (by decide)) hk (fun _ h => h.2)) (fun _ h => h.1)); have n1_ := Aside0.mk (KeepBut.trans (by repeat (first | (with_reducible first | exact HK.out | apply KeepBut.set_ | apply keep_drewN | apply keep_drew | apply keep_alloc) | exact HK.out)) hk (.inl rfl)); have n2_ := Aside0.mk (hb); have n3_ := Aside0.mk (hi); clear HO_7; clear HK; clear HB; clear HI0; have HO_7 := n0_; have HK := n1_; have HB := n2_; have HI0 := n3_; clear n0_ n1_ n2_ n3_; (try clear hb); (try clear hb2); (try clear hk); (try clear hi)) | ((with_reducible refine gate_dst (N := 156) rfl ?_); (try (refine gate_guard (by rfl) ?_; dsimp only)); refine Kd.R_lit (Kd.int .i64) _ 3 ?hg (N := 156) ?hd (xs := ([0, 9] : List Int)) (inner := [.int .i64 0, .int .i64 9]) (ok := fun _ => True) (okp := fun _ => True) ?hr ?hp (fun _ hk => hk) trivial (Below.refl _ _) (Nat.le_refl _) (by simp) ?_; (case hd => rfl); (case hg => rfl); (case hr => first | (go_simp; done) | (go_simp; rfl)); (case hp => exact (Reps.one (show Kd.M (Kd.int .i64) _ _ _ 0 [.int .i64 0] from rfl) (Reps.one (show Kd.M (Kd.int .i64) _ _ _ 9 [.int .i64 9] from rfl) (Reps.none _ _)))); intro v260 w112 ho113 hb hg_ hnew_; clear hg_ hnew_; (first | rw [← Ny259.out] at ho113 | (simp only [Int.reduceToNat] at ho113; rw [← Ny259.out] at ho113)); have n0_ := Aside0.mk (Kd.R_below (by (with_reducible repeat (first | apply Kd.R_alloc | apply Kd.R_drewN | apply Kd.R_drew)); exact HO_7.out) hb); have n1_ := Aside0.mk (Kd.R_lower ho113 (keep_size (w := w) (g := g) (row := none) (by repeat (first | (with_reducible first | exact HK.out | apply KeepBut.set_ | apply keep_drewN | apply keep_drew | apply keep_alloc) | exact HK.out)))); have n2_ := Aside0.mk (IsS110.below (by repeat (first | (with_reducible first | exact HI0.out | apply IsS110.alloc | apply IsS110.drewN | apply IsS110.drew | apply IsS110.set_1) | exact HI0.out)) hb); have n3_ := Aside0.mk (KeepBut.trans (by repeat (first | (with_reducible first | exact HK.out | apply KeepBut.set_ | apply keep_drewN | apply keep_drew | apply keep_alloc) | exact HK.out)) (KeepBut.of_below hb g none) (.inl rfl)); have n4_ := Aside0.mk (below_step (by repeat (first | (with_reducible first | exact HB.out | apply below_alloc | apply pw_below_drewN | apply below_drew1 | refine below_set ?_ (IsS110.ge HI0.out)) | exact HB.out)) hb); clear HO_7; clear HI0; clear HK; clear HB; have HO_7 := n0_; have HO261 := n1_; have HI0 := n2_; have HK := n3_; have HB := n4_; clear n0_ n1_ n2_ n3_ n4_; clear hb ho113) | ((with_reducible refine gate_callee (f := 68) rfl ?_); refine goesL_ (some 158) rfl rfl Try.func68 (by kernel_rfl) rfl #[.pointer (some ⟨g, 0, none⟩), .int .i64 2] rfl (by (try simp only [List.map_toArray, List.map_cons, List.map_nil]); first | done | rfl | (simp only [List.length_drop, List.length_take]; rfl)) ?_; (with_reducible refine (spec_l20Rd_pick.calls kj49 g s0_0 t241 2 t262 t263 w0 _ ?side1 ?side2 A103.out).mono ?_); (case side1 => repeat (first | (with_reducible first | exact HI0.out | apply IsS110.alloc | apply IsS110.drewN | apply IsS110.drew | apply IsS110.set_1) | exact HI0.out)); (case side2 => repeat (first | (with_reducible first | exact HB.out | apply below_alloc | apply pw_below_drewN | apply below_drew1 | refine below_set ?_ (IsS110.ge HI0.out)) | exact HB.out)); rintro e w114 ⟨rfl, hi, hb, hk⟩; refine ⟨_, rfl, ?_⟩; have n0_ := Aside0.mk (Kd.R_mono (Kd.R_keep (IsS110.apart (show IsS110 w0 _ g s0_0 t241 from by repeat (first | (with_reducible first | exact HI0.out | apply IsS110.alloc | apply IsS110.drewN | apply IsS110.drew | apply IsS110.set_1) | exact HI0.out)) (by (with_reducible repeat (first | apply Kd.R_alloc | apply Kd.R_drewN | apply Kd.R_drew)); exact HO_7.out) (by decide)) hk (fun _ h => h.2)) (fun _ h => h.1)); have n1_ := Aside0.mk (Kd.R_mono (Kd.R_keep (IsS110.apart (show IsS110 w0 _ g s0_0 t241 from by repeat (first | (with_reducible first | exact HI0.out | apply IsS110.alloc | apply IsS110.drewN | apply IsS110.drew | apply IsS110.set_1) | exact HI0.out)) (by (with_reducible repeat (first | apply Kd.R_alloc | apply Kd.R_drewN | apply Kd.R_drew)); exact HO261.out) (by decide)) hk (fun _ h => h.2)) (fun _ h => h.1)); have n2_ := Aside0.mk (KeepBut.trans (by repeat (first | (with_reducible first | exact HK.out | apply KeepBut.set_ | apply keep_drewN | apply keep_drew | apply keep_alloc) | exact HK.out)) hk (.inl rfl)); have n3_ := Aside0.mk (hb); have n4_ := Aside0.mk (hi); clear HO_7; clear HO261; clear HK; clear HB; clear HI0; have HO_7 := n0_; have HO261 := n1_; have HK := n2_; have HB := n3_; have HI0 := n4_; clear n0_ n1_ n2_ n3_ n4_; (try clear hb); (try clear hb2); (try clear hk); (try clear hi); obtain ⟨Ao115, co115, eo115⟩ := Kd.R_slice HO261.out; subst eo115; have p264 : 0 ≤ (t262 : Int) := of_decide_eq_true (by first | (with_reducible assumption) | assumption); have q264 : t262 < (y259.length : Int) := of_decide_eq_true (by first | (with_reducible assumption) | assumption); obtain ⟨ad264, e264, hx264_0⟩ := Kd.at_int (Kd.R_reads' HO261.out).2.2 t262 p264 q264; cases e264; replace p264 := eq_true p264; replace q264 := eq_true q264; have p108 : 0 ≤ (t238 : Int) := of_decide_eq_true (by first | (with_reducible assumption) | assumption); have q108 : (t238 : Int) < ((x7_1.length : Int) : Int) := of_decide_eq_true (by first | (with_reducible assumption) | assumption); obtain ⟨go108, co108, eo108, gb108, gl108, cl108, HG108⟩ := Kd.R_form HO_7.out (by omega); (first | cases eo108 | (injection eo108 with ea_ en_ ec_; (first | subst ea_ | (injection ea_ with ea_; subst ea_)); subst ec_; clear en_)); have GB108 := Aside0.mk gb108; have GG108 := Aside0.mk HG108; clear gb108 gl108 HG108; obtain ⟨ce108, hcl108, hM108, hcc108, hfr108⟩ := Kd.R_elem HO_7.out z34 (t238 : Int) p108 q108; obtain rfl := k34_openM hM108; have hx108_0 : w114.cell? ⟨go108, (t238 : Int).toNat * 4, none⟩ = some (.int .i64 ((rd_T34 x7_1 t238).f0)) := hcc108 0 _ rfl; have hx108_1 : w114.cell? ⟨go108, (t238 : Int).toNat * 4 + 1, none⟩ = some (.int .i64 ((rd_T34 x7_1 t238).f1)) := hcc108 1 _ rfl; have hx108_2 : w114.cell? ⟨go108, (t238 : Int).toNat * 4 + 2, none⟩ = some (.int .i64 ((rd_T34 x7_1 t238).f2)) := hcc108 2 _ rfl; have hx108_3 : w114.cell? ⟨go108, (t238 : Int).toNat * 4 + 3, none⟩ = some (.int .i64 ((rd_T34 x7_1 t238).f3)) := hcc108 3 _ rfl; have hf108_0 : w114.frozen? ⟨go108, (t238 : Int).toNat * 4, none⟩ = false := hfr108 0; have hf108_1 : w114.frozen? ⟨go108, (t238 : Int).toNat * 4 + 1, none⟩ = false := hfr108 1; have hf108_2 : w114.frozen? ⟨go108, (t238 : Int).toNat * 4 + 2, none⟩ = false := hfr108 2; have hf108_3 : w114.frozen? ⟨go108, (t238 : Int).toNat * 4 + 3, none⟩ = false := hfr108 3; (try clear hcl108); (try clear hcc108); (try clear hfr108); (try clear hM108); replace p108 := eq_true p108; replace q108 := eq_true q108; have HX116 := Aside0.mk (show Kd.R k34 34 w114 w.heap.size (fun _ => True) (.slice (some ⟨go108, 0, none⟩) x7_1.length co109) x7_1 from (by (with_reducible repeat (first | apply Kd.R_alloc | apply Kd.R_drewN | apply Kd.R_drew)); exact HO_7.out)); obtain ⟨ce116, hcl116, hM116, hcc116, hfr116⟩ := Kd.R_elem HX116.out z34 (t238 : Int) (of_decide_eq_true (by first | (with_reducible assumption) | assumption)) (by have h_ : (t238 : Int) < ((x7_1.length : Int) : Int) := of_decide_eq_true (by first | (with_reducible assumption) | assumption); first | exact h_ | (have e_ := (Kd.R_reads' HO_7.out).1; omega) | simpa using h_); obtain rfl := k34_openM hM116; have HP116 := Kd.R_seg HX116.out (t238 : Int) (of_decide_eq_true (by first | (with_reducible assumption) | assumption)) (by have h_ : (t238 : Int) < ((x7_1.length : Int) : Int) := of_decide_eq_true (by first | (with_reducible assumption) | assumption); first | exact h_ | (have e_ := (Kd.R_reads' HO_7.out).1; omega) | simpa using h_) (seg := [.int .i64 (rd y259 t262)]) (j := 3) hcl116 hcc116 (show 4 ≤ 4 from by decide) (x' := (⟨(rd_T34 x7_1 t238).f0, (rd_T34 x7_1 t238).f1, (rd_T34 x7_1 t238).f2, rd y259 t262⟩ : S34)) (k34_mkM _ _ _ (⟨(rd_T34 x7_1 t238).f0, (rd_T34 x7_1 t238).f1, (rd_T34 x7_1 t238).f2, rd y259 t262⟩ : S34) ) (fun _ hk => hk); have hx116_3 := hcc116 3 _ rfl; (try simp only [show (k34).sz = 4 from rfl, Nat.mul_one, Nat.add_zero] at hx116_3); have hf116_3 := hfr116 3; (try simp only [show (k34).sz = 4 from rfl, Nat.mul_one, Nat.add_zero] at hf116_3); (try clear hcl116); (try clear hcc116); (try clear hfr116); (try clear hM116)) | ((with_reducible refine gate_store (t := 3) (p := 162) rfl ?_); refine store_event (t := 3) (p := 162) (v := ?vo_w117) (w1 := (w114.setCell ⟨go108, (t238 : Int).toNat * 4 + 3, none⟩ (.int .i64 (rd y259 t262)))) ?hg ?ho ?hn ?hr ?_; (case ho => rfl); (case hg => rfl); (case hn => rfl); (case hr => first | (go_simp; done) | (go_simp; rfl)); intro w117 hw; have hg : w114.grownBy w117 (some go108) := (by rw [hw]; exact HP116.2); have hp_ : Kd.R k34 34 w117 w.heap.size (fun _ => True) (.slice (some ⟨go108, 0, none⟩) x7_1.length co109) y265 := (by rw [hw, Ny265.out]; exact HP116.1); clear HP116; have n0_ := Aside0.mk (hp_); have n1_ := Aside0.mk (IsS110.grown (by repeat (first | (with_reducible first | exact HI0.out | apply IsS110.alloc | apply IsS110.drewN | apply IsS110.drew | apply IsS110.set_1) | exact HI0.out)) hg (IsS110.own_ne HI0.out HO_7.out (by decide))); have n2_ := Aside0.mk (Kd.R_over' (v := (.slice (some ⟨go108, 0, none⟩) x7_1.length co109)) (by (with_reducible repeat (first | apply Kd.R_alloc | apply Kd.R_drewN | apply Kd.R_drew)); exact HO261.out) (Kd.R_typed HO_7.out) (by decide) hg); have n3_ := Aside0.mk ((by rw [hw]; exact below_set (HB.out) (Nat.le_trans HL.out GB108.out) : Below w0.heap.size w0 w117)); have n4_ := Aside0.mk (KeepBut.trans (by repeat (first | (with_reducible first | exact HK.out | apply KeepBut.set_ | apply keep_drewN | apply keep_drew | apply keep_alloc) | exact HK.out)) (KeepBut.of_grown hg g) (Kd.R_base2 HO_7.out)); clear HO_7; clear HI0; clear HO261; clear HB; clear HK; have HO_7 := n0_; have HI0 := n1_; have HO261 := n2_; have HB := n3_; have HK := n4_; clear n0_ n1_ n2_ n3_ n4_; clear hg hw hp_))
                 go_ret
                 exact ⟨_, by first | rfl | (simp [errW_none, errW_some] <;> rfl) | (simp [*, errW_none, errW_some] <;> rfl), by (with_reducible repeat (first | apply Kd.R_alloc | apply Kd.R_drewN | apply Kd.R_drew)); exact HO_7.out, by repeat (first | (with_reducible first | exact HI0.out | apply IsS110.alloc | apply IsS110.drewN | apply IsS110.drew | apply IsS110.set_1) | exact HI0.out), by repeat (first | (with_reducible first | exact HB.out | apply below_alloc | apply pw_below_drewN | apply below_drew1 | refine below_set ?_ (IsS110.ge HI0.out)) | exact HB.out), by repeat (first | (with_reducible first | exact HK.out | apply KeepBut.set_ | apply keep_drewN | apply keep_drew | apply keep_alloc) | exact HK.out)⟩
                ·rw [if_neg c107] at H
                 exact absurd H (by simp)
               ·rw [if_neg c106] at H
                exact absurd H (by simp)
              ·rw [if_neg c105] at H
               exact absurd H (by simp)
             ·rw [if_neg c104] at H
              exact absurd H (by simp)
            ·rw [if_neg c102] at H
             have c102b0 : (t240 == 3) = false := beq_eq_false_iff_ne.mpr c102
             have c102b1 : (t240 != 3) = true := bne_iff_ne.mpr c102
             by_cases c118 : t240 = 4
             ·rw [if_pos c118] at H
              have c118b0 : (t240 == 4) = true := beq_iff_eq.mpr c118
              have c118b1 : (t240 != 4) = false := bne_eq_false_iff_eq.mpr c118
              clear c118
              by_cases c119 : 0 ≤ t238
              ·rw [if_pos c119] at H
               have c119b0 : decide (0 ≤ t238) = true := decide_eq_true c119
               clear c119
               by_cases c120 : t238 < (x7_1.length : Int)
               ·rw [if_pos c120] at H
                have c120b0 : decide (t238 < (x7_1.length : Int)) = true := decide_eq_true c120
                clear c120
                by_cases c121 : x7_1.length < 4398046511104
                ·rw [if_pos c121] at H
                 have LMc121 := Aside0.mk c121
                 clear c121
                 obtain ⟨y267, hy267⟩ : ∃ y_ : List (S34), y_ = (x7_1 ++ [(⟨(rd_T34 x7_1 t238).f0, (rd_T34 x7_1 t238).f1, (rd_T34 x7_1 t238).f2, (rd_T34 x7_1 t238).f3⟩ : S34)]) := ⟨_, rfl⟩
                 replace H : (some (y267, t241)) = some (r1, r2) := by first | (rw [hy267]; with_reducible exact H) | (have H2_ := (Option.bind_some _ _).symm.trans H; rw [hy267]; with_reducible exact H2_) | (have H2_ := (Option.bind_some _ _).symm.trans H; with_reducible exact H2_) | with_reducible exact H | (rw [hy267]; exact H) | exact H
                 have Ny267 := Aside0.mk hy267
                 clear hy267
                 simp only [Option.some.injEq, Prod.mk.injEq] at H
                 obtain ⟨rfl, rfl⟩ := H
                 obtain ⟨Ao122, co122, eo122⟩ := Kd.R_slice HO_7.out
                 subst eo122
                 go_wp2_with (first | ((with_reducible refine gate_callee (f := 68) rfl ?_); refine goesL_ (some 100) rfl rfl Try.func68 (by kernel_rfl) rfl #[.pointer (some ⟨g, 0, none⟩), .int .i64 (x7_1.length : Int)] rfl (by (try simp only [List.map_toArray, List.map_cons, List.map_nil]); first | done | rfl | (simp only [List.length_drop, List.length_take]; rfl)) ?_; (with_reducible refine (spec_l20Rd_pick.calls kj49 g s0_0 x1001_49 (x7_1.length : Int) t238 t239 w0 _ ?side1 ?side2 A57.out).mono ?_); (case side1 => repeat (first | (with_reducible first | exact HI0.out | apply IsS110.alloc | apply IsS110.drewN | apply IsS110.drew | apply IsS110.set_1) | exact HI0.out)); (case side2 => repeat (first | (with_reducible first | exact HB.out | apply below_alloc | apply pw_below_drewN | apply below_drew1 | refine below_set ?_ (IsS110.ge HI0.out)) | exact HB.out)); rintro e w123 ⟨rfl, hi, hb, hk⟩; refine ⟨_, rfl, ?_⟩; have n0_ := Aside0.mk (Kd.R_mono (Kd.R_keep (IsS110.apart (show IsS110 w0 _ g s0_0 x1001_49 from by repeat (first | (with_reducible first | exact HI0.out | apply IsS110.alloc | apply IsS110.drewN | apply IsS110.drew | apply IsS110.set_1) | exact HI0.out)) (by (with_reducible repeat (first | apply Kd.R_alloc | apply Kd.R_drewN | apply Kd.R_drew)); exact HO_7.out) (by decide)) hk (fun _ h => h.2)) (fun _ h => h.1)); have n1_ := Aside0.mk (KeepBut.trans (by repeat (first | (with_reducible first | exact HK.out | apply KeepBut.set_ | apply keep_drewN | apply keep_drew | apply keep_alloc) | exact HK.out)) hk (.inl rfl)); have n2_ := Aside0.mk (hb); have n3_ := Aside0.mk (hi); clear HO_7; clear HK; clear HB; clear HI0; have HO_7 := n0_; have HK := n1_; have HB := n2_; have HI0 := n3_; clear n0_ n1_ n2_ n3_; (try clear hb); (try clear hb2); (try clear hk); (try clear hi)) | ((with_reducible refine gate_callee (f := 68) rfl ?_); refine goesL_ (some 102) rfl rfl Try.func68 (by kernel_rfl) rfl #[.pointer (some ⟨g, 0, none⟩), .int .i64 6] rfl (by (try simp only [List.map_toArray, List.map_cons, List.map_nil]); first | done | rfl | (simp only [List.length_drop, List.length_take]; rfl)) ?_; (with_reducible refine (spec_l20Rd_pick.calls kj49 g s0_0 t239 6 t240 t241 w0 _ ?side1 ?side2 A58.out).mono ?_); (case side1 => repeat (first | (with_reducible first | exact HI0.out | apply IsS110.alloc | apply IsS110.drewN | apply IsS110.drew | apply IsS110.set_1) | exact HI0.out)); (case side2 => repeat (first | (with_reducible first | exact HB.out | apply below_alloc | apply pw_below_drewN | apply below_drew1 | refine below_set ?_ (IsS110.ge HI0.out)) | exact HB.out)); rintro e w124 ⟨rfl, hi, hb, hk⟩; refine ⟨_, rfl, ?_⟩; have n0_ := Aside0.mk (Kd.R_mono (Kd.R_keep (IsS110.apart (show IsS110 w0 _ g s0_0 t239 from by repeat (first | (with_reducible first | exact HI0.out | apply IsS110.alloc | apply IsS110.drewN | apply IsS110.drew | apply IsS110.set_1) | exact HI0.out)) (by (with_reducible repeat (first | apply Kd.R_alloc | apply Kd.R_drewN | apply Kd.R_drew)); exact HO_7.out) (by decide)) hk (fun _ h => h.2)) (fun _ h => h.1)); have n1_ := Aside0.mk (KeepBut.trans (by repeat (first | (with_reducible first | exact HK.out | apply KeepBut.set_ | apply keep_drewN | apply keep_drew | apply keep_alloc) | exact HK.out)) hk (.inl rfl)); have n2_ := Aside0.mk (hb); have n3_ := Aside0.mk (hi); clear HO_7; clear HK; clear HB; clear HI0; have HO_7 := n0_; have HK := n1_; have HB := n2_; have HI0 := n3_; clear n0_ n1_ n2_ n3_; (try clear hb); (try clear hb2); (try clear hk); (try clear hi); have p266 : 0 ≤ (t238 : Int) := of_decide_eq_true (by first | (with_reducible assumption) | assumption); have q266 : t238 < (x7_1.length : Int) := of_decide_eq_true (by first | (with_reducible assumption) | assumption); obtain ⟨ad266, e266, hx266_0, hx266_1, hx266_2, hx266_3⟩ := at_T34 (Kd.R_reads' HO_7.out).2.2 t238 p266 q266; cases e266; replace p266 := eq_true p266; replace q266 := eq_true q266) | ((with_reducible refine gate_builtin (b := .append) (xs := #[.tmp 165, .tmp 170]) rfl ?_); (try (refine gate_guard (by rfl) ?_; dsimp only)); at_builtin; refine Kd.R_append k34 w.heap.size rfl (.tmp 165) (.tmp 170) 24 34 (.agg #[(.int .i64 0), (.int .i64 0), (.int .i64 0), (.int .i64 0)]) 32 rfl Try.underlying24 info34 rfl (by decide) (by omega) (.slice (some ad266) x7_1.length co122) x7_1 (⟨(rd_T34 x7_1 t238).f0, (rd_T34 x7_1 t238).f1, (rd_T34 x7_1 t238).f2, (rd_T34 x7_1 t238).f3⟩ : S34) [.int .i64 ((rd_T34 x7_1 t238).f0), .int .i64 ((rd_T34 x7_1 t238).f1), .int .i64 ((rd_T34 x7_1 t238).f2), .int .i64 ((rd_T34 x7_1 t238).f3)] (fun _ => True) (fun _ => False) rfl rfl ?aP (fun _ hk => hk.elim) ?aF ?aO (Below.refl _ _) ?aS ?aL ?_; (case aP => exact k34_mkM _ _ _ (⟨(rd_T34 x7_1 t238).f0, (rd_T34 x7_1 t238).f1, (rd_T34 x7_1 t238).f2, (rd_T34 x7_1 t238).f3⟩ : S34)); (case aF => exact (fun _ _ => trivial)); (case aO => exact (by (with_reducible repeat (first | apply Kd.R_alloc | apply Kd.R_drewN | apply Kd.R_drew)); exact HO_7.out)); (case aS => exact (keep_size (w := w) (g := g) (row := none) (by repeat (first | (with_reducible first | exact HK.out | apply KeepBut.set_ | apply keep_drewN | apply keep_drew | apply keep_alloc) | exact HK.out)))); (case aL => have := LMc121.out; omega); intro v268 w125 ho hb hg hat; rw [← Ny267.out] at ho; have n0_ := Aside0.mk (IsS110.grown (by repeat (first | (with_reducible first | exact HI0.out | apply IsS110.alloc | apply IsS110.drewN | apply IsS110.drew | apply IsS110.set_1) | exact HI0.out)) hg (IsS110.own_ne HI0.out HO_7.out (by decide))); have n1_ := Aside0.mk (below_weaken (by repeat (first | (with_reducible first | exact HB.out | apply below_alloc | apply pw_below_drewN | apply below_drew1 | refine below_set ?_ (IsS110.ge HI0.out)) | exact HB.out)) HL.out hb); have n2_ := Aside0.mk (KeepBut.trans (by repeat (first | (with_reducible first | exact HK.out | apply KeepBut.set_ | apply keep_drewN | apply keep_drew | apply keep_alloc) | exact HK.out)) (KeepBut.of_grown hg g) (Kd.R_base2 HO_7.out)); have n3_ := Aside0.mk (ho); clear HI0; clear HB; clear HK; clear HO_7; have HI0 := n0_; have HB := n1_; have HK := n2_; have HO269 := n3_; clear n0_ n1_ n2_ n3_; clear ho hb hg hat))
                 go_ret
                 exact ⟨_, by first | rfl | (simp [errW_none, errW_some] <;> rfl) | (simp [*, errW_none, errW_some] <;> rfl), by (with_reducible repeat (first | apply Kd.R_alloc | apply Kd.R_drewN | apply Kd.R_drew)); exact HO269.out, by repeat (first | (with_reducible first | exact HI0.out | apply IsS110.alloc | apply IsS110.drewN | apply IsS110.drew | apply IsS110.set_1) | exact HI0.out), by repeat (first | (with_reducible first | exact HB.out | apply below_alloc | apply pw_below_drewN | apply below_drew1 | refine below_set ?_ (IsS110.ge HI0.out)) | exact HB.out), by repeat (first | (with_reducible first | exact HK.out | apply KeepBut.set_ | apply keep_drewN | apply keep_drew | apply keep_alloc) | exact HK.out)⟩
                ·rw [if_neg c121] at H
                 exact absurd H (by simp)
               ·rw [if_neg c120] at H
                exact absurd H (by simp)
              ·rw [if_neg c119] at H
               exact absurd H (by simp)
             ·rw [if_neg c118] at H
              have c118b0 : (t240 == 4) = false := beq_eq_false_iff_ne.mpr c118
              have c118b1 : (t240 != 4) = true := bne_iff_ne.mpr c118
              have H' := Aside0.mk H
              clear H
              obtain ⟨Ao126, co126, eo126⟩ := Kd.R_slice HO_7.out
              subst eo126
              go_wp2_with (first | ((with_reducible refine gate_callee (f := 68) rfl ?_); refine goesL_ (some 100) rfl rfl Try.func68 (by kernel_rfl) rfl #[.pointer (some ⟨g, 0, none⟩), .int .i64 (x7_1.length : Int)] rfl (by (try simp only [List.map_toArray, List.map_cons, List.map_nil]); first | done | rfl | (simp only [List.length_drop, List.length_take]; rfl)) ?_; (with_reducible refine (spec_l20Rd_pick.calls kj49 g s0_0 x1001_49 (x7_1.length : Int) t238 t239 w0 _ ?side1 ?side2 A57.out).mono ?_); (case side1 => repeat (first | (with_reducible first | exact HI0.out | apply IsS110.alloc | apply IsS110.drewN | apply IsS110.drew | apply IsS110.set_1) | exact HI0.out)); (case side2 => repeat (first | (with_reducible first | exact HB.out | apply below_alloc | apply pw_below_drewN | apply below_drew1 | refine below_set ?_ (IsS110.ge HI0.out)) | exact HB.out)); rintro e w127 ⟨rfl, hi, hb, hk⟩; refine ⟨_, rfl, ?_⟩; have n0_ := Aside0.mk (Kd.R_mono (Kd.R_keep (IsS110.apart (show IsS110 w0 _ g s0_0 x1001_49 from by repeat (first | (with_reducible first | exact HI0.out | apply IsS110.alloc | apply IsS110.drewN | apply IsS110.drew | apply IsS110.set_1) | exact HI0.out)) (by (with_reducible repeat (first | apply Kd.R_alloc | apply Kd.R_drewN | apply Kd.R_drew)); exact HO_7.out) (by decide)) hk (fun _ h => h.2)) (fun _ h => h.1)); have n1_ := Aside0.mk (KeepBut.trans (by repeat (first | (with_reducible first | exact HK.out | apply KeepBut.set_ | apply keep_drewN | apply keep_drew | apply keep_alloc) | exact HK.out)) hk (.inl rfl)); have n2_ := Aside0.mk (hb); have n3_ := Aside0.mk (hi); clear HO_7; clear HK; clear HB; clear HI0; have HO_7 := n0_; have HK := n1_; have HB := n2_; have HI0 := n3_; clear n0_ n1_ n2_ n3_; (try clear hb); (try clear hb2); (try clear hk); (try clear hi)) | ((with_reducible refine gate_callee (f := 68) rfl ?_); refine goesL_ (some 102) rfl rfl Try.func68 (by kernel_rfl) rfl #[.pointer (some ⟨g, 0, none⟩), .int .i64 6] rfl (by (try simp only [List.map_toArray, List.map_cons, List.map_nil]); first | done | rfl | (simp only [List.length_drop, List.length_take]; rfl)) ?_; (with_reducible refine (spec_l20Rd_pick.calls kj49 g s0_0 t239 6 t240 t241 w0 _ ?side1 ?side2 A58.out).mono ?_); (case side1 => repeat (first | (with_reducible first | exact HI0.out | apply IsS110.alloc | apply IsS110.drewN | apply IsS110.drew | apply IsS110.set_1) | exact HI0.out)); (case side2 => repeat (first | (with_reducible first | exact HB.out | apply below_alloc | apply pw_below_drewN | apply below_drew1 | refine below_set ?_ (IsS110.ge HI0.out)) | exact HB.out)); rintro e w128 ⟨rfl, hi, hb, hk⟩; refine ⟨_, rfl, ?_⟩; have n0_ := Aside0.mk (Kd.R_mono (Kd.R_keep (IsS110.apart (show IsS110 w0 _ g s0_0 t239 from by repeat (first | (with_reducible first | exact HI0.out | apply IsS110.alloc | apply IsS110.drewN | apply IsS110.drew | apply IsS110.set_1) | exact HI0.out)) (by (with_reducible repeat (first | apply Kd.R_alloc | apply Kd.R_drewN | apply Kd.R_drew)); exact HO_7.out) (by decide)) hk (fun _ h => h.2)) (fun _ h => h.1)); have n1_ := Aside0.mk (KeepBut.trans (by repeat (first | (with_reducible first | exact HK.out | apply KeepBut.set_ | apply keep_drewN | apply keep_drew | apply keep_alloc) | exact HK.out)) hk (.inl rfl)); have n2_ := Aside0.mk (hb); have n3_ := Aside0.mk (hi); clear HO_7; clear HK; clear HB; clear HI0; have HO_7 := n0_; have HK := n1_; have HB := n2_; have HI0 := n3_; clear n0_ n1_ n2_ n3_; (try clear hb); (try clear hb2); (try clear hk); (try clear hi)))
              go_loopg [7] kj49 (fun kq v7 w' => ∃ (x7_3 : List (S34)), Aside0 (spec_l20Jobs.l2 kq x7_3 s0_0 t241 = some (r1, r2)) ∧ Aside0 (kq ≤ kj49) ∧ Aside0 (Kd.R k34 34 w' w.heap.size (fun _ => True) v7 x7_3) ∧ Aside0 (IsS110 w0 w' g s0_0 t241) ∧ Aside0 (KeepBut w w' g none) ∧ Aside0 (Below w0.heap.size w0 w'))
              case atStart => exact ⟨(x7_1), H', ⟨Nat.le_refl _⟩, ⟨by (with_reducible repeat (first | apply Kd.R_alloc | apply Kd.R_drewN | apply Kd.R_drew)); exact HO_7.out⟩, ⟨by repeat (first | (with_reducible first | exact HI0.out | apply IsS110.alloc | apply IsS110.drewN | apply IsS110.drew | apply IsS110.set_1) | exact HI0.out)⟩, ⟨by repeat (first | (with_reducible first | exact HK.out | apply KeepBut.set_ | apply keep_drewN | apply keep_drew | apply keep_alloc) | exact HK.out)⟩, ⟨by repeat (first | (with_reducible first | exact HB.out | apply below_alloc | apply pw_below_drewN | apply below_drew1 | refine below_set ?_ (IsS110.ge HI0.out)) | exact HB.out)⟩⟩
              case round =>
               clear H'
               try clear c1
               try clear p1
               try clear q1
               try clear hx1
               try clear p2
               try clear q2
               try clear hx2
               try clear qi2
               try clear c5
               try clear c6
               try clear p6
               try clear q6
               try clear hx6
               try clear hf6
               try clear c7
               try clear hx7
               try clear hf7
               try clear c8
               try clear p8
               try clear q8
               try clear hx8
               try clear hf8
               try clear c9
               try clear p9
               try clear q9
               try clear hx9
               try clear hf9
               try clear c10
               try clear p10
               try clear q10
               try clear hx10
               try clear hf10
               try clear c11
               try clear hx11
               try clear hf11
               try clear c12
               try clear p24
               try clear q24
               try clear hx24
               try clear p25
               try clear q25
               try clear hx25
               try clear qi25
               try clear p26
               try clear q26
               try clear hx26
               try clear c59
               try clear c59b0
               try clear c59b1
               try clear c61
               try clear c61b0
               try clear c62
               try clear c62b0
               try clear c63
               try clear c63b0
               try clear c64
               try clear c64b0
               try clear p64
               try clear c65
               try clear p65
               try clear q65
               try clear hx65
               try clear hf65
               try clear c68
               try clear c73
               try clear hx73
               try clear hf73
               try clear c75
               try clear c75b0
               try clear c75b1
               try clear c76
               try clear c76b0
               try clear c77
               try clear c77b0
               try clear c79
               try clear c79b0
               try clear c80
               try clear c80b0
               try clear c81
               try clear p81
               try clear q81
               try clear hx81
               try clear hf81
               try clear c92
               try clear c93
               try clear c93b0
               try clear c93b1
               try clear c94
               try clear c94b0
               try clear c95
               try clear c95b0
               try clear c96
               try clear p96
               try clear q96
               try clear hx96
               try clear hf96
               try clear c100
               try clear hx100
               try clear hf100
               try clear c102
               try clear c102b0
               try clear c102b1
               try clear c104
               try clear c104b0
               try clear c105
               try clear c105b0
               try clear c106
               try clear c106b0
               try clear c107
               try clear c107b0
               try clear c108
               try clear p108
               try clear q108
               try clear hx108
               try clear hf108
               try clear c116
               try clear hx116
               try clear hf116
               try clear c118
               try clear c118b0
               try clear c118b1
               try clear c119
               try clear c119b0
               try clear c120
               try clear c120b0
               try clear c121
               try clear hx100_2
               try clear hx108_0
               try clear hx108_1
               try clear hx108_2
               try clear hx108_3
               try clear hx116_3
               try clear hx247_0
               try clear hx249_0
               try clear hx249_1
               try clear hx249_2
               try clear hx249_3
               try clear hx255_0
               try clear hx257_0
               try clear hx257_1
               try clear hx257_2
               try clear hx257_3
               try clear hx264_0
               try clear hx266_0
               try clear hx266_1
               try clear hx266_2
               try clear hx266_3
               try clear hx65_0
               try clear hx65_1
               try clear hx65_2
               try clear hx65_3
               try clear hx73_0
               try clear hx81_0
               try clear hx81_1
               try clear hx81_2
               try clear hx81_3
               try clear hx96_0
               try clear hx96_1
               try clear hx96_2
               try clear hx96_3
               try clear p108
               try clear p247
               try clear p249
               try clear p255
               try clear p257
               try clear p264
               try clear p266
               try clear p65
               try clear p81
               try clear p96
               try clear q108
               try clear q247
               try clear q249
               try clear q255
               try clear q257
               try clear q264
               try clear q266
               try clear q65
               try clear q81
               try clear q96
               obtain ⟨x7_3, HA, HK3, HO_7, HI0, HK, HB⟩ := hrel
               cases gk with
               | zero => exact absurd HA.out (by simp [spec_l20Jobs.l2])
               | succ k3 =>
                have H := HA.out
                clear HA
                simp only [spec_l20Jobs.l2] at H
                by_cases c129 : (x7_3.length : Int) ≤ 60
                ·rw [if_pos c129] at H
                 have c129b0 : decide ((x7_3.length : Int) ≤ 60) = true := decide_eq_true c129
                 have c129b1 : decide (x7_3.length ≤ 60) = true := decide_eq_true (by omega)
                 clear c129
                 by_cases c130 : x7_3.length < 4398046511104
                 ·rw [if_pos c130] at H
                  have LMc130 := Aside0.mk c130
                  clear c130
                  obtain ⟨y270, hy270⟩ : ∃ y_ : List (S34), y_ = (x7_3 ++ [(⟨0, 119, 120, 1⟩ : S34)]) := ⟨_, rfl⟩
                  replace H : (spec_l20Jobs.l2 k3 y270 s0_0 t241) = some (r1, r2) := by first | (rw [hy270]; with_reducible exact H) | (have H2_ := (Option.bind_some _ _).symm.trans H; rw [hy270]; with_reducible exact H2_) | (have H2_ := (Option.bind_some _ _).symm.trans H; with_reducible exact H2_) | with_reducible exact H | (rw [hy270]; exact H) | exact H
                  have Ny270 := Aside0.mk hy270
                  clear hy270
                  have H' := Aside0.mk H
                  clear H
                  obtain ⟨Ao131, co131, eo131⟩ := Kd.R_slice HO_7.out
                  subst eo131
                  go_wp2_with (first | ((with_reducible refine gate_builtin (b := .append) (xs := #[.tmp 106, .tmp 108]) rfl ?_); (try (refine gate_guard (by rfl) ?_; dsimp only)); at_builtin; refine Kd.R_append k34 w.heap.size rfl (.tmp 106) (.tmp 108) 24 34 (.agg #[(.int .i64 0), (.int .i64 0), (.int .i64 0), (.int .i64 0)]) 32 rfl Try.underlying24 info34 rfl (by decide) (by omega) (.slice Ao131 x7_3.length co131) x7_3 (⟨0, 119, 120, 1⟩ : S34) [.int .i64 0, .int .i64 119, .int .i64 120, .int .i64 1] (fun _ => True) (fun _ => False) rfl rfl ?aP (fun _ hk => hk.elim) ?aF ?aO (Below.refl _ _) ?aS ?aL ?_; (case aP => exact k34_mkM _ _ _ (⟨0, 119, 120, 1⟩ : S34)); (case aF => exact (fun _ _ => trivial)); (case aO => exact (by (with_reducible repeat (first | apply Kd.R_alloc | apply Kd.R_drewN | apply Kd.R_drew)); exact HO_7.out)); (case aS => exact (keep_size (w := w) (g := g) (row := none) (by repeat (first | (with_reducible first | exact HK.out | apply KeepBut.set_ | apply keep_drewN | apply keep_drew | apply keep_alloc) | exact HK.out)))); (case aL => have := LMc130.out; omega); intro v271 w132 ho hb hg hat; rw [← Ny270.out] at ho; have n0_ := Aside0.mk (IsS110.grown (by repeat (first | (with_reducible first | exact HI0.out | apply IsS110.alloc | apply IsS110.drewN | apply IsS110.drew | apply IsS110.set_1) | exact HI0.out)) hg (IsS110.own_ne HI0.out HO_7.out (by decide))); have n1_ := Aside0.mk (below_weaken (by repeat (first | (with_reducible first | exact HB.out | apply below_alloc | apply pw_below_drewN | apply below_drew1 | refine below_set ?_ (IsS110.ge HI0.out)) | exact HB.out)) HL.out hb); have n2_ := Aside0.mk (KeepBut.trans (by repeat (first | (with_reducible first | exact HK.out | apply KeepBut.set_ | apply keep_drewN | apply keep_drew | apply keep_alloc) | exact HK.out)) (KeepBut.of_grown hg g) (Kd.R_base2 HO_7.out)); have n3_ := Aside0.mk (ho); clear HI0; clear HB; clear HK; clear HO_7; have HI0 := n0_; have HB := n1_; have HK := n2_; have HO272 := n3_; clear n0_ n1_ n2_ n3_; clear ho hb hg hat))
                  go_roundg k3
                  case measure => have := HK1.out; have := HJ49.out; have := HK3.out; omega
                  case rel => exact ⟨(y270), H', ⟨by have := HK1.out; have := HJ49.out; have := HK3.out; omega⟩, ⟨by (with_reducible repeat (first | apply Kd.R_alloc | apply Kd.R_drewN | apply Kd.R_drew)); exact HO272.out⟩, ⟨by repeat (first | (with_reducible first | exact HI0.out | apply IsS110.alloc | apply IsS110.drewN | apply IsS110.drew | apply IsS110.set_1) | exact HI0.out)⟩, ⟨by repeat (first | (with_reducible first | exact HK.out | apply KeepBut.set_ | apply keep_drewN | apply keep_drew | apply keep_alloc) | exact HK.out)⟩, ⟨by repeat (first | (with_reducible first | exact HB.out | apply below_alloc | apply pw_below_drewN | apply below_drew1 | refine below_set ?_ (IsS110.ge HI0.out)) | exact HB.out)⟩⟩
                 ·rw [if_neg c130] at H
                  exact absurd H (by simp)
                ·rw [if_neg c129] at H
                 have c129b0 : decide ((x7_3.length : Int) ≤ 60) = false := decide_eq_false c129
                 have c129b1 : decide (x7_3.length ≤ 60) = false := decide_eq_false (by omega)
                 clear c129
                 simp only [Option.some.injEq, Prod.mk.injEq] at H
                 obtain ⟨rfl, rfl⟩ := H
                 obtain ⟨Ao133, co133, eo133⟩ := Kd.R_slice HO_7.out
                 subst eo133
                 go_wp2
                 go_ret
                 exact ⟨_, by first | rfl | (simp [errW_none, errW_some] <;> rfl) | (simp [*, errW_none, errW_some] <;> rfl), by (with_reducible repeat (first | apply Kd.R_alloc | apply Kd.R_drewN | apply Kd.R_drew)); exact HO_7.out, by repeat (first | (with_reducible first | exact HI0.out | apply IsS110.alloc | apply IsS110.drewN | apply IsS110.drew | apply IsS110.set_1) | exact HI0.out), by repeat (first | (with_reducible first | exact HB.out | apply below_alloc | apply pw_below_drewN | apply below_drew1 | refine below_set ?_ (IsS110.ge HI0.out)) | exact HB.out), by repeat (first | (with_reducible first | exact HK.out | apply KeepBut.set_ | apply keep_drewN | apply keep_drew | apply keep_alloc) | exact HK.out)⟩
        ·replace c56 := Bool.eq_false_iff.mpr c56
         subst c56
         have H1 : (some (x7_1, x1001_49)) = some (r1, r2) := by rw [if_neg (show ¬ (false = true) by decide)] at H; exact H
         clear H
         have H := H1
         clear H1
         simp only [Option.some.injEq, Prod.mk.injEq] at H
         obtain ⟨rfl, rfl⟩ := H
         go_wp2
         go_ret
         exact ⟨_, by first | rfl | (simp [errW_none, errW_some] <;> rfl) | (simp [*, errW_none, errW_some] <;> rfl), by (with_reducible repeat (first | apply Kd.R_alloc | apply Kd.R_drewN | apply Kd.R_drew)); exact HO_7.out, by repeat (first | (with_reducible first | exact HI0.out | apply IsS110.alloc | apply IsS110.drewN | apply IsS110.drew | apply IsS110.set_1) | exact HI0.out), by repeat (first | (with_reducible first | exact HB.out | apply below_alloc | apply pw_below_drewN | apply below_drew1 | refine below_set ?_ (IsS110.ge HI0.out)) | exact HB.out), by repeat (first | (with_reducible first | exact HK.out | apply KeepBut.set_ | apply keep_drewN | apply keep_drew | apply keep_alloc) | exact HK.out)⟩
  ·rw [if_neg c5] at H
   exact absurd H (by simp)
 ·rw [if_neg c4] at H
  exact absurd H (by simp)

end Go.Proofs.Ytkdfjomhichkoaa.P
-- Laid by a program of this work.
namespace Go.Proofs.Ytkdfjomhichkoaa.P
open Go.RowKit Go.Proofs.YtkdfjomhichkoaaW.PrintWords Go.Proofs.YtkdfjomhichkoaaW.PrintLast Go.Proofs.YtkdfjomhichkoaaW.PrintMore
attribute [local go_sem] max2_int min2_int max_two min_two max_three min_three max_four min_four   -- for this text's walks alone
set_option linter.unusedVariables false
set_option linter.unusedSimpArgs false

/-! ### spec_DrawRunNonPreemptive: function 11 -/
def spec_DrawRunNonPreemptive.f (k : Nat) (l0 : List Int) : Option ((List (S88)) × (List (S34))) := (spec_l20Open.f l0).bind fun bt273 => ((spec_l20Implicit.f k bt273.1 bt273.2 20).bind fun bt276 => ((spec_SetValid.f k bt276.1).bind fun t280 => (if t280 = true then ((spec_l20Jobs.f k bt273.1 bt276.2 bt276.1 16).bind fun bt281 => (some (bt276.1, bt281.1))) else (some (bt276.1, (([] : List (S34))))))))
theorem spec_DrawRunNonPreemptive.mono : ∀ a0 k, LeO (spec_DrawRunNonPreemptive.f k a0) (spec_DrawRunNonPreemptive.f (k + 1) a0) := by
 intro a0 k
 unfold spec_DrawRunNonPreemptive.f
 repeat' first
   | (with_reducible exact spec_SetValid.mono _ _)
   | (with_reducible exact spec_l20Implicit.mono _ _ _ _)
   | (with_reducible exact spec_l20Jobs.mono _ _ _ _ _)
   | (with_reducible exact LeO.refl _)
   | (with_reducible exact LeO.none _)
   | (with_reducible refine LeO.ite ?_ ?_)
   | (with_reducible refine LeO.bind ?_ (fun _ => ?_))
   | exact spec_SetValid.mono _ _
   | exact spec_l20Implicit.mono _ _ _ _
   | exact spec_l20Jobs.mono _ _ _ _ _
   | exact LeO.none _
   | refine LeO.ite ?_ ?_
   | refine LeO.bind ?_ (fun _ => ?_)
set_option maxHeartbeats 8000000 in
set_option maxRecDepth 100000 in
theorem spec_DrawRunNonPreemptive.calls (k : Nat) (A0 : Option Addr) (c0 : Nat) (l0 : List Int) (r1 : List (S88)) (r2 : List (S34)) (w : World) (hr0 : Kd.C (Kd.int .u8) w A0 l0.length l0) (hc0 : l0.length ≤ c0) (h : spec_DrawRunNonPreemptive.f k l0 = some (r1, r2)) :
  Calls Try.prog 11 #[.slice A0 l0.length c0] w fun e w' => ∃ v0_ v1_ : Value, e = .returned (.tuple #[v0_, v1_]) ∧ Kd.R k88 88 w' w.heap.size (fun _ => True) v0_ r1 ∧ Kd.R k34 34 w' w.heap.size (fun _ => True) v1_ r2 ∧ Below w.heap.size w w' := by
 have HR0 := Aside0.mk hr0
 have HC0 := Aside0.mk hc0
 clear hr0 hc0
 have HB := Aside0.mk (Below.refl w.heap.size w)
 have H : ((spec_l20Open.f l0).bind fun bt273 => ((spec_l20Implicit.f k bt273.1 bt273.2 20).bind fun bt276 => ((spec_SetValid.f k bt276.1).bind fun t280 => (if t280 = true then ((spec_l20Jobs.f k bt273.1 bt276.2 bt276.1 16).bind fun bt281 => (some (bt276.1, bt281.1))) else (some (bt276.1, (([] : List (S34))))))))) = some (r1, r2) := h
 clear h
 replace H := Option.bind_eq_some_iff.mp H
 obtain ⟨⟨t273, t274⟩, A20, H⟩ := H
 replace H : ((spec_l20Implicit.f k t273 t274 20).bind fun bt276 => ((spec_SetValid.f k bt276.1).bind fun t280 => (if t280 = true then ((spec_l20Jobs.f k t273 bt276.2 bt276.1 16).bind fun bt281 => (some (bt276.1, bt281.1))) else (some (bt276.1, (([] : List (S34)))))))) = some (r1, r2) := H
 have A2 := Aside0.mk A20
 clear A20
 replace H := Option.bind_eq_some_iff.mp H
 obtain ⟨⟨t276, t279⟩, A30, H⟩ := H
 replace H : ((spec_SetValid.f k t276).bind fun t280 => (if t280 = true then ((spec_l20Jobs.f k t273 t279 t276 16).bind fun bt281 => (some (t276, bt281.1))) else (some (t276, (([] : List (S34))))))) = some (r1, r2) := H
 have A3 := Aside0.mk A30
 clear A30
 replace H := Option.bind_eq_some_iff.mp H
 obtain ⟨t280, A40, H⟩ := H
 replace H : (if t280 = true then ((spec_l20Jobs.f k t273 t279 t276 16).bind fun bt281 => (some (t276, bt281.1))) else (some (t276, (([] : List (S34)))))) = some (r1, r2) := H
 have A4 := Aside0.mk A40
 clear A40
 by_cases c5 : t280 = true
 ·subst c5
  have H1 : ((spec_l20Jobs.f k t273 t279 t276 16).bind fun bt281 => (some (t276, bt281.1))) = some (r1, r2) := by rw [if_pos rfl] at H; exact H
  clear H
  have H := H1
  clear H1
  replace H := Option.bind_eq_some_iff.mp H
  obtain ⟨⟨t281, t284⟩, A60, H⟩ := H
  replace H : (some (t276, t281)) = some (r1, r2) := H
  have A6 := Aside0.mk A60
  clear A60
  simp only [Option.some.injEq, Prod.mk.injEq] at H
  obtain ⟨rfl, rfl⟩ := H
  go_enter Try.func11, Try.ntmps11
  go_wp2_with (first | ((with_reducible refine gate_callee (f := 44) rfl ?_); refine goesL_ (some 7) rfl rfl Try.func44 (by kernel_rfl) rfl #[.slice A0 l0.length c0] rfl (by (try simp only [List.map_toArray, List.map_cons, List.map_nil]); first | done | rfl | (simp only [List.length_drop, List.length_take]; rfl)) ?_; (with_reducible refine (spec_l20Open.calls _ _ l0 t273 t274 w _ ?side1 ?side2 ?side3 A2.out).mono ?_); (case side1 => repeat (first | (with_reducible first | exact HB.out | apply below_alloc | apply pw_below_drewN | apply below_drew1) | exact HB.out)); (case side2 => exact HR0.out); (case side3 => exact HC0.out); rintro e w7 ⟨g275, rfl, hi, hb, hb2⟩; refine ⟨_, rfl, ?_⟩; have n0_ := Aside0.mk (hb); have n1_ := Aside0.mk (hi); clear HB; have HB := n0_; have HI275 := n1_; clear n0_ n1_; (try clear hb); (try clear hb2); (try clear hk); (try clear hi)) | ((with_reducible refine gate_callee (f := 45) rfl ?_); refine goesL_ (some 9) rfl rfl Try.func45 (by kernel_rfl) rfl #[.pointer (some ⟨g275, 0, none⟩), .int .i64 20] rfl (by (try simp only [List.map_toArray, List.map_cons, List.map_nil]); first | done | rfl | (simp only [List.length_drop, List.length_take]; rfl)) ?_; (with_reducible refine (spec_l20Implicit.calls k g275 t273 t274 20 t276 t279 w _ ?side1 ?side2 A3.out).mono ?_); (case side1 => repeat (first | (with_reducible first | exact HI275.out | apply IsS110.alloc | apply IsS110.drewN | apply IsS110.drew | apply IsS110.set_1) | exact HI275.out)); (case side2 => repeat (first | (with_reducible first | exact HB.out | apply below_alloc | apply pw_below_drewN | apply below_drew1 | refine below_set ?_ (IsS110.ge HI275.out)) | exact HB.out)); rintro e w8 ⟨v277, rfl, ho0, hi, hb, hk⟩; refine ⟨_, rfl, ?_⟩; have n0_ := Aside0.mk (Kd.R_lower ho0 (below_size (by repeat (first | (with_reducible first | exact HB.out | apply below_alloc | apply pw_below_drewN | apply below_drew1 | refine below_set ?_ (IsS110.ge HI275.out)) | exact HB.out)))); have n1_ := Aside0.mk (hb); have n2_ := Aside0.mk (hi); clear HB; clear HI275; have HO278 := n0_; have HB := n1_; have HI275 := n2_; clear n0_ n1_ n2_; (try clear hb); (try clear hb2); (try clear hk); (try clear hi); (try clear ho0); obtain ⟨Ao9, co9, eo9⟩ := Kd.R_slice HO278.out; subst eo9) | ((with_reducible refine gate_callee (f := 46) rfl ?_); refine goesL_ (some 11) rfl rfl Try.func46 (by kernel_rfl) rfl #[.slice Ao9 t276.length co9] rfl (by (try simp only [List.map_toArray, List.map_cons, List.map_nil]); first | done | rfl | (simp only [List.length_drop, List.length_take]; rfl)) ?_; (with_reducible refine (spec_SetValid.calls k _ _ t276 true _ ?side1 ?side2 A4.out).mono ?_); (case side1 => repeat (first | exact (Kd.R_reads' HO278.out).2.2 | (with_reducible refine Kd.C_alloc ?_ _) | (with_reducible refine Kd.C_drewN ?_ _) | (with_reducible refine Kd.C_drew ?_))); (case side2 => exact (Kd.R_reads' HO278.out).2.1); rintro e w10 ⟨rfl, hb⟩; refine ⟨_, rfl, ?_⟩; have n0_ := Aside0.mk (Kd.R_below (by (with_reducible repeat (first | apply Kd.R_alloc | apply Kd.R_drewN | apply Kd.R_drew)); exact HO278.out) hb); have n1_ := Aside0.mk (IsS110.below (by repeat (first | (with_reducible first | exact HI275.out | apply IsS110.alloc | apply IsS110.drewN | apply IsS110.drew | apply IsS110.set_1) | exact HI275.out)) hb); have n2_ := Aside0.mk (below_step (by repeat (first | (with_reducible first | exact HB.out | apply below_alloc | apply pw_below_drewN | apply below_drew1 | refine below_set ?_ (IsS110.ge HI275.out)) | exact HB.out)) hb); clear HO278; clear HI275; clear HB; have HO278 := n0_; have HI275 := n1_; have HB := n2_; clear n0_ n1_ n2_; (try clear hb); (try clear hb2); (try clear hk); (try clear hi)) | ((with_reducible refine gate_callee (f := 47) rfl ?_); refine goesL_ (some 18) rfl rfl Try.func47 (by kernel_rfl) rfl #[.pointer (some ⟨g275, 0, none⟩), .slice Ao9 t276.length co9, .int .i64 16] rfl (by (try simp only [List.map_toArray, List.map_cons, List.map_nil]); first | done | rfl | (simp only [List.length_drop, List.length_take]; rfl)) ?_; (with_reducible refine (spec_l20Jobs.calls k g275 t273 t279 _ _ t276 16 t281 t284 w _ ?side1 ?side2 ?side3 ?side4 A6.out).mono ?_); (case side1 => repeat (first | (with_reducible first | exact HI275.out | apply IsS110.alloc | apply IsS110.drewN | apply IsS110.drew | apply IsS110.set_1) | exact HI275.out)); (case side2 => repeat (first | (with_reducible first | exact HB.out | apply below_alloc | apply pw_below_drewN | apply below_drew1 | refine below_set ?_ (IsS110.ge HI275.out)) | exact HB.out)); (case side3 => exact Kd.C_foot_own (IsS110.apart (show IsS110 w _ g275 t273 t279 from by repeat (first | (with_reducible first | exact HI275.out | apply IsS110.alloc | apply IsS110.drewN | apply IsS110.drew | apply IsS110.set_1) | exact HI275.out)) (by (with_reducible repeat (first | apply Kd.R_alloc | apply Kd.R_drewN | apply Kd.R_drew)); exact HO278.out) (by decide)) (fun _ h_ => h_.2)); (case side4 => exact (Kd.R_reads' HO278.out).2.1); rintro e w11 ⟨v282, rfl, ho0, hi, hb, hk⟩; refine ⟨_, rfl, ?_⟩; have n0_ := Aside0.mk (Kd.R_mono (Kd.R_keep (IsS110.apart (show IsS110 w _ g275 t273 t279 from by repeat (first | (with_reducible first | exact HI275.out | apply IsS110.alloc | apply IsS110.drewN | apply IsS110.drew | apply IsS110.set_1) | exact HI275.out)) (by (with_reducible repeat (first | apply Kd.R_alloc | apply Kd.R_drewN | apply Kd.R_drew)); exact HO278.out) (by decide)) hk (fun _ h => h.2)) (fun _ h => h.1)); have n1_ := Aside0.mk (Kd.R_lower ho0 (below_size (by repeat (first | (with_reducible first | exact HB.out | apply below_alloc | apply pw_below_drewN | apply below_drew1 | refine below_set ?_ (IsS110.ge HI275.out)) | exact HB.out)))); have n2_ := Aside0.mk (hb); have n3_ := Aside0.mk (hi); clear HO278; clear HB; clear HI275; have HO278 := n0_; have HO283 := n1_; have HB := n2_; have HI275 := n3_; clear n0_ n1_ n2_ n3_; (try clear hb); (try clear hb2); (try clear hk); (try clear hi); (try clear ho0)))
  go_ret2
  exact ⟨_, _, by first | rfl | (simp [errW_none, errW_some] <;> rfl) | (simp [*, errW_none, errW_some] <;> rfl), by (with_reducible repeat (first | apply Kd.R_alloc | apply Kd.R_drewN | apply Kd.R_drew)); exact HO278.out, by (with_reducible repeat (first | apply Kd.R_alloc | apply Kd.R_drewN | apply Kd.R_drew)); exact HO283.out, by repeat (first | (with_reducible first | exact HB.out | apply below_alloc | apply pw_below_drewN | apply below_drew1 | refine below_set ?_ (IsS110.ge HI275.out)) | exact HB.out)⟩
 ·replace c5 := Bool.eq_false_iff.mpr c5
  subst c5
  have H1 : (some (t276, (([] : List (S34))))) = some (r1, r2) := by rw [if_neg (show ¬ (false = true) by decide)] at H; exact H
  clear H
  have H := H1
  clear H1
  obtain ⟨y285, hy285⟩ : ∃ y_ : List (S34), y_ = (([] : List (S34))) := ⟨_, rfl⟩
  replace H : (some (t276, y285)) = some (r1, r2) := by first | (rw [hy285]; with_reducible exact H) | (have H2_ := (Option.bind_some _ _).symm.trans H; rw [hy285]; with_reducible exact H2_) | (have H2_ := (Option.bind_some _ _).symm.trans H; with_reducible exact H2_) | with_reducible exact H | (rw [hy285]; exact H) | exact H
  have Ny285 := Aside0.mk hy285
  clear hy285
  simp only [Option.some.injEq, Prod.mk.injEq] at H
  obtain ⟨rfl, rfl⟩ := H
  go_enter Try.func11, Try.ntmps11
  go_wp2_with (first | ((with_reducible refine gate_callee (f := 44) rfl ?_); refine goesL_ (some 7) rfl rfl Try.func44 (by kernel_rfl) rfl #[.slice A0 l0.length c0] rfl (by (try simp only [List.map_toArray, List.map_cons, List.map_nil]); first | done | rfl | (simp only [List.length_drop, List.length_take]; rfl)) ?_; (with_reducible refine (spec_l20Open.calls _ _ l0 t273 t274 w _ ?side1 ?side2 ?side3 A2.out).mono ?_); (case side1 => repeat (first | (with_reducible first | exact HB.out | apply below_alloc | apply pw_below_drewN | apply below_drew1) | exact HB.out)); (case side2 => exact HR0.out); (case side3 => exact HC0.out); rintro e w12 ⟨g275, rfl, hi, hb, hb2⟩; refine ⟨_, rfl, ?_⟩; have n0_ := Aside0.mk (hb); have n1_ := Aside0.mk (hi); clear HB; have HB := n0_; have HI275 := n1_; clear n0_ n1_; (try clear hb); (try clear hb2); (try clear hk); (try clear hi)) | ((with_reducible refine gate_callee (f := 45) rfl ?_); refine goesL_ (some 9) rfl rfl Try.func45 (by kernel_rfl) rfl #[.pointer (some ⟨g275, 0, none⟩), .int .i64 20] rfl (by (try simp only [List.map_toArray, List.map_cons, List.map_nil]); first | done | rfl | (simp only [List.length_drop, List.length_take]; rfl)) ?_; (with_reducible refine (spec_l20Implicit.calls k g275 t273 t274 20 t276 t279 w _ ?side1 ?side2 A3.out).mono ?_); (case side1 => repeat (first | (with_reducible first | exact HI275.out | apply IsS110.alloc | apply IsS110.drewN | apply IsS110.drew | apply IsS110.set_1) | exact HI275.out)); (case side2 => repeat (first | (with_reducible first | exact HB.out | apply below_alloc | apply pw_below_drewN | apply below_drew1 | refine below_set ?_ (IsS110.ge HI275.out)) | exact HB.out)); rintro e w13 ⟨v277, rfl, ho0, hi, hb, hk⟩; refine ⟨_, rfl, ?_⟩; have n0_ := Aside0.mk (Kd.R_lower ho0 (below_size (by repeat (first | (with_reducible first | exact HB.out | apply below_alloc | apply pw_below_drewN | apply below_drew1 | refine below_set ?_ (IsS110.ge HI275.out)) | exact HB.out)))); have n1_ := Aside0.mk (hb); have n2_ := Aside0.mk (hi); clear HB; clear HI275; have HO278 := n0_; have HB := n1_; have HI275 := n2_; clear n0_ n1_ n2_; (try clear hb); (try clear hb2); (try clear hk); (try clear hi); (try clear ho0); obtain ⟨Ao14, co14, eo14⟩ := Kd.R_slice HO278.out; subst eo14) | ((with_reducible refine gate_callee (f := 46) rfl ?_); refine goesL_ (some 11) rfl rfl Try.func46 (by kernel_rfl) rfl #[.slice Ao14 t276.length co14] rfl (by (try simp only [List.map_toArray, List.map_cons, List.map_nil]); first | done | rfl | (simp only [List.length_drop, List.length_take]; rfl)) ?_; (with_reducible refine (spec_SetValid.calls k _ _ t276 false _ ?side1 ?side2 A4.out).mono ?_); (case side1 => repeat (first | exact (Kd.R_reads' HO278.out).2.2 | (with_reducible refine Kd.C_alloc ?_ _) | (with_reducible refine Kd.C_drewN ?_ _) | (with_reducible refine Kd.C_drew ?_))); (case side2 => exact (Kd.R_reads' HO278.out).2.1); rintro e w15 ⟨rfl, hb⟩; refine ⟨_, rfl, ?_⟩; have n0_ := Aside0.mk (Kd.R_below (by (with_reducible repeat (first | apply Kd.R_alloc | apply Kd.R_drewN | apply Kd.R_drew)); exact HO278.out) hb); have n1_ := Aside0.mk (IsS110.below (by repeat (first | (with_reducible first | exact HI275.out | apply IsS110.alloc | apply IsS110.drewN | apply IsS110.drew | apply IsS110.set_1) | exact HI275.out)) hb); have n2_ := Aside0.mk (below_step (by repeat (first | (with_reducible first | exact HB.out | apply below_alloc | apply pw_below_drewN | apply below_drew1 | refine below_set ?_ (IsS110.ge HI275.out)) | exact HB.out)) hb); clear HO278; clear HI275; clear HB; have HO278 := n0_; have HI275 := n1_; have HB := n2_; clear n0_ n1_ n2_; (try clear hb); (try clear hb2); (try clear hk); (try clear hi)) | ((with_reducible refine gate_dst (N := 14) rfl ?_); refine Kd.R_lit k34 _ 34 ?hg (N := 14) ?hd (xs := ([] : List (S34))) (inner := []) (ok := fun _ => True) (okp := fun _ => True) ?hr ?hp (fun _ hk => hk) trivial (Below.refl _ _) (Nat.le_refl _) (by simp) ?_; (case hd => rfl); (case hg => rfl); (case hr => first | (go_simp; done) | (go_simp; rfl)); (case hp => exact (Reps.none _ _)); intro v286 w16 ho17 hb hg_ hnew_; clear hg_ hnew_; (first | rw [← Ny285.out] at ho17 | (simp only [Int.reduceToNat] at ho17; rw [← Ny285.out] at ho17)); have n0_ := Aside0.mk (Kd.R_below (by (with_reducible repeat (first | apply Kd.R_alloc | apply Kd.R_drewN | apply Kd.R_drew)); exact HO278.out) hb); have n1_ := Aside0.mk (Kd.R_lower ho17 (below_size (by repeat (first | (with_reducible first | exact HB.out | apply below_alloc | apply pw_below_drewN | apply below_drew1 | refine below_set ?_ (IsS110.ge HI275.out)) | exact HB.out)))); have n2_ := Aside0.mk (IsS110.below (by repeat (first | (with_reducible first | exact HI275.out | apply IsS110.alloc | apply IsS110.drewN | apply IsS110.drew | apply IsS110.set_1) | exact HI275.out)) hb); have n3_ := Aside0.mk (below_step (by repeat (first | (with_reducible first | exact HB.out | apply below_alloc | apply pw_below_drewN | apply below_drew1 | refine below_set ?_ (IsS110.ge HI275.out)) | exact HB.out)) hb); clear HO278; clear HI275; clear HB; have HO278 := n0_; have HO287 := n1_; have HI275 := n2_; have HB := n3_; clear n0_ n1_ n2_ n3_; clear hb ho17))
  go_ret2
  exact ⟨_, _, by first | rfl | (simp [errW_none, errW_some] <;> rfl) | (simp [*, errW_none, errW_some] <;> rfl), by (with_reducible repeat (first | apply Kd.R_alloc | apply Kd.R_drewN | apply Kd.R_drew)); exact HO278.out, by (with_reducible repeat (first | apply Kd.R_alloc | apply Kd.R_drewN | apply Kd.R_drew)); exact HO287.out, by repeat (first | (with_reducible first | exact HB.out | apply below_alloc | apply pw_below_drewN | apply below_drew1 | refine below_set ?_ (IsS110.ge HI275.out)) | exact HB.out)⟩

end Go.Proofs.Ytkdfjomhichkoaa.P
-- Laid by a program of this work.
namespace Go.Proofs.Ytkdfjomhichkoaa.P
open Go.RowKit Go.Proofs.YtkdfjomhichkoaaW.PrintWords Go.Proofs.YtkdfjomhichkoaaW.PrintLast Go.Proofs.YtkdfjomhichkoaaW.PrintMore
attribute [local go_sem] max2_int min2_int max_two min_two max_three min_three max_four min_four   -- for this text's walks alone
set_option linter.unusedVariables false
set_option linter.unusedSimpArgs false

-- by hand
/-! The machine of a simulation, by hand: its jobs, what is done, the time. -/
abbrev JobT := S34
structure Mach (W : World) (g : Nat) (A : Option Addr) (c : Nat) (js : List JobT) (D : Option Addr) (cd : Nat) (dn : List Int) (now : Int) : Prop where
  jobs : W.cell? ⟨g, 0, none⟩ = some (.slice A js.length c)
  done : W.cell? ⟨g, 1, none⟩ = some (.slice D dn.length cd)
  time : W.cell? ⟨g, 2, none⟩ = some (.int .i64 now)
  row : Kd.C k34 W A js.length js
  drow : Kd.C (Kd.int .i64) W D dn.length dn
  len : dn.length = js.length
theorem Mach.below {W W' : World} {g : Nat} {A : Option Addr} {c : Nat} {js : List JobT} {D : Option Addr} {cd : Nat} {dn : List Int} {now : Int} (h : Mach W g A c js D cd dn now) (hb : Below W.heap.size W W') : Mach W' g A c js D cd dn now :=
  ⟨(hb.cell (World.block_lt_of_cell? _ _ h.jobs)).trans h.jobs, (hb.cell (World.block_lt_of_cell? _ _ h.done)).trans h.done, (hb.cell (World.block_lt_of_cell? _ _ h.time)).trans h.time, Kd.C_below h.row hb, Kd.C_below h.drow hb, h.len⟩
def jrd (js : List JobT) (i : Nat) : JobT := rd_T34 js (i : Int)
/-- Released and unfinished. -/
def rdyD (js : List JobT) (dn : List Int) (now : Int) (i : Nat) : Bool := decide ((jrd js i).f1 ≤ now) && decide (rd dn (i : Int) < (jrd js i).f3)
set_option maxHeartbeats 4000000 in
set_option maxRecDepth 100000 in
theorem ready_calls (g : Nat) (A : Option Addr) (c : Nat) (js : List JobT) (D : Option Addr) (cd : Nat) (dn : List Int) (now : Int) (i : Nat) (hi : i < js.length) (w : World) (h : Mach w g A c js D cd dn now) :
    Calls Try.prog 100 #[.pointer (some ⟨g, 0, none⟩), .int .i64 i] w fun e w' => e = .returned (.bool (rdyD js dn now i)) ∧ Below w.heap.size w w' := by
  obtain ⟨h0, h1, h2, hr, hd, hl⟩ := h
  have hi0 : (0 : Int) ≤ (i : Int) := by omega
  have hi1 : (i : Int) < (js.length : Int) := by omega
  have hi2 : (i : Int) < (dn.length : Int) := by omega
  obtain ⟨ad, ea, hx0, hx1, hx2, hx3⟩ := at_T34 hr (i : Int) hi0 hi1
  obtain ⟨ad2, ea2, hy⟩ := Kd.at_int hd (i : Int) hi0 hi2
  cases ea
  cases ea2
  unfold rdyD jrd
  rw [Int.toNat_natCast] at hx1 hx3 hy
  clear hr hd hx0 hx2
  generalize (rd_T34 js (i : Int)).f1 = x at hx1 ⊢
  generalize (rd_T34 js (i : Int)).f3 = y at hx3 ⊢
  generalize rd dn (i : Int) = z at hy ⊢
  by_cases hc : x ≤ now
  · have hc1 : decide (x ≤ now) = true := decide_eq_true hc
    go_enter Try.func100, Try.ntmps100
    go_wp2_with fail
    go_big_region
    all_goals go_wp2
    go_ret
    refine ⟨?_, below_drew1 (Below.refl _ _)⟩
    simp [hc]
  · have hc1 : decide (x ≤ now) = false := decide_eq_false hc
    have hc2 : ¬ x ≤ now := hc
    go_enter Try.func100, Try.ntmps100
    go_wp2_with fail
    go_big_region
    all_goals go_wp2
    go_ret
    refine ⟨?_, below_drew1 (Below.refl _ _)⟩
    rw [hc1]; rfl
set_option maxHeartbeats 4000000 in
set_option maxRecDepth 100000 in
theorem deadline_calls (g : Nat) (A : Option Addr) (c : Nat) (js : List JobT) (D : Option Addr) (cd : Nat) (dn : List Int) (now : Int) (i : Nat) (hi : i < js.length) (w : World) (h : Mach w g A c js D cd dn now) :
    Calls Try.prog 52 #[.pointer (some ⟨g, 0, none⟩), .int .i64 i] w fun e w' => e = .returned (.int .i64 (jrd js i).f2) ∧ Below w.heap.size w w' := by
  obtain ⟨h0, h1, h2, hr, hd, hl⟩ := h
  have hi0 : (0 : Int) ≤ (i : Int) := by omega
  have hi1 : (i : Int) < (js.length : Int) := by omega
  obtain ⟨ad, ea, hx0, hx1, hx2, hx3⟩ := at_T34 hr (i : Int) hi0 hi1
  cases ea
  unfold jrd
  rw [Int.toNat_natCast] at hx2
  clear hr hd hx0 hx1 hx3 h1 h2
  generalize (rd_T34 js (i : Int)).f2 = x at hx2 ⊢
  go_enter Try.func52, Try.ntmps52
  go_wp2
  go_ret
  exact ⟨rfl, Below.refl _ _⟩
set_option maxHeartbeats 4000000 in
set_option maxRecDepth 100000 in
theorem any_calls (g : Nat) (i : Nat) (w : World) :
    Calls Try.prog 101 #[.pointer (some ⟨g, 0, none⟩), .int .i64 i] w fun e w' => e = .returned (.bool true) ∧ Below w.heap.size w w' := by
  go_enter Try.func101, Try.ntmps101
  go_wp2
  go_ret
  exact ⟨rfl, Below.refl _ _⟩
/-- The choice of best: as the plain rule chooses. -/
def bestD (ok : Nat → Bool) (key : Nat → Int) : Nat → Int
  | 0 => -1
  | n + 1 => if ok n = true ∧ (bestD ok key n < 0 ∨ key n < key (bestD ok key n).toNat) then (n : Int) else bestD ok key n
theorem bestD_rng (ok : Nat → Bool) (key : Nat → Int) : ∀ n, bestD ok key n = -1 ∨ ∃ b : Nat, b < n ∧ bestD ok key n = (b : Int)
  | 0 => Or.inl rfl
  | n + 1 => by
    rw [bestD]
    split
    · exact Or.inr ⟨n, by omega, rfl⟩
    · rcases bestD_rng ok key n with h | ⟨b, hb, h⟩
      · exact Or.inl h
      · exact Or.inr ⟨b, by omega, h⟩
set_option maxHeartbeats 8000000 in
set_option maxRecDepth 100000 in
/-- best, whatever the key and whatever may run. -/
theorem best_calls (key : Nat → Int) (may : Nat → Bool) (kn mn : Nat) (kb kl mb ml : Array Value) (ek : ∀ args w, (callFunc kn args).run Try.prog w = .ok (.enter kn args) w) (em : ∀ args w, (callFunc mn args).run Try.prog w = .ok (.enter mn args) w) (hne : kn ≠ mn)
    (g : Nat) (A : Option Addr) (c : Nat) (js : List JobT) (D : Option Addr) (cd : Nat) (dn : List Int) (now : Int) (w : World) (h : Mach w g A c js D cd dn now)
    (hk : ∀ (W : World) (i : Nat), Below w.heap.size w W → i < js.length → Calls Try.prog kn (kb ++ #[.int .i64 i] ++ kl) W fun e w' => e = .returned (.int .i64 (key i)) ∧ Below W.heap.size W w')
    (hm : ∀ (W : World) (i : Nat), Below w.heap.size w W → i < js.length → Calls Try.prog mn (mb ++ #[.int .i64 i] ++ ml) W fun e w' => e = .returned (.bool (may i)) ∧ Below W.heap.size W w') :
    Calls Try.prog 51 #[.pointer (some ⟨g, 0, none⟩), .func (.func kn) kb kl, .func (.func mn) mb ml] w fun e w' => e = .returned (.int .i64 (bestD (fun i => rdyD js dn now i && may i) key js.length)) ∧ Below w.heap.size w w' := by
  have HM := Aside0.mk h
  have HKY := Aside0.mk hk
  have HMY := Aside0.mk hm
  have hj := h.jobs
  have hjl : js.length ≤ 9223372036854775807 := h.row.2.1
  clear h hk hm
  go_enter Try.func51, Try.ntmps51
  go_wp2
  go_loopg [7, 14] js.length (fun gg v7 v14 wr => ∃ i : Nat, v14 = .int .i64 i ∧ i ≤ js.length ∧ js.length - i ≤ gg ∧ v7 = .int .i64 (bestD (fun i => rdyD js dn now i && may i) key i) ∧ Aside0 (Below w.heap.size w wr))
  case atStart => exact ⟨0, by go_num, by omega, by omega, rfl, ⟨Below.refl _ _⟩⟩
  case round =>
    obtain ⟨i, rfl, hil, hgg, rfl, BW⟩ := hrel
    by_cases hlt : i < js.length
    · have hltz : (i : Int) < (js.length : Int) := by omega
      obtain ⟨b, hb⟩ : ∃ b, bestD (fun i => rdyD js dn now i && may i) key i = b := ⟨_, rfl⟩
      have hrng := bestD_rng (fun i => rdyD js dn now i && may i) key i
      have hnext : ∀ v : Bool, (rdyD js dn now i && may i) = v → bestD (fun i => rdyD js dn now i && may i) key (i + 1) = if v = true ∧ (b < 0 ∨ key i < key b.toNat) then (i : Int) else b := fun v hv => by
        rw [bestD, hb]
        simp only [hv]
      rw [hb] at hrng ⊢
      have HN := Aside0.mk hnext
      clear hnext hb
      cases hr : rdyD js dn now i with
      | false =>
        have hv := HN.out false (by rw [hr]; rfl)
        rw [if_neg (by simp)] at hv
        have HV := Aside0.mk hv
        clear hv hrng
        go_wp2_with (go_at_call 100; refine (ready_calls g A c js D cd dn now i hlt _ (HM.out.below BW.out)).mono ?_; rw [hr]; rintro e w1 ⟨rfl, hb1⟩; have BW1 := Aside0.mk (below_step BW.out hb1); clear hb1)
        go_roundg (js.length - (i + 1))
        case measure => omega
        case rel => exact ⟨i + 1, by go_num, by omega, by omega, by rw [HV.out], BW1⟩
      | true =>
        cases hmm : may i with
        | false =>
          have hv := HN.out false (by rw [hr, hmm]; rfl)
          rw [if_neg (by simp)] at hv
          have HV := Aside0.mk hv
          clear hv hrng
          go_wp2_with (first | (go_at_call 100; refine (ready_calls g A c js D cd dn now i hlt _ (HM.out.below BW.out)).mono ?_; rw [hr]; rintro e w1 ⟨rfl, hb1⟩; have BW1 := Aside0.mk (below_step BW.out hb1); clear hb1) | (go_at_fn mn; refine (HMY.out _ i BW1.out hlt).mono ?_; rw [hmm]; rintro e w2 ⟨rfl, hb2⟩; have BW2 := Aside0.mk (below_step BW1.out hb2); clear hb2))
          go_roundg (js.length - (i + 1))
          case measure => omega
          case rel => exact ⟨i + 1, by go_num, by omega, by omega, by rw [HV.out], BW2⟩
        | true =>
          have hv := HN.out true (by rw [hr, hmm]; rfl)
          rcases hrng with rfl | ⟨bn, hbn, rfl⟩
          · rw [if_pos ⟨rfl, Or.inl (by omega)⟩] at hv
            have HV := Aside0.mk hv
            clear hv
            go_wp2_with (first | (go_at_call 100; refine (ready_calls g A c js D cd dn now i hlt _ (HM.out.below BW.out)).mono ?_; rw [hr]; rintro e w1 ⟨rfl, hb1⟩; have BW1 := Aside0.mk (below_step BW.out hb1); clear hb1) | (go_at_fn mn; refine (HMY.out _ i BW1.out hlt).mono ?_; rw [hmm]; rintro e w2 ⟨rfl, hb2⟩; have BW2 := Aside0.mk (below_step BW1.out hb2); clear hb2))
            go_roundg (js.length - (i + 1))
            case measure => omega
            case rel => exact ⟨i + 1, by go_num, by omega, by omega, by rw [HV.out], BW2⟩
          · have hbl : bn < js.length := by omega
            have hb0 : ¬ (bn : Int) < 0 := by omega
            obtain ⟨ki, hki⟩ : ∃ ki, key i = ki := ⟨_, rfl⟩
            obtain ⟨kq, hkb⟩ : ∃ kq, key bn = kq := ⟨_, rfl⟩
            rw [Int.toNat_natCast, hki, hkb] at hv
            have tok1 : True := trivial
            by_cases hlk : ki < kq
            · rw [if_pos ⟨rfl, Or.inr hlk⟩] at hv
              have HV := Aside0.mk hv
              clear hv
              go_wp2_with (first | (go_at_call 100; refine (ready_calls g A c js D cd dn now i hlt _ (HM.out.below BW.out)).mono ?_; rw [hr]; rintro e w1 ⟨rfl, hb1⟩; have BW1 := Aside0.mk (below_step BW.out hb1); clear hb1) | (go_at_fn mn; refine (HMY.out _ i BW1.out hlt).mono ?_; rw [hmm]; rintro e w2 ⟨rfl, hb2⟩; have BW2 := Aside0.mk (below_step BW1.out hb2); clear hb2) | (go_at_fn kn; have _t := tok1; refine (HKY.out _ i BW2.out hlt).mono ?_; rw [hki]; rintro e w3 ⟨rfl, hb3⟩; have BW3 := Aside0.mk (below_step BW2.out hb3); clear hb3 tok1) | (go_at_fn kn; refine (HKY.out _ bn BW3.out hbl).mono ?_; rw [hkb]; rintro e w4 ⟨rfl, hb4⟩; have BW4 := Aside0.mk (below_step BW3.out hb4); clear hb4))
              go_roundg (js.length - (i + 1))
              case measure => omega
              case rel => exact ⟨i + 1, by go_num, by omega, by omega, by rw [HV.out], BW4⟩
            · rw [if_neg (fun h => h.2.elim hb0 hlk)] at hv
              have HV := Aside0.mk hv
              clear hv
              go_wp2_with (first | (go_at_call 100; refine (ready_calls g A c js D cd dn now i hlt _ (HM.out.below BW.out)).mono ?_; rw [hr]; rintro e w1 ⟨rfl, hb1⟩; have BW1 := Aside0.mk (below_step BW.out hb1); clear hb1) | (go_at_fn mn; refine (HMY.out _ i BW1.out hlt).mono ?_; rw [hmm]; rintro e w2 ⟨rfl, hb2⟩; have BW2 := Aside0.mk (below_step BW1.out hb2); clear hb2) | (go_at_fn kn; have _t := tok1; refine (HKY.out _ i BW2.out hlt).mono ?_; rw [hki]; rintro e w3 ⟨rfl, hb3⟩; have BW3 := Aside0.mk (below_step BW2.out hb3); clear hb3 tok1) | (go_at_fn kn; refine (HKY.out _ bn BW3.out hbl).mono ?_; rw [hkb]; rintro e w4 ⟨rfl, hb4⟩; have BW4 := Aside0.mk (below_step BW3.out hb4); clear hb4))
              go_roundg (js.length - (i + 1))
              case measure => omega
              case rel => exact ⟨i + 1, by go_num, by omega, by omega, by rw [HV.out], BW4⟩
    · have hltz : ¬ (i : Int) < (js.length : Int) := by omega
      go_wp2
      go_ret
      exact ⟨by rw [show i = js.length by omega]; rfl, BW.out⟩
def edfD (js : List JobT) (dn : List Int) (now : Int) : Int := bestD (fun i => rdyD js dn now i) (fun i => (jrd js i).f2) js.length
def startD (js : List JobT) (dn : List Int) (now : Int) : Int := bestD (fun i => rdyD js dn now i && decide (rd dn (i : Int) > 0)) (fun i => (jrd js i).f2) js.length
def npD (js : List JobT) (dn : List Int) (now : Int) : Int := if startD js dn now ≥ 0 then startD js dn now else edfD js dn now
set_option maxHeartbeats 4000000 in
set_option maxRecDepth 100000 in
theorem edf_calls (g : Nat) (A : Option Addr) (c : Nat) (js : List JobT) (D : Option Addr) (cd : Nat) (dn : List Int) (now : Int) (w : World) (h : Mach w g A c js D cd dn now) :
    Calls Try.prog 54 #[.pointer (some ⟨g, 0, none⟩)] w fun e w' => e = .returned (.int .i64 (edfD js dn now)) ∧ Below w.heap.size w w' := by
  have HC := Aside0.mk (fun W (hW : W = w) => best_calls (fun i => (jrd js i).f2) (fun _ => true) 52 101 #[.pointer (some ⟨g, 0, none⟩)] #[] #[.pointer (some ⟨g, 0, none⟩)] #[]
    (enters_of Try.func52 (by kernel_rfl) rfl) (enters_of Try.func101 (by kernel_rfl) rfl) (by decide)
    g A c js D cd dn now W (by subst hW; exact h) (fun W' i hb hi => deadline_calls g A c js D cd dn now i hi W' ((show Mach W g A c js D cd dn now by subst hW; exact h).below hb)) (fun W' i _ _ => any_calls g i W'))
  clear h
  go_enter Try.func54, Try.ntmps54
  go_wp2_with (go_at_call 51; refine (HC.out _ rfl).mono ?_; rintro e w1 ⟨rfl, hb⟩; have HB := Aside0.mk hb; clear hb)
  go_ret
  exact ⟨rfl, HB.out⟩
set_option maxHeartbeats 4000000 in
set_option maxRecDepth 100000 in
theorem started_calls (g : Nat) (A : Option Addr) (c : Nat) (js : List JobT) (D : Option Addr) (cd : Nat) (dn : List Int) (now : Int) (i : Nat) (hi : i < js.length) (B : Addr) (w : World) (hB : w.cell? B = some (.pointer (some ⟨g, 0, none⟩))) (h : Mach w g A c js D cd dn now) :
    Calls Try.prog 53 #[.int .i64 i, .pointer (some B)] w fun e w' => e = .returned (.bool (decide (rd dn (i : Int) > 0))) ∧ Below w.heap.size w w' := by
  obtain ⟨h0, h1, h2, hr, hd, hl⟩ := h
  have hi0 : (0 : Int) ≤ (i : Int) := by omega
  have hi2 : (i : Int) < (dn.length : Int) := by omega
  obtain ⟨ad2, ea2, hy⟩ := Kd.at_int hd (i : Int) hi0 hi2
  cases ea2
  rw [Int.toNat_natCast] at hy
  clear hr hd h0 h2
  generalize rd dn (i : Int) = z at hy ⊢
  go_enter Try.func53, Try.ntmps53
  go_wp2
  go_ret
  exact ⟨rfl, Below.refl _ _⟩
set_option maxHeartbeats 4000000 in
set_option maxRecDepth 100000 in
theorem np_calls (g : Nat) (A : Option Addr) (c : Nat) (js : List JobT) (D : Option Addr) (cd : Nat) (dn : List Int) (now : Int) (w : World) (h : Mach w g A c js D cd dn now) :
    Calls Try.prog 50 #[.pointer (some ⟨g, 0, none⟩)] w fun e w' => e = .returned (.int .i64 (npD js dn now)) ∧ Below w.heap.size w w' := by
  have HM := Aside0.mk h
  have HC := Aside0.mk (fun (W : World) (B : Addr) (hB : W.cell? B = some (.pointer (some ⟨g, 0, none⟩))) (h : Mach W g A c js D cd dn now) => best_calls (fun i => (jrd js i).f2) (fun i => decide (rd dn (i : Int) > 0)) 52 53 #[.pointer (some ⟨g, 0, none⟩)] #[] #[] #[.pointer (some B)]
    (enters_of Try.func52 (by kernel_rfl) rfl) (enters_of Try.func53 (by kernel_rfl) rfl) (by decide)
    g A c js D cd dn now W h (fun W' i hb hi => deadline_calls g A c js D cd dn now i hi W' (h.below hb)) (fun W' i hb hi => started_calls g A c js D cd dn now i hi B W' ((hb.cell (World.block_lt_of_cell? _ _ hB)).trans hB) (h.below hb)))
  clear h
  by_cases hs : startD js dn now ≥ 0
  · have e : npD js dn now = startD js dn now := if_pos hs
    rw [e]
    clear e
    go_enter Try.func50, Try.ntmps50
    go_wp2_with (go_at_call 51; refine (HC.out _ ⟨w.heap.size, 0, none⟩ (by simp) (HM.out.below (below_alloc (Below.refl _ _) _))).mono ?_; rintro e w1 ⟨he, hb⟩; rw [show bestD (fun i => rdyD js dn now i && decide (rd dn (i : Int) > 0)) (fun i => (jrd js i).f2) js.length = startD js dn now from rfl] at he; subst he; have HB := Aside0.mk hb; clear hb)
    go_ret
    exact ⟨rfl, below_weaken (below_alloc (Below.refl _ _) _) (by simp) HB.out⟩
  · have e : npD js dn now = edfD js dn now := if_neg hs
    rw [e]
    clear e
    go_enter Try.func50, Try.ntmps50
    go_wp2_with (first
      | (go_at_call 51; refine (HC.out _ ⟨w.heap.size, 0, none⟩ (by simp) (HM.out.below (below_alloc (Below.refl _ _) _))).mono ?_; rintro e w1 ⟨he, hb⟩; rw [show bestD (fun i => rdyD js dn now i && decide (rd dn (i : Int) > 0)) (fun i => (jrd js i).f2) js.length = startD js dn now from rfl] at he; subst he; have hcell : w1.cell? ⟨w.heap.size, 0, none⟩ = some (.pointer (some ⟨g, 0, none⟩)) := (hb.cell (p := ⟨w.heap.size, 0, none⟩) (by simp)).trans (by simp); have HB := Aside0.mk (below_weaken (below_alloc (Below.refl _ _) _) (by simp) hb : Below w.heap.size w w1); clear hb)
      | (go_at_call 54; refine (edf_calls g A c js D cd dn now _ (HM.out.below HB.out)).mono ?_; rintro e w2 ⟨rfl, hb⟩; have HB2 := Aside0.mk (below_step HB.out hb); clear hb))
    go_ret
    exact ⟨rfl, HB2.out⟩

end Go.Proofs.Ytkdfjomhichkoaa.P
-- Laid by a program of this work.
namespace Go.Proofs.Ytkdfjomhichkoaa.P
open Go.RowKit Go.Proofs.YtkdfjomhichkoaaW.PrintWords Go.Proofs.YtkdfjomhichkoaaW.PrintLast Go.Proofs.YtkdfjomhichkoaaW.PrintMore
attribute [local go_sem] max2_int min2_int max_two min_two max_three min_three max_four min_four   -- for this text's walks alone
set_option linter.unusedVariables false
set_option linter.unusedSimpArgs false

/-! ### bits_Mul64: function 118 -/
def bits_Mul64.f (a0 : Int) (a1 : Int) : Option (Int × Int) := some (IntKind.u64.wrap ((IntKind.u64.wrap ((IntKind.u64.wrap ((a0 / 4294967296) * (a1 / 4294967296))) + ((IntKind.u64.wrap ((IntKind.u64.wrap ((a0 / 4294967296) * (Go.bits .and .u64 a1 4294967295))) + ((IntKind.u64.wrap ((Go.bits .and .u64 a0 4294967295) * (Go.bits .and .u64 a1 4294967295))) / 4294967296))) / 4294967296))) + ((IntKind.u64.wrap ((Go.bits .and .u64 (IntKind.u64.wrap ((IntKind.u64.wrap ((a0 / 4294967296) * (Go.bits .and .u64 a1 4294967295))) + ((IntKind.u64.wrap ((Go.bits .and .u64 a0 4294967295) * (Go.bits .and .u64 a1 4294967295))) / 4294967296))) 4294967295) + (IntKind.u64.wrap ((Go.bits .and .u64 a0 4294967295) * (a1 / 4294967296))))) / 4294967296)), IntKind.u64.wrap (a0 * a1))
set_option maxHeartbeats 8000000 in
set_option maxRecDepth 100000 in
theorem bits_Mul64.calls (a0 : Int) (a1 : Int) (r1 : Int) (r2 : Int) (w : World) (h : bits_Mul64.f a0 a1 = some (r1, r2)) :
  Calls Try.prog 118 #[.int .u64 a0, .int .u64 a1] w fun e w' => e = .returned (.tuple #[.int .u64 r1, .int .u64 r2]) ∧ Drawn0 w w' := by
 have H : (some (IntKind.u64.wrap ((IntKind.u64.wrap ((IntKind.u64.wrap ((a0 / 4294967296) * (a1 / 4294967296))) + ((IntKind.u64.wrap ((IntKind.u64.wrap ((a0 / 4294967296) * (Go.bits .and .u64 a1 4294967295))) + ((IntKind.u64.wrap ((Go.bits .and .u64 a0 4294967295) * (Go.bits .and .u64 a1 4294967295))) / 4294967296))) / 4294967296))) + ((IntKind.u64.wrap ((Go.bits .and .u64 (IntKind.u64.wrap ((IntKind.u64.wrap ((a0 / 4294967296) * (Go.bits .and .u64 a1 4294967295))) + ((IntKind.u64.wrap ((Go.bits .and .u64 a0 4294967295) * (Go.bits .and .u64 a1 4294967295))) / 4294967296))) 4294967295) + (IntKind.u64.wrap ((Go.bits .and .u64 a0 4294967295) * (a1 / 4294967296))))) / 4294967296)), IntKind.u64.wrap (a0 * a1))) = some (r1, r2) := h
 clear h
 simp only [Option.some.injEq, Prod.mk.injEq] at H
 obtain ⟨rfl, rfl⟩ := H
 go_enter Try.func118, Try.ntmps118
 go_wp2
 go_ret2
 exact ⟨by first | rfl | (simp; done) | (simp [*]; done), by repeat (first | exact Drawn0.refl _ | apply Drawn0.step)⟩

end Go.Proofs.Ytkdfjomhichkoaa.P
-- Laid by a program of this work.
namespace Go.Proofs.Ytkdfjomhichkoaa.P
open Go.RowKit Go.Proofs.YtkdfjomhichkoaaW.PrintWords Go.Proofs.YtkdfjomhichkoaaW.PrintLast Go.Proofs.YtkdfjomhichkoaaW.PrintMore
attribute [local go_sem] max2_int min2_int max_two min_two max_three min_three max_four min_four   -- for this text's walks alone
set_option linter.unusedVariables false
set_option linter.unusedSimpArgs false

/-! ### bits_Mul: function 116 -/
def bits_Mul.f (a0 : Int) (a1 : Int) : Option (Int × Int) := (bits_Mul64.f a0 a1).bind fun bt300 => (some (bt300.1, bt300.2))
set_option maxHeartbeats 8000000 in
set_option maxRecDepth 100000 in
theorem bits_Mul.calls (a0 : Int) (a1 : Int) (r1 : Int) (r2 : Int) (w : World) (h : bits_Mul.f a0 a1 = some (r1, r2)) :
  Calls Try.prog 116 #[.int .u64 a0, .int .u64 a1] w fun e w' => e = .returned (.tuple #[.int .u64 r1, .int .u64 r2]) ∧ Drawn0 w w' := by
 have H : ((bits_Mul64.f a0 a1).bind fun bt300 => (some (bt300.1, bt300.2))) = some (r1, r2) := h
 clear h
 replace H := Option.bind_eq_some_iff.mp H
 obtain ⟨⟨t300, t301⟩, A30, H⟩ := H
 replace H : (some (t300, t301)) = some (r1, r2) := H
 have A3 := Aside0.mk A30
 clear A30
 simp only [Option.some.injEq, Prod.mk.injEq] at H
 obtain ⟨rfl, rfl⟩ := H
 go_enter Try.func116, Try.ntmps116
 go_wp2_with (first | ((with_reducible refine gate_callee (f := 118) rfl ?_); refine goesL_ (some 25) rfl rfl Try.func118 (by kernel_rfl) rfl #[.int .u64 a0, .int .u64 a1] rfl (by (try simp only [List.map_toArray, List.map_cons, List.map_nil]); first | done | rfl | (simp only [List.length_drop, List.length_take]; rfl)) ?_; (with_reducible refine (bits_Mul64.calls a0 a1 t300 t301 _ A3.out).mono ?_); rintro e w' ⟨rfl, ⟨nd, rfl⟩⟩; refine ⟨_, rfl, ?_⟩))
 go_ret2
 exact ⟨by first | rfl | (simp; done) | (simp [*]; done), by repeat (first | exact Drawn0.refl _ | apply Drawn0.step)⟩

end Go.Proofs.Ytkdfjomhichkoaa.P
-- Laid by a program of this work.
namespace Go.Proofs.Ytkdfjomhichkoaa.P
open Go.RowKit Go.Proofs.YtkdfjomhichkoaaW.PrintWords Go.Proofs.YtkdfjomhichkoaaW.PrintLast Go.Proofs.YtkdfjomhichkoaaW.PrintMore
attribute [local go_sem] max2_int min2_int max_two min_two max_three min_three max_four min_four   -- for this text's walks alone
set_option linter.unusedVariables false
set_option linter.unusedSimpArgs false

/-! ### impl_none: function 99: by hand -/
/-! slices.Repeat of one number, by hand. -/
theorem and_lo (x : Int) (h0 : 0 ≤ x) (h1 : x < 4294967296) : Go.bits .and .u64 x 4294967295 = x := by
  obtain ⟨a, rfl⟩ := Int.eq_ofNat_of_zero_le h0
  have ha : a < 4294967296 := by omega
  have hb : (4294967295 : Int) = ((4294967295 : Nat) : Int) := rfl
  simp only [Go.bits]
  rw [show IntKind.u64.bits = 64 from rfl, hb, BitVec.toNat_and, BitVec.ofInt_natCast, BitVec.ofInt_natCast, BitVec.toNat_ofNat, BitVec.toNat_ofNat, Nat.mod_eq_of_lt (show a < 2 ^ 64 by omega), Nat.mod_eq_of_lt (show 4294967295 < 2 ^ 64 by omega)]
  rw [show (4294967295 : Nat) = 2 ^ 32 - 1 by decide, Nat.and_two_pow_sub_one_eq_mod, Nat.mod_eq_of_lt (by omega)]
  rw [IntKind.wrap_u64]
  omega
theorem mul_one_f (n : Int) (h0 : 0 ≤ n) (h1 : n ≤ 1000000) : bits_Mul.f 1 n = some (0, n) := by
  have hd : n / 4294967296 = 0 := Int.ediv_eq_zero_of_lt h0 (by omega)
  have w0 : ∀ x : Int, 0 ≤ x → x ≤ 1000000 → IntKind.u64.wrap x = x := fun x h h' => by rw [IntKind.wrap_u64]; omega
  unfold bits_Mul.f bits_Mul64.f
  rw [and_lo 1 (by omega) (by omega), and_lo n h0 (by omega), hd]
  simp only [Int.one_mul, show (1 : Int) / 4294967296 = 0 by decide, Int.zero_mul, w0 0 (by omega) (by omega), w0 n h0 h1, hd, Int.add_zero, Int.mul_zero, and_lo 0 (by omega) (by omega), show (0 : Int) / 4294967296 = 0 by decide, Option.bind_some]
/-- A row of n numbers, the first m of them -1. -/
def rowAt (n m : Nat) : List Int := List.replicate m (-1) ++ List.replicate (n - m) 0
theorem rowAt_set (n m : Nat) (h : m < n) : (rowAt n m).set m (-1) = rowAt n (m + 1) := by
  unfold rowAt
  rw [List.set_append_right _ _ (by simp), List.length_replicate, Nat.sub_self, show n - m = (n - (m + 1)) + 1 by omega, List.replicate_succ, List.set_cons_zero, List.replicate_succ', List.append_assoc, List.singleton_append]
theorem rowAt_rd (n m i : Nat) (h : i < m) (hm : m ≤ n) : rdOf 0 (rowAt n m) (i : Int) = -1 := by
  unfold rdOf rowAt
  rw [List.getD_eq_getElem?_getD, Int.toNat_natCast, List.getElem?_append_left (by simpa using h), List.getElem?_replicate, if_pos h]
  rfl
theorem R_rowAt {e base : Nat} {ok : Nat → Prop} {g n cap : Nat} : ∀ (q m : Nat) (W : World), m + q ≤ n → Kd.R (Kd.int .i64) e W base ok (.slice (some ⟨g, 0, none⟩) n cap) (rowAt n m) → Kd.R (Kd.int .i64) e (W.setCells g m (List.replicate q (.int .i64 (-1)))) base ok (.slice (some ⟨g, 0, none⟩) n cap) (rowAt n (m + q))
  | 0, m, W, _, h => h
  | q + 1, m, W, hq, h => by
    rw [List.replicate_succ, World.setCells]
    have h1 := (Kd.R_putg h (m : Int) (-1)).1
    rw [Int.toNat_natCast, rowAt_set n m (by omega)] at h1
    have := R_rowAt q (m + 1) _ (by omega) h1
    rwa [show m + 1 + q = m + (q + 1) by omega] at this
theorem below_setCells {base : Nat} {w : World} {g : Nat} (hg : base ≤ g) : ∀ (vs : List Value) (o : Nat) (W : World), Below base w W → Below base w (W.setCells g o vs)
  | [], _, _, h => h
  | v :: vs, o, W, h => below_setCells hg vs (o + 1) _ (h.setCell hg _)
/-- copy(row[m:], row[:m]) in one row. -/
theorem self_copy {base : Nat} {ok : Nat → Prop} {g n cap m : Nat} {W : World} (hm : 1 ≤ m) (hmn : m ≤ n) (h : Kd.R (Kd.int .i64) 3 W base ok (.slice (some ⟨g, 0, none⟩) n cap) (rowAt n m)) (ty dc sc : Nat) :
    (Builtin.copy_ #[27, 27] ty #[.slice (some ⟨g, m, none⟩) (n - m) dc, .slice (some ⟨g, 0, none⟩) m sc]).run Try.prog W = .ok (goInt ((List.replicate (min m (n - m)) (Value.int .i64 (-1))).length)) (W.setCells g m (List.replicate (min m (n - m)) (.int .i64 (-1)))) := by
  have hc := fun (i : Nat) (hi : i < n) => Kd.R_celln 0 h (i : Int) (by omega) (by omega)
  refine run_copy_cells W 27 27 ty 3 g m (n - m) dc ⟨g, 0, none⟩ m sc _ Try.underlying27 (by kernel_rfl) (by rw [List.length_replicate]) (fun j v hj => ?_) (fun j hj => ?_) (fun j hj => ?_) (fun v hv => ?_)
  · rw [List.getElem?_replicate] at hj
    split at hj
    · rename_i hlt
      have := (hc j (by omega)).1
      rw [rowAt_rd n m j (by omega) hmn, Int.toNat_natCast] at this
      injection hj with hj
      rw [← hj, ← this]
      simp only [Addr.add]
      split
      · rename_i h0; subst h0; rfl
      · simp
    · cases hj
  · rw [List.length_replicate] at hj
    have := (hc (m + j) (by omega)).1
    rw [Int.toNat_natCast] at this
    rw [this]; rfl
  · rw [List.length_replicate] at hj
    have := (hc (m + j) (by omega)).2
    rwa [Int.toNat_natCast] at this
  · rw [List.eq_of_mem_replicate hv]; rfl
theorem wp_copy_run1 {P : Program} (w : World) {o : Oper} {a : Act} {K : Act → World → Prop} {Q : Exit → Act → World → Prop} (d s : Operand) (t t' : TypeId)
    (ho : o.op = .call { callee := .builtin .copy, args := #[d, s], argTypes := #[t, t'] }) (v u : Value) (hd : a.eval d = v) (hs : a.eval s = u) {v' : Value} {w' : World}
    (hr : (Builtin.copy_ #[t, t'] o.type #[v, u]).run P w = .ok v' w') (h : K (a.put o.dst v') w') : o.wp P a w K Q := by
  unfold Oper.wp execOp
  simp only [ho, resolve, invoke, builtin, Sem.run_bind, Sem.run_pure, Result.andThen_ok, List.map_toArray, List.map_cons, List.map_nil, hd, hs, hr]
  exact h
theorem step_copy_run1 {P : Program} {ops : Array Oper} {o : Oper} {a : Act} {w : World} {K : Act → World → Prop} {Q : Exit → Act → World → Prop} {E : Prop}
    (hg : o.guard = none) (d x : Operand) (dT sT : TypeId) (hop : o.op = Op.call { callee := Callee.builtin Builtin.copy, args := #[d, x], argTypes := #[dT, sT] })
    (v u : Value) (hd : a.eval d = v) (hx : a.eval x = u) {v' : Value} {w' : World} (hr : (Builtin.copy_ #[dT, sT] o.type #[v, u]).run P w = .ok v' w') (hK : K (a.put o.dst v') w') :
    if Region.wanted o (yielded ops a.tmps) = true then Oper.wp P o a w K Q else E := by
  have hw : Region.wanted o (yielded ops a.tmps) = true := by simp [Region.wanted, hg]
  rw [if_pos hw]
  exact wp_copy_run1 w d x dT sT hop v u hd hx hr hK
set_option maxHeartbeats 4000000 in
set_option maxRecDepth 100000 in
theorem repeat_calls (n : Nat) (hn : n ≤ 1000000) (hpos : 0 < n) (A : Option Addr) (c : Nat) (w : World) (hr : Kd.C (Kd.int .i64) w A 1 [-1]) :
    Calls Try.prog 114 #[.slice A 1 c, .int .i64 n] w fun e w' => ∃ v0_ : Value, e = .returned v0_ ∧ Kd.R (Kd.int .i64) 3 w' w.heap.size (fun _ => True) v0_ (List.replicate n (-1)) ∧ Below w.heap.size w w' := by
  have HR := Aside0.mk hr
  clear hr
  have hM := Aside0.mk (mul_one_f (n : Int) (by omega) (by omega))
  have hn0 : ¬ (n : Int) < 0 := by omega
  have hn1 : IntKind.u64.wrap (n : Int) = (n : Int) := by rw [IntKind.wrap_u64]; omega
  have hn2 : IntKind.i64.wrap (n : Int) = (n : Int) := by rw [IntKind.wrap_i64]; omega
  have hn3 : ¬ (n : Int) > 9223372036854775807 := by omega
  have hn4 : decide ((n : Int) > 9223372036854775807) = false := decide_eq_false (by omega)
  go_enter Try.func114, Try.ntmps114
  go_wp2_with (first
    | (go_at_call 116; refine (bits_Mul.calls 1 (n : Int) 0 (n : Int) _ hM.out).mono ?_; rintro e w' ⟨rfl, ⟨nq, rfl⟩⟩)
    | ((with_reducible refine gate_dst (N := 30) rfl ?_); refine Kd.R_make (Kd.int .i64) _ 3 rfl (N := 30) rfl 27 _ _ rfl (n : Int) rfl rfl Try.underlying27 (.int .i64 0) 8 info3 rfl (by decide) (by omega) 0 (ok := fun _ => True) (okp := fun _ => True) rfl (fun _ hk => hk) trivial (by omega) (by omega) (Below.refl _ _) (Nat.le_refl _) ?_; intro v w4 ho5 hb hg_ hnew_; rw [Int.toNat_natCast] at ho5; obtain ⟨gb, cap, ev, hgb, _, _, _⟩ := Kd.R_form ho5 (by rw [List.length_replicate]; exact hpos); subst ev; rw [List.length_replicate] at ho5; have HO := Aside0.mk ho5; have HB := Aside0.mk hb; have GB := Aside0.mk hgb; clear hg_ hnew_ ho5 hb hgb)
    | ((with_reducible refine gate_dst (N := 33) rfl ?_); refine Kd.R_copy (0 : Int) (w.drewN nq).heap.size rfl _ _ 27 27 3 rfl Try.underlying27 (by kernel_rfl) _ _ [-1] A 1 c (fun _ => True) rfl rfl HO.out (Kd.C_below HR.out ((pw_below_drewN (Below.refl _ _) nq).trans HB.out)) HB.out HB.out.size ?_; intro w5 ho6 hb6 hg6; rw [show [(-1 : Int)].take (min 1 (List.replicate n (0 : Int)).length) ++ (List.replicate n (0 : Int)).drop (min 1 (List.replicate n (0 : Int)).length) = rowAt n 1 by rw [List.length_replicate, Nat.min_eq_left hpos]; simp [rowAt]] at ho6; have HO6 : Aside0 (Kd.R (Kd.int .i64) 3 w5 (w.drewN nq).heap.size (fun _ => True) (.slice (some ⟨gb, 0, none⟩) n cap) (rowAt n 1)) := ⟨ho6⟩; have HB6 := Aside0.mk hb6; clear ho6 hb6 hg6))
  go_loopg [8] n (fun gg v8 wr => ∃ m : Nat, v8 = .int .i64 m ∧ 1 ≤ m ∧ m ≤ n ∧ n - m ≤ gg ∧ Aside0 (Kd.R (Kd.int .i64) 3 wr (w.drewN nq).heap.size (fun _ => True) (.slice (some ⟨gb, 0, none⟩) n cap) (rowAt n m)) ∧ Aside0 (Below (w.drewN nq).heap.size (w.drewN nq) wr))
  case atStart => exact ⟨1, by rw [Nat.min_eq_left hpos], by omega, by omega, by omega, HO6, HB6⟩
  case round =>
    obtain ⟨m, rfl, hm1, hmn, hgg, R7, B7⟩ := hrel
    by_cases hlt : m < n
    · have hltz : (m : Int) < (n : Int) := by omega
      have hmz : (m : Int) ≤ (n : Int) := by omega
      have hm0 : (0 : Int) ≤ (m : Int) := by omega
      have hcap : n ≤ cap := (Kd.R_reads' R7.out).2.1
      have hmc : m ≤ cap := by omega
      have hcm : ¬ cap = m := by omega
      go_wp2_with fail
      go_region_law (refine step_copy_run1 rfl _ _ 27 27 rfl (.slice (some ⟨gb, m, none⟩) (n - m) (cap - m)) (.slice (some ⟨gb, 0, none⟩) m cap) (by simp [Act.eval, Act.put]) (by simp [Act.eval, Act.put]) (self_copy hm1 hmn (Kd.R_drew R7.out) _ _ _) ?_)
      all_goals go_wp2
      go_roundg (n - (m + min m (n - m)))
      case measure => omega
      case rel =>
        refine ⟨m + min m (n - m), ?_, by omega, by omega, Nat.le_refl _, ⟨R_rowAt _ _ _ (by omega) (Kd.R_drew R7.out)⟩, ⟨below_setCells GB.out _ _ _ (below_drew1 B7.out)⟩⟩
        first | rfl | (congr 1; unfold wrap64; omega) | (congr 1; rw [IntKind.wrap_i64]; omega)
    · have hltz : ¬ (m : Int) < (n : Int) := by omega
      go_wp2
      go_ret
      refine ⟨_, rfl, ?_, ?_⟩
      · have := R7.out
        rw [show m = n by omega] at this
        unfold rowAt at this
        rw [Nat.sub_self, List.replicate_zero, List.append_nil] at this
        exact Kd.R_lower this (Nat.le_refl _)
      · exact below_then (pw_below_drewN (Below.refl _ _) nq) (Nat.le_refl _) B7.out
set_option maxHeartbeats 4000000 in
set_option maxRecDepth 100000 in
theorem repeat_none (A : Option Addr) (c : Nat) (w : World) (hr : Kd.C (Kd.int .i64) w A 1 [-1]) :
    Calls Try.prog 114 #[.slice A 1 c, .int .i64 0] w fun e w' => ∃ v0_ : Value, e = .returned v0_ ∧ Kd.R (Kd.int .i64) 3 w' w.heap.size (fun _ => True) v0_ [] ∧ Below w.heap.size w w' := by
  have HR := Aside0.mk hr
  clear hr
  have hM := Aside0.mk (mul_one_f 0 (by omega) (by omega))
  go_enter Try.func114, Try.ntmps114
  go_wp2_with (first
    | (go_at_call 116; refine (bits_Mul.calls 1 0 0 0 _ hM.out).mono ?_; rintro e w' ⟨rfl, ⟨nq, rfl⟩⟩)
    | ((with_reducible refine gate_dst (N := 30) rfl ?_); refine Kd.R_make (Kd.int .i64) _ 3 rfl (N := 30) rfl 27 _ _ rfl 0 rfl rfl Try.underlying27 (.int .i64 0) 8 info3 rfl (by decide) (by omega) 0 (ok := fun _ => True) (okp := fun _ => True) rfl (fun _ hk => hk) trivial (by omega) (by omega) (Below.refl _ _) (Nat.le_refl _) ?_; intro v w4 ho5 hb hg_ hnew_; have HO := Aside0.mk ho5; have HB := Aside0.mk hb; clear hg_ hnew_ ho5 hb; obtain ⟨A2, c2, ev⟩ := Kd.R_slice HO.out; subst ev)
    | ((with_reducible refine gate_dst (N := 33) rfl ?_); refine Kd.R_copy (0 : Int) (w.drewN nq).heap.size rfl _ _ 27 27 3 rfl Try.underlying27 (by kernel_rfl) _ _ [-1] A 1 c (fun _ => True) rfl rfl HO.out (Kd.C_below HR.out ((pw_below_drewN (Below.refl _ _) nq).trans HB.out)) HB.out HB.out.size ?_; intro w5 ho6 hb6 hg6; have HO6 : Aside0 (Kd.R (Kd.int .i64) 3 w5 (w.drewN nq).heap.size (fun _ => True) (.slice A2 0 c2) []) := ⟨ho6⟩; have HB6 := Aside0.mk hb6; clear ho6 hb6 hg6))
  go_loopg [8] 0 (fun gg v8 wr => v8 = .int .i64 0 ∧ Aside0 (Kd.R (Kd.int .i64) 3 wr (w.drewN nq).heap.size (fun _ => True) (.slice A2 0 c2) []) ∧ Aside0 (Below (w.drewN nq).heap.size (w.drewN nq) wr))
  case atStart => exact ⟨rfl, HO6, HB6⟩
  case round =>
    obtain ⟨rfl, R7, B7⟩ := hrel
    go_wp2
    go_ret
    exact ⟨_, rfl, Kd.R_lower R7.out (Nat.le_refl _), below_then (pw_below_drewN (Below.refl _ _) nq) (Nat.le_refl _) B7.out⟩
theorem repeat_any (n : Nat) (hn : n ≤ 1000000) (A : Option Addr) (c : Nat) (w : World) (hr : Kd.C (Kd.int .i64) w A 1 [-1]) :
    Calls Try.prog 114 #[.slice A 1 c, .int .i64 n] w fun e w' => ∃ v0_ : Value, e = .returned v0_ ∧ Kd.R (Kd.int .i64) 3 w' w.heap.size (fun _ => True) v0_ (List.replicate n (-1)) ∧ Below w.heap.size w w' := by
  rcases Nat.eq_zero_or_pos n with rfl | h
  · exact repeat_none A c w hr
  · exact repeat_calls n hn h A c w hr
def impl_none.f (a0 : Int) : Option (List Int) := if 0 ≤ a0 ∧ a0 ≤ 1000000 then (some (List.replicate a0.toNat (-1))) else (none)
set_option maxHeartbeats 4000000 in
set_option maxRecDepth 100000 in
theorem impl_none.calls (a0 : Int) (r : List Int) (w : World) (h : impl_none.f a0 = some r) :
    Calls Try.prog 99 #[.int .i64 a0] w fun e w' => ∃ v0_ : Value, e = .returned (v0_) ∧ Kd.R (Kd.int .i64) 3 w' w.heap.size (fun _ => True) v0_ r ∧ Below w.heap.size w w' := by
  unfold impl_none.f at h
  by_cases hc : 0 ≤ a0 ∧ a0 ≤ 1000000
  · rw [if_pos hc] at h
    obtain rfl := Option.some.inj h
    clear h
    obtain ⟨n, rfl⟩ := Int.eq_ofNat_of_zero_le hc.1
    rw [Int.toNat_natCast]
    have hn : n ≤ 1000000 := by omega
    clear hc
    go_enter Try.func99, Try.ntmps99
    go_wp2_with (go_at_call 114; refine (repeat_any n hn _ _ _ ?_).mono ?_)
    · refine ⟨rfl, by omega, fun _ => ⟨_, rfl, fun j p hj => ?_⟩⟩
      match j, hj with
      | 0, hj =>
        injection hj with hj
        subst hj
        refine ⟨[.int .i64 (-1)], rfl, rfl, fun i u hi => ?_⟩
        match i, hi with
        | 0, hi =>
          injection hi with hi
          subst hi
          show (w.alloc _).cell? (Addr.add _ 0) = _
          rw [Addr.add_zero']
          simp
        | i + 1, hi => simp at hi
      | j + 1, hj => simp at hj
    · rintro e w' ⟨v0_, rfl, hR, hB⟩
      have HR := Aside0.mk hR
      have HB := Aside0.mk hB
      clear hR hB
      go_wp2
      go_ret
      exact ⟨_, rfl, Kd.R_lower HR.out (by simp), below_weaken (below_alloc (Below.refl _ _) _) (by simp) HB.out⟩
  · rw [if_neg hc] at h
    cases h

end Go.Proofs.Ytkdfjomhichkoaa.P
