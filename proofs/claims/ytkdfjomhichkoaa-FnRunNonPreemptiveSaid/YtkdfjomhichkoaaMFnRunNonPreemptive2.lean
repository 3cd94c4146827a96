/- The law FnRunNonPreemptive for every input, part 2 of its proof: what the program's functions answer, and the plain law. No condition. -/
import Derived.Test.YtkdfjomhichkoaaMFnRunNonPreemptive1
-- Laid by a program of this work.
namespace Go.Proofs.Ytkdfjomhichkoaa.P
open Go.RowKit Go.Proofs.YtkdfjomhichkoaaW.PrintWords Go.Proofs.YtkdfjomhichkoaaW.PrintLast Go.Proofs.YtkdfjomhichkoaaW.PrintMore
attribute [local go_sem] max2_int min2_int max_two min_two max_three min_three max_four min_four   -- for this text's walks alone
set_option linter.unusedVariables false
set_option linter.unusedSimpArgs false

/-! ### spec_l20Task: function 106 -/
def spec_l20Task.j0 : Nat → List Int → Int → Int → Int → Int → Option (Int × Int × Int × Int)
 | 0, _, _, _, _, _ => none
 | k + 1, x1000, x1001, x119000, x119001, x119002 => some (x119000, x119001, x119002, x1001)
def spec_l20Task.f (k : Nat) (s0_0 : List Int) (s0_1 : Int) (a1 : Int) : Option (Int × Int × Int × Int) := (spec_l20Rd_pick.f k s0_0 s0_1 12).bind fun bt110 => ((some (([2, 3, 4, 6, 8, 12, wrap64 (1 + bt110.1), 5] : List Int) : List Int)).bind fun y112 => ((spec_l20Rd_pick.f k s0_0 bt110.2 8).bind fun bt115 => (if 0 ≤ bt115.1 then (if bt115.1 < (y112.length : Int) then ((spec_l20Rd_pick.f k s0_0 bt115.2 (rd y112 bt115.1)).bind fun bt119 => ((some (([rd y112 bt115.1, wrap64 (1 + bt119.1), mx 1 (wrap64 ((rd y112 bt115.1) - 1))] : List Int) : List Int)).bind fun y121 => ((spec_l20Rd_pick.f k s0_0 bt119.2 3).bind fun bt124 => (if 0 ≤ bt124.1 then (if bt124.1 < (y121.length : Int) then ((some (([rd y121 bt124.1, mx 1 (wrap64 (Int.tdiv (rd y121 bt124.1) 2)), mx 1 (wrap64 (Int.tdiv (rd y121 bt124.1) 3))] : List Int) : List Int)).bind fun y127 => ((spec_l20Rd_pick.f k s0_0 bt124.2 3).bind fun bt130 => (if 0 ≤ bt130.1 then (if bt130.1 < (y127.length : Int) then ((spec_l20Rd_pick.f k s0_0 bt130.2 (mn 8 (rd y127 bt130.1))).bind fun bt133 => ((spec_l20Rd_odd.f k s0_0 bt133.2 a1).bind fun bt135 => (if bt135.1 = true then ((spec_l20Rd_pick.f k s0_0 bt135.2 3).bind fun bt137 => (if bt137.1 = 0 then ((some (([0, (-1), 9, wrap64 ((rd y121 bt124.1) + 1)] : List Int) : List Int)).bind fun y139 => ((spec_l20Rd_pick.f k s0_0 bt137.2 4).bind fun bt142 => (if 0 ≤ bt142.1 then (if bt142.1 < (y139.length : Int) then (spec_l20Task.j0 k s0_0 bt142.2 (rd y139 bt142.1) (rd y121 bt124.1) (rd y112 bt115.1)) else (none)) else (none)))) else (if bt137.1 = 1 then ((some (([0, wrap64 ((rd y112 bt115.1) + 1), (-1)] : List Int) : List Int)).bind fun y145 => ((spec_l20Rd_pick.f k s0_0 bt137.2 3).bind fun bt148 => (if 0 ≤ bt148.1 then (if bt148.1 < (y145.length : Int) then (spec_l20Task.j0 k s0_0 bt148.2 (wrap64 (1 + bt133.1)) (rd y145 bt148.1) (rd y112 bt115.1)) else (none)) else (none)))) else ((some (([0, 13, (-1)] : List Int) : List Int)).bind fun y151 => ((spec_l20Rd_pick.f k s0_0 bt137.2 3).bind fun bt154 => (if 0 ≤ bt154.1 then (if bt154.1 < (y151.length : Int) then (spec_l20Task.j0 k s0_0 bt154.2 (wrap64 (1 + bt133.1)) (rd y121 bt124.1) (rd y151 bt154.1)) else (none)) else (none))))))) else (spec_l20Task.j0 k s0_0 bt135.2 (wrap64 (1 + bt133.1)) (rd y121 bt124.1) (rd y112 bt115.1))))) else (none)) else (none)))) else (none)) else (none))))) else (none)) else (none))))
theorem spec_l20Task.mono_l : ∀ k, (∀ y0 y1 y2 y3 y4, LeO (spec_l20Task.j0 k y0 y1 y2 y3 y4) (spec_l20Task.j0 (k + 1) y0 y1 y2 y3 y4))
 | 0 => fun _ _ _ _ _ r h => by simp [spec_l20Task.j0] at h
 | k + 1 => by
  have ih0 := spec_l20Task.mono_l k
  ·intro y0 y1 y2 y3 y4
   unfold spec_l20Task.j0
   repeat' first
   | (with_reducible exact ih0 _ _ _ _ _)
   | (with_reducible exact spec_l20Rd_odd.mono _ _ _ _)
   | (with_reducible exact spec_l20Rd_pick.mono _ _ _ _)
   | (with_reducible exact LeO.refl _)
   | (with_reducible exact LeO.none _)
   | (with_reducible refine LeO.ite ?_ ?_)
   | (with_reducible refine LeO.bind ?_ (fun _ => ?_))
   | exact ih0 _ _ _ _ _
   | exact spec_l20Rd_odd.mono _ _ _ _
   | exact spec_l20Rd_pick.mono _ _ _ _
   | exact LeO.none _
   | refine LeO.ite ?_ ?_
   | refine LeO.bind ?_ (fun _ => ?_)
theorem spec_l20Task.mono : ∀ a0 a1 a2 k, LeO (spec_l20Task.f k a0 a1 a2) (spec_l20Task.f (k + 1) a0 a1 a2) := by
 intro a0 a1 a2 k
 have ih0 := spec_l20Task.mono_l k
 unfold spec_l20Task.f
 repeat' first
   | (with_reducible exact ih0 _ _ _ _ _)
   | (with_reducible exact spec_l20Rd_odd.mono _ _ _ _)
   | (with_reducible exact spec_l20Rd_pick.mono _ _ _ _)
   | (with_reducible exact LeO.refl _)
   | (with_reducible exact LeO.none _)
   | (with_reducible refine LeO.ite ?_ ?_)
   | (with_reducible refine LeO.bind ?_ (fun _ => ?_))
   | exact ih0 _ _ _ _ _
   | exact spec_l20Rd_odd.mono _ _ _ _
   | exact spec_l20Rd_pick.mono _ _ _ _
   | exact LeO.none _
   | refine LeO.ite ?_ ?_
   | refine LeO.bind ?_ (fun _ => ?_)
def spec_l20Task.T2 : Bool × List (List Nat × List Nat) := (true, [([], []), ([0], [0]), ([], []), ([], []), ([3], [3]), ([2, 4], [2, 4]), ([5], [5]), ([], []), ([7], [7]), ([8], [8]), ([9], [9]), ([1, 6, 10], [1, 6, 10]), ([], []), ([12, 5], [12]), ([11, 13], [11, 13]), ([14], [14]), ([0, 1, 2, 3, 4, 5, 6, 7, 8, 9, 10, 11, 12, 13, 14, 15], []), ([16, 15, 13, 0, 1, 2, 3, 4, 5, 6, 7, 8, 9, 10, 11, 12, 13, 14, 15], [15, 16])])
def spec_l20Task.B2 : List Nat := [0, 1, 0, 0, 8, 28, 60, 0, 128, 384, 896, 2047, 0, 4156, 16383, 32767, 65535, 131071]
theorem spec_l20Task.tab2 : rtab .any (opsOf Try.f106 2) = spec_l20Task.T2 := by kernel_rfl
theorem spec_l20Task.bits2 : waitsOk spec_l20Task.T2.2 spec_l20Task.B2 = true := by kernel_rfl
def spec_l20Task.T3 : Bool × List (List Nat × List Nat) := (true, [([], []), ([], []), ([1], [1]), ([], []), ([3], [3]), ([4], [4]), ([5], [5]), ([], []), ([7], [7]), ([8], [8]), ([9], [9]), ([2, 6, 10], [2, 6, 10]), ([], []), ([12], [12]), ([11, 13], [11, 13]), ([14], [14]), ([15], [15]), ([0, 16, 13], [0, 16]), ([17], [17]), ([0, 1, 2, 3, 4, 5, 6, 7, 8, 9, 10, 11, 12, 13, 14, 15, 16, 17, 18], []), ([19, 18, 17, 0, 1, 2, 3, 4, 5, 6, 7, 8, 9, 10, 11, 12, 13, 14, 15, 16, 17, 18], [18, 19])])
def spec_l20Task.B3 : List Nat := [0, 0, 2, 0, 8, 24, 56, 0, 128, 384, 896, 2046, 0, 4096, 16382, 32766, 65534, 131071, 262143, 524287, 1048575]
theorem spec_l20Task.tab3 : rtab .any (opsOf Try.f106 3) = spec_l20Task.T3 := by kernel_rfl
theorem spec_l20Task.bits3 : waitsOk spec_l20Task.T3.2 spec_l20Task.B3 = true := by kernel_rfl
def spec_l20Task.T8 : Bool × List (List Nat × List Nat) := (true, [([], []), ([0], [0]), ([1], [1]), ([2], [2]), ([], []), ([4], [4]), ([3, 5], [3, 5]), ([6], [6]), ([0, 1, 2, 3, 4, 5, 6, 7], []), ([8, 7, 5, 0, 1, 2, 3, 4, 5, 6, 7], [7, 8])])
def spec_l20Task.B8 : List Nat := [0, 1, 3, 7, 0, 16, 63, 127, 255, 511]
theorem spec_l20Task.tab8 : rtab .any (opsOf Try.f106 8) = spec_l20Task.T8 := by kernel_rfl
theorem spec_l20Task.bits8 : waitsOk spec_l20Task.T8.2 spec_l20Task.B8 = true := by kernel_rfl
def spec_l20Task.T10 : Bool × List (List Nat × List Nat) := (true, [([], []), ([0], [0]), ([1], [1]), ([2], [2]), ([], []), ([4], [4]), ([3, 5], [3, 5]), ([6], [6]), ([0, 1, 2, 3, 4, 5, 6, 7], []), ([8, 7, 5, 0, 1, 2, 3, 4, 5, 6, 7], [7, 8])])
def spec_l20Task.B10 : List Nat := [0, 1, 3, 7, 0, 16, 63, 127, 255, 511]
theorem spec_l20Task.tab10 : rtab .any (opsOf Try.f106 10) = spec_l20Task.T10 := by kernel_rfl
theorem spec_l20Task.bits10 : waitsOk spec_l20Task.T10.2 spec_l20Task.B10 = true := by kernel_rfl
set_option maxHeartbeats 8000000 in
set_option maxRecDepth 100000 in
theorem spec_l20Task.calls (k : Nat) (g : Nat) (s0_0 : List Int) (s0_1 : Int) (a1 : Int) (r1 : Int) (r2 : Int) (r3 : Int) (r4 : Int) (w0 w : World) (hI : IsS110 w0 w g s0_0 s0_1) (hB : Below w0.heap.size w0 w) (h : spec_l20Task.f k s0_0 s0_1 a1 = some (r1, r2, r3, r4)) :
  Calls Try.prog 106 #[.pointer (some ⟨g, 0, none⟩), .int .i64 a1] w fun e w' => e = .returned (.agg #[.int .i64 r1, .int .i64 r2, .int .i64 r3]) ∧ IsS110 w0 w' g s0_0 r4 ∧ Below w0.heap.size w0 w' ∧ KeepBut w w' g none := by
 have hu88 := Try.underlying88
 have HI0 := Aside0.mk hI
 have HK := Aside0.mk (KeepBut.refl w g none)
 have HL := Aside0.mk hB.size
 clear hI
 have HW0 := Aside0.mk hB.size
 have HB := Aside0.mk hB
 clear hB
 have H : ((spec_l20Rd_pick.f k s0_0 s0_1 12).bind fun bt110 => ((some (([2, 3, 4, 6, 8, 12, wrap64 (1 + bt110.1), 5] : List Int) : List Int)).bind fun y112 => ((spec_l20Rd_pick.f k s0_0 bt110.2 8).bind fun bt115 => (if 0 ≤ bt115.1 then (if bt115.1 < (y112.length : Int) then ((spec_l20Rd_pick.f k s0_0 bt115.2 (rd y112 bt115.1)).bind fun bt119 => ((some (([rd y112 bt115.1, wrap64 (1 + bt119.1), mx 1 (wrap64 ((rd y112 bt115.1) - 1))] : List Int) : List Int)).bind fun y121 => ((spec_l20Rd_pick.f k s0_0 bt119.2 3).bind fun bt124 => (if 0 ≤ bt124.1 then (if bt124.1 < (y121.length : Int) then ((some (([rd y121 bt124.1, mx 1 (wrap64 (Int.tdiv (rd y121 bt124.1) 2)), mx 1 (wrap64 (Int.tdiv (rd y121 bt124.1) 3))] : List Int) : List Int)).bind fun y127 => ((spec_l20Rd_pick.f k s0_0 bt124.2 3).bind fun bt130 => (if 0 ≤ bt130.1 then (if bt130.1 < (y127.length : Int) then ((spec_l20Rd_pick.f k s0_0 bt130.2 (mn 8 (rd y127 bt130.1))).bind fun bt133 => ((spec_l20Rd_odd.f k s0_0 bt133.2 a1).bind fun bt135 => (if bt135.1 = true then ((spec_l20Rd_pick.f k s0_0 bt135.2 3).bind fun bt137 => (if bt137.1 = 0 then ((some (([0, (-1), 9, wrap64 ((rd y121 bt124.1) + 1)] : List Int) : List Int)).bind fun y139 => ((spec_l20Rd_pick.f k s0_0 bt137.2 4).bind fun bt142 => (if 0 ≤ bt142.1 then (if bt142.1 < (y139.length : Int) then (spec_l20Task.j0 k s0_0 bt142.2 (rd y139 bt142.1) (rd y121 bt124.1) (rd y112 bt115.1)) else (none)) else (none)))) else (if bt137.1 = 1 then ((some (([0, wrap64 ((rd y112 bt115.1) + 1), (-1)] : List Int) : List Int)).bind fun y145 => ((spec_l20Rd_pick.f k s0_0 bt137.2 3).bind fun bt148 => (if 0 ≤ bt148.1 then (if bt148.1 < (y145.length : Int) then (spec_l20Task.j0 k s0_0 bt148.2 (wrap64 (1 + bt133.1)) (rd y145 bt148.1) (rd y112 bt115.1)) else (none)) else (none)))) else ((some (([0, 13, (-1)] : List Int) : List Int)).bind fun y151 => ((spec_l20Rd_pick.f k s0_0 bt137.2 3).bind fun bt154 => (if 0 ≤ bt154.1 then (if bt154.1 < (y151.length : Int) then (spec_l20Task.j0 k s0_0 bt154.2 (wrap64 (1 + bt133.1)) (rd y121 bt124.1) (rd y151 bt154.1)) else (none)) else (none))))))) else (spec_l20Task.j0 k s0_0 bt135.2 (wrap64 (1 + bt133.1)) (rd y121 bt124.1) (rd y112 bt115.1))))) else (none)) else (none)))) else (none)) else (none))))) else (none)) else (none))))) = some (r1, r2, r3, r4) := h
 clear h
 replace H := Option.bind_eq_some_iff.mp H
 obtain ⟨⟨t110, t111⟩, A30, H⟩ := H
 replace H : ((some (([2, 3, 4, 6, 8, 12, wrap64 (1 + t110), 5] : List Int) : List Int)).bind fun y112 => ((spec_l20Rd_pick.f k s0_0 t111 8).bind fun bt115 => (if 0 ≤ bt115.1 then (if bt115.1 < (y112.length : Int) then ((spec_l20Rd_pick.f k s0_0 bt115.2 (rd y112 bt115.1)).bind fun bt119 => ((some (([rd y112 bt115.1, wrap64 (1 + bt119.1), mx 1 (wrap64 ((rd y112 bt115.1) - 1))] : List Int) : List Int)).bind fun y121 => ((spec_l20Rd_pick.f k s0_0 bt119.2 3).bind fun bt124 => (if 0 ≤ bt124.1 then (if bt124.1 < (y121.length : Int) then ((some (([rd y121 bt124.1, mx 1 (wrap64 (Int.tdiv (rd y121 bt124.1) 2)), mx 1 (wrap64 (Int.tdiv (rd y121 bt124.1) 3))] : List Int) : List Int)).bind fun y127 => ((spec_l20Rd_pick.f k s0_0 bt124.2 3).bind fun bt130 => (if 0 ≤ bt130.1 then (if bt130.1 < (y127.length : Int) then ((spec_l20Rd_pick.f k s0_0 bt130.2 (mn 8 (rd y127 bt130.1))).bind fun bt133 => ((spec_l20Rd_odd.f k s0_0 bt133.2 a1).bind fun bt135 => (if bt135.1 = true then ((spec_l20Rd_pick.f k s0_0 bt135.2 3).bind fun bt137 => (if bt137.1 = 0 then ((some (([0, (-1), 9, wrap64 ((rd y121 bt124.1) + 1)] : List Int) : List Int)).bind fun y139 => ((spec_l20Rd_pick.f k s0_0 bt137.2 4).bind fun bt142 => (if 0 ≤ bt142.1 then (if bt142.1 < (y139.length : Int) then (spec_l20Task.j0 k s0_0 bt142.2 (rd y139 bt142.1) (rd y121 bt124.1) (rd y112 bt115.1)) else (none)) else (none)))) else (if bt137.1 = 1 then ((some (([0, wrap64 ((rd y112 bt115.1) + 1), (-1)] : List Int) : List Int)).bind fun y145 => ((spec_l20Rd_pick.f k s0_0 bt137.2 3).bind fun bt148 => (if 0 ≤ bt148.1 then (if bt148.1 < (y145.length : Int) then (spec_l20Task.j0 k s0_0 bt148.2 (wrap64 (1 + bt133.1)) (rd y145 bt148.1) (rd y112 bt115.1)) else (none)) else (none)))) else ((some (([0, 13, (-1)] : List Int) : List Int)).bind fun y151 => ((spec_l20Rd_pick.f k s0_0 bt137.2 3).bind fun bt154 => (if 0 ≤ bt154.1 then (if bt154.1 < (y151.length : Int) then (spec_l20Task.j0 k s0_0 bt154.2 (wrap64 (1 + bt133.1)) (rd y121 bt124.1) (rd y151 bt154.1)) else (none)) else (none))))))) else (spec_l20Task.j0 k s0_0 bt135.2 (wrap64 (1 + bt133.1)) (rd y121 bt124.1) (rd y112 bt115.1))))) else (none)) else (none)))) else (none)) else (none))))) else (none)) else (none)))) = some (r1, r2, r3, r4) := H
 have A3 := Aside0.mk A30
 clear A30
 obtain ⟨y112, hy112⟩ : ∃ y_ : List Int, y_ = (([2, 3, 4, 6, 8, 12, wrap64 (1 + t110), 5] : List Int)) := ⟨_, rfl⟩
 replace H : ((spec_l20Rd_pick.f k s0_0 t111 8).bind fun bt115 => (if 0 ≤ bt115.1 then (if bt115.1 < (y112.length : Int) then ((spec_l20Rd_pick.f k s0_0 bt115.2 (rd y112 bt115.1)).bind fun bt119 => ((some (([rd y112 bt115.1, wrap64 (1 + bt119.1), mx 1 (wrap64 ((rd y112 bt115.1) - 1))] : List Int) : List Int)).bind fun y121 => ((spec_l20Rd_pick.f k s0_0 bt119.2 3).bind fun bt124 => (if 0 ≤ bt124.1 then (if bt124.1 < (y121.length : Int) then ((some (([rd y121 bt124.1, mx 1 (wrap64 (Int.tdiv (rd y121 bt124.1) 2)), mx 1 (wrap64 (Int.tdiv (rd y121 bt124.1) 3))] : List Int) : List Int)).bind fun y127 => ((spec_l20Rd_pick.f k s0_0 bt124.2 3).bind fun bt130 => (if 0 ≤ bt130.1 then (if bt130.1 < (y127.length : Int) then ((spec_l20Rd_pick.f k s0_0 bt130.2 (mn 8 (rd y127 bt130.1))).bind fun bt133 => ((spec_l20Rd_odd.f k s0_0 bt133.2 a1).bind fun bt135 => (if bt135.1 = true then ((spec_l20Rd_pick.f k s0_0 bt135.2 3).bind fun bt137 => (if bt137.1 = 0 then ((some (([0, (-1), 9, wrap64 ((rd y121 bt124.1) + 1)] : List Int) : List Int)).bind fun y139 => ((spec_l20Rd_pick.f k s0_0 bt137.2 4).bind fun bt142 => (if 0 ≤ bt142.1 then (if bt142.1 < (y139.length : Int) then (spec_l20Task.j0 k s0_0 bt142.2 (rd y139 bt142.1) (rd y121 bt124.1) (rd y112 bt115.1)) else (none)) else (none)))) else (if bt137.1 = 1 then ((some (([0, wrap64 ((rd y112 bt115.1) + 1), (-1)] : List Int) : List Int)).bind fun y145 => ((spec_l20Rd_pick.f k s0_0 bt137.2 3).bind fun bt148 => (if 0 ≤ bt148.1 then (if bt148.1 < (y145.length : Int) then (spec_l20Task.j0 k s0_0 bt148.2 (wrap64 (1 + bt133.1)) (rd y145 bt148.1) (rd y112 bt115.1)) else (none)) else (none)))) else ((some (([0, 13, (-1)] : List Int) : List Int)).bind fun y151 => ((spec_l20Rd_pick.f k s0_0 bt137.2 3).bind fun bt154 => (if 0 ≤ bt154.1 then (if bt154.1 < (y151.length : Int) then (spec_l20Task.j0 k s0_0 bt154.2 (wrap64 (1 + bt133.1)) (rd y121 bt124.1) (rd y151 bt154.1)) else (none)) else (none))))))) else (spec_l20Task.j0 k s0_0 bt135.2 (wrap64 (1 + bt133.1)) (rd y121 bt124.1) (rd y112 bt115.1))))) else (none)) else (none)))) else (none)) else (none))))) else (none)) else (none))) = some (r1, r2, r3, r4) := by first | (rw [hy112]; with_reducible exact H) | (have H2_ := (Option.bind_some _ _).symm.trans H; rw [hy112]; with_reducible exact H2_) | (have H2_ := (Option.bind_some _ _).symm.trans H; with_reducible exact H2_) | with_reducible exact H | (rw [hy112]; exact H) | exact H
 have Ny112 := Aside0.mk hy112
 clear hy112
 replace H := Option.bind_eq_some_iff.mp H
 obtain ⟨⟨t115, t116⟩, A40, H⟩ := H
 replace H : (if 0 ≤ t115 then (if t115 < (y112.length : Int) then ((spec_l20Rd_pick.f k s0_0 t116 (rd y112 t115)).bind fun bt119 => ((some (([rd y112 t115, wrap64 (1 + bt119.1), mx 1 (wrap64 ((rd y112 t115) - 1))] : List Int) : List Int)).bind fun y121 => ((spec_l20Rd_pick.f k s0_0 bt119.2 3).bind fun bt124 => (if 0 ≤ bt124.1 then (if bt124.1 < (y121.length : Int) then ((some (([rd y121 bt124.1, mx 1 (wrap64 (Int.tdiv (rd y121 bt124.1) 2)), mx 1 (wrap64 (Int.tdiv (rd y121 bt124.1) 3))] : List Int) : List Int)).bind fun y127 => ((spec_l20Rd_pick.f k s0_0 bt124.2 3).bind fun bt130 => (if 0 ≤ bt130.1 then (if bt130.1 < (y127.length : Int) then ((spec_l20Rd_pick.f k s0_0 bt130.2 (mn 8 (rd y127 bt130.1))).bind fun bt133 => ((spec_l20Rd_odd.f k s0_0 bt133.2 a1).bind fun bt135 => (if bt135.1 = true then ((spec_l20Rd_pick.f k s0_0 bt135.2 3).bind fun bt137 => (if bt137.1 = 0 then ((some (([0, (-1), 9, wrap64 ((rd y121 bt124.1) + 1)] : List Int) : List Int)).bind fun y139 => ((spec_l20Rd_pick.f k s0_0 bt137.2 4).bind fun bt142 => (if 0 ≤ bt142.1 then (if bt142.1 < (y139.length : Int) then (spec_l20Task.j0 k s0_0 bt142.2 (rd y139 bt142.1) (rd y121 bt124.1) (rd y112 t115)) else (none)) else (none)))) else (if bt137.1 = 1 then ((some (([0, wrap64 ((rd y112 t115) + 1), (-1)] : List Int) : List Int)).bind fun y145 => ((spec_l20Rd_pick.f k s0_0 bt137.2 3).bind fun bt148 => (if 0 ≤ bt148.1 then (if bt148.1 < (y145.length : Int) then (spec_l20Task.j0 k s0_0 bt148.2 (wrap64 (1 + bt133.1)) (rd y145 bt148.1) (rd y112 t115)) else (none)) else (none)))) else ((some (([0, 13, (-1)] : List Int) : List Int)).bind fun y151 => ((spec_l20Rd_pick.f k s0_0 bt137.2 3).bind fun bt154 => (if 0 ≤ bt154.1 then (if bt154.1 < (y151.length : Int) then (spec_l20Task.j0 k s0_0 bt154.2 (wrap64 (1 + bt133.1)) (rd y121 bt124.1) (rd y151 bt154.1)) else (none)) else (none))))))) else (spec_l20Task.j0 k s0_0 bt135.2 (wrap64 (1 + bt133.1)) (rd y121 bt124.1) (rd y112 t115))))) else (none)) else (none)))) else (none)) else (none))))) else (none)) else (none)) = some (r1, r2, r3, r4) := H
 have A4 := Aside0.mk A40
 clear A40
 by_cases c5 : 0 ≤ t115
 ·rw [if_pos c5] at H
  have c5b0 : decide (0 ≤ t115) = true := decide_eq_true c5
  clear c5
  by_cases c6 : t115 < (y112.length : Int)
  ·rw [if_pos c6] at H
   have c6b0 : decide (t115 < (y112.length : Int)) = true := decide_eq_true c6
   clear c6
   replace H := Option.bind_eq_some_iff.mp H
   obtain ⟨⟨t119, t120⟩, A70, H⟩ := H
   replace H : ((some (([rd y112 t115, wrap64 (1 + t119), mx 1 (wrap64 ((rd y112 t115) - 1))] : List Int) : List Int)).bind fun y121 => ((spec_l20Rd_pick.f k s0_0 t120 3).bind fun bt124 => (if 0 ≤ bt124.1 then (if bt124.1 < (y121.length : Int) then ((some (([rd y121 bt124.1, mx 1 (wrap64 (Int.tdiv (rd y121 bt124.1) 2)), mx 1 (wrap64 (Int.tdiv (rd y121 bt124.1) 3))] : List Int) : List Int)).bind fun y127 => ((spec_l20Rd_pick.f k s0_0 bt124.2 3).bind fun bt130 => (if 0 ≤ bt130.1 then (if bt130.1 < (y127.length : Int) then ((spec_l20Rd_pick.f k s0_0 bt130.2 (mn 8 (rd y127 bt130.1))).bind fun bt133 => ((spec_l20Rd_odd.f k s0_0 bt133.2 a1).bind fun bt135 => (if bt135.1 = true then ((spec_l20Rd_pick.f k s0_0 bt135.2 3).bind fun bt137 => (if bt137.1 = 0 then ((some (([0, (-1), 9, wrap64 ((rd y121 bt124.1) + 1)] : List Int) : List Int)).bind fun y139 => ((spec_l20Rd_pick.f k s0_0 bt137.2 4).bind fun bt142 => (if 0 ≤ bt142.1 then (if bt142.1 < (y139.length : Int) then (spec_l20Task.j0 k s0_0 bt142.2 (rd y139 bt142.1) (rd y121 bt124.1) (rd y112 t115)) else (none)) else (none)))) else (if bt137.1 = 1 then ((some (([0, wrap64 ((rd y112 t115) + 1), (-1)] : List Int) : List Int)).bind fun y145 => ((spec_l20Rd_pick.f k s0_0 bt137.2 3).bind fun bt148 => (if 0 ≤ bt148.1 then (if bt148.1 < (y145.length : Int) then (spec_l20Task.j0 k s0_0 bt148.2 (wrap64 (1 + bt133.1)) (rd y145 bt148.1) (rd y112 t115)) else (none)) else (none)))) else ((some (([0, 13, (-1)] : List Int) : List Int)).bind fun y151 => ((spec_l20Rd_pick.f k s0_0 bt137.2 3).bind fun bt154 => (if 0 ≤ bt154.1 then (if bt154.1 < (y151.length : Int) then (spec_l20Task.j0 k s0_0 bt154.2 (wrap64 (1 + bt133.1)) (rd y121 bt124.1) (rd y151 bt154.1)) else (none)) else (none))))))) else (spec_l20Task.j0 k s0_0 bt135.2 (wrap64 (1 + bt133.1)) (rd y121 bt124.1) (rd y112 t115))))) else (none)) else (none)))) else (none)) else (none)))) = some (r1, r2, r3, r4) := H
   have A7 := Aside0.mk A70
   clear A70
   obtain ⟨ji8, hji8⟩ : ∃ j_ : Int, (mx 1 (wrap64 ((rd y112 t115) - 1))) = j_ := ⟨_, rfl⟩
   replace H : ((some (([rd y112 t115, wrap64 (1 + t119), ji8] : List Int) : List Int)).bind fun y121 => ((spec_l20Rd_pick.f k s0_0 t120 3).bind fun bt124 => (if 0 ≤ bt124.1 then (if bt124.1 < (y121.length : Int) then ((some (([rd y121 bt124.1, mx 1 (wrap64 (Int.tdiv (rd y121 bt124.1) 2)), mx 1 (wrap64 (Int.tdiv (rd y121 bt124.1) 3))] : List Int) : List Int)).bind fun y127 => ((spec_l20Rd_pick.f k s0_0 bt124.2 3).bind fun bt130 => (if 0 ≤ bt130.1 then (if bt130.1 < (y127.length : Int) then ((spec_l20Rd_pick.f k s0_0 bt130.2 (mn 8 (rd y127 bt130.1))).bind fun bt133 => ((spec_l20Rd_odd.f k s0_0 bt133.2 a1).bind fun bt135 => (if bt135.1 = true then ((spec_l20Rd_pick.f k s0_0 bt135.2 3).bind fun bt137 => (if bt137.1 = 0 then ((some (([0, (-1), 9, wrap64 ((rd y121 bt124.1) + 1)] : List Int) : List Int)).bind fun y139 => ((spec_l20Rd_pick.f k s0_0 bt137.2 4).bind fun bt142 => (if 0 ≤ bt142.1 then (if bt142.1 < (y139.length : Int) then (spec_l20Task.j0 k s0_0 bt142.2 (rd y139 bt142.1) (rd y121 bt124.1) (rd y112 t115)) else (none)) else (none)))) else (if bt137.1 = 1 then ((some (([0, wrap64 ((rd y112 t115) + 1), (-1)] : List Int) : List Int)).bind fun y145 => ((spec_l20Rd_pick.f k s0_0 bt137.2 3).bind fun bt148 => (if 0 ≤ bt148.1 then (if bt148.1 < (y145.length : Int) then (spec_l20Task.j0 k s0_0 bt148.2 (wrap64 (1 + bt133.1)) (rd y145 bt148.1) (rd y112 t115)) else (none)) else (none)))) else ((some (([0, 13, (-1)] : List Int) : List Int)).bind fun y151 => ((spec_l20Rd_pick.f k s0_0 bt137.2 3).bind fun bt154 => (if 0 ≤ bt154.1 then (if bt154.1 < (y151.length : Int) then (spec_l20Task.j0 k s0_0 bt154.2 (wrap64 (1 + bt133.1)) (rd y121 bt124.1) (rd y151 bt154.1)) else (none)) else (none))))))) else (spec_l20Task.j0 k s0_0 bt135.2 (wrap64 (1 + bt133.1)) (rd y121 bt124.1) (rd y112 t115))))) else (none)) else (none)))) else (none)) else (none)))) = some (r1, r2, r3, r4) := by first | (rw [hji8] at H; exact H) | (simp only [hji8] at H ⊢; exact H)
   (try rw [hji8] at A3)
   (try rw [hji8] at A4)
   (try rw [hji8] at A7)
   (try (have hji8l : 1 ≤ ji8 := by (rw [← hji8]; unfold mx; (repeat' split) <;> omega)))
   (try (have hji8m : 0 ≤ ji8 := by omega))
   have hji8_ : (if 1 < (wrap64 ((rd y112 t115) - 1)) then (wrap64 ((rd y112 t115) - 1)) else 1) = ji8 := hji8
   obtain ⟨y121, hy121⟩ : ∃ y_ : List Int, y_ = (([rd y112 t115, wrap64 (1 + t119), ji8] : List Int)) := ⟨_, rfl⟩
   replace H : ((spec_l20Rd_pick.f k s0_0 t120 3).bind fun bt124 => (if 0 ≤ bt124.1 then (if bt124.1 < (y121.length : Int) then ((some (([rd y121 bt124.1, mx 1 (wrap64 (Int.tdiv (rd y121 bt124.1) 2)), mx 1 (wrap64 (Int.tdiv (rd y121 bt124.1) 3))] : List Int) : List Int)).bind fun y127 => ((spec_l20Rd_pick.f k s0_0 bt124.2 3).bind fun bt130 => (if 0 ≤ bt130.1 then (if bt130.1 < (y127.length : Int) then ((spec_l20Rd_pick.f k s0_0 bt130.2 (mn 8 (rd y127 bt130.1))).bind fun bt133 => ((spec_l20Rd_odd.f k s0_0 bt133.2 a1).bind fun bt135 => (if bt135.1 = true then ((spec_l20Rd_pick.f k s0_0 bt135.2 3).bind fun bt137 => (if bt137.1 = 0 then ((some (([0, (-1), 9, wrap64 ((rd y121 bt124.1) + 1)] : List Int) : List Int)).bind fun y139 => ((spec_l20Rd_pick.f k s0_0 bt137.2 4).bind fun bt142 => (if 0 ≤ bt142.1 then (if bt142.1 < (y139.length : Int) then (spec_l20Task.j0 k s0_0 bt142.2 (rd y139 bt142.1) (rd y121 bt124.1) (rd y112 t115)) else (none)) else (none)))) else (if bt137.1 = 1 then ((some (([0, wrap64 ((rd y112 t115) + 1), (-1)] : List Int) : List Int)).bind fun y145 => ((spec_l20Rd_pick.f k s0_0 bt137.2 3).bind fun bt148 => (if 0 ≤ bt148.1 then (if bt148.1 < (y145.length : Int) then (spec_l20Task.j0 k s0_0 bt148.2 (wrap64 (1 + bt133.1)) (rd y145 bt148.1) (rd y112 t115)) else (none)) else (none)))) else ((some (([0, 13, (-1)] : List Int) : List Int)).bind fun y151 => ((spec_l20Rd_pick.f k s0_0 bt137.2 3).bind fun bt154 => (if 0 ≤ bt154.1 then (if bt154.1 < (y151.length : Int) then (spec_l20Task.j0 k s0_0 bt154.2 (wrap64 (1 + bt133.1)) (rd y121 bt124.1) (rd y151 bt154.1)) else (none)) else (none))))))) else (spec_l20Task.j0 k s0_0 bt135.2 (wrap64 (1 + bt133.1)) (rd y121 bt124.1) (rd y112 t115))))) else (none)) else (none)))) else (none)) else (none))) = some (r1, r2, r3, r4) := by first | (rw [hy121]; with_reducible exact H) | (have H2_ := (Option.bind_some _ _).symm.trans H; rw [hy121]; with_reducible exact H2_) | (have H2_ := (Option.bind_some _ _).symm.trans H; with_reducible exact H2_) | with_reducible exact H | (rw [hy121]; exact H) | exact H
   have Ny121 := Aside0.mk hy121
   clear hy121
   replace H := Option.bind_eq_some_iff.mp H
   obtain ⟨⟨t124, t125⟩, A90, H⟩ := H
   replace H : (if 0 ≤ t124 then (if t124 < (y121.length : Int) then ((some (([rd y121 t124, mx 1 (wrap64 (Int.tdiv (rd y121 t124) 2)), mx 1 (wrap64 (Int.tdiv (rd y121 t124) 3))] : List Int) : List Int)).bind fun y127 => ((spec_l20Rd_pick.f k s0_0 t125 3).bind fun bt130 => (if 0 ≤ bt130.1 then (if bt130.1 < (y127.length : Int) then ((spec_l20Rd_pick.f k s0_0 bt130.2 (mn 8 (rd y127 bt130.1))).bind fun bt133 => ((spec_l20Rd_odd.f k s0_0 bt133.2 a1).bind fun bt135 => (if bt135.1 = true then ((spec_l20Rd_pick.f k s0_0 bt135.2 3).bind fun bt137 => (if bt137.1 = 0 then ((some (([0, (-1), 9, wrap64 ((rd y121 t124) + 1)] : List Int) : List Int)).bind fun y139 => ((spec_l20Rd_pick.f k s0_0 bt137.2 4).bind fun bt142 => (if 0 ≤ bt142.1 then (if bt142.1 < (y139.length : Int) then (spec_l20Task.j0 k s0_0 bt142.2 (rd y139 bt142.1) (rd y121 t124) (rd y112 t115)) else (none)) else (none)))) else (if bt137.1 = 1 then ((some (([0, wrap64 ((rd y112 t115) + 1), (-1)] : List Int) : List Int)).bind fun y145 => ((spec_l20Rd_pick.f k s0_0 bt137.2 3).bind fun bt148 => (if 0 ≤ bt148.1 then (if bt148.1 < (y145.length : Int) then (spec_l20Task.j0 k s0_0 bt148.2 (wrap64 (1 + bt133.1)) (rd y145 bt148.1) (rd y112 t115)) else (none)) else (none)))) else ((some (([0, 13, (-1)] : List Int) : List Int)).bind fun y151 => ((spec_l20Rd_pick.f k s0_0 bt137.2 3).bind fun bt154 => (if 0 ≤ bt154.1 then (if bt154.1 < (y151.length : Int) then (spec_l20Task.j0 k s0_0 bt154.2 (wrap64 (1 + bt133.1)) (rd y121 t124) (rd y151 bt154.1)) else (none)) else (none))))))) else (spec_l20Task.j0 k s0_0 bt135.2 (wrap64 (1 + bt133.1)) (rd y121 t124) (rd y112 t115))))) else (none)) else (none)))) else (none)) else (none)) = some (r1, r2, r3, r4) := H
   have A9 := Aside0.mk A90
   clear A90
   by_cases c10 : 0 ≤ t124
   ·rw [if_pos c10] at H
    have c10b0 : decide (0 ≤ t124) = true := decide_eq_true c10
    clear c10
    by_cases c11 : t124 < (y121.length : Int)
    ·rw [if_pos c11] at H
     have c11b0 : decide (t124 < (y121.length : Int)) = true := decide_eq_true c11
     clear c11
     obtain ⟨ji12, hji12⟩ : ∃ j_ : Int, (mx 1 (wrap64 (Int.tdiv (rd y121 t124) 2))) = j_ := ⟨_, rfl⟩
     replace H : ((some (([rd y121 t124, ji12, mx 1 (wrap64 (Int.tdiv (rd y121 t124) 3))] : List Int) : List Int)).bind fun y127 => ((spec_l20Rd_pick.f k s0_0 t125 3).bind fun bt130 => (if 0 ≤ bt130.1 then (if bt130.1 < (y127.length : Int) then ((spec_l20Rd_pick.f k s0_0 bt130.2 (mn 8 (rd y127 bt130.1))).bind fun bt133 => ((spec_l20Rd_odd.f k s0_0 bt133.2 a1).bind fun bt135 => (if bt135.1 = true then ((spec_l20Rd_pick.f k s0_0 bt135.2 3).bind fun bt137 => (if bt137.1 = 0 then ((some (([0, (-1), 9, wrap64 ((rd y121 t124) + 1)] : List Int) : List Int)).bind fun y139 => ((spec_l20Rd_pick.f k s0_0 bt137.2 4).bind fun bt142 => (if 0 ≤ bt142.1 then (if bt142.1 < (y139.length : Int) then (spec_l20Task.j0 k s0_0 bt142.2 (rd y139 bt142.1) (rd y121 t124) (rd y112 t115)) else (none)) else (none)))) else (if bt137.1 = 1 then ((some (([0, wrap64 ((rd y112 t115) + 1), (-1)] : List Int) : List Int)).bind fun y145 => ((spec_l20Rd_pick.f k s0_0 bt137.2 3).bind fun bt148 => (if 0 ≤ bt148.1 then (if bt148.1 < (y145.length : Int) then (spec_l20Task.j0 k s0_0 bt148.2 (wrap64 (1 + bt133.1)) (rd y145 bt148.1) (rd y112 t115)) else (none)) else (none)))) else ((some (([0, 13, (-1)] : List Int) : List Int)).bind fun y151 => ((spec_l20Rd_pick.f k s0_0 bt137.2 3).bind fun bt154 => (if 0 ≤ bt154.1 then (if bt154.1 < (y151.length : Int) then (spec_l20Task.j0 k s0_0 bt154.2 (wrap64 (1 + bt133.1)) (rd y121 t124) (rd y151 bt154.1)) else (none)) else (none))))))) else (spec_l20Task.j0 k s0_0 bt135.2 (wrap64 (1 + bt133.1)) (rd y121 t124) (rd y112 t115))))) else (none)) else (none)))) = some (r1, r2, r3, r4) := by first | (rw [hji12] at H; exact H) | (simp only [hji12] at H ⊢; exact H)
     (try rw [hji12] at A3)
     (try rw [hji12] at A4)
     (try rw [hji12] at A7)
     (try rw [hji12] at A9)
     (try (have hji12l : 1 ≤ ji12 := by (rw [← hji12]; unfold mx; (repeat' split) <;> omega)))
     (try (have hji12m : 0 ≤ ji12 := by omega))
     have hji12_ : (if 1 < (wrap64 (Int.tdiv (rd y121 t124) 2)) then (wrap64 (Int.tdiv (rd y121 t124) 2)) else 1) = ji12 := hji12
     obtain ⟨ji13, hji13⟩ : ∃ j_ : Int, (mx 1 (wrap64 (Int.tdiv (rd y121 t124) 3))) = j_ := ⟨_, rfl⟩
     replace H : ((some (([rd y121 t124, ji12, ji13] : List Int) : List Int)).bind fun y127 => ((spec_l20Rd_pick.f k s0_0 t125 3).bind fun bt130 => (if 0 ≤ bt130.1 then (if bt130.1 < (y127.length : Int) then ((spec_l20Rd_pick.f k s0_0 bt130.2 (mn 8 (rd y127 bt130.1))).bind fun bt133 => ((spec_l20Rd_odd.f k s0_0 bt133.2 a1).bind fun bt135 => (if bt135.1 = true then ((spec_l20Rd_pick.f k s0_0 bt135.2 3).bind fun bt137 => (if bt137.1 = 0 then ((some (([0, (-1), 9, wrap64 ((rd y121 t124) + 1)] : List Int) : List Int)).bind fun y139 => ((spec_l20Rd_pick.f k s0_0 bt137.2 4).bind fun bt142 => (if 0 ≤ bt142.1 then (if bt142.1 < (y139.length : Int) then (spec_l20Task.j0 k s0_0 bt142.2 (rd y139 bt142.1) (rd y121 t124) (rd y112 t115)) else (none)) else (none)))) else (if bt137.1 = 1 then ((some (([0, wrap64 ((rd y112 t115) + 1), (-1)] : List Int) : List Int)).bind fun y145 => ((spec_l20Rd_pick.f k s0_0 bt137.2 3).bind fun bt148 => (if 0 ≤ bt148.1 then (if bt148.1 < (y145.length : Int) then (spec_l20Task.j0 k s0_0 bt148.2 (wrap64 (1 + bt133.1)) (rd y145 bt148.1) (rd y112 t115)) else (none)) else (none)))) else ((some (([0, 13, (-1)] : List Int) : List Int)).bind fun y151 => ((spec_l20Rd_pick.f k s0_0 bt137.2 3).bind fun bt154 => (if 0 ≤ bt154.1 then (if bt154.1 < (y151.length : Int) then (spec_l20Task.j0 k s0_0 bt154.2 (wrap64 (1 + bt133.1)) (rd y121 t124) (rd y151 bt154.1)) else (none)) else (none))))))) else (spec_l20Task.j0 k s0_0 bt135.2 (wrap64 (1 + bt133.1)) (rd y121 t124) (rd y112 t115))))) else (none)) else (none)))) = some (r1, r2, r3, r4) := by first | (rw [hji13] at H; exact H) | (simp only [hji13] at H ⊢; exact H)
     (try rw [hji13] at A3)
     (try rw [hji13] at A4)
     (try rw [hji13] at A7)
     (try rw [hji13] at A9)
     (try (have hji13l : 1 ≤ ji13 := by (rw [← hji13]; unfold mx; (repeat' split) <;> omega)))
     (try (have hji13m : 0 ≤ ji13 := by omega))
     have hji13_ : (if 1 < (wrap64 (Int.tdiv (rd y121 t124) 3)) then (wrap64 (Int.tdiv (rd y121 t124) 3)) else 1) = ji13 := hji13
     obtain ⟨y127, hy127⟩ : ∃ y_ : List Int, y_ = (([rd y121 t124, ji12, ji13] : List Int)) := ⟨_, rfl⟩
     replace H : ((spec_l20Rd_pick.f k s0_0 t125 3).bind fun bt130 => (if 0 ≤ bt130.1 then (if bt130.1 < (y127.length : Int) then ((spec_l20Rd_pick.f k s0_0 bt130.2 (mn 8 (rd y127 bt130.1))).bind fun bt133 => ((spec_l20Rd_odd.f k s0_0 bt133.2 a1).bind fun bt135 => (if bt135.1 = true then ((spec_l20Rd_pick.f k s0_0 bt135.2 3).bind fun bt137 => (if bt137.1 = 0 then ((some (([0, (-1), 9, wrap64 ((rd y121 t124) + 1)] : List Int) : List Int)).bind fun y139 => ((spec_l20Rd_pick.f k s0_0 bt137.2 4).bind fun bt142 => (if 0 ≤ bt142.1 then (if bt142.1 < (y139.length : Int) then (spec_l20Task.j0 k s0_0 bt142.2 (rd y139 bt142.1) (rd y121 t124) (rd y112 t115)) else (none)) else (none)))) else (if bt137.1 = 1 then ((some (([0, wrap64 ((rd y112 t115) + 1), (-1)] : List Int) : List Int)).bind fun y145 => ((spec_l20Rd_pick.f k s0_0 bt137.2 3).bind fun bt148 => (if 0 ≤ bt148.1 then (if bt148.1 < (y145.length : Int) then (spec_l20Task.j0 k s0_0 bt148.2 (wrap64 (1 + bt133.1)) (rd y145 bt148.1) (rd y112 t115)) else (none)) else (none)))) else ((some (([0, 13, (-1)] : List Int) : List Int)).bind fun y151 => ((spec_l20Rd_pick.f k s0_0 bt137.2 3).bind fun bt154 => (if 0 ≤ bt154.1 then (if bt154.1 < (y151.length : Int) then (spec_l20Task.j0 k s0_0 bt154.2 (wrap64 (1 + bt133.1)) (rd y121 t124) (rd y151 bt154.1)) else (none)) else (none))))))) else (spec_l20Task.j0 k s0_0 bt135.2 (wrap64 (1 + bt133.1)) (rd y121 t124) (rd y112 t115))))) else (none)) else (none))) = some (r1, r2, r3, r4) := by first | (rw [hy127]; with_reducible exact H) | (have H2_ := (Option.bind_some _ _).symm.trans H; rw [hy127]; with_reducible exact H2_) | (have H2_ := (Option.bind_some _ _).symm.trans H; with_reducible exact H2_) | with_reducible exact H | (rw [hy127]; exact H) | exact H
     have Ny127 := Aside0.mk hy127
     clear hy127
     replace H := Option.bind_eq_some_iff.mp H
     obtain ⟨⟨t130, t131⟩, A140, H⟩ := H
     replace H : (if 0 ≤ t130 then (if t130 < (y127.length : Int) then ((spec_l20Rd_pick.f k s0_0 t131 (mn 8 (rd y127 t130))).bind fun bt133 => ((spec_l20Rd_odd.f k s0_0 bt133.2 a1).bind fun bt135 => (if bt135.1 = true then ((spec_l20Rd_pick.f k s0_0 bt135.2 3).bind fun bt137 => (if bt137.1 = 0 then ((some (([0, (-1), 9, wrap64 ((rd y121 t124) + 1)] : List Int) : List Int)).bind fun y139 => ((spec_l20Rd_pick.f k s0_0 bt137.2 4).bind fun bt142 => (if 0 ≤ bt142.1 then (if bt142.1 < (y139.length : Int) then (spec_l20Task.j0 k s0_0 bt142.2 (rd y139 bt142.1) (rd y121 t124) (rd y112 t115)) else (none)) else (none)))) else (if bt137.1 = 1 then ((some (([0, wrap64 ((rd y112 t115) + 1), (-1)] : List Int) : List Int)).bind fun y145 => ((spec_l20Rd_pick.f k s0_0 bt137.2 3).bind fun bt148 => (if 0 ≤ bt148.1 then (if bt148.1 < (y145.length : Int) then (spec_l20Task.j0 k s0_0 bt148.2 (wrap64 (1 + bt133.1)) (rd y145 bt148.1) (rd y112 t115)) else (none)) else (none)))) else ((some (([0, 13, (-1)] : List Int) : List Int)).bind fun y151 => ((spec_l20Rd_pick.f k s0_0 bt137.2 3).bind fun bt154 => (if 0 ≤ bt154.1 then (if bt154.1 < (y151.length : Int) then (spec_l20Task.j0 k s0_0 bt154.2 (wrap64 (1 + bt133.1)) (rd y121 t124) (rd y151 bt154.1)) else (none)) else (none))))))) else (spec_l20Task.j0 k s0_0 bt135.2 (wrap64 (1 + bt133.1)) (rd y121 t124) (rd y112 t115))))) else (none)) else (none)) = some (r1, r2, r3, r4) := H
     have A14 := Aside0.mk A140
     clear A140
     by_cases c15 : 0 ≤ t130
     ·rw [if_pos c15] at H
      have c15b0 : decide (0 ≤ t130) = true := decide_eq_true c15
      clear c15
      by_cases c16 : t130 < (y127.length : Int)
      ·rw [if_pos c16] at H
       have c16b0 : decide (t130 < (y127.length : Int)) = true := decide_eq_true c16
       clear c16
       obtain ⟨ji17, hji17⟩ : ∃ j_ : Int, (mn 8 (rd y127 t130)) = j_ := ⟨_, rfl⟩
       replace H : ((spec_l20Rd_pick.f k s0_0 t131 (ji17)).bind fun bt133 => ((spec_l20Rd_odd.f k s0_0 bt133.2 a1).bind fun bt135 => (if bt135.1 = true then ((spec_l20Rd_pick.f k s0_0 bt135.2 3).bind fun bt137 => (if bt137.1 = 0 then ((some (([0, (-1), 9, wrap64 ((rd y121 t124) + 1)] : List Int) : List Int)).bind fun y139 => ((spec_l20Rd_pick.f k s0_0 bt137.2 4).bind fun bt142 => (if 0 ≤ bt142.1 then (if bt142.1 < (y139.length : Int) then (spec_l20Task.j0 k s0_0 bt142.2 (rd y139 bt142.1) (rd y121 t124) (rd y112 t115)) else (none)) else (none)))) else (if bt137.1 = 1 then ((some (([0, wrap64 ((rd y112 t115) + 1), (-1)] : List Int) : List Int)).bind fun y145 => ((spec_l20Rd_pick.f k s0_0 bt137.2 3).bind fun bt148 => (if 0 ≤ bt148.1 then (if bt148.1 < (y145.length : Int) then (spec_l20Task.j0 k s0_0 bt148.2 (wrap64 (1 + bt133.1)) (rd y145 bt148.1) (rd y112 t115)) else (none)) else (none)))) else ((some (([0, 13, (-1)] : List Int) : List Int)).bind fun y151 => ((spec_l20Rd_pick.f k s0_0 bt137.2 3).bind fun bt154 => (if 0 ≤ bt154.1 then (if bt154.1 < (y151.length : Int) then (spec_l20Task.j0 k s0_0 bt154.2 (wrap64 (1 + bt133.1)) (rd y121 t124) (rd y151 bt154.1)) else (none)) else (none))))))) else (spec_l20Task.j0 k s0_0 bt135.2 (wrap64 (1 + bt133.1)) (rd y121 t124) (rd y112 t115))))) = some (r1, r2, r3, r4) := by first | (rw [hji17] at H; exact H) | (simp only [hji17] at H ⊢; exact H)
       (try rw [hji17] at A3)
       (try rw [hji17] at A4)
       (try rw [hji17] at A7)
       (try rw [hji17] at A9)
       (try rw [hji17] at A14)
       (try (have hji17h : ji17 ≤ 8 := by (rw [← hji17]; unfold mn; (repeat' split) <;> omega)))
       (try (have hji17g : ji17 ≤ 64 := by omega))
       have hji17_ : (if (rd y127 t130) < 8 then (rd y127 t130) else 8) = ji17 := hji17
       replace H := Option.bind_eq_some_iff.mp H
       obtain ⟨⟨t133, t134⟩, A180, H⟩ := H
       replace H : ((spec_l20Rd_odd.f k s0_0 t134 a1).bind fun bt135 => (if bt135.1 = true then ((spec_l20Rd_pick.f k s0_0 bt135.2 3).bind fun bt137 => (if bt137.1 = 0 then ((some (([0, (-1), 9, wrap64 ((rd y121 t124) + 1)] : List Int) : List Int)).bind fun y139 => ((spec_l20Rd_pick.f k s0_0 bt137.2 4).bind fun bt142 => (if 0 ≤ bt142.1 then (if bt142.1 < (y139.length : Int) then (spec_l20Task.j0 k s0_0 bt142.2 (rd y139 bt142.1) (rd y121 t124) (rd y112 t115)) else (none)) else (none)))) else (if bt137.1 = 1 then ((some (([0, wrap64 ((rd y112 t115) + 1), (-1)] : List Int) : List Int)).bind fun y145 => ((spec_l20Rd_pick.f k s0_0 bt137.2 3).bind fun bt148 => (if 0 ≤ bt148.1 then (if bt148.1 < (y145.length : Int) then (spec_l20Task.j0 k s0_0 bt148.2 (wrap64 (1 + t133)) (rd y145 bt148.1) (rd y112 t115)) else (none)) else (none)))) else ((some (([0, 13, (-1)] : List Int) : List Int)).bind fun y151 => ((spec_l20Rd_pick.f k s0_0 bt137.2 3).bind fun bt154 => (if 0 ≤ bt154.1 then (if bt154.1 < (y151.length : Int) then (spec_l20Task.j0 k s0_0 bt154.2 (wrap64 (1 + t133)) (rd y121 t124) (rd y151 bt154.1)) else (none)) else (none))))))) else (spec_l20Task.j0 k s0_0 bt135.2 (wrap64 (1 + t133)) (rd y121 t124) (rd y112 t115)))) = some (r1, r2, r3, r4) := H
       have A18 := Aside0.mk A180
       clear A180
       replace H := Option.bind_eq_some_iff.mp H
       obtain ⟨⟨t135, t136⟩, A190, H⟩ := H
       replace H : (if t135 = true then ((spec_l20Rd_pick.f k s0_0 t136 3).bind fun bt137 => (if bt137.1 = 0 then ((some (([0, (-1), 9, wrap64 ((rd y121 t124) + 1)] : List Int) : List Int)).bind fun y139 => ((spec_l20Rd_pick.f k s0_0 bt137.2 4).bind fun bt142 => (if 0 ≤ bt142.1 then (if bt142.1 < (y139.length : Int) then (spec_l20Task.j0 k s0_0 bt142.2 (rd y139 bt142.1) (rd y121 t124) (rd y112 t115)) else (none)) else (none)))) else (if bt137.1 = 1 then ((some (([0, wrap64 ((rd y112 t115) + 1), (-1)] : List Int) : List Int)).bind fun y145 => ((spec_l20Rd_pick.f k s0_0 bt137.2 3).bind fun bt148 => (if 0 ≤ bt148.1 then (if bt148.1 < (y145.length : Int) then (spec_l20Task.j0 k s0_0 bt148.2 (wrap64 (1 + t133)) (rd y145 bt148.1) (rd y112 t115)) else (none)) else (none)))) else ((some (([0, 13, (-1)] : List Int) : List Int)).bind fun y151 => ((spec_l20Rd_pick.f k s0_0 bt137.2 3).bind fun bt154 => (if 0 ≤ bt154.1 then (if bt154.1 < (y151.length : Int) then (spec_l20Task.j0 k s0_0 bt154.2 (wrap64 (1 + t133)) (rd y121 t124) (rd y151 bt154.1)) else (none)) else (none))))))) else (spec_l20Task.j0 k s0_0 t136 (wrap64 (1 + t133)) (rd y121 t124) (rd y112 t115))) = some (r1, r2, r3, r4) := H
       have A19 := Aside0.mk A190
       clear A190
       have HC20 := Aside0.mk H
       clear H
       go_enter Try.func106, Try.ntmps106
       try go_wp2_with (first | ((with_reducible refine gate_dst (N := 4) rfl ?_); refine box_event ?hg (N := 4) ?hd (cs := #[.int .i64 0, .int .i64 0, .int .i64 0]) (t := 88) ?hr ?_; (case hd => rfl); (case hg => rfl); (case hr => first | (go_simp; done) | (go_simp; rfl)); intro gb109 hg w21 hbox hb; have n0_ := Aside0.mk (IsS110.below (by repeat (first | (with_reducible first | exact HI0.out | apply IsS110.alloc | apply IsS110.drewN | apply IsS110.drew | apply IsS110.set_1) | exact HI0.out)) hb); have n1_ := Aside0.mk (KeepBut.trans (by repeat (first | (with_reducible first | exact HK.out | apply KeepBut.set_ | apply keep_drewN | apply keep_drew | apply keep_alloc) | exact HK.out)) (KeepBut.of_below hb g none) (.inl rfl)); have n2_ := Aside0.mk (below_step (by repeat (first | (with_reducible first | exact HB.out | apply below_alloc | apply pw_below_drewN | apply below_drew1 | refine below_set ?_ (IsS110.ge HI0.out)) | exact HB.out)) hb); have n3_ := Aside0.mk (hbox); have n4_ := Aside0.mk ((by rw [hg]; exact (keep_size (w := w) (g := g) (row := none) (by repeat (first | (with_reducible first | exact HK.out | apply KeepBut.set_ | apply keep_drewN | apply keep_drew | apply keep_alloc) | exact HK.out))) : w.heap.size ≤ gb109)); have n5_ := Aside0.mk ((Nat.le_trans HW0.out (by rw [hg]; exact (keep_size (w := w) (g := g) (row := none) (by repeat (first | (with_reducible first | exact HK.out | apply KeepBut.set_ | apply keep_drewN | apply keep_drew | apply keep_alloc) | exact HK.out))) : w.heap.size ≤ gb109) : w0.heap.size ≤ gb109)); have n6_ := Aside0.mk ((by rw [hg]; exact Nat.ne_of_lt (IsS110.lt (show IsS110 w0 _ g s0_0 s0_1 from by repeat (first | (with_reducible first | exact HI0.out | apply IsS110.alloc | apply IsS110.drewN | apply IsS110.drew | apply IsS110.set_1) | exact HI0.out))) : g ≠ gb109)); have n7_ := Aside0.mk ((by rw [hg]; exact Nat.ne_of_gt (IsS110.lt (show IsS110 w0 _ g s0_0 s0_1 from by repeat (first | (with_reducible first | exact HI0.out | apply IsS110.alloc | apply IsS110.drewN | apply IsS110.drew | apply IsS110.set_1) | exact HI0.out))) : gb109 ≠ g)); clear HI0; clear HK; clear HB; have HI0 := n0_; have HK := n1_; have HB := n2_; have BK109 := n3_; have GW109 := n4_; have GE109 := n5_; have NB0_109 := n6_; have NB109_0 := n7_; clear n0_ n1_ n2_ n3_ n4_ n5_ n6_ n7_; clear hb hbox hg) | ((with_reducible refine gate_callee (f := 68) rfl ?_); refine goesL_ (some 7) rfl rfl Try.func68 (by kernel_rfl) rfl #[.pointer (some ⟨g, 0, none⟩), .int .i64 12] rfl (by (try simp only [List.map_toArray, List.map_cons, List.map_nil]); first | done | rfl | (simp only [List.length_drop, List.length_take]; rfl)) ?_; (with_reducible refine (spec_l20Rd_pick.calls k g s0_0 s0_1 12 t110 t111 w0 _ ?side1 ?side2 A3.out).mono ?_); (case side1 => repeat (first | (with_reducible first | exact HI0.out | apply IsS110.alloc | apply IsS110.drewN | apply IsS110.drew | apply IsS110.set_1 | refine IsS110.far ?_ NB0_109.out _) | exact HI0.out)); (case side2 => repeat (first | (with_reducible first | exact HB.out | apply below_alloc | apply pw_below_drewN | apply below_drew1 | refine below_set ?_ (IsS110.ge HI0.out) | refine below_set ?_ GE109.out) | exact HB.out)); rintro e w22 ⟨rfl, hi, hb, hk⟩; refine ⟨_, rfl, ?_⟩; have n0_ := Aside0.mk (KeepBut.blk hk (g' := gb109) (o := .cells #[.int .i64 0, .int .i64 0, .int .i64 0] 88 (0, 0)) (by (with_reducible repeat (first | refine blk_drewN ?_ _ | refine blk_drew ?_ | refine blk_alloc ?_ _)); exact BK109.out) NB109_0.out (by simp)); have n1_ := Aside0.mk (KeepBut.trans (by repeat (first | (with_reducible first | exact HK.out | apply KeepBut.set_ | apply keep_drewN | apply keep_drew | apply keep_alloc | refine keep_far ?_ GW109.out _) | exact HK.out)) hk (.inl rfl)); have n2_ := Aside0.mk (hb); have n3_ := Aside0.mk (hi); clear BK109; clear HK; clear HB; clear HI0; have BK109 := n0_; have HK := n1_; have HB := n2_; have HI0 := n3_; clear n0_ n1_ n2_ n3_; (try clear hb); (try clear hb2); (try clear hk); (try clear hi)) | ((with_reducible refine gate_dst (N := 9) rfl ?_); refine Kd.R_lit (Kd.int .i64) _ 3 ?hg (N := 9) ?hd (xs := ([2, 3, 4, 6, 8, 12, wrap64 (1 + t110), 5] : List Int)) (inner := [.int .i64 2, .int .i64 3, .int .i64 4, .int .i64 6, .int .i64 8, .int .i64 12, .int .i64 (wrap64 (1 + t110)), .int .i64 5]) (ok := fun _ => True) (okp := fun _ => True) ?hr ?hp (fun _ hk => hk) trivial (Below.refl _ _) (Nat.le_refl _) (by simp) ?_; (case hd => rfl); (case hg => rfl); (case hr => first | (go_simp; done) | (go_simp; rfl)); (case hp => exact (Reps.one (show Kd.M (Kd.int .i64) _ _ _ 2 [.int .i64 2] from rfl) (Reps.one (show Kd.M (Kd.int .i64) _ _ _ 3 [.int .i64 3] from rfl) (Reps.one (show Kd.M (Kd.int .i64) _ _ _ 4 [.int .i64 4] from rfl) (Reps.one (show Kd.M (Kd.int .i64) _ _ _ 6 [.int .i64 6] from rfl) (Reps.one (show Kd.M (Kd.int .i64) _ _ _ 8 [.int .i64 8] from rfl) (Reps.one (show Kd.M (Kd.int .i64) _ _ _ 12 [.int .i64 12] from rfl) (Reps.one (show Kd.M (Kd.int .i64) _ _ _ (wrap64 (1 + t110)) [.int .i64 (wrap64 (1 + t110))] from rfl) (Reps.one (show Kd.M (Kd.int .i64) _ _ _ 5 [.int .i64 5] from rfl) (Reps.none _ _)))))))))); intro v113 w23 ho24 hb hg_ hnew_; clear hg_ hnew_; (first | rw [← Ny112.out] at ho24 | (simp only [Int.reduceToNat] at ho24; rw [← Ny112.out] at ho24)); have n0_ := Aside0.mk (Kd.R_lower ho24 (keep_size (w := w) (g := g) (row := none) (by repeat (first | (with_reducible first | exact HK.out | apply KeepBut.set_ | apply keep_drewN | apply keep_drew | apply keep_alloc | refine keep_far ?_ GW109.out _) | exact HK.out)))); have n1_ := Aside0.mk (IsS110.below (by repeat (first | (with_reducible first | exact HI0.out | apply IsS110.alloc | apply IsS110.drewN | apply IsS110.drew | apply IsS110.set_1 | refine IsS110.far ?_ NB0_109.out _) | exact HI0.out)) hb); have n2_ := Aside0.mk (blk_below (g := gb109) (o := .cells #[.int .i64 0, .int .i64 0, .int .i64 0] 88 (0, 0)) (by (with_reducible repeat (first | refine blk_drewN ?_ _ | refine blk_drew ?_ | refine blk_alloc ?_ _)); exact BK109.out) hb); have n3_ := Aside0.mk (KeepBut.trans (by repeat (first | (with_reducible first | exact HK.out | apply KeepBut.set_ | apply keep_drewN | apply keep_drew | apply keep_alloc | refine keep_far ?_ GW109.out _) | exact HK.out)) (KeepBut.of_below hb g none) (.inl rfl)); have n4_ := Aside0.mk (below_step (by repeat (first | (with_reducible first | exact HB.out | apply below_alloc | apply pw_below_drewN | apply below_drew1 | refine below_set ?_ (IsS110.ge HI0.out) | refine below_set ?_ GE109.out) | exact HB.out)) hb); clear HI0; clear BK109; clear HK; clear HB; have HO114 := n0_; have HI0 := n1_; have BK109 := n2_; have HK := n3_; have HB := n4_; clear n0_ n1_ n2_ n3_ n4_; clear hb ho24) | ((with_reducible refine gate_callee (f := 68) rfl ?_); refine goesL_ (some 11) rfl rfl Try.func68 (by kernel_rfl) rfl #[.pointer (some ⟨g, 0, none⟩), .int .i64 8] rfl (by (try simp only [List.map_toArray, List.map_cons, List.map_nil]); first | done | rfl | (simp only [List.length_drop, List.length_take]; rfl)) ?_; (with_reducible refine (spec_l20Rd_pick.calls k g s0_0 t111 8 t115 t116 w0 _ ?side1 ?side2 A4.out).mono ?_); (case side1 => repeat (first | (with_reducible first | exact HI0.out | apply IsS110.alloc | apply IsS110.drewN | apply IsS110.drew | apply IsS110.set_1 | refine IsS110.far ?_ NB0_109.out _) | exact HI0.out)); (case side2 => repeat (first | (with_reducible first | exact HB.out | apply below_alloc | apply pw_below_drewN | apply below_drew1 | refine below_set ?_ (IsS110.ge HI0.out) | refine below_set ?_ GE109.out) | exact HB.out)); rintro e w25 ⟨rfl, hi, hb, hk⟩; refine ⟨_, rfl, ?_⟩; have n0_ := Aside0.mk (KeepBut.blk hk (g' := gb109) (o := .cells #[.int .i64 0, .int .i64 0, .int .i64 0] 88 (0, 0)) (by (with_reducible repeat (first | refine blk_drewN ?_ _ | refine blk_drew ?_ | refine blk_alloc ?_ _)); exact BK109.out) NB109_0.out (by simp)); have n1_ := Aside0.mk (Kd.R_mono (Kd.R_keep (IsS110.apart (show IsS110 w0 _ g s0_0 t111 from by repeat (first | (with_reducible first | exact HI0.out | apply IsS110.alloc | apply IsS110.drewN | apply IsS110.drew | apply IsS110.set_1 | refine IsS110.far ?_ NB0_109.out _) | exact HI0.out)) (by (with_reducible repeat (first | apply Kd.R_alloc | apply Kd.R_drewN | apply Kd.R_drew)); exact HO114.out) (by decide)) hk (fun _ h => h.2)) (fun _ h => h.1)); have n2_ := Aside0.mk (KeepBut.trans (by repeat (first | (with_reducible first | exact HK.out | apply KeepBut.set_ | apply keep_drewN | apply keep_drew | apply keep_alloc | refine keep_far ?_ GW109.out _) | exact HK.out)) hk (.inl rfl)); have n3_ := Aside0.mk (hb); have n4_ := Aside0.mk (hi); clear BK109; clear HO114; clear HK; clear HB; clear HI0; have BK109 := n0_; have HO114 := n1_; have HK := n2_; have HB := n3_; have HI0 := n4_; clear n0_ n1_ n2_ n3_ n4_; (try clear hb); (try clear hb2); (try clear hk); (try clear hi); obtain ⟨Ao26, co26, eo26⟩ := Kd.R_slice HO114.out; subst eo26; have p117 : 0 ≤ (t115 : Int) := of_decide_eq_true (by first | (with_reducible assumption) | assumption); have q117 : t115 < (y112.length : Int) := of_decide_eq_true (by first | (with_reducible assumption) | assumption); obtain ⟨ad117, e117, hx117_0⟩ := Kd.at_int (Kd.R_reads' HO114.out).2.2 t115 p117 q117; cases e117; replace p117 := eq_true p117; replace q117 := eq_true q117) | ((with_reducible refine gate_dst (N := 5) rfl ?_); refine box_event ?hg (N := 5) ?hd (cs := #[.int .i64 0, .int .i64 0, .int .i64 0]) (t := 88) ?hr ?_; (case hd => rfl); (case hg => rfl); (case hr => first | (go_simp; done) | (go_simp; rfl)); intro gb118 hg w27 hbox hb; have n0_ := Aside0.mk (Kd.R_below (by (with_reducible repeat (first | apply Kd.R_alloc | apply Kd.R_drewN | apply Kd.R_drew)); exact HO114.out) hb); have n1_ := Aside0.mk (IsS110.below (by repeat (first | (with_reducible first | exact HI0.out | apply IsS110.alloc | apply IsS110.drewN | apply IsS110.drew | apply IsS110.set_1 | refine IsS110.far ?_ NB0_109.out _) | exact HI0.out)) hb); have n2_ := Aside0.mk (blk_below (g := gb109) (o := .cells #[.int .i64 0, .int .i64 0, .int .i64 0] 88 (0, 0)) (by (with_reducible repeat (first | refine blk_drewN ?_ _ | refine blk_drew ?_ | refine blk_alloc ?_ _)); exact BK109.out) hb); have n3_ := Aside0.mk (KeepBut.trans (by repeat (first | (with_reducible first | exact HK.out | apply KeepBut.set_ | apply keep_drewN | apply keep_drew | apply keep_alloc | refine keep_far ?_ GW109.out _) | exact HK.out)) (KeepBut.of_below hb g none) (.inl rfl)); have n4_ := Aside0.mk (below_step (by repeat (first | (with_reducible first | exact HB.out | apply below_alloc | apply pw_below_drewN | apply below_drew1 | refine below_set ?_ (IsS110.ge HI0.out) | refine below_set ?_ GE109.out) | exact HB.out)) hb); have n5_ := Aside0.mk (hbox); have n6_ := Aside0.mk ((by rw [hg]; exact (keep_size (w := w) (g := g) (row := none) (by repeat (first | (with_reducible first | exact HK.out | apply KeepBut.set_ | apply keep_drewN | apply keep_drew | apply keep_alloc | refine keep_far ?_ GW109.out _) | exact HK.out))) : w.heap.size ≤ gb118)); have n7_ := Aside0.mk ((Nat.le_trans HW0.out (by rw [hg]; exact (keep_size (w := w) (g := g) (row := none) (by repeat (first | (with_reducible first | exact HK.out | apply KeepBut.set_ | apply keep_drewN | apply keep_drew | apply keep_alloc | refine keep_far ?_ GW109.out _) | exact HK.out))) : w.heap.size ≤ gb118) : w0.heap.size ≤ gb118)); have n8_ := Aside0.mk ((by rw [hg]; exact Nat.ne_of_lt (blk_lt (g := gb109) (o := .cells #[.int .i64 0, .int .i64 0, .int .i64 0] 88 (0, 0)) (by (with_reducible repeat (first | refine blk_drewN ?_ _ | refine blk_drew ?_ | refine blk_alloc ?_ _)); exact BK109.out)) : gb109 ≠ gb118)); have n9_ := Aside0.mk ((by rw [hg]; exact Nat.ne_of_gt (blk_lt (g := gb109) (o := .cells #[.int .i64 0, .int .i64 0, .int .i64 0] 88 (0, 0)) (by (with_reducible repeat (first | refine blk_drewN ?_ _ | refine blk_drew ?_ | refine blk_alloc ?_ _)); exact BK109.out)) : gb118 ≠ gb109)); have n10_ := Aside0.mk ((by rw [hg]; exact Nat.ne_of_lt (IsS110.lt (show IsS110 w0 _ g s0_0 t116 from by repeat (first | (with_reducible first | exact HI0.out | apply IsS110.alloc | apply IsS110.drewN | apply IsS110.drew | apply IsS110.set_1 | refine IsS110.far ?_ NB0_109.out _) | exact HI0.out))) : g ≠ gb118)); have n11_ := Aside0.mk ((by rw [hg]; exact Nat.ne_of_gt (IsS110.lt (show IsS110 w0 _ g s0_0 t116 from by repeat (first | (with_reducible first | exact HI0.out | apply IsS110.alloc | apply IsS110.drewN | apply IsS110.drew | apply IsS110.set_1 | refine IsS110.far ?_ NB0_109.out _) | exact HI0.out))) : gb118 ≠ g)); clear HO114; clear HI0; clear BK109; clear HK; clear HB; have HO114 := n0_; have HI0 := n1_; have BK109 := n2_; have HK := n3_; have HB := n4_; have BK118 := n5_; have GW118 := n6_; have GE118 := n7_; have NB109_118 := n8_; have NB118_109 := n9_; have NB0_118 := n10_; have NB118_0 := n11_; clear n0_ n1_ n2_ n3_ n4_ n5_ n6_ n7_ n8_ n9_ n10_ n11_; clear hb hbox hg; have hnb28 := NB118_109.out; have hnc28 := NB109_118.out; have hnb29 := NB118_0.out; have hnc29 := NB0_118.out; have hcz30_0 : w27.cell? ⟨gb118, 0, none⟩ = some (.int .i64 0) := (blk_cell BK118.out 0).trans rfl; have hcz30_1 : w27.cell? ⟨gb118, 1, none⟩ = some (.int .i64 0) := (blk_cell BK118.out 1).trans rfl; have hcz30_2 : w27.cell? ⟨gb118, 2, none⟩ = some (.int .i64 0) := (blk_cell BK118.out 2).trans rfl; have hfz30_0 := blk_frozen BK118.out 0; have hfz30_1 := blk_frozen BK118.out 1; have hfz30_2 := blk_frozen BK118.out 2))
       have pi126 : (0 ≤ (t124 : Int)) = True := eq_true (of_decide_eq_true (by first | (with_reducible assumption) | assumption))
       have qi126 : (t124 < (y121.length : Int)) = True := eq_true (of_decide_eq_true (by first | (with_reducible assumption) | assumption))
       have n0_ : Aside0 (Kd.R (Kd.int .i64) 3 (((w27.setCell ⟨gb118, 0, none⟩ (.int .i64 0)).setCell ⟨gb118, 1, none⟩ (.int .i64 0)).setCell ⟨gb118, 2, none⟩ (.int .i64 (rd y112 t115))) w.heap.size (fun _ => True) (.slice (some ad117) y112.length co26) y112) := ⟨by (with_reducible repeat (first | apply Kd.R_alloc | apply Kd.R_drewN | apply Kd.R_drew)); exact Kd.R_mono (Kd.R_far (p := ⟨gb118, 2, none⟩) (Kd.R_far (p := ⟨gb118, 1, none⟩) (Kd.R_far (p := ⟨gb118, 0, none⟩) (Kd.R_types HO114.out BK118.out (by decide)) (fun _ hk => hk.2) (.int .i64 0)) (fun _ hk => hk.2) (.int .i64 0)) (fun _ hk => hk.2) (.int .i64 (rd y112 t115))) (fun _ hk => trivial)⟩
       have n1_ : Aside0 ((((w27.setCell ⟨gb118, 0, none⟩ (.int .i64 0)).setCell ⟨gb118, 1, none⟩ (.int .i64 0)).setCell ⟨gb118, 2, none⟩ (.int .i64 (rd y112 t115))).heap[gb109]? = some (.cells #[.int .i64 0, .int .i64 0, .int .i64 0] 88 (0, 0))) := ⟨by (with_reducible repeat (first | refine blk_drewN ?_ _ | refine blk_drew ?_ | refine blk_alloc ?_ _)); refine blk_far ?_ NB109_118.out _; (with_reducible repeat (first | refine blk_drewN ?_ _ | refine blk_drew ?_ | refine blk_alloc ?_ _)); refine blk_far ?_ NB109_118.out _; (with_reducible repeat (first | refine blk_drewN ?_ _ | refine blk_drew ?_ | refine blk_alloc ?_ _)); refine blk_far ?_ NB109_118.out _; (with_reducible repeat (first | refine blk_drewN ?_ _ | refine blk_drew ?_ | refine blk_alloc ?_ _)); exact BK109.out⟩
       have n2_ : Aside0 ((((w27.setCell ⟨gb118, 0, none⟩ (.int .i64 0)).setCell ⟨gb118, 1, none⟩ (.int .i64 0)).setCell ⟨gb118, 2, none⟩ (.int .i64 (rd y112 t115))).heap[gb118]? = some (.cells #[.int .i64 0, .int .i64 0, .int .i64 (rd y112 t115)] 88 (0, 0))) := ⟨by (with_reducible repeat (first | refine blk_drewN ?_ _ | refine blk_drew ?_ | refine blk_alloc ?_ _)); refine blk_put (cs := #[.int .i64 0, .int .i64 0, .int .i64 0]) ?_ 2 _ rfl; (with_reducible repeat (first | refine blk_drewN ?_ _ | refine blk_drew ?_ | refine blk_alloc ?_ _)); refine blk_put (cs := #[.int .i64 0, .int .i64 0, .int .i64 0]) ?_ 1 _ rfl; (with_reducible repeat (first | refine blk_drewN ?_ _ | refine blk_drew ?_ | refine blk_alloc ?_ _)); refine blk_put (cs := #[.int .i64 0, .int .i64 0, .int .i64 0]) ?_ 0 _ rfl; (with_reducible repeat (first | refine blk_drewN ?_ _ | refine blk_drew ?_ | refine blk_alloc ?_ _)); exact BK118.out⟩
       have n3_ : Aside0 (IsS110 w0 (((w27.setCell ⟨gb118, 0, none⟩ (.int .i64 0)).setCell ⟨gb118, 1, none⟩ (.int .i64 0)).setCell ⟨gb118, 2, none⟩ (.int .i64 (rd y112 t115))) g s0_0 t116) := ⟨by repeat (first | (with_reducible first | exact HI0.out | apply IsS110.alloc | apply IsS110.drewN | apply IsS110.drew | apply IsS110.set_1 | refine IsS110.far ?_ NB0_109.out _ | refine IsS110.far ?_ NB0_118.out _) | exact HI0.out)⟩
       have n4_ : Aside0 (KeepBut w (((w27.setCell ⟨gb118, 0, none⟩ (.int .i64 0)).setCell ⟨gb118, 1, none⟩ (.int .i64 0)).setCell ⟨gb118, 2, none⟩ (.int .i64 (rd y112 t115))) g none) := ⟨by repeat (first | (with_reducible first | exact HK.out | apply KeepBut.set_ | apply keep_drewN | apply keep_drew | apply keep_alloc | refine keep_far ?_ GW109.out _ | refine keep_far ?_ GW118.out _) | exact HK.out)⟩
       have n5_ : Aside0 (Below w0.heap.size w0 (((w27.setCell ⟨gb118, 0, none⟩ (.int .i64 0)).setCell ⟨gb118, 1, none⟩ (.int .i64 0)).setCell ⟨gb118, 2, none⟩ (.int .i64 (rd y112 t115)))) := ⟨by repeat (first | (with_reducible first | exact HB.out | apply below_alloc | apply pw_below_drewN | apply below_drew1 | refine below_set ?_ (IsS110.ge HI0.out) | refine below_set ?_ GE109.out | refine below_set ?_ GE118.out) | exact HB.out)⟩
       (try clear HO114)
       (try clear BK109)
       (try clear BK118)
       (try clear HI0)
       (try clear HK)
       (try clear HB)
       generalize (((w27.setCell ⟨gb118, 0, none⟩ (.int .i64 0)).setCell ⟨gb118, 1, none⟩ (.int .i64 0)).setCell ⟨gb118, 2, none⟩ (.int .i64 (rd y112 t115))) = w31 at n0_ n1_ n2_ n3_ n4_ n5_ ⊢
       have HO114 := n0_
       have BK109 := n1_
       have BK118 := n2_
       have HI0 := n3_
       have HK := n4_
       have HB := n5_
       clear n0_ n1_ n2_ n3_ n4_ n5_
       have n0_ := Aside0.mk (Kd.R_drew HO114.out)
       have n1_ := Aside0.mk (blk_drew BK109.out)
       have n2_ := Aside0.mk (blk_drew BK118.out)
       have n3_ := Aside0.mk (IsS110.drew HI0.out)
       have n4_ := Aside0.mk (keep_drew HK.out)
       have n5_ := Aside0.mk (below_drew1 HB.out)
       clear HO114
       clear BK109
       clear BK118
       clear HI0
       clear HK
       clear HB
       have HO114 := n0_
       have BK109 := n1_
       have BK118 := n2_
       have HI0 := n3_
       have HK := n4_
       have HB := n5_
       clear n0_ n1_ n2_ n3_ n4_ n5_
       refine start_ (n := 18) (S := fun w' => w'.cell? ⟨gb118, 0, none⟩ = some (.int .i64 0) ∧ w'.cell? ⟨gb118, 1, none⟩ = some (.int .i64 0) ∧ w'.cell? ⟨gb118, 2, none⟩ = some (.int .i64 (rd y112 t115))) (ds := [17]) #[false, false, false, false, false, false, false, false, false, false, false, false, false, false, false, false, false, false] (by kernel_rfl) rfl rfl ⟨(blk_cell BK118.out 0).trans rfl, (blk_cell BK118.out 1).trans rfl, (blk_cell BK118.out 2).trans rfl⟩ (fun hHeld => ?_); refine with_tabW spec_l20Task.tab2 spec_l20Task.bits2 (fun HT_ HW_ => ?_)
       generalize w31.drew = w32 at HO114 BK109 BK118 HI0 HK HB hHeld ⊢
       refine pure_ (i := 0) (N := some 15) (v := ?_) (a' := ?_) #[true, false, false, false, false, false, false, false, false, false, false, false, false, false, false, false, false, false] rfl rfl (any_of HT_.out (by kernel_rfl)) (fun _ _ _ h => h) (Or.inl ⟨by rfl, ?_⟩) ?_ ?_
       rotate_left
       ·intro w'
        go_simp
        with_reducible rfl
       rotate_left
       ·simp only [Act.put, List.setIfInBounds_toArray, List.set_cons_zero, List.set_cons_succ, i64_w, i32_w]
        rfl
       refine pure_ (i := 2) (N := some 17) (v := ?_) (a' := ?_) #[true, false, true, false, false, false, false, false, false, false, false, false, false, false, false, false, false, false] rfl rfl (any_of HT_.out (by kernel_rfl)) (fun _ _ _ h => h) (Or.inl ⟨by rfl, ?_⟩) ?_ ?_
       rotate_left
       ·intro w'
        go_simp
        with_reducible rfl
       rotate_left
       ·simp only [Act.put, List.setIfInBounds_toArray, List.set_cons_zero, List.set_cons_succ, i64_w, i32_w]
        rfl
       refine pure_ (i := 3) (N := some 18) (v := ?_) (a' := ?_) #[true, false, true, true, false, false, false, false, false, false, false, false, false, false, false, false, false, false] rfl rfl (any_of HT_.out (by kernel_rfl)) (fun _ _ _ h => h) (Or.inl ⟨by rfl, ?_⟩) ?_ ?_
       rotate_left
       ·intro w'
        go_simp
        with_reducible rfl
       rotate_left
       ·simp only [Act.put, List.setIfInBounds_toArray, List.set_cons_zero, List.set_cons_succ, i64_w, i32_w]
        rfl
       refine pure_ (i := 7) (N := some 22) (v := ?_) (a' := ?_) #[true, false, true, true, false, false, false, true, false, false, false, false, false, false, false, false, false, false] rfl rfl (any_of HT_.out (by kernel_rfl)) (fun _ _ _ h => h) (Or.inl ⟨by rfl, ?_⟩) ?_ ?_
       rotate_left
       ·intro w'
        go_simp
        with_reducible rfl
       rotate_left
       ·simp only [Act.put, List.setIfInBounds_toArray, List.set_cons_zero, List.set_cons_succ, i64_w, i32_w]
        rfl
       refine pure_ (i := 12) (N := some 27) (v := ?_) (a' := ?_) #[true, false, true, true, false, false, false, true, false, false, false, false, true, false, false, false, false, false] rfl rfl (any_of HT_.out (by kernel_rfl)) (fun _ _ _ h => h) (Or.inl ⟨by rfl, ?_⟩) ?_ ?_
       rotate_left
       ·intro w'
        go_simp
        with_reducible rfl
       rotate_left
       ·simp only [Act.put, List.setIfInBounds_toArray, List.set_cons_zero, List.set_cons_succ, i64_w, i32_w]
        rfl
       refine take_ (i := 1) (N := some 16) (v := ?_) (a' := ?_) #[true, true, true, true, false, false, false, true, false, false, false, false, true, false, false, false, false, false] rfl rfl (take_ofW HT_.out HW_.out (by kernel_rfl)) (fun _ _ _ h => h) (Or.inl ⟨by rfl, ?_⟩) hHeld ?_ ?_
       rotate_left
       ·rintro w' ⟨s0, s1, s2⟩
        go_simp
        with_reducible rfl
       rotate_left
       ·simp only [Act.put, List.setIfInBounds_toArray, List.set_cons_zero, List.set_cons_succ, i64_w, i32_w]
        rfl
       refine take_ (i := 4) (N := some 19) (v := ?_) (a' := ?_) #[true, true, true, true, true, false, false, true, false, false, false, false, true, false, false, false, false, false] rfl rfl (take_ofW HT_.out HW_.out (by kernel_rfl)) (fun _ _ _ h => h) (Or.inl ⟨by rfl, ?_⟩) hHeld ?_ ?_
       rotate_left
       ·rintro w' ⟨s0, s1, s2⟩
        go_simp
        with_reducible rfl
       rotate_left
       ·simp only [Act.put, List.setIfInBounds_toArray, List.set_cons_zero, List.set_cons_succ, i64_w, i32_w]
        rfl
       refine take_ (i := 8) (N := some 23) (v := ?_) (a' := ?_) #[true, true, true, true, true, false, false, true, true, false, false, false, true, false, false, false, false, false] rfl rfl (take_ofW HT_.out HW_.out (by kernel_rfl)) (fun _ _ _ h => h) (Or.inl ⟨by rfl, ?_⟩) hHeld ?_ ?_
       rotate_left
       ·rintro w' ⟨s0, s1, s2⟩
        go_simp
        with_reducible rfl
       rotate_left
       ·simp only [Act.put, List.setIfInBounds_toArray, List.set_cons_zero, List.set_cons_succ, i64_w, i32_w]
        rfl
       refine pure_ (i := 9) (N := some 24) (v := ?_) (a' := ?_) #[true, true, true, true, true, false, false, true, true, true, false, false, true, false, false, false, false, false] rfl rfl (any_of HT_.out (by kernel_rfl)) (fun _ _ _ h => h) (Or.inl ⟨by rfl, ?_⟩) ?_ ?_
       rotate_left
       ·intro w'
        go_simp
        with_reducible rfl
       rotate_left
       ·simp only [Act.put, List.setIfInBounds_toArray, List.set_cons_zero, List.set_cons_succ, i64_w, i32_w]
        rfl
       refine pure_ (i := 10) (N := some 25) (v := ?_) (a' := ?_) #[true, true, true, true, true, false, false, true, true, true, true, false, true, false, false, false, false, false] rfl rfl (any_of HT_.out (by kernel_rfl)) (fun _ _ _ h => h) (Or.inl ⟨by rfl, ?_⟩) ?_ ?_
       rotate_left
       ·intro w'
        go_simp
        with_reducible rfl
       rotate_left
       ·simp only [Act.put, List.setIfInBounds_toArray, List.set_cons_zero, List.set_cons_succ, i64_w, i32_w]
        rfl
       refine one_ (i := 5) (N := some 20) #[true, true, true, true, true, true, false, true, true, true, true, false, true, false, false, false, false, false] rfl rfl (one_of HT_.out (by kernel_rfl)) (by decide) (fun K hK => ?_)
       refine goes_ Try.func68 (by kernel_rfl) rfl #[.pointer (some ⟨g, 0, none⟩), .int .i64 (rd y112 t115)] (by rfl) rfl rfl (by (try simp only [List.map_toArray, List.map_cons, List.map_nil]); first | done | rfl | (simp only [List.length_drop, List.length_take]; rfl)) ?_
       with_reducible refine (spec_l20Rd_pick.calls k g s0_0 t116 (rd y112 t115) t119 t120 w0 _ ?side1 ?side2 A7.out).mono ?_
       (case side1 => repeat (first | (with_reducible first | exact HI0.out | apply IsS110.alloc | apply IsS110.drewN | apply IsS110.drew | apply IsS110.set_1 | refine IsS110.far ?_ NB0_109.out _ | refine IsS110.far ?_ NB0_118.out _) | exact HI0.out))
       (case side2 => repeat (first | (with_reducible first | exact HB.out | apply below_alloc | apply pw_below_drewN | apply below_drew1 | refine below_set ?_ (IsS110.ge HI0.out) | refine below_set ?_ GE109.out | refine below_set ?_ GE118.out) | exact HB.out))
       rintro e w33 ⟨rfl, hi, hb, hk⟩
       refine ⟨_, rfl, ?_⟩
       have n0_ := Aside0.mk (KeepBut.blk hk (g' := gb109) (o := .cells #[.int .i64 0, .int .i64 0, .int .i64 0] 88 (0, 0)) (by (with_reducible repeat (first | refine blk_drewN ?_ _ | refine blk_drew ?_ | refine blk_alloc ?_ _)); exact BK109.out) NB109_0.out (by simp))
       have n1_ := Aside0.mk (Kd.R_mono (Kd.R_keep (IsS110.apart (show IsS110 w0 _ g s0_0 t116 from by repeat (first | (with_reducible first | exact HI0.out | apply IsS110.alloc | apply IsS110.drewN | apply IsS110.drew | apply IsS110.set_1 | refine IsS110.far ?_ NB0_109.out _ | refine IsS110.far ?_ NB0_118.out _) | exact HI0.out)) (by (with_reducible repeat (first | apply Kd.R_alloc | apply Kd.R_drewN | apply Kd.R_drew)); exact HO114.out) (by decide)) hk (fun _ h => h.2)) (fun _ h => h.1))
       have n2_ := Aside0.mk (KeepBut.blk hk (g' := gb118) (o := .cells #[.int .i64 0, .int .i64 0, .int .i64 (rd y112 t115)] 88 (0, 0)) (by (with_reducible repeat (first | refine blk_drewN ?_ _ | refine blk_drew ?_ | refine blk_alloc ?_ _)); exact BK118.out) NB118_0.out (by simp))
       have n3_ := Aside0.mk (KeepBut.trans (by repeat (first | (with_reducible first | exact HK.out | apply KeepBut.set_ | apply keep_drewN | apply keep_drew | apply keep_alloc | refine keep_far ?_ GW109.out _ | refine keep_far ?_ GW118.out _) | exact HK.out)) hk (.inl rfl))
       have n4_ := Aside0.mk (hb)
       have n5_ := Aside0.mk (hi)
       clear BK109
       clear HO114
       clear BK118
       clear HK
       clear HB
       clear HI0
       have BK109 := n0_
       have HO114 := n1_
       have BK118 := n2_
       have HK := n3_
       have HB := n4_
       have HI0 := n5_
       clear n0_ n1_ n2_ n3_ n4_ n5_
       (try clear hb)
       (try clear hb2)
       (try clear hk)
       (try clear hi)
       refine hK.out _ _ ⟨(blk_cell BK118.out 0).trans rfl, (blk_cell BK118.out 1).trans rfl, (blk_cell BK118.out 2).trans rfl⟩ (fun hHeld => ?_)
       clear hK K
       refine norm_ (a' := ?_) ?_ ?_
       rotate_left
       ·show Act.put _ (some 20) _ = _
        simp only [Act.put, List.setIfInBounds_toArray, List.set_cons_zero, List.set_cons_succ, i64_w, i32_w]
        rfl
       refine pure_ (i := 6) (N := some 21) (v := ?_) (a' := ?_) #[true, true, true, true, true, true, true, true, true, true, true, false, true, false, false, false, false, false] rfl rfl (any_of HT_.out (by kernel_rfl)) (fun _ _ _ h => h) (Or.inl ⟨by rfl, ?_⟩) ?_ ?_
       rotate_left
       ·intro w'
        go_simp
        with_reducible rfl
       rotate_left
       ·simp only [Act.put, List.setIfInBounds_toArray, List.set_cons_zero, List.set_cons_succ, i64_w, i32_w]
        rfl
       refine join_ (σ := Value × Addr) 4 #[true, true, true, true, true, true, true, true, true, true, true, true, true, true, false, false, false, false] (fun s_ => [(26, s_.1), (28, .int .i64 t124)]) (fun s_ w' => (w'.cell? ⟨gb118, 0, none⟩ = some (.int .i64 0) ∧ w'.cell? ⟨gb118, 1, none⟩ = some (.int .i64 0) ∧ w'.cell? ⟨gb118, 2, none⟩ = some (.int .i64 (rd y112 t115))) ∧ (Kd.R (Kd.int .i64) 3 w' w.heap.size (fun k_ => some k_ ≠ (s_.1 : Value).ownBlock) (.slice (some ad117) y112.length co26) y112) ∧ (Kd.R (Kd.int .i64) 3 w' w.heap.size (fun k_ => some k_ ≠ (.slice (some ad117) y112.length co26 : Value).ownBlock) s_.1 y121) ∧ (∃ c_, (s_.1 : Value) = .slice (some s_.2) y121.length c_) ∧ (w'.heap[gb109]? = some (.cells #[.int .i64 0, .int .i64 0, .int .i64 0] 88 (0, 0))) ∧ (w'.heap[gb118]? = some (.cells #[.int .i64 0, .int .i64 0, .int .i64 (rd y112 t115)] 88 (0, 0))) ∧ (IsS110 w0 w' g s0_0 t125) ∧ (KeepBut w w' g none) ∧ (Below w0.heap.size w0 w')) ?_ ?_
       rotate_left
       ·intro hCont
        refine two_ (i := 11) (j := 13) (Ni := some 26) (Nj := some 28) #[true, true, true, true, true, true, true, true, true, true, true, true, true, false, false, false, false, false] #[true, true, true, true, true, true, true, true, true, true, true, false, true, true, false, false, false, false] rfl rfl rfl rfl (two_of HT_.out (by kernel_rfl)) (by decide) (by decide) (fun K hK => ?_) (fun K hK => ?_)
        ·skip
         refine Kd.R_lit_step (Kd.int .i64) _ 3 ?hg (N := 26) ?hd (xs := ([rd y112 t115, wrap64 (1 + t119), ji8] : List Int)) (inner := [.int .i64 (rd y112 t115), .int .i64 (wrap64 (1 + t119)), .int .i64 ji8]) (ok := fun _ => True) (okp := fun _ => True) ?hr ?hp (fun _ hk => hk) trivial (Below.refl _ _) (Nat.le_refl _) (by simp) ?_; (case hd => rfl); (case hg => rfl); (case hr => first | (go_simp; done) | (go_simp; rfl)); (case hp => exact (Reps.one (show Kd.M (Kd.int .i64) _ _ _ (rd y112 t115) [.int .i64 (rd y112 t115)] from rfl) (Reps.one (show Kd.M (Kd.int .i64) _ _ _ (wrap64 (1 + t119)) [.int .i64 (wrap64 (1 + t119))] from rfl) (Reps.one (show Kd.M (Kd.int .i64) _ _ _ ji8 [.int .i64 ji8] from rfl) (Reps.none _ _)))))
         intro v122 w34 ho35 hb hg_ hnew_
         clear hg_ hnew_
         (first | rw [← Ny121.out] at ho35 | (simp only [Int.reduceToNat] at ho35; rw [← Ny121.out] at ho35))
         have n0_ := Aside0.mk (Kd.R_elder' (by (with_reducible repeat (first | apply Kd.R_alloc | apply Kd.R_drewN | apply Kd.R_drew)); exact HO114.out) (Kd.R_base ho35) hb)
         have n1_ := Aside0.mk (Kd.R_lower (Kd.R_new' ho35 (Kd.R_lt (by (with_reducible repeat (first | apply Kd.R_alloc | apply Kd.R_drewN | apply Kd.R_drew)); exact HO114.out))) (keep_size (w := w) (g := g) (row := none) (by repeat (first | (with_reducible first | exact HK.out | apply KeepBut.set_ | apply keep_drewN | apply keep_drew | apply keep_alloc | refine keep_far ?_ GW109.out _ | refine keep_far ?_ GW118.out _) | exact HK.out))))
         have n2_ := Aside0.mk (IsS110.below (by repeat (first | (with_reducible first | exact HI0.out | apply IsS110.alloc | apply IsS110.drewN | apply IsS110.drew | apply IsS110.set_1 | refine IsS110.far ?_ NB0_109.out _ | refine IsS110.far ?_ NB0_118.out _) | exact HI0.out)) hb)
         have n3_ := Aside0.mk (blk_below (g := gb109) (o := .cells #[.int .i64 0, .int .i64 0, .int .i64 0] 88 (0, 0)) (by (with_reducible repeat (first | refine blk_drewN ?_ _ | refine blk_drew ?_ | refine blk_alloc ?_ _)); exact BK109.out) hb)
         have n4_ := Aside0.mk (blk_below (g := gb118) (o := .cells #[.int .i64 0, .int .i64 0, .int .i64 (rd y112 t115)] 88 (0, 0)) (by (with_reducible repeat (first | refine blk_drewN ?_ _ | refine blk_drew ?_ | refine blk_alloc ?_ _)); exact BK118.out) hb)
         have n5_ := Aside0.mk (KeepBut.trans (by repeat (first | (with_reducible first | exact HK.out | apply KeepBut.set_ | apply keep_drewN | apply keep_drew | apply keep_alloc | refine keep_far ?_ GW109.out _ | refine keep_far ?_ GW118.out _) | exact HK.out)) (KeepBut.of_below hb g none) (.inl rfl))
         have n6_ := Aside0.mk (below_step (by repeat (first | (with_reducible first | exact HB.out | apply below_alloc | apply pw_below_drewN | apply below_drew1 | refine below_set ?_ (IsS110.ge HI0.out) | refine below_set ?_ GE109.out | refine below_set ?_ GE118.out) | exact HB.out)) hb)
         clear HO114
         clear HI0
         clear BK109
         clear BK118
         clear HK
         clear HB
         have HO114 := n0_
         have HO123 := n1_
         have HI0 := n2_
         have BK109 := n3_
         have BK118 := n4_
         have HK := n5_
         have HB := n6_
         clear n0_ n1_ n2_ n3_ n4_ n5_ n6_
         clear hb ho35
         obtain ⟨Ao36, co36, eo36⟩ := Kd.R_slice HO123.out
         subst eo36
         obtain ⟨ado36, fo36, _⟩ := Kd.at_int (Kd.R_reads' HO123.out).2.2 0 (by decide) (by rw [Ny121.out]; simp)
         cases fo36
         refine hK.out _ _ ⟨(blk_cell BK118.out 0).trans rfl, (blk_cell BK118.out 1).trans rfl, (blk_cell BK118.out 2).trans rfl⟩ (fun hHeld => ?_)
         clear hK K
         refine norm_ (a' := ?_) ?_ ?_
         rotate_left
         ·show Act.put _ (some 26) _ = _
          simp only [Act.put, List.setIfInBounds_toArray, List.set_cons_zero, List.set_cons_succ, i64_w, i32_w]
          rfl
         refine one_ (i := 13) (N := some 28) #[true, true, true, true, true, true, true, true, true, true, true, true, true, true, false, false, false, false] rfl rfl (one_of HT_.out (by kernel_rfl)) (by decide) (fun K hK => ?_)
         refine goes_ Try.func68 (by kernel_rfl) rfl #[.pointer (some ⟨g, 0, none⟩), .int .i64 3] (by rfl) rfl rfl (by (try simp only [List.map_toArray, List.map_cons, List.map_nil]); first | done | rfl | (simp only [List.length_drop, List.length_take]; rfl)) ?_
         with_reducible refine (spec_l20Rd_pick.calls k g s0_0 t120 3 t124 t125 w0 _ ?side1 ?side2 A9.out).mono ?_
         (case side1 => repeat (first | (with_reducible first | exact HI0.out | apply IsS110.alloc | apply IsS110.drewN | apply IsS110.drew | apply IsS110.set_1 | refine IsS110.far ?_ NB0_109.out _ | refine IsS110.far ?_ NB0_118.out _) | exact HI0.out))
         (case side2 => repeat (first | (with_reducible first | exact HB.out | apply below_alloc | apply pw_below_drewN | apply below_drew1 | refine below_set ?_ (IsS110.ge HI0.out) | refine below_set ?_ GE109.out | refine below_set ?_ GE118.out) | exact HB.out))
         rintro e w37 ⟨rfl, hi, hb, hk⟩
         refine ⟨_, rfl, ?_⟩
         have n0_ := Aside0.mk (KeepBut.blk hk (g' := gb109) (o := .cells #[.int .i64 0, .int .i64 0, .int .i64 0] 88 (0, 0)) (by (with_reducible repeat (first | refine blk_drewN ?_ _ | refine blk_drew ?_ | refine blk_alloc ?_ _)); exact BK109.out) NB109_0.out (by simp))
         have n1_ := Aside0.mk (Kd.R_mono (Kd.R_keep (IsS110.apart (show IsS110 w0 _ g s0_0 t120 from by repeat (first | (with_reducible first | exact HI0.out | apply IsS110.alloc | apply IsS110.drewN | apply IsS110.drew | apply IsS110.set_1 | refine IsS110.far ?_ NB0_109.out _ | refine IsS110.far ?_ NB0_118.out _) | exact HI0.out)) (by (with_reducible repeat (first | apply Kd.R_alloc | apply Kd.R_drewN | apply Kd.R_drew)); exact HO114.out) (by decide)) hk (fun _ h => h.2)) (fun _ h => h.1))
         have n2_ := Aside0.mk (KeepBut.blk hk (g' := gb118) (o := .cells #[.int .i64 0, .int .i64 0, .int .i64 (rd y112 t115)] 88 (0, 0)) (by (with_reducible repeat (first | refine blk_drewN ?_ _ | refine blk_drew ?_ | refine blk_alloc ?_ _)); exact BK118.out) NB118_0.out (by simp))
         have n3_ := Aside0.mk (Kd.R_mono (Kd.R_keep (IsS110.apart (show IsS110 w0 _ g s0_0 t120 from by repeat (first | (with_reducible first | exact HI0.out | apply IsS110.alloc | apply IsS110.drewN | apply IsS110.drew | apply IsS110.set_1 | refine IsS110.far ?_ NB0_109.out _ | refine IsS110.far ?_ NB0_118.out _) | exact HI0.out)) (by (with_reducible repeat (first | apply Kd.R_alloc | apply Kd.R_drewN | apply Kd.R_drew)); exact HO123.out) (by decide)) hk (fun _ h => h.2)) (fun _ h => h.1))
         have n4_ := Aside0.mk (KeepBut.trans (by repeat (first | (with_reducible first | exact HK.out | apply KeepBut.set_ | apply keep_drewN | apply keep_drew | apply keep_alloc | refine keep_far ?_ GW109.out _ | refine keep_far ?_ GW118.out _) | exact HK.out)) hk (.inl rfl))
         have n5_ := Aside0.mk (hb)
         have n6_ := Aside0.mk (hi)
         clear BK109
         clear HO114
         clear BK118
         clear HO123
         clear HK
         clear HB
         clear HI0
         have BK109 := n0_
         have HO114 := n1_
         have BK118 := n2_
         have HO123 := n3_
         have HK := n4_
         have HB := n5_
         have HI0 := n6_
         clear n0_ n1_ n2_ n3_ n4_ n5_ n6_
         (try clear hb)
         (try clear hb2)
         (try clear hk)
         (try clear hi)
         refine hK.out _ _ ⟨(blk_cell BK118.out 0).trans rfl, (blk_cell BK118.out 1).trans rfl, (blk_cell BK118.out 2).trans rfl⟩ (fun hHeld => ?_)
         clear hK K
         refine norm_ (a' := ?_) ?_ ?_
         rotate_left
         ·show Act.put _ (some 28) _ = _
          simp only [Act.put, List.setIfInBounds_toArray, List.set_cons_zero, List.set_cons_succ, i64_w, i32_w]
          rfl
         exact norm_ (by simp only [putAll, Act.put, List.setIfInBounds_toArray, List.set_cons_zero, List.set_cons_succ]) (hCont (.slice (some ado36) y121.length co36, ado36) _ ⟨hHeld, (by (with_reducible repeat (first | apply Kd.R_alloc | apply Kd.R_drewN | apply Kd.R_drew)); exact Kd.R_mono HO114.out (fun _ hk => hk.2)), (by (with_reducible repeat (first | apply Kd.R_alloc | apply Kd.R_drewN | apply Kd.R_drew)); exact Kd.R_mono HO123.out (fun _ hk => hk.2)), ⟨_, rfl⟩, (by (with_reducible repeat (first | refine blk_drewN ?_ _ | refine blk_drew ?_ | refine blk_alloc ?_ _)); exact BK109.out), (by (with_reducible repeat (first | refine blk_drewN ?_ _ | refine blk_drew ?_ | refine blk_alloc ?_ _)); exact BK118.out), (by repeat (first | (with_reducible first | exact HI0.out | apply IsS110.alloc | apply IsS110.drewN | apply IsS110.drew | apply IsS110.set_1 | refine IsS110.far ?_ NB0_109.out _ | refine IsS110.far ?_ NB0_118.out _) | exact HI0.out)), (by repeat (first | (with_reducible first | exact HK.out | apply KeepBut.set_ | apply keep_drewN | apply keep_drew | apply keep_alloc | refine keep_far ?_ GW109.out _ | refine keep_far ?_ GW118.out _) | exact HK.out)), (by repeat (first | (with_reducible first | exact HB.out | apply below_alloc | apply pw_below_drewN | apply below_drew1 | refine below_set ?_ (IsS110.ge HI0.out) | refine below_set ?_ GE109.out | refine below_set ?_ GE118.out) | exact HB.out))⟩)
        ·skip
         refine goes_ Try.func68 (by kernel_rfl) rfl #[.pointer (some ⟨g, 0, none⟩), .int .i64 3] (by rfl) rfl rfl (by (try simp only [List.map_toArray, List.map_cons, List.map_nil]); first | done | rfl | (simp only [List.length_drop, List.length_take]; rfl)) ?_
         with_reducible refine (spec_l20Rd_pick.calls k g s0_0 t120 3 t124 t125 w0 _ ?side1 ?side2 A9.out).mono ?_
         (case side1 => repeat (first | (with_reducible first | exact HI0.out | apply IsS110.alloc | apply IsS110.drewN | apply IsS110.drew | apply IsS110.set_1 | refine IsS110.far ?_ NB0_109.out _ | refine IsS110.far ?_ NB0_118.out _) | exact HI0.out))
         (case side2 => repeat (first | (with_reducible first | exact HB.out | apply below_alloc | apply pw_below_drewN | apply below_drew1 | refine below_set ?_ (IsS110.ge HI0.out) | refine below_set ?_ GE109.out | refine below_set ?_ GE118.out) | exact HB.out))
         rintro e w34 ⟨rfl, hi, hb, hk⟩
         refine ⟨_, rfl, ?_⟩
         have n0_ := Aside0.mk (KeepBut.blk hk (g' := gb109) (o := .cells #[.int .i64 0, .int .i64 0, .int .i64 0] 88 (0, 0)) (by (with_reducible repeat (first | refine blk_drewN ?_ _ | refine blk_drew ?_ | refine blk_alloc ?_ _)); exact BK109.out) NB109_0.out (by simp))
         have n1_ := Aside0.mk (Kd.R_mono (Kd.R_keep (IsS110.apart (show IsS110 w0 _ g s0_0 t120 from by repeat (first | (with_reducible first | exact HI0.out | apply IsS110.alloc | apply IsS110.drewN | apply IsS110.drew | apply IsS110.set_1 | refine IsS110.far ?_ NB0_109.out _ | refine IsS110.far ?_ NB0_118.out _) | exact HI0.out)) (by (with_reducible repeat (first | apply Kd.R_alloc | apply Kd.R_drewN | apply Kd.R_drew)); exact HO114.out) (by decide)) hk (fun _ h => h.2)) (fun _ h => h.1))
         have n2_ := Aside0.mk (KeepBut.blk hk (g' := gb118) (o := .cells #[.int .i64 0, .int .i64 0, .int .i64 (rd y112 t115)] 88 (0, 0)) (by (with_reducible repeat (first | refine blk_drewN ?_ _ | refine blk_drew ?_ | refine blk_alloc ?_ _)); exact BK118.out) NB118_0.out (by simp))
         have n3_ := Aside0.mk (KeepBut.trans (by repeat (first | (with_reducible first | exact HK.out | apply KeepBut.set_ | apply keep_drewN | apply keep_drew | apply keep_alloc | refine keep_far ?_ GW109.out _ | refine keep_far ?_ GW118.out _) | exact HK.out)) hk (.inl rfl))
         have n4_ := Aside0.mk (hb)
         have n5_ := Aside0.mk (hi)
         clear BK109
         clear HO114
         clear BK118
         clear HK
         clear HB
         clear HI0
         have BK109 := n0_
         have HO114 := n1_
         have BK118 := n2_
         have HK := n3_
         have HB := n4_
         have HI0 := n5_
         clear n0_ n1_ n2_ n3_ n4_ n5_
         (try clear hb)
         (try clear hb2)
         (try clear hk)
         (try clear hi)
         refine hK.out _ _ ⟨(blk_cell BK118.out 0).trans rfl, (blk_cell BK118.out 1).trans rfl, (blk_cell BK118.out 2).trans rfl⟩ (fun hHeld => ?_)
         clear hK K
         refine norm_ (a' := ?_) ?_ ?_
         rotate_left
         ·show Act.put _ (some 28) _ = _
          simp only [Act.put, List.setIfInBounds_toArray, List.set_cons_zero, List.set_cons_succ, i64_w, i32_w]
          rfl
         refine one_ (i := 11) (N := some 26) #[true, true, true, true, true, true, true, true, true, true, true, true, true, true, false, false, false, false] rfl rfl (one_of HT_.out (by kernel_rfl)) (by decide) (fun K hK => ?_)
         refine Kd.R_lit_step (Kd.int .i64) _ 3 ?hg (N := 26) ?hd (xs := ([rd y112 t115, wrap64 (1 + t119), ji8] : List Int)) (inner := [.int .i64 (rd y112 t115), .int .i64 (wrap64 (1 + t119)), .int .i64 ji8]) (ok := fun _ => True) (okp := fun _ => True) ?hr ?hp (fun _ hk => hk) trivial (Below.refl _ _) (Nat.le_refl _) (by simp) ?_; (case hd => rfl); (case hg => rfl); (case hr => first | (go_simp; done) | (go_simp; rfl)); (case hp => exact (Reps.one (show Kd.M (Kd.int .i64) _ _ _ (rd y112 t115) [.int .i64 (rd y112 t115)] from rfl) (Reps.one (show Kd.M (Kd.int .i64) _ _ _ (wrap64 (1 + t119)) [.int .i64 (wrap64 (1 + t119))] from rfl) (Reps.one (show Kd.M (Kd.int .i64) _ _ _ ji8 [.int .i64 ji8] from rfl) (Reps.none _ _)))))
         intro v122 w35 ho36 hb hg_ hnew_
         clear hg_ hnew_
         (first | rw [← Ny121.out] at ho36 | (simp only [Int.reduceToNat] at ho36; rw [← Ny121.out] at ho36))
         have n0_ := Aside0.mk (Kd.R_elder' (by (with_reducible repeat (first | apply Kd.R_alloc | apply Kd.R_drewN | apply Kd.R_drew)); exact HO114.out) (Kd.R_base ho36) hb)
         have n1_ := Aside0.mk (Kd.R_lower (Kd.R_new' ho36 (Kd.R_lt (by (with_reducible repeat (first | apply Kd.R_alloc | apply Kd.R_drewN | apply Kd.R_drew)); exact HO114.out))) (keep_size (w := w) (g := g) (row := none) (by repeat (first | (with_reducible first | exact HK.out | apply KeepBut.set_ | apply keep_drewN | apply keep_drew | apply keep_alloc | refine keep_far ?_ GW109.out _ | refine keep_far ?_ GW118.out _) | exact HK.out))))
         have n2_ := Aside0.mk (IsS110.below (by repeat (first | (with_reducible first | exact HI0.out | apply IsS110.alloc | apply IsS110.drewN | apply IsS110.drew | apply IsS110.set_1 | refine IsS110.far ?_ NB0_109.out _ | refine IsS110.far ?_ NB0_118.out _) | exact HI0.out)) hb)
         have n3_ := Aside0.mk (blk_below (g := gb109) (o := .cells #[.int .i64 0, .int .i64 0, .int .i64 0] 88 (0, 0)) (by (with_reducible repeat (first | refine blk_drewN ?_ _ | refine blk_drew ?_ | refine blk_alloc ?_ _)); exact BK109.out) hb)
         have n4_ := Aside0.mk (blk_below (g := gb118) (o := .cells #[.int .i64 0, .int .i64 0, .int .i64 (rd y112 t115)] 88 (0, 0)) (by (with_reducible repeat (first | refine blk_drewN ?_ _ | refine blk_drew ?_ | refine blk_alloc ?_ _)); exact BK118.out) hb)
         have n5_ := Aside0.mk (KeepBut.trans (by repeat (first | (with_reducible first | exact HK.out | apply KeepBut.set_ | apply keep_drewN | apply keep_drew | apply keep_alloc | refine keep_far ?_ GW109.out _ | refine keep_far ?_ GW118.out _) | exact HK.out)) (KeepBut.of_below hb g none) (.inl rfl))
         have n6_ := Aside0.mk (below_step (by repeat (first | (with_reducible first | exact HB.out | apply below_alloc | apply pw_below_drewN | apply below_drew1 | refine below_set ?_ (IsS110.ge HI0.out) | refine below_set ?_ GE109.out | refine below_set ?_ GE118.out) | exact HB.out)) hb)
         clear HO114
         clear HI0
         clear BK109
         clear BK118
         clear HK
         clear HB
         have HO114 := n0_
         have HO123 := n1_
         have HI0 := n2_
         have BK109 := n3_
         have BK118 := n4_
         have HK := n5_
         have HB := n6_
         clear n0_ n1_ n2_ n3_ n4_ n5_ n6_
         clear hb ho36
         obtain ⟨Ao37, co37, eo37⟩ := Kd.R_slice HO123.out
         subst eo37
         obtain ⟨ado37, fo37, _⟩ := Kd.at_int (Kd.R_reads' HO123.out).2.2 0 (by decide) (by rw [Ny121.out]; simp)
         cases fo37
         refine hK.out _ _ ⟨(blk_cell BK118.out 0).trans rfl, (blk_cell BK118.out 1).trans rfl, (blk_cell BK118.out 2).trans rfl⟩ (fun hHeld => ?_)
         clear hK K
         refine norm_ (a' := ?_) ?_ ?_
         rotate_left
         ·show Act.put _ (some 26) _ = _
          simp only [Act.put, List.setIfInBounds_toArray, List.set_cons_zero, List.set_cons_succ, i64_w, i32_w]
          rfl
         exact norm_ (by simp only [putAll, Act.put, List.setIfInBounds_toArray, List.set_cons_zero, List.set_cons_succ]) (hCont (.slice (some ado37) y121.length co37, ado37) _ ⟨hHeld, (by (with_reducible repeat (first | apply Kd.R_alloc | apply Kd.R_drewN | apply Kd.R_drew)); exact Kd.R_mono HO114.out (fun _ hk => hk.2)), (by (with_reducible repeat (first | apply Kd.R_alloc | apply Kd.R_drewN | apply Kd.R_drew)); exact Kd.R_mono HO123.out (fun _ hk => hk.2)), ⟨_, rfl⟩, (by (with_reducible repeat (first | refine blk_drewN ?_ _ | refine blk_drew ?_ | refine blk_alloc ?_ _)); exact BK109.out), (by (with_reducible repeat (first | refine blk_drewN ?_ _ | refine blk_drew ?_ | refine blk_alloc ?_ _)); exact BK118.out), (by repeat (first | (with_reducible first | exact HI0.out | apply IsS110.alloc | apply IsS110.drewN | apply IsS110.drew | apply IsS110.set_1 | refine IsS110.far ?_ NB0_109.out _ | refine IsS110.far ?_ NB0_118.out _) | exact HI0.out)), (by repeat (first | (with_reducible first | exact HK.out | apply KeepBut.set_ | apply keep_drewN | apply keep_drew | apply keep_alloc | refine keep_far ?_ GW109.out _ | refine keep_far ?_ GW118.out _) | exact HK.out)), (by repeat (first | (with_reducible first | exact HB.out | apply below_alloc | apply pw_below_drewN | apply below_drew1 | refine below_set ?_ (IsS110.ge HI0.out) | refine below_set ?_ GE109.out | refine below_set ?_ GE118.out) | exact HB.out))⟩)
       rintro ⟨v122, adz_v122⟩ w38 ⟨hS_, h0_, h1_, h2_, h3_, h4_, h5_, h6_, h7_⟩
       have n0_ : Aside0 (Kd.R (Kd.int .i64) 3 w38 w.heap.size (fun k_ => some k_ ≠ (v122 : Value).ownBlock) (.slice (some ad117) y112.length co26) y112) := ⟨h0_⟩
       have n1_ : Aside0 (Kd.R (Kd.int .i64) 3 w38 w.heap.size (fun k_ => some k_ ≠ (.slice (some ad117) y112.length co26 : Value).ownBlock) v122 y121) := ⟨h1_⟩
       have n2_ : Aside0 (∃ c_, (v122 : Value) = .slice (some adz_v122) y121.length c_) := ⟨h2_⟩
       have n3_ : Aside0 (w38.heap[gb109]? = some (.cells #[.int .i64 0, .int .i64 0, .int .i64 0] 88 (0, 0))) := ⟨h3_⟩
       have n4_ : Aside0 (w38.heap[gb118]? = some (.cells #[.int .i64 0, .int .i64 0, .int .i64 (rd y112 t115)] 88 (0, 0))) := ⟨h4_⟩
       have n5_ : Aside0 (IsS110 w0 w38 g s0_0 t125) := ⟨h5_⟩
       have n6_ : Aside0 (KeepBut w w38 g none) := ⟨h6_⟩
       have n7_ : Aside0 (Below w0.heap.size w0 w38) := ⟨h7_⟩
       clear HO114
       clear BK109
       clear BK118
       clear HI0
       clear HK
       clear HB
       clear h0_ h1_ h2_ h3_ h4_ h5_ h6_ h7_
       have HO114 := n0_
       have HO123 := n1_
       have HA_HO123 := n2_
       have BK109 := n3_
       have BK118 := n4_
       have HI0 := n5_
       have HK := n6_
       have HB := n7_
       clear n0_ n1_ n2_ n3_ n4_ n5_ n6_ n7_
       have hHeld : w38.cell? ⟨gb118, 0, none⟩ = some (.int .i64 0) ∧ w38.cell? ⟨gb118, 1, none⟩ = some (.int .i64 0) ∧ w38.cell? ⟨gb118, 2, none⟩ = some (.int .i64 (rd y112 t115)) := hS_
       obtain ⟨co39, eo39⟩ := HA_HO123.out
       clear HA_HO123
       subst eo39
       refine norm_ (a' := ?_) ?_ ?_
       rotate_left
       ·simp only [putAll, Act.put, List.setIfInBounds_toArray, List.set_cons_zero, List.set_cons_succ]
        rfl
       refine pure_ (i := 14) (N := some 29) (v := ?_) (a' := ?_) #[true, true, true, true, true, true, true, true, true, true, true, true, true, true, true, false, false, false] rfl rfl (any_of HT_.out (by kernel_rfl)) (fun _ _ _ h => h) (Or.inl ⟨by rfl, ?_⟩) ?_ ?_
       rotate_left
       ·intro w'
        go_simp
        with_reducible rfl
       rotate_left
       ·simp only [Act.put, List.setIfInBounds_toArray, List.set_cons_zero, List.set_cons_succ, i64_w, i32_w]
        rfl
       refine one_ (i := 15) (N := some 30) #[true, true, true, true, true, true, true, true, true, true, true, true, true, true, true, true, false, false] rfl rfl (one_of HT_.out (by kernel_rfl)) (by decide) (fun K hK => ?_)
       (have p126 : 0 ≤ (t124 : Int) := of_decide_eq_true (by first | (with_reducible assumption) | assumption); have q126 : t124 < (y121.length : Int) := of_decide_eq_true (by first | (with_reducible assumption) | assumption); obtain ⟨ad126, e126, hx126_0⟩ := Kd.at_int (Kd.R_reads' HO123.out).2.2 t124 p126 q126; obtain rfl : adz_v122 = ad126 := (by injection e126))
       refine value_ (w1 := ?_) (v := ?_) (by rfl) rfl ?_ ?_
       rotate_left 2
       ·go_simp
        constructor
        ·rfl
        ·rfl
       clear hx126_0
       refine hK.out _ _ ⟨(blk_cell BK118.out 0).trans rfl, (blk_cell BK118.out 1).trans rfl, (blk_cell BK118.out 2).trans rfl⟩ (fun hHeld => ?_)
       clear hK K
       refine norm_ (a' := ?_) ?_ ?_
       rotate_left
       ·show Act.put _ (some 30) _ = _
        simp only [Act.put, List.setIfInBounds_toArray, List.set_cons_zero, List.set_cons_succ, i64_w, i32_w]
        rfl
       refine pure_ (i := 16) (N := some 31) (v := ?_) (a' := ?_) #[true, true, true, true, true, true, true, true, true, true, true, true, true, true, true, true, true, false] rfl rfl (any_of HT_.out (by kernel_rfl)) (fun _ _ _ h => h) (Or.inl ⟨by rfl, ?_⟩) ?_ ?_
       rotate_left
       ·intro w'
        go_simp
        with_reducible rfl
       rotate_left
       ·simp only [Act.put, List.setIfInBounds_toArray, List.set_cons_zero, List.set_cons_succ, i64_w, i32_w]
        rfl
       refine last_ (i := 17) (N := none) #[true, true, true, true, true, true, true, true, true, true, true, true, true, true, true, true, true, true] rfl rfl (one_of HT_.out (by kernel_rfl)) (by decide) (fun K hK => ?_)
       have hs40 : w38.cell? ⟨gb118, 1, none⟩ = some (.int .i64 0) := (blk_cell BK118.out 1).trans rfl
       have hfs40 := blk_frozen BK118.out 1
       have hns40_0 := NB109_118.out
       have hms40_0 := NB118_109.out
       refine skip_ (w1 := ?_) (by rfl) rfl ?_ ?_
       rotate_left
       ·go_simp
        rfl
       refine hK.out _ _ ?_
       clear hK K
       refine done_ (done_of HT_.out (by kernel_rfl)) ?_
       try go_wp2
       have pi132 : (0 ≤ (t130 : Int)) = True := eq_true (of_decide_eq_true (by first | (with_reducible assumption) | assumption))
       have qi132 : (t130 < (y127.length : Int)) = True := eq_true (of_decide_eq_true (by first | (with_reducible assumption) | assumption))
       have n0_ : Aside0 (Kd.R (Kd.int .i64) 3 (w38.setCell ⟨gb118, 1, none⟩ (.int .i64 (rd y121 t124))) w.heap.size (fun k_ => some k_ ≠ (.slice (some adz_v122) y121.length co39 : Value).ownBlock) (.slice (some ad117) y112.length co26) y112) := ⟨by (with_reducible repeat (first | apply Kd.R_alloc | apply Kd.R_drewN | apply Kd.R_drew)); exact Kd.R_mono (Kd.R_far (p := ⟨gb118, 1, none⟩) (Kd.R_types HO114.out BK118.out (by decide)) (fun _ hk => hk.2) (.int .i64 (rd y121 t124))) (fun _ hk => hk.1)⟩
       have n1_ : Aside0 (Kd.R (Kd.int .i64) 3 (w38.setCell ⟨gb118, 1, none⟩ (.int .i64 (rd y121 t124))) w.heap.size (fun k_ => some k_ ≠ (.slice (some ad117) y112.length co26 : Value).ownBlock) (.slice (some adz_v122) y121.length co39) y121) := ⟨by (with_reducible repeat (first | apply Kd.R_alloc | apply Kd.R_drewN | apply Kd.R_drew)); exact Kd.R_mono (Kd.R_far (p := ⟨gb118, 1, none⟩) (Kd.R_types HO123.out BK118.out (by decide)) (fun _ hk => hk.2) (.int .i64 (rd y121 t124))) (fun _ hk => hk.1)⟩
       have n2_ : Aside0 ((w38.setCell ⟨gb118, 1, none⟩ (.int .i64 (rd y121 t124))).heap[gb109]? = some (.cells #[.int .i64 0, .int .i64 0, .int .i64 0] 88 (0, 0))) := ⟨by (with_reducible repeat (first | refine blk_drewN ?_ _ | refine blk_drew ?_ | refine blk_alloc ?_ _)); refine blk_far ?_ NB109_118.out _; (with_reducible repeat (first | refine blk_drewN ?_ _ | refine blk_drew ?_ | refine blk_alloc ?_ _)); exact BK109.out⟩
       have n3_ : Aside0 ((w38.setCell ⟨gb118, 1, none⟩ (.int .i64 (rd y121 t124))).heap[gb118]? = some (.cells #[.int .i64 0, .int .i64 (rd y121 t124), .int .i64 (rd y112 t115)] 88 (0, 0))) := ⟨by (with_reducible repeat (first | refine blk_drewN ?_ _ | refine blk_drew ?_ | refine blk_alloc ?_ _)); refine blk_put (cs := #[.int .i64 0, .int .i64 0, .int .i64 (rd y112 t115)]) ?_ 1 _ rfl; (with_reducible repeat (first | refine blk_drewN ?_ _ | refine blk_drew ?_ | refine blk_alloc ?_ _)); exact BK118.out⟩
       have n4_ : Aside0 (IsS110 w0 (w38.setCell ⟨gb118, 1, none⟩ (.int .i64 (rd y121 t124))) g s0_0 t125) := ⟨by repeat (first | (with_reducible first | exact HI0.out | apply IsS110.alloc | apply IsS110.drewN | apply IsS110.drew | apply IsS110.set_1 | refine IsS110.far ?_ NB0_109.out _ | refine IsS110.far ?_ NB0_118.out _) | exact HI0.out)⟩
       have n5_ : Aside0 (KeepBut w (w38.setCell ⟨gb118, 1, none⟩ (.int .i64 (rd y121 t124))) g none) := ⟨by repeat (first | (with_reducible first | exact HK.out | apply KeepBut.set_ | apply keep_drewN | apply keep_drew | apply keep_alloc | refine keep_far ?_ GW109.out _ | refine keep_far ?_ GW118.out _) | exact HK.out)⟩
       have n6_ : Aside0 (Below w0.heap.size w0 (w38.setCell ⟨gb118, 1, none⟩ (.int .i64 (rd y121 t124)))) := ⟨by repeat (first | (with_reducible first | exact HB.out | apply below_alloc | apply pw_below_drewN | apply below_drew1 | refine below_set ?_ (IsS110.ge HI0.out) | refine below_set ?_ GE109.out | refine below_set ?_ GE118.out) | exact HB.out)⟩
       (try clear HO114)
       (try clear HO123)
       (try clear BK109)
       (try clear BK118)
       (try clear HI0)
       (try clear HK)
       (try clear HB)
       generalize (w38.setCell ⟨gb118, 1, none⟩ (.int .i64 (rd y121 t124))) = w41 at n0_ n1_ n2_ n3_ n4_ n5_ n6_ ⊢
       have HO114 := n0_
       have HO123 := n1_
       have BK109 := n2_
       have BK118 := n3_
       have HI0 := n4_
       have HK := n5_
       have HB := n6_
       clear n0_ n1_ n2_ n3_ n4_ n5_ n6_
       have n0_ := Aside0.mk (Kd.R_drew HO114.out)
       have n1_ := Aside0.mk (Kd.R_drew HO123.out)
       have n2_ := Aside0.mk (blk_drew BK109.out)
       have n3_ := Aside0.mk (blk_drew BK118.out)
       have n4_ := Aside0.mk (IsS110.drew HI0.out)
       have n5_ := Aside0.mk (keep_drew HK.out)
       have n6_ := Aside0.mk (below_drew1 HB.out)
       clear HO114
       clear HO123
       clear BK109
       clear BK118
       clear HI0
       clear HK
       clear HB
       have HO114 := n0_
       have HO123 := n1_
       have BK109 := n2_
       have BK118 := n3_
       have HI0 := n4_
       have HK := n5_
       have HB := n6_
       clear n0_ n1_ n2_ n3_ n4_ n5_ n6_
       refine start_ (n := 21) (S := fun w' => w'.cell? ⟨gb118, 0, none⟩ = some (.int .i64 0) ∧ w'.cell? ⟨gb118, 1, none⟩ = some (.int .i64 (rd y121 t124)) ∧ w'.cell? ⟨gb118, 2, none⟩ = some (.int .i64 (rd y112 t115))) (ds := [20]) #[false, false, false, false, false, false, false, false, false, false, false, false, false, false, false, false, false, false, false, false, false] (by kernel_rfl) rfl rfl ⟨(blk_cell BK118.out 0).trans rfl, (blk_cell BK118.out 1).trans rfl, (blk_cell BK118.out 2).trans rfl⟩ (fun hHeld => ?_); refine with_tabW spec_l20Task.tab3 spec_l20Task.bits3 (fun HT_ HW_ => ?_)
       generalize w41.drew = w42 at HO114 HO123 BK109 BK118 HI0 HK HB hHeld ⊢
       refine pure_ (i := 0) (N := some 32) (v := ?_) (a' := ?_) #[true, false, false, false, false, false, false, false, false, false, false, false, false, false, false, false, false, false, false, false, false] rfl rfl (any_of HT_.out (by kernel_rfl)) (fun _ _ _ h => h) (Or.inl ⟨by rfl, ?_⟩) ?_ ?_
       rotate_left
       ·intro w'
        go_simp
        with_reducible rfl
       rotate_left
       ·simp only [Act.put, List.setIfInBounds_toArray, List.set_cons_zero, List.set_cons_succ, i64_w, i32_w]
        rfl
       refine pure_ (i := 1) (N := some 33) (v := ?_) (a' := ?_) #[true, true, false, false, false, false, false, false, false, false, false, false, false, false, false, false, false, false, false, false, false] rfl rfl (any_of HT_.out (by kernel_rfl)) (fun _ _ _ h => h) (Or.inl ⟨by rfl, ?_⟩) ?_ ?_
       rotate_left
       ·intro w'
        go_simp
        with_reducible rfl
       rotate_left
       ·simp only [Act.put, List.setIfInBounds_toArray, List.set_cons_zero, List.set_cons_succ, i64_w, i32_w]
        rfl
       refine pure_ (i := 3) (N := some 35) (v := ?_) (a' := ?_) #[true, true, false, true, false, false, false, false, false, false, false, false, false, false, false, false, false, false, false, false, false] rfl rfl (any_of HT_.out (by kernel_rfl)) (fun _ _ _ h => h) (Or.inl ⟨by rfl, ?_⟩) ?_ ?_
       rotate_left
       ·intro w'
        go_simp
        with_reducible rfl
       rotate_left
       ·simp only [Act.put, List.setIfInBounds_toArray, List.set_cons_zero, List.set_cons_succ, i64_w, i32_w]
        rfl
       refine pure_ (i := 7) (N := some 39) (v := ?_) (a' := ?_) #[true, true, false, true, false, false, false, true, false, false, false, false, false, false, false, false, false, false, false, false, false] rfl rfl (any_of HT_.out (by kernel_rfl)) (fun _ _ _ h => h) (Or.inl ⟨by rfl, ?_⟩) ?_ ?_
       rotate_left
       ·intro w'
        go_simp
        with_reducible rfl
       rotate_left
       ·simp only [Act.put, List.setIfInBounds_toArray, List.set_cons_zero, List.set_cons_succ, i64_w, i32_w]
        rfl
       refine pure_ (i := 12) (N := some 44) (v := ?_) (a' := ?_) #[true, true, false, true, false, false, false, true, false, false, false, false, true, false, false, false, false, false, false, false, false] rfl rfl (any_of HT_.out (by kernel_rfl)) (fun _ _ _ h => h) (Or.inl ⟨by rfl, ?_⟩) ?_ ?_
       rotate_left
       ·intro w'
        go_simp
        with_reducible rfl
       rotate_left
       ·simp only [Act.put, List.setIfInBounds_toArray, List.set_cons_zero, List.set_cons_succ, i64_w, i32_w]
        rfl
       refine take_ (i := 2) (N := some 34) (v := ?_) (a' := ?_) #[true, true, true, true, false, false, false, true, false, false, false, false, true, false, false, false, false, false, false, false, false] rfl rfl (take_ofW HT_.out HW_.out (by kernel_rfl)) (fun _ _ _ h => h) (Or.inl ⟨by rfl, ?_⟩) hHeld ?_ ?_
       rotate_left
       ·rintro w' ⟨s0, s1, s2⟩
        go_simp
        with_reducible rfl
       rotate_left
       ·simp only [Act.put, List.setIfInBounds_toArray, List.set_cons_zero, List.set_cons_succ, i64_w, i32_w]
        rfl
       refine take_ (i := 4) (N := some 36) (v := ?_) (a' := ?_) #[true, true, true, true, true, false, false, true, false, false, false, false, true, false, false, false, false, false, false, false, false] rfl rfl (take_ofW HT_.out HW_.out (by kernel_rfl)) (fun _ _ _ h => h) (Or.inl ⟨by rfl, ?_⟩) hHeld ?_ ?_
       rotate_left
       ·rintro w' ⟨s0, s1, s2⟩
        go_simp
        with_reducible rfl
       rotate_left
       ·simp only [Act.put, List.setIfInBounds_toArray, List.set_cons_zero, List.set_cons_succ, i64_w, i32_w]
        rfl
       refine pure_ (i := 5) (N := some 37) (v := ?_) (a' := ?_) #[true, true, true, true, true, true, false, true, false, false, false, false, true, false, false, false, false, false, false, false, false] rfl rfl (any_of HT_.out (by kernel_rfl)) (fun _ _ _ h => h) (Or.inl ⟨by rfl, ?_⟩) ?_ ?_
       rotate_left
       ·intro w'
        go_simp
        with_reducible rfl
       rotate_left
       ·simp only [Act.put, List.setIfInBounds_toArray, List.set_cons_zero, List.set_cons_succ, i64_w, i32_w]
        rfl
       refine pure_ (i := 6) (N := some 38) (v := ?_) (a' := ?_) #[true, true, true, true, true, true, true, true, false, false, false, false, true, false, false, false, false, false, false, false, false] rfl rfl (any_of HT_.out (by kernel_rfl)) (fun _ _ _ h => h) (Or.inl ⟨by rfl, ?_⟩) ?_ ?_
       rotate_left
       ·intro w'
        go_simp
        with_reducible rfl
       rotate_left
       ·simp only [Act.put, List.setIfInBounds_toArray, List.set_cons_zero, List.set_cons_succ, i64_w, i32_w]
        rfl
       refine take_ (i := 8) (N := some 40) (v := ?_) (a' := ?_) #[true, true, true, true, true, true, true, true, true, false, false, false, true, false, false, false, false, false, false, false, false] rfl rfl (take_ofW HT_.out HW_.out (by kernel_rfl)) (fun _ _ _ h => h) (Or.inl ⟨by rfl, ?_⟩) hHeld ?_ ?_
       rotate_left
       ·rintro w' ⟨s0, s1, s2⟩
        go_simp
        with_reducible rfl
       rotate_left
       ·simp only [Act.put, List.setIfInBounds_toArray, List.set_cons_zero, List.set_cons_succ, i64_w, i32_w]
        rfl
       refine pure_ (i := 9) (N := some 41) (v := ?_) (a' := ?_) #[true, true, true, true, true, true, true, true, true, true, false, false, true, false, false, false, false, false, false, false, false] rfl rfl (any_of HT_.out (by kernel_rfl)) (fun _ _ _ h => h) (Or.inl ⟨by rfl, ?_⟩) ?_ ?_
       rotate_left
       ·intro w'
        go_simp
        with_reducible rfl
       rotate_left
       ·simp only [Act.put, List.setIfInBounds_toArray, List.set_cons_zero, List.set_cons_succ, i64_w, i32_w]
        rfl
       refine pure_ (i := 10) (N := some 42) (v := ?_) (a' := ?_) #[true, true, true, true, true, true, true, true, true, true, true, false, true, false, false, false, false, false, false, false, false] rfl rfl (any_of HT_.out (by kernel_rfl)) (fun _ _ _ h => h) (Or.inl ⟨by rfl, ?_⟩) ?_ ?_
       rotate_left
       ·intro w'
        go_simp
        with_reducible rfl
       rotate_left
       ·simp only [Act.put, List.setIfInBounds_toArray, List.set_cons_zero, List.set_cons_succ, i64_w, i32_w]
        rfl
       refine join_ (σ := Value × Addr) 7 #[true, true, true, true, true, true, true, true, true, true, true, true, true, true, false, false, false, false, false, false, false] (fun s_ => [(43, s_.1), (45, .int .i64 t130)]) (fun s_ w' => (w'.cell? ⟨gb118, 0, none⟩ = some (.int .i64 0) ∧ w'.cell? ⟨gb118, 1, none⟩ = some (.int .i64 (rd y121 t124)) ∧ w'.cell? ⟨gb118, 2, none⟩ = some (.int .i64 (rd y112 t115))) ∧ (Kd.R (Kd.int .i64) 3 w' w.heap.size (fun k_ => some k_ ≠ (.slice (some adz_v122) y121.length co39 : Value).ownBlock ∧ some k_ ≠ (s_.1 : Value).ownBlock) (.slice (some ad117) y112.length co26) y112) ∧ (Kd.R (Kd.int .i64) 3 w' w.heap.size (fun k_ => some k_ ≠ (.slice (some ad117) y112.length co26 : Value).ownBlock ∧ some k_ ≠ (s_.1 : Value).ownBlock) (.slice (some adz_v122) y121.length co39) y121) ∧ (Kd.R (Kd.int .i64) 3 w' w.heap.size (fun k_ => some k_ ≠ (.slice (some ad117) y112.length co26 : Value).ownBlock ∧ some k_ ≠ (.slice (some adz_v122) y121.length co39 : Value).ownBlock) s_.1 y127) ∧ (∃ c_, (s_.1 : Value) = .slice (some s_.2) y127.length c_) ∧ (w'.heap[gb109]? = some (.cells #[.int .i64 0, .int .i64 0, .int .i64 0] 88 (0, 0))) ∧ (w'.heap[gb118]? = some (.cells #[.int .i64 0, .int .i64 (rd y121 t124), .int .i64 (rd y112 t115)] 88 (0, 0))) ∧ (IsS110 w0 w' g s0_0 t131) ∧ (KeepBut w w' g none) ∧ (Below w0.heap.size w0 w')) ?_ ?_
       rotate_left
       ·intro hCont
        refine two_ (i := 11) (j := 13) (Ni := some 43) (Nj := some 45) #[true, true, true, true, true, true, true, true, true, true, true, true, true, false, false, false, false, false, false, false, false] #[true, true, true, true, true, true, true, true, true, true, true, false, true, true, false, false, false, false, false, false, false] rfl rfl rfl rfl (two_of HT_.out (by kernel_rfl)) (by decide) (by decide) (fun K hK => ?_) (fun K hK => ?_)
        ·skip
         refine Kd.R_lit_step (Kd.int .i64) _ 3 ?hg (N := 43) ?hd (xs := ([rd y121 t124, ji12, ji13] : List Int)) (inner := [.int .i64 (rd y121 t124), .int .i64 ji12, .int .i64 ji13]) (ok := fun _ => True) (okp := fun _ => True) ?hr ?hp (fun _ hk => hk) trivial (Below.refl _ _) (Nat.le_refl _) (by simp) ?_; (case hd => rfl); (case hg => rfl); (case hr => first | (go_simp; done) | (go_simp; rfl)); (case hp => exact (Reps.one (show Kd.M (Kd.int .i64) _ _ _ (rd y121 t124) [.int .i64 (rd y121 t124)] from rfl) (Reps.one (show Kd.M (Kd.int .i64) _ _ _ ji12 [.int .i64 ji12] from rfl) (Reps.one (show Kd.M (Kd.int .i64) _ _ _ ji13 [.int .i64 ji13] from rfl) (Reps.none _ _)))))
         intro v128 w43 ho44 hb hg_ hnew_
         clear hg_ hnew_
         (first | rw [← Ny127.out] at ho44 | (simp only [Int.reduceToNat] at ho44; rw [← Ny127.out] at ho44))
         have n0_ := Aside0.mk (Kd.R_elder' (by (with_reducible repeat (first | apply Kd.R_alloc | apply Kd.R_drewN | apply Kd.R_drew)); exact HO114.out) (Kd.R_base ho44) hb)
         have n1_ := Aside0.mk (Kd.R_elder' (by (with_reducible repeat (first | apply Kd.R_alloc | apply Kd.R_drewN | apply Kd.R_drew)); exact HO123.out) (Kd.R_base ho44) hb)
         have n2_ := Aside0.mk (Kd.R_lower (Kd.R_new' (Kd.R_new' ho44 (Kd.R_lt (by (with_reducible repeat (first | apply Kd.R_alloc | apply Kd.R_drewN | apply Kd.R_drew)); exact HO114.out))) (Kd.R_lt (by (with_reducible repeat (first | apply Kd.R_alloc | apply Kd.R_drewN | apply Kd.R_drew)); exact HO123.out))) (keep_size (w := w) (g := g) (row := none) (by repeat (first | (with_reducible first | exact HK.out | apply KeepBut.set_ | apply keep_drewN | apply keep_drew | apply keep_alloc | refine keep_far ?_ GW109.out _ | refine keep_far ?_ GW118.out _) | exact HK.out))))
         have n3_ := Aside0.mk (IsS110.below (by repeat (first | (with_reducible first | exact HI0.out | apply IsS110.alloc | apply IsS110.drewN | apply IsS110.drew | apply IsS110.set_1 | refine IsS110.far ?_ NB0_109.out _ | refine IsS110.far ?_ NB0_118.out _) | exact HI0.out)) hb)
         have n4_ := Aside0.mk (blk_below (g := gb109) (o := .cells #[.int .i64 0, .int .i64 0, .int .i64 0] 88 (0, 0)) (by (with_reducible repeat (first | refine blk_drewN ?_ _ | refine blk_drew ?_ | refine blk_alloc ?_ _)); exact BK109.out) hb)
         have n5_ := Aside0.mk (blk_below (g := gb118) (o := .cells #[.int .i64 0, .int .i64 (rd y121 t124), .int .i64 (rd y112 t115)] 88 (0, 0)) (by (with_reducible repeat (first | refine blk_drewN ?_ _ | refine blk_drew ?_ | refine blk_alloc ?_ _)); exact BK118.out) hb)
         have n6_ := Aside0.mk (KeepBut.trans (by repeat (first | (with_reducible first | exact HK.out | apply KeepBut.set_ | apply keep_drewN | apply keep_drew | apply keep_alloc | refine keep_far ?_ GW109.out _ | refine keep_far ?_ GW118.out _) | exact HK.out)) (KeepBut.of_below hb g none) (.inl rfl))
         have n7_ := Aside0.mk (below_step (by repeat (first | (with_reducible first | exact HB.out | apply below_alloc | apply pw_below_drewN | apply below_drew1 | refine below_set ?_ (IsS110.ge HI0.out) | refine below_set ?_ GE109.out | refine below_set ?_ GE118.out) | exact HB.out)) hb)
         clear HO114
         clear HO123
         clear HI0
         clear BK109
         clear BK118
         clear HK
         clear HB
         have HO114 := n0_
         have HO123 := n1_
         have HO129 := n2_
         have HI0 := n3_
         have BK109 := n4_
         have BK118 := n5_
         have HK := n6_
         have HB := n7_
         clear n0_ n1_ n2_ n3_ n4_ n5_ n6_ n7_
         clear hb ho44
         obtain ⟨Ao45, co45, eo45⟩ := Kd.R_slice HO129.out
         subst eo45
         obtain ⟨ado45, fo45, _⟩ := Kd.at_int (Kd.R_reads' HO129.out).2.2 0 (by decide) (by rw [Ny127.out]; simp)
         cases fo45
         refine hK.out _ _ ⟨(blk_cell BK118.out 0).trans rfl, (blk_cell BK118.out 1).trans rfl, (blk_cell BK118.out 2).trans rfl⟩ (fun hHeld => ?_)
         clear hK K
         refine norm_ (a' := ?_) ?_ ?_
         rotate_left
         ·show Act.put _ (some 43) _ = _
          simp only [Act.put, List.setIfInBounds_toArray, List.set_cons_zero, List.set_cons_succ, i64_w, i32_w]
          rfl
         refine one_ (i := 13) (N := some 45) #[true, true, true, true, true, true, true, true, true, true, true, true, true, true, false, false, false, false, false, false, false] rfl rfl (one_of HT_.out (by kernel_rfl)) (by decide) (fun K hK => ?_)
         refine goes_ Try.func68 (by kernel_rfl) rfl #[.pointer (some ⟨g, 0, none⟩), .int .i64 3] (by rfl) rfl rfl (by (try simp only [List.map_toArray, List.map_cons, List.map_nil]); first | done | rfl | (simp only [List.length_drop, List.length_take]; rfl)) ?_
         with_reducible refine (spec_l20Rd_pick.calls k g s0_0 t125 3 t130 t131 w0 _ ?side1 ?side2 A14.out).mono ?_
         (case side1 => repeat (first | (with_reducible first | exact HI0.out | apply IsS110.alloc | apply IsS110.drewN | apply IsS110.drew | apply IsS110.set_1 | refine IsS110.far ?_ NB0_109.out _ | refine IsS110.far ?_ NB0_118.out _) | exact HI0.out))
         (case side2 => repeat (first | (with_reducible first | exact HB.out | apply below_alloc | apply pw_below_drewN | apply below_drew1 | refine below_set ?_ (IsS110.ge HI0.out) | refine below_set ?_ GE109.out | refine below_set ?_ GE118.out) | exact HB.out))
         rintro e w46 ⟨rfl, hi, hb, hk⟩
         refine ⟨_, rfl, ?_⟩
         have n0_ := Aside0.mk (KeepBut.blk hk (g' := gb109) (o := .cells #[.int .i64 0, .int .i64 0, .int .i64 0] 88 (0, 0)) (by (with_reducible repeat (first | refine blk_drewN ?_ _ | refine blk_drew ?_ | refine blk_alloc ?_ _)); exact BK109.out) NB109_0.out (by simp))
         have n1_ := Aside0.mk (Kd.R_mono (Kd.R_keep (IsS110.apart (show IsS110 w0 _ g s0_0 t125 from by repeat (first | (with_reducible first | exact HI0.out | apply IsS110.alloc | apply IsS110.drewN | apply IsS110.drew | apply IsS110.set_1 | refine IsS110.far ?_ NB0_109.out _ | refine IsS110.far ?_ NB0_118.out _) | exact HI0.out)) (by (with_reducible repeat (first | apply Kd.R_alloc | apply Kd.R_drewN | apply Kd.R_drew)); exact HO114.out) (by decide)) hk (fun _ h => h.2)) (fun _ h => h.1))
         have n2_ := Aside0.mk (KeepBut.blk hk (g' := gb118) (o := .cells #[.int .i64 0, .int .i64 (rd y121 t124), .int .i64 (rd y112 t115)] 88 (0, 0)) (by (with_reducible repeat (first | refine blk_drewN ?_ _ | refine blk_drew ?_ | refine blk_alloc ?_ _)); exact BK118.out) NB118_0.out (by simp))
         have n3_ := Aside0.mk (Kd.R_mono (Kd.R_keep (IsS110.apart (show IsS110 w0 _ g s0_0 t125 from by repeat (first | (with_reducible first | exact HI0.out | apply IsS110.alloc | apply IsS110.drewN | apply IsS110.drew | apply IsS110.set_1 | refine IsS110.far ?_ NB0_109.out _ | refine IsS110.far ?_ NB0_118.out _) | exact HI0.out)) (by (with_reducible repeat (first | apply Kd.R_alloc | apply Kd.R_drewN | apply Kd.R_drew)); exact HO123.out) (by decide)) hk (fun _ h => h.2)) (fun _ h => h.1))
         have n4_ := Aside0.mk (Kd.R_mono (Kd.R_keep (IsS110.apart (show IsS110 w0 _ g s0_0 t125 from by repeat (first | (with_reducible first | exact HI0.out | apply IsS110.alloc | apply IsS110.drewN | apply IsS110.drew | apply IsS110.set_1 | refine IsS110.far ?_ NB0_109.out _ | refine IsS110.far ?_ NB0_118.out _) | exact HI0.out)) (by (with_reducible repeat (first | apply Kd.R_alloc | apply Kd.R_drewN | apply Kd.R_drew)); exact HO129.out) (by decide)) hk (fun _ h => h.2)) (fun _ h => h.1))
         have n5_ := Aside0.mk (KeepBut.trans (by repeat (first | (with_reducible first | exact HK.out | apply KeepBut.set_ | apply keep_drewN | apply keep_drew | apply keep_alloc | refine keep_far ?_ GW109.out _ | refine keep_far ?_ GW118.out _) | exact HK.out)) hk (.inl rfl))
         have n6_ := Aside0.mk (hb)
         have n7_ := Aside0.mk (hi)
         clear BK109
         clear HO114
         clear BK118
         clear HO123
         clear HO129
         clear HK
         clear HB
         clear HI0
         have BK109 := n0_
         have HO114 := n1_
         have BK118 := n2_
         have HO123 := n3_
         have HO129 := n4_
         have HK := n5_
         have HB := n6_
         have HI0 := n7_
         clear n0_ n1_ n2_ n3_ n4_ n5_ n6_ n7_
         (try clear hb)
         (try clear hb2)
         (try clear hk)
         (try clear hi)
         refine hK.out _ _ ⟨(blk_cell BK118.out 0).trans rfl, (blk_cell BK118.out 1).trans rfl, (blk_cell BK118.out 2).trans rfl⟩ (fun hHeld => ?_)
         clear hK K
         refine norm_ (a' := ?_) ?_ ?_
         rotate_left
         ·show Act.put _ (some 45) _ = _
          simp only [Act.put, List.setIfInBounds_toArray, List.set_cons_zero, List.set_cons_succ, i64_w, i32_w]
          rfl
         exact norm_ (by simp only [putAll, Act.put, List.setIfInBounds_toArray, List.set_cons_zero, List.set_cons_succ]) (hCont (.slice (some ado45) y127.length co45, ado45) _ ⟨hHeld, (by (with_reducible repeat (first | apply Kd.R_alloc | apply Kd.R_drewN | apply Kd.R_drew)); exact HO114.out), (by (with_reducible repeat (first | apply Kd.R_alloc | apply Kd.R_drewN | apply Kd.R_drew)); exact HO123.out), (by (with_reducible repeat (first | apply Kd.R_alloc | apply Kd.R_drewN | apply Kd.R_drew)); exact Kd.R_mono HO129.out (fun _ hk => ⟨hk.1.2, hk.2⟩)), ⟨_, rfl⟩, (by (with_reducible repeat (first | refine blk_drewN ?_ _ | refine blk_drew ?_ | refine blk_alloc ?_ _)); exact BK109.out), (by (with_reducible repeat (first | refine blk_drewN ?_ _ | refine blk_drew ?_ | refine blk_alloc ?_ _)); exact BK118.out), (by repeat (first | (with_reducible first | exact HI0.out | apply IsS110.alloc | apply IsS110.drewN | apply IsS110.drew | apply IsS110.set_1 | refine IsS110.far ?_ NB0_109.out _ | refine IsS110.far ?_ NB0_118.out _) | exact HI0.out)), (by repeat (first | (with_reducible first | exact HK.out | apply KeepBut.set_ | apply keep_drewN | apply keep_drew | apply keep_alloc | refine keep_far ?_ GW109.out _ | refine keep_far ?_ GW118.out _) | exact HK.out)), (by repeat (first | (with_reducible first | exact HB.out | apply below_alloc | apply pw_below_drewN | apply below_drew1 | refine below_set ?_ (IsS110.ge HI0.out) | refine below_set ?_ GE109.out | refine below_set ?_ GE118.out) | exact HB.out))⟩)
        ·skip
         refine goes_ Try.func68 (by kernel_rfl) rfl #[.pointer (some ⟨g, 0, none⟩), .int .i64 3] (by rfl) rfl rfl (by (try simp only [List.map_toArray, List.map_cons, List.map_nil]); first | done | rfl | (simp only [List.length_drop, List.length_take]; rfl)) ?_
         with_reducible refine (spec_l20Rd_pick.calls k g s0_0 t125 3 t130 t131 w0 _ ?side1 ?side2 A14.out).mono ?_
         (case side1 => repeat (first | (with_reducible first | exact HI0.out | apply IsS110.alloc | apply IsS110.drewN | apply IsS110.drew | apply IsS110.set_1 | refine IsS110.far ?_ NB0_109.out _ | refine IsS110.far ?_ NB0_118.out _) | exact HI0.out))
         (case side2 => repeat (first | (with_reducible first | exact HB.out | apply below_alloc | apply pw_below_drewN | apply below_drew1 | refine below_set ?_ (IsS110.ge HI0.out) | refine below_set ?_ GE109.out | refine below_set ?_ GE118.out) | exact HB.out))
         rintro e w43 ⟨rfl, hi, hb, hk⟩
         refine ⟨_, rfl, ?_⟩
         have n0_ := Aside0.mk (KeepBut.blk hk (g' := gb109) (o := .cells #[.int .i64 0, .int .i64 0, .int .i64 0] 88 (0, 0)) (by (with_reducible repeat (first | refine blk_drewN ?_ _ | refine blk_drew ?_ | refine blk_alloc ?_ _)); exact BK109.out) NB109_0.out (by simp))
         have n1_ := Aside0.mk (Kd.R_mono (Kd.R_keep (IsS110.apart (show IsS110 w0 _ g s0_0 t125 from by repeat (first | (with_reducible first | exact HI0.out | apply IsS110.alloc | apply IsS110.drewN | apply IsS110.drew | apply IsS110.set_1 | refine IsS110.far ?_ NB0_109.out _ | refine IsS110.far ?_ NB0_118.out _) | exact HI0.out)) (by (with_reducible repeat (first | apply Kd.R_alloc | apply Kd.R_drewN | apply Kd.R_drew)); exact HO114.out) (by decide)) hk (fun _ h => h.2)) (fun _ h => h.1))
         have n2_ := Aside0.mk (KeepBut.blk hk (g' := gb118) (o := .cells #[.int .i64 0, .int .i64 (rd y121 t124), .int .i64 (rd y112 t115)] 88 (0, 0)) (by (with_reducible repeat (first | refine blk_drewN ?_ _ | refine blk_drew ?_ | refine blk_alloc ?_ _)); exact BK118.out) NB118_0.out (by simp))
         have n3_ := Aside0.mk (Kd.R_mono (Kd.R_keep (IsS110.apart (show IsS110 w0 _ g s0_0 t125 from by repeat (first | (with_reducible first | exact HI0.out | apply IsS110.alloc | apply IsS110.drewN | apply IsS110.drew | apply IsS110.set_1 | refine IsS110.far ?_ NB0_109.out _ | refine IsS110.far ?_ NB0_118.out _) | exact HI0.out)) (by (with_reducible repeat (first | apply Kd.R_alloc | apply Kd.R_drewN | apply Kd.R_drew)); exact HO123.out) (by decide)) hk (fun _ h => h.2)) (fun _ h => h.1))
         have n4_ := Aside0.mk (KeepBut.trans (by repeat (first | (with_reducible first | exact HK.out | apply KeepBut.set_ | apply keep_drewN | apply keep_drew | apply keep_alloc | refine keep_far ?_ GW109.out _ | refine keep_far ?_ GW118.out _) | exact HK.out)) hk (.inl rfl))
         have n5_ := Aside0.mk (hb)
         have n6_ := Aside0.mk (hi)
         clear BK109
         clear HO114
         clear BK118
         clear HO123
         clear HK
         clear HB
         clear HI0
         have BK109 := n0_
         have HO114 := n1_
         have BK118 := n2_
         have HO123 := n3_
         have HK := n4_
         have HB := n5_
         have HI0 := n6_
         clear n0_ n1_ n2_ n3_ n4_ n5_ n6_
         (try clear hb)
         (try clear hb2)
         (try clear hk)
         (try clear hi)
         refine hK.out _ _ ⟨(blk_cell BK118.out 0).trans rfl, (blk_cell BK118.out 1).trans rfl, (blk_cell BK118.out 2).trans rfl⟩ (fun hHeld => ?_)
         clear hK K
         refine norm_ (a' := ?_) ?_ ?_
         rotate_left
         ·show Act.put _ (some 45) _ = _
          simp only [Act.put, List.setIfInBounds_toArray, List.set_cons_zero, List.set_cons_succ, i64_w, i32_w]
          rfl
         refine one_ (i := 11) (N := some 43) #[true, true, true, true, true, true, true, true, true, true, true, true, true, true, false, false, false, false, false, false, false] rfl rfl (one_of HT_.out (by kernel_rfl)) (by decide) (fun K hK => ?_)
         refine Kd.R_lit_step (Kd.int .i64) _ 3 ?hg (N := 43) ?hd (xs := ([rd y121 t124, ji12, ji13] : List Int)) (inner := [.int .i64 (rd y121 t124), .int .i64 ji12, .int .i64 ji13]) (ok := fun _ => True) (okp := fun _ => True) ?hr ?hp (fun _ hk => hk) trivial (Below.refl _ _) (Nat.le_refl _) (by simp) ?_; (case hd => rfl); (case hg => rfl); (case hr => first | (go_simp; done) | (go_simp; rfl)); (case hp => exact (Reps.one (show Kd.M (Kd.int .i64) _ _ _ (rd y121 t124) [.int .i64 (rd y121 t124)] from rfl) (Reps.one (show Kd.M (Kd.int .i64) _ _ _ ji12 [.int .i64 ji12] from rfl) (Reps.one (show Kd.M (Kd.int .i64) _ _ _ ji13 [.int .i64 ji13] from rfl) (Reps.none _ _)))))
         intro v128 w44 ho45 hb hg_ hnew_
         clear hg_ hnew_
         (first | rw [← Ny127.out] at ho45 | (simp only [Int.reduceToNat] at ho45; rw [← Ny127.out] at ho45))
         have n0_ := Aside0.mk (Kd.R_elder' (by (with_reducible repeat (first | apply Kd.R_alloc | apply Kd.R_drewN | apply Kd.R_drew)); exact HO114.out) (Kd.R_base ho45) hb)
         have n1_ := Aside0.mk (Kd.R_elder' (by (with_reducible repeat (first | apply Kd.R_alloc | apply Kd.R_drewN | apply Kd.R_drew)); exact HO123.out) (Kd.R_base ho45) hb)
         have n2_ := Aside0.mk (Kd.R_lower (Kd.R_new' (Kd.R_new' ho45 (Kd.R_lt (by (with_reducible repeat (first | apply Kd.R_alloc | apply Kd.R_drewN | apply Kd.R_drew)); exact HO114.out))) (Kd.R_lt (by (with_reducible repeat (first | apply Kd.R_alloc | apply Kd.R_drewN | apply Kd.R_drew)); exact HO123.out))) (keep_size (w := w) (g := g) (row := none) (by repeat (first | (with_reducible first | exact HK.out | apply KeepBut.set_ | apply keep_drewN | apply keep_drew | apply keep_alloc | refine keep_far ?_ GW109.out _ | refine keep_far ?_ GW118.out _) | exact HK.out))))
         have n3_ := Aside0.mk (IsS110.below (by repeat (first | (with_reducible first | exact HI0.out | apply IsS110.alloc | apply IsS110.drewN | apply IsS110.drew | apply IsS110.set_1 | refine IsS110.far ?_ NB0_109.out _ | refine IsS110.far ?_ NB0_118.out _) | exact HI0.out)) hb)
         have n4_ := Aside0.mk (blk_below (g := gb109) (o := .cells #[.int .i64 0, .int .i64 0, .int .i64 0] 88 (0, 0)) (by (with_reducible repeat (first | refine blk_drewN ?_ _ | refine blk_drew ?_ | refine blk_alloc ?_ _)); exact BK109.out) hb)
         have n5_ := Aside0.mk (blk_below (g := gb118) (o := .cells #[.int .i64 0, .int .i64 (rd y121 t124), .int .i64 (rd y112 t115)] 88 (0, 0)) (by (with_reducible repeat (first | refine blk_drewN ?_ _ | refine blk_drew ?_ | refine blk_alloc ?_ _)); exact BK118.out) hb)
         have n6_ := Aside0.mk (KeepBut.trans (by repeat (first | (with_reducible first | exact HK.out | apply KeepBut.set_ | apply keep_drewN | apply keep_drew | apply keep_alloc | refine keep_far ?_ GW109.out _ | refine keep_far ?_ GW118.out _) | exact HK.out)) (KeepBut.of_below hb g none) (.inl rfl))
         have n7_ := Aside0.mk (below_step (by repeat (first | (with_reducible first | exact HB.out | apply below_alloc | apply pw_below_drewN | apply below_drew1 | refine below_set ?_ (IsS110.ge HI0.out) | refine below_set ?_ GE109.out | refine below_set ?_ GE118.out) | exact HB.out)) hb)
         clear HO114
         clear HO123
         clear HI0
         clear BK109
         clear BK118
         clear HK
         clear HB
         have HO114 := n0_
         have HO123 := n1_
         have HO129 := n2_
         have HI0 := n3_
         have BK109 := n4_
         have BK118 := n5_
         have HK := n6_
         have HB := n7_
         clear n0_ n1_ n2_ n3_ n4_ n5_ n6_ n7_
         clear hb ho45
         obtain ⟨Ao46, co46, eo46⟩ := Kd.R_slice HO129.out
         subst eo46
         obtain ⟨ado46, fo46, _⟩ := Kd.at_int (Kd.R_reads' HO129.out).2.2 0 (by decide) (by rw [Ny127.out]; simp)
         cases fo46
         refine hK.out _ _ ⟨(blk_cell BK118.out 0).trans rfl, (blk_cell BK118.out 1).trans rfl, (blk_cell BK118.out 2).trans rfl⟩ (fun hHeld => ?_)
         clear hK K
         refine norm_ (a' := ?_) ?_ ?_
         rotate_left
         ·show Act.put _ (some 43) _ = _
          simp only [Act.put, List.setIfInBounds_toArray, List.set_cons_zero, List.set_cons_succ, i64_w, i32_w]
          rfl
         exact norm_ (by simp only [putAll, Act.put, List.setIfInBounds_toArray, List.set_cons_zero, List.set_cons_succ]) (hCont (.slice (some ado46) y127.length co46, ado46) _ ⟨hHeld, (by (with_reducible repeat (first | apply Kd.R_alloc | apply Kd.R_drewN | apply Kd.R_drew)); exact HO114.out), (by (with_reducible repeat (first | apply Kd.R_alloc | apply Kd.R_drewN | apply Kd.R_drew)); exact HO123.out), (by (with_reducible repeat (first | apply Kd.R_alloc | apply Kd.R_drewN | apply Kd.R_drew)); exact Kd.R_mono HO129.out (fun _ hk => ⟨hk.1.2, hk.2⟩)), ⟨_, rfl⟩, (by (with_reducible repeat (first | refine blk_drewN ?_ _ | refine blk_drew ?_ | refine blk_alloc ?_ _)); exact BK109.out), (by (with_reducible repeat (first | refine blk_drewN ?_ _ | refine blk_drew ?_ | refine blk_alloc ?_ _)); exact BK118.out), (by repeat (first | (with_reducible first | exact HI0.out | apply IsS110.alloc | apply IsS110.drewN | apply IsS110.drew | apply IsS110.set_1 | refine IsS110.far ?_ NB0_109.out _ | refine IsS110.far ?_ NB0_118.out _) | exact HI0.out)), (by repeat (first | (with_reducible first | exact HK.out | apply KeepBut.set_ | apply keep_drewN | apply keep_drew | apply keep_alloc | refine keep_far ?_ GW109.out _ | refine keep_far ?_ GW118.out _) | exact HK.out)), (by repeat (first | (with_reducible first | exact HB.out | apply below_alloc | apply pw_below_drewN | apply below_drew1 | refine below_set ?_ (IsS110.ge HI0.out) | refine below_set ?_ GE109.out | refine below_set ?_ GE118.out) | exact HB.out))⟩)
       rintro ⟨v128, adz_v128⟩ w47 ⟨hS_, h0_, h1_, h2_, h3_, h4_, h5_, h6_, h7_, h8_⟩
       have n0_ : Aside0 (Kd.R (Kd.int .i64) 3 w47 w.heap.size (fun k_ => some k_ ≠ (.slice (some adz_v122) y121.length co39 : Value).ownBlock ∧ some k_ ≠ (v128 : Value).ownBlock) (.slice (some ad117) y112.length co26) y112) := ⟨h0_⟩
       have n1_ : Aside0 (Kd.R (Kd.int .i64) 3 w47 w.heap.size (fun k_ => some k_ ≠ (.slice (some ad117) y112.length co26 : Value).ownBlock ∧ some k_ ≠ (v128 : Value).ownBlock) (.slice (some adz_v122) y121.length co39) y121) := ⟨h1_⟩
       have n2_ : Aside0 (Kd.R (Kd.int .i64) 3 w47 w.heap.size (fun k_ => some k_ ≠ (.slice (some ad117) y112.length co26 : Value).ownBlock ∧ some k_ ≠ (.slice (some adz_v122) y121.length co39 : Value).ownBlock) v128 y127) := ⟨h2_⟩
       have n3_ : Aside0 (∃ c_, (v128 : Value) = .slice (some adz_v128) y127.length c_) := ⟨h3_⟩
       have n4_ : Aside0 (w47.heap[gb109]? = some (.cells #[.int .i64 0, .int .i64 0, .int .i64 0] 88 (0, 0))) := ⟨h4_⟩
       have n5_ : Aside0 (w47.heap[gb118]? = some (.cells #[.int .i64 0, .int .i64 (rd y121 t124), .int .i64 (rd y112 t115)] 88 (0, 0))) := ⟨h5_⟩
       have n6_ : Aside0 (IsS110 w0 w47 g s0_0 t131) := ⟨h6_⟩
       have n7_ : Aside0 (KeepBut w w47 g none) := ⟨h7_⟩
       have n8_ : Aside0 (Below w0.heap.size w0 w47) := ⟨h8_⟩
       clear HO114
       clear HO123
       clear BK109
       clear BK118
       clear HI0
       clear HK
       clear HB
       clear h0_ h1_ h2_ h3_ h4_ h5_ h6_ h7_ h8_
       have HO114 := n0_
       have HO123 := n1_
       have HO129 := n2_
       have HA_HO129 := n3_
       have BK109 := n4_
       have BK118 := n5_
       have HI0 := n6_
       have HK := n7_
       have HB := n8_
       clear n0_ n1_ n2_ n3_ n4_ n5_ n6_ n7_ n8_
       have hHeld : w47.cell? ⟨gb118, 0, none⟩ = some (.int .i64 0) ∧ w47.cell? ⟨gb118, 1, none⟩ = some (.int .i64 (rd y121 t124)) ∧ w47.cell? ⟨gb118, 2, none⟩ = some (.int .i64 (rd y112 t115)) := hS_
       obtain ⟨co48, eo48⟩ := HA_HO129.out
       clear HA_HO129
       subst eo48
       refine norm_ (a' := ?_) ?_ ?_
       rotate_left
       ·simp only [putAll, Act.put, List.setIfInBounds_toArray, List.set_cons_zero, List.set_cons_succ]
        rfl
       refine pure_ (i := 14) (N := some 46) (v := ?_) (a' := ?_) #[true, true, true, true, true, true, true, true, true, true, true, true, true, true, true, false, false, false, false, false, false] rfl rfl (any_of HT_.out (by kernel_rfl)) (fun _ _ _ h => h) (Or.inl ⟨by rfl, ?_⟩) ?_ ?_
       rotate_left
       ·intro w'
        go_simp
        with_reducible rfl
       rotate_left
       ·simp only [Act.put, List.setIfInBounds_toArray, List.set_cons_zero, List.set_cons_succ, i64_w, i32_w]
        rfl
       refine one_ (i := 15) (N := some 47) #[true, true, true, true, true, true, true, true, true, true, true, true, true, true, true, true, false, false, false, false, false] rfl rfl (one_of HT_.out (by kernel_rfl)) (by decide) (fun K hK => ?_)
       (have p132 : 0 ≤ (t130 : Int) := of_decide_eq_true (by first | (with_reducible assumption) | assumption); have q132 : t130 < (y127.length : Int) := of_decide_eq_true (by first | (with_reducible assumption) | assumption); obtain ⟨ad132, e132, hx132_0⟩ := Kd.at_int (Kd.R_reads' HO129.out).2.2 t130 p132 q132; obtain rfl : adz_v128 = ad132 := (by injection e132))
       refine value_ (w1 := ?_) (v := ?_) (by rfl) rfl ?_ ?_
       rotate_left 2
       ·go_simp
        constructor
        ·rfl
        ·rfl
       clear hx132_0
       refine hK.out _ _ ⟨(blk_cell BK118.out 0).trans rfl, (blk_cell BK118.out 1).trans rfl, (blk_cell BK118.out 2).trans rfl⟩ (fun hHeld => ?_)
       clear hK K
       refine norm_ (a' := ?_) ?_ ?_
       rotate_left
       ·show Act.put _ (some 47) _ = _
        simp only [Act.put, List.setIfInBounds_toArray, List.set_cons_zero, List.set_cons_succ, i64_w, i32_w]
        rfl
       refine pure_ (i := 16) (N := some 48) (v := ?_) (a' := ?_) #[true, true, true, true, true, true, true, true, true, true, true, true, true, true, true, true, true, false, false, false, false] rfl rfl (any_of HT_.out (by kernel_rfl)) (fun _ _ _ h => h) (Or.inl ⟨by rfl, ?_⟩) ?_ ?_
       rotate_left
       ·intro w'
        go_simp
        with_reducible rfl
       rotate_left
       ·simp only [Act.put, List.setIfInBounds_toArray, List.set_cons_zero, List.set_cons_succ, i64_w, i32_w]
        rfl
       refine one_ (i := 17) (N := some 49) #[true, true, true, true, true, true, true, true, true, true, true, true, true, true, true, true, true, true, false, false, false] rfl rfl (one_of HT_.out (by kernel_rfl)) (by decide) (fun K hK => ?_)
       refine goes_ Try.func68 (by kernel_rfl) rfl #[.pointer (some ⟨g, 0, none⟩), .int .i64 ji17] (by rfl) rfl rfl (by (try simp only [List.map_toArray, List.map_cons, List.map_nil]); first | done | (simp only [hji17]; rfl) | rfl | (simp only [List.length_drop, List.length_take]; rfl)) ?_
       with_reducible refine (spec_l20Rd_pick.calls k g s0_0 t131 ji17 t133 t134 w0 _ ?side1 ?side2 A18.out).mono ?_
       (case side1 => repeat (first | (with_reducible first | exact HI0.out | apply IsS110.alloc | apply IsS110.drewN | apply IsS110.drew | apply IsS110.set_1 | refine IsS110.far ?_ NB0_109.out _ | refine IsS110.far ?_ NB0_118.out _) | exact HI0.out))
       (case side2 => repeat (first | (with_reducible first | exact HB.out | apply below_alloc | apply pw_below_drewN | apply below_drew1 | refine below_set ?_ (IsS110.ge HI0.out) | refine below_set ?_ GE109.out | refine below_set ?_ GE118.out) | exact HB.out))
       rintro e w49 ⟨rfl, hi, hb, hk⟩
       refine ⟨_, rfl, ?_⟩
       have n0_ := Aside0.mk (KeepBut.blk hk (g' := gb109) (o := .cells #[.int .i64 0, .int .i64 0, .int .i64 0] 88 (0, 0)) (by (with_reducible repeat (first | refine blk_drewN ?_ _ | refine blk_drew ?_ | refine blk_alloc ?_ _)); exact BK109.out) NB109_0.out (by simp))
       have n1_ := Aside0.mk (Kd.R_mono (Kd.R_keep (IsS110.apart (show IsS110 w0 _ g s0_0 t131 from by repeat (first | (with_reducible first | exact HI0.out | apply IsS110.alloc | apply IsS110.drewN | apply IsS110.drew | apply IsS110.set_1 | refine IsS110.far ?_ NB0_109.out _ | refine IsS110.far ?_ NB0_118.out _) | exact HI0.out)) (by (with_reducible repeat (first | apply Kd.R_alloc | apply Kd.R_drewN | apply Kd.R_drew)); exact HO114.out) (by decide)) hk (fun _ h => h.2)) (fun _ h => h.1))
       have n2_ := Aside0.mk (KeepBut.blk hk (g' := gb118) (o := .cells #[.int .i64 0, .int .i64 (rd y121 t124), .int .i64 (rd y112 t115)] 88 (0, 0)) (by (with_reducible repeat (first | refine blk_drewN ?_ _ | refine blk_drew ?_ | refine blk_alloc ?_ _)); exact BK118.out) NB118_0.out (by simp))
       have n3_ := Aside0.mk (Kd.R_mono (Kd.R_keep (IsS110.apart (show IsS110 w0 _ g s0_0 t131 from by repeat (first | (with_reducible first | exact HI0.out | apply IsS110.alloc | apply IsS110.drewN | apply IsS110.drew | apply IsS110.set_1 | refine IsS110.far ?_ NB0_109.out _ | refine IsS110.far ?_ NB0_118.out _) | exact HI0.out)) (by (with_reducible repeat (first | apply Kd.R_alloc | apply Kd.R_drewN | apply Kd.R_drew)); exact HO123.out) (by decide)) hk (fun _ h => h.2)) (fun _ h => h.1))
       have n4_ := Aside0.mk (Kd.R_mono (Kd.R_keep (IsS110.apart (show IsS110 w0 _ g s0_0 t131 from by repeat (first | (with_reducible first | exact HI0.out | apply IsS110.alloc | apply IsS110.drewN | apply IsS110.drew | apply IsS110.set_1 | refine IsS110.far ?_ NB0_109.out _ | refine IsS110.far ?_ NB0_118.out _) | exact HI0.out)) (by (with_reducible repeat (first | apply Kd.R_alloc | apply Kd.R_drewN | apply Kd.R_drew)); exact HO129.out) (by decide)) hk (fun _ h => h.2)) (fun _ h => h.1))
       have n5_ := Aside0.mk (KeepBut.trans (by repeat (first | (with_reducible first | exact HK.out | apply KeepBut.set_ | apply keep_drewN | apply keep_drew | apply keep_alloc | refine keep_far ?_ GW109.out _ | refine keep_far ?_ GW118.out _) | exact HK.out)) hk (.inl rfl))
       have n6_ := Aside0.mk (hb)
       have n7_ := Aside0.mk (hi)
       clear BK109
       clear HO114
       clear BK118
       clear HO123
       clear HO129
       clear HK
       clear HB
       clear HI0
       have BK109 := n0_
       have HO114 := n1_
       have BK118 := n2_
       have HO123 := n3_
       have HO129 := n4_
       have HK := n5_
       have HB := n6_
       have HI0 := n7_
       clear n0_ n1_ n2_ n3_ n4_ n5_ n6_ n7_
       (try clear hb)
       (try clear hb2)
       (try clear hk)
       (try clear hi)
       refine hK.out _ _ ⟨(blk_cell BK118.out 0).trans rfl, (blk_cell BK118.out 1).trans rfl, (blk_cell BK118.out 2).trans rfl⟩ (fun hHeld => ?_)
       clear hK K
       refine norm_ (a' := ?_) ?_ ?_
       rotate_left
       ·show Act.put _ (some 49) _ = _
        simp only [Act.put, List.setIfInBounds_toArray, List.set_cons_zero, List.set_cons_succ, i64_w, i32_w]
        rfl
       refine pure_ (i := 18) (N := some 50) (v := ?_) (a' := ?_) #[true, true, true, true, true, true, true, true, true, true, true, true, true, true, true, true, true, true, true, false, false] rfl rfl (any_of HT_.out (by kernel_rfl)) (fun _ _ _ h => h) (Or.inl ⟨by rfl, ?_⟩) ?_ ?_
       rotate_left
       ·intro w'
        go_simp
        with_reducible rfl
       rotate_left
       ·simp only [Act.put, List.setIfInBounds_toArray, List.set_cons_zero, List.set_cons_succ, i64_w, i32_w]
        rfl
       refine pure_ (i := 19) (N := some 51) (v := ?_) (a' := ?_) #[true, true, true, true, true, true, true, true, true, true, true, true, true, true, true, true, true, true, true, true, false] rfl rfl (any_of HT_.out (by kernel_rfl)) (fun _ _ _ h => h) (Or.inl ⟨by rfl, ?_⟩) ?_ ?_
       rotate_left
       ·intro w'
        go_simp
        with_reducible rfl
       rotate_left
       ·simp only [Act.put, List.setIfInBounds_toArray, List.set_cons_zero, List.set_cons_succ, i64_w, i32_w]
        rfl
       refine last_ (i := 20) (N := none) #[true, true, true, true, true, true, true, true, true, true, true, true, true, true, true, true, true, true, true, true, true] rfl rfl (one_of HT_.out (by kernel_rfl)) (by decide) (fun K hK => ?_)
       have hs50 : w49.cell? ⟨gb118, 0, none⟩ = some (.int .i64 0) := (blk_cell BK118.out 0).trans rfl
       have hfs50 := blk_frozen BK118.out 0
       have hns50_0 := NB109_118.out
       have hms50_0 := NB118_109.out
       refine skip_ (w1 := ?_) (by rfl) rfl ?_ ?_
       rotate_left
       ·go_simp
        rfl
       refine hK.out _ _ ?_
       clear hK K
       refine done_ (done_of HT_.out (by kernel_rfl)) ?_
       go_upto_if 54 with (first | ((with_reducible refine gate_callee (f := 89) rfl ?_); refine goesL_ (some 54) rfl rfl Try.func89 (by kernel_rfl) rfl #[.pointer (some ⟨g, 0, none⟩), .int .i64 a1] rfl (by (try simp only [List.map_toArray, List.map_cons, List.map_nil]); first | done | rfl | (simp only [List.length_drop, List.length_take]; rfl)) ?_; (with_reducible refine (spec_l20Rd_odd.calls k g s0_0 t134 a1 t135 t136 w0 _ ?side1 ?side2 A19.out).mono ?_); (case side1 => repeat (first | (with_reducible first | exact HI0.out | apply IsS110.alloc | apply IsS110.drewN | apply IsS110.drew | apply IsS110.set_1 | refine IsS110.far ?_ NB0_109.out _ | refine IsS110.far ?_ NB0_118.out _) | exact HI0.out)); (case side2 => repeat (first | (with_reducible first | exact HB.out | apply below_alloc | apply pw_below_drewN | apply below_drew1 | refine below_set ?_ (IsS110.ge HI0.out) | refine below_set ?_ GE109.out | refine below_set ?_ GE118.out) | exact HB.out)); rintro e w51 ⟨rfl, hi, hb, hk⟩; refine ⟨_, rfl, ?_⟩; have n0_ := Aside0.mk (KeepBut.blk hk (g' := gb109) (o := .cells #[.int .i64 0, .int .i64 0, .int .i64 0] 88 (0, 0)) (by (with_reducible repeat (first | refine blk_drewN ?_ _ | refine blk_drew ?_ | refine blk_alloc ?_ _)); refine blk_far ?_ NB109_118.out _; (with_reducible repeat (first | refine blk_drewN ?_ _ | refine blk_drew ?_ | refine blk_alloc ?_ _)); exact BK109.out) NB109_0.out (by simp)); have n1_ := Aside0.mk (Kd.R_mono (Kd.R_keep (IsS110.apart (show IsS110 w0 _ g s0_0 t134 from by repeat (first | (with_reducible first | exact HI0.out | apply IsS110.alloc | apply IsS110.drewN | apply IsS110.drew | apply IsS110.set_1 | refine IsS110.far ?_ NB0_109.out _ | refine IsS110.far ?_ NB0_118.out _) | exact HI0.out)) (by (with_reducible repeat (first | apply Kd.R_alloc | apply Kd.R_drewN | apply Kd.R_drew)); exact (Kd.R_mono (Kd.R_far (p := ⟨gb118, 0, none⟩) (Kd.R_types HO114.out BK118.out (by decide)) (fun _ hk => hk.2) (.int .i64 (wrap64 (1 + t133)))) (fun _ h_ => h_.1))) (by decide)) hk (fun _ h => h.2)) (fun _ h => h.1)); have n2_ := Aside0.mk (KeepBut.blk hk (g' := gb118) (o := .cells #[.int .i64 (wrap64 (1 + t133)), .int .i64 (rd y121 t124), .int .i64 (rd y112 t115)] 88 (0, 0)) (by (with_reducible repeat (first | refine blk_drewN ?_ _ | refine blk_drew ?_ | refine blk_alloc ?_ _)); refine blk_put (cs := #[.int .i64 0, .int .i64 (rd y121 t124), .int .i64 (rd y112 t115)]) ?_ 0 _ rfl; (with_reducible repeat (first | refine blk_drewN ?_ _ | refine blk_drew ?_ | refine blk_alloc ?_ _)); exact BK118.out) NB118_0.out (by simp)); have n3_ := Aside0.mk (Kd.R_mono (Kd.R_keep (IsS110.apart (show IsS110 w0 _ g s0_0 t134 from by repeat (first | (with_reducible first | exact HI0.out | apply IsS110.alloc | apply IsS110.drewN | apply IsS110.drew | apply IsS110.set_1 | refine IsS110.far ?_ NB0_109.out _ | refine IsS110.far ?_ NB0_118.out _) | exact HI0.out)) (by (with_reducible repeat (first | apply Kd.R_alloc | apply Kd.R_drewN | apply Kd.R_drew)); exact (Kd.R_mono (Kd.R_far (p := ⟨gb118, 0, none⟩) (Kd.R_types HO123.out BK118.out (by decide)) (fun _ hk => hk.2) (.int .i64 (wrap64 (1 + t133)))) (fun _ h_ => h_.1))) (by decide)) hk (fun _ h => h.2)) (fun _ h => h.1)); have n4_ := Aside0.mk (Kd.R_mono (Kd.R_keep (IsS110.apart (show IsS110 w0 _ g s0_0 t134 from by repeat (first | (with_reducible first | exact HI0.out | apply IsS110.alloc | apply IsS110.drewN | apply IsS110.drew | apply IsS110.set_1 | refine IsS110.far ?_ NB0_109.out _ | refine IsS110.far ?_ NB0_118.out _) | exact HI0.out)) (by (with_reducible repeat (first | apply Kd.R_alloc | apply Kd.R_drewN | apply Kd.R_drew)); exact (Kd.R_mono (Kd.R_far (p := ⟨gb118, 0, none⟩) (Kd.R_types HO129.out BK118.out (by decide)) (fun _ hk => hk.2) (.int .i64 (wrap64 (1 + t133)))) (fun _ h_ => h_.1))) (by decide)) hk (fun _ h => h.2)) (fun _ h => h.1)); have n5_ := Aside0.mk (KeepBut.trans (by repeat (first | (with_reducible first | exact HK.out | apply KeepBut.set_ | apply keep_drewN | apply keep_drew | apply keep_alloc | refine keep_far ?_ GW109.out _ | refine keep_far ?_ GW118.out _) | exact HK.out)) hk (.inl rfl)); have n6_ := Aside0.mk (hb); have n7_ := Aside0.mk (hi); clear BK109; clear HO114; clear BK118; clear HO123; clear HO129; clear HK; clear HB; clear HI0; have BK109 := n0_; have HO114 := n1_; have BK118 := n2_; have HO123 := n3_; have HO129 := n4_; have HK := n5_; have HB := n6_; have HI0 := n7_; clear n0_ n1_ n2_ n3_ n4_ n5_ n6_ n7_; (try clear hb); (try clear hb2); (try clear hk); (try clear hi)))
       (try simp only [Act.put, List.setIfInBounds_toArray, List.set_cons_zero, List.set_cons_succ])
       go_cut [] (fun wc => ∃ (kq : Nat) (x1001_19 : Int) (x119000_19 : Int) (x119001_19 : Int) (x119002_19 : Int), Aside0 (spec_l20Task.j0 kq s0_0 x1001_19 x119000_19 x119001_19 x119002_19 = some (r1, r2, r3, r4)) ∧ Aside0 (kq ≤ k) ∧ Aside0 (wc.heap[gb109]? = some (.cells #[.int .i64 0, .int .i64 0, .int .i64 0] 88 (0, 0))) ∧ Aside0 (wc.heap[gb118]? = some (.cells #[.int .i64 x119000_19, .int .i64 x119001_19, .int .i64 x119002_19] 88 (0, 0))) ∧ Aside0 (IsS110 w0 wc g s0_0 x1001_19) ∧ Aside0 (KeepBut w wc g none) ∧ Aside0 (Below w0.heap.size w0 wc))
       case first =>
        have H := HC20.out
        clear HC20
        by_cases c52 : t135 = true
        ·subst c52
         have H1 : ((spec_l20Rd_pick.f k s0_0 t136 3).bind fun bt137 => (if bt137.1 = 0 then ((some (([0, (-1), 9, wrap64 ((rd y121 t124) + 1)] : List Int) : List Int)).bind fun y139 => ((spec_l20Rd_pick.f k s0_0 bt137.2 4).bind fun bt142 => (if 0 ≤ bt142.1 then (if bt142.1 < (y139.length : Int) then (spec_l20Task.j0 k s0_0 bt142.2 (rd y139 bt142.1) (rd y121 t124) (rd y112 t115)) else (none)) else (none)))) else (if bt137.1 = 1 then ((some (([0, wrap64 ((rd y112 t115) + 1), (-1)] : List Int) : List Int)).bind fun y145 => ((spec_l20Rd_pick.f k s0_0 bt137.2 3).bind fun bt148 => (if 0 ≤ bt148.1 then (if bt148.1 < (y145.length : Int) then (spec_l20Task.j0 k s0_0 bt148.2 (wrap64 (1 + t133)) (rd y145 bt148.1) (rd y112 t115)) else (none)) else (none)))) else ((some (([0, 13, (-1)] : List Int) : List Int)).bind fun y151 => ((spec_l20Rd_pick.f k s0_0 bt137.2 3).bind fun bt154 => (if 0 ≤ bt154.1 then (if bt154.1 < (y151.length : Int) then (spec_l20Task.j0 k s0_0 bt154.2 (wrap64 (1 + t133)) (rd y121 t124) (rd y151 bt154.1)) else (none)) else (none))))))) = some (r1, r2, r3, r4) := by rw [if_pos rfl] at H; exact H
         clear H
         have H := H1
         clear H1
         replace H := Option.bind_eq_some_iff.mp H
         obtain ⟨⟨t137, t138⟩, A530, H⟩ := H
         replace H : (if t137 = 0 then ((some (([0, (-1), 9, wrap64 ((rd y121 t124) + 1)] : List Int) : List Int)).bind fun y139 => ((spec_l20Rd_pick.f k s0_0 t138 4).bind fun bt142 => (if 0 ≤ bt142.1 then (if bt142.1 < (y139.length : Int) then (spec_l20Task.j0 k s0_0 bt142.2 (rd y139 bt142.1) (rd y121 t124) (rd y112 t115)) else (none)) else (none)))) else (if t137 = 1 then ((some (([0, wrap64 ((rd y112 t115) + 1), (-1)] : List Int) : List Int)).bind fun y145 => ((spec_l20Rd_pick.f k s0_0 t138 3).bind fun bt148 => (if 0 ≤ bt148.1 then (if bt148.1 < (y145.length : Int) then (spec_l20Task.j0 k s0_0 bt148.2 (wrap64 (1 + t133)) (rd y145 bt148.1) (rd y112 t115)) else (none)) else (none)))) else ((some (([0, 13, (-1)] : List Int) : List Int)).bind fun y151 => ((spec_l20Rd_pick.f k s0_0 t138 3).bind fun bt154 => (if 0 ≤ bt154.1 then (if bt154.1 < (y151.length : Int) then (spec_l20Task.j0 k s0_0 bt154.2 (wrap64 (1 + t133)) (rd y121 t124) (rd y151 bt154.1)) else (none)) else (none)))))) = some (r1, r2, r3, r4) := H
         have A53 := Aside0.mk A530
         clear A530
         by_cases c54 : t137 = 0
         ·rw [if_pos c54] at H
          have c54b0 : (t137 == 0) = true := beq_iff_eq.mpr c54
          have c54b1 : (t137 != 0) = false := bne_eq_false_iff_eq.mpr c54
          clear c54
          (first | rw [c54b0] | (simp only [i64_w, i32_w]; rw [c54b0]) | skip)
          obtain ⟨y139, hy139⟩ : ∃ y_ : List Int, y_ = (([0, (-1), 9, wrap64 ((rd y121 t124) + 1)] : List Int)) := ⟨_, rfl⟩
          replace H : ((spec_l20Rd_pick.f k s0_0 t138 4).bind fun bt142 => (if 0 ≤ bt142.1 then (if bt142.1 < (y139.length : Int) then (spec_l20Task.j0 k s0_0 bt142.2 (rd y139 bt142.1) (rd y121 t124) (rd y112 t115)) else (none)) else (none))) = some (r1, r2, r3, r4) := by first | (rw [hy139]; with_reducible exact H) | (have H2_ := (Option.bind_some _ _).symm.trans H; rw [hy139]; with_reducible exact H2_) | (have H2_ := (Option.bind_some _ _).symm.trans H; with_reducible exact H2_) | with_reducible exact H | (rw [hy139]; exact H) | exact H
          have Ny139 := Aside0.mk hy139
          clear hy139
          replace H := Option.bind_eq_some_iff.mp H
          obtain ⟨⟨t142, t143⟩, A550, H⟩ := H
          replace H : (if 0 ≤ t142 then (if t142 < (y139.length : Int) then (spec_l20Task.j0 k s0_0 t143 (rd y139 t142) (rd y121 t124) (rd y112 t115)) else (none)) else (none)) = some (r1, r2, r3, r4) := H
          have A55 := Aside0.mk A550
          clear A550
          by_cases c56 : 0 ≤ t142
          ·rw [if_pos c56] at H
           have c56b0 : decide (0 ≤ t142) = true := decide_eq_true c56
           clear c56
           by_cases c57 : t142 < (y139.length : Int)
           ·rw [if_pos c57] at H
            have c57b0 : decide (t142 < (y139.length : Int)) = true := decide_eq_true c57
            clear c57
            have H' := Aside0.mk H
            clear H
            try go_wp2_with (first | ((with_reducible refine gate_callee (f := 68) rfl ?_); refine goesL_ (some 56) rfl rfl Try.func68 (by kernel_rfl) rfl #[.pointer (some ⟨g, 0, none⟩), .int .i64 3] rfl (by (try simp only [List.map_toArray, List.map_cons, List.map_nil]); first | done | rfl | (simp only [List.length_drop, List.length_take]; rfl)) ?_; (with_reducible refine (spec_l20Rd_pick.calls k g s0_0 t136 3 t137 t138 w0 _ ?side1 ?side2 A53.out).mono ?_); (case side1 => repeat (first | (with_reducible first | exact HI0.out | apply IsS110.alloc | apply IsS110.drewN | apply IsS110.drew | apply IsS110.set_1 | refine IsS110.far ?_ NB0_109.out _ | refine IsS110.far ?_ NB0_118.out _) | exact HI0.out)); (case side2 => repeat (first | (with_reducible first | exact HB.out | apply below_alloc | apply pw_below_drewN | apply below_drew1 | refine below_set ?_ (IsS110.ge HI0.out) | refine below_set ?_ GE109.out | refine below_set ?_ GE118.out) | exact HB.out)); rintro e w58 ⟨rfl, hi, hb, hk⟩; refine ⟨_, rfl, ?_⟩; have n0_ := Aside0.mk (KeepBut.blk hk (g' := gb109) (o := .cells #[.int .i64 0, .int .i64 0, .int .i64 0] 88 (0, 0)) (by (with_reducible repeat (first | refine blk_drewN ?_ _ | refine blk_drew ?_ | refine blk_alloc ?_ _)); exact BK109.out) NB109_0.out (by simp)); have n1_ := Aside0.mk (Kd.R_mono (Kd.R_keep (IsS110.apart (show IsS110 w0 _ g s0_0 t136 from by repeat (first | (with_reducible first | exact HI0.out | apply IsS110.alloc | apply IsS110.drewN | apply IsS110.drew | apply IsS110.set_1 | refine IsS110.far ?_ NB0_109.out _ | refine IsS110.far ?_ NB0_118.out _) | exact HI0.out)) (by (with_reducible repeat (first | apply Kd.R_alloc | apply Kd.R_drewN | apply Kd.R_drew)); exact HO114.out) (by decide)) hk (fun _ h => h.2)) (fun _ h => h.1)); have n2_ := Aside0.mk (KeepBut.blk hk (g' := gb118) (o := .cells #[.int .i64 (wrap64 (1 + t133)), .int .i64 (rd y121 t124), .int .i64 (rd y112 t115)] 88 (0, 0)) (by (with_reducible repeat (first | refine blk_drewN ?_ _ | refine blk_drew ?_ | refine blk_alloc ?_ _)); exact BK118.out) NB118_0.out (by simp)); have n3_ := Aside0.mk (Kd.R_mono (Kd.R_keep (IsS110.apart (show IsS110 w0 _ g s0_0 t136 from by repeat (first | (with_reducible first | exact HI0.out | apply IsS110.alloc | apply IsS110.drewN | apply IsS110.drew | apply IsS110.set_1 | refine IsS110.far ?_ NB0_109.out _ | refine IsS110.far ?_ NB0_118.out _) | exact HI0.out)) (by (with_reducible repeat (first | apply Kd.R_alloc | apply Kd.R_drewN | apply Kd.R_drew)); exact HO123.out) (by decide)) hk (fun _ h => h.2)) (fun _ h => h.1)); have n4_ := Aside0.mk (Kd.R_mono (Kd.R_keep (IsS110.apart (show IsS110 w0 _ g s0_0 t136 from by repeat (first | (with_reducible first | exact HI0.out | apply IsS110.alloc | apply IsS110.drewN | apply IsS110.drew | apply IsS110.set_1 | refine IsS110.far ?_ NB0_109.out _ | refine IsS110.far ?_ NB0_118.out _) | exact HI0.out)) (by (with_reducible repeat (first | apply Kd.R_alloc | apply Kd.R_drewN | apply Kd.R_drew)); exact HO129.out) (by decide)) hk (fun _ h => h.2)) (fun _ h => h.1)); have n5_ := Aside0.mk (KeepBut.trans (by repeat (first | (with_reducible first | exact HK.out | apply KeepBut.set_ | apply keep_drewN | apply keep_drew | apply keep_alloc | refine keep_far ?_ GW109.out _ | refine keep_far ?_ GW118.out _) | exact HK.out)) hk (.inl rfl)); have n6_ := Aside0.mk (hb); have n7_ := Aside0.mk (hi); clear BK109; clear HO114; clear BK118; clear HO123; clear HO129; clear HK; clear HB; clear HI0; have BK109 := n0_; have HO114 := n1_; have BK118 := n2_; have HO123 := n3_; have HO129 := n4_; have HK := n5_; have HB := n6_; have HI0 := n7_; clear n0_ n1_ n2_ n3_ n4_ n5_ n6_ n7_; (try clear hb); (try clear hb2); (try clear hk); (try clear hi)))
            have pi144 : (0 ≤ (t142 : Int)) = True := eq_true (of_decide_eq_true (by first | (with_reducible assumption) | assumption))
            have qi144 : (t142 < (y139.length : Int)) = True := eq_true (of_decide_eq_true (by first | (with_reducible assumption) | assumption))
            have n0_ := Aside0.mk (Kd.R_drew HO114.out)
            have n1_ := Aside0.mk (Kd.R_drew HO123.out)
            have n2_ := Aside0.mk (Kd.R_drew HO129.out)
            have n3_ := Aside0.mk (blk_drew BK109.out)
            have n4_ := Aside0.mk (blk_drew BK118.out)
            have n5_ := Aside0.mk (IsS110.drew HI0.out)
            have n6_ := Aside0.mk (keep_drew HK.out)
            have n7_ := Aside0.mk (below_drew1 HB.out)
            clear HO114
            clear HO123
            clear HO129
            clear BK109
            clear BK118
            clear HI0
            clear HK
            clear HB
            have HO114 := n0_
            have HO123 := n1_
            have HO129 := n2_
            have BK109 := n3_
            have BK118 := n4_
            have HI0 := n5_
            have HK := n6_
            have HB := n7_
            clear n0_ n1_ n2_ n3_ n4_ n5_ n6_ n7_
            refine start_ (n := 10) (S := fun w' => w'.cell? ⟨gb118, 0, none⟩ = some (.int .i64 (wrap64 (1 + t133))) ∧ w'.cell? ⟨gb118, 1, none⟩ = some (.int .i64 (rd y121 t124)) ∧ w'.cell? ⟨gb118, 2, none⟩ = some (.int .i64 (rd y112 t115))) (ds := [9]) #[false, false, false, false, false, false, false, false, false, false] (by kernel_rfl) rfl rfl ⟨(blk_cell BK118.out 0).trans rfl, (blk_cell BK118.out 1).trans rfl, (blk_cell BK118.out 2).trans rfl⟩ (fun hHeld => ?_); refine with_tabW spec_l20Task.tab8 spec_l20Task.bits8 (fun HT_ HW_ => ?_)
            generalize w58.drew = w59 at HO114 HO123 HO129 BK109 BK118 HI0 HK HB hHeld ⊢
            refine pure_ (i := 0) (N := some 65) (v := ?_) (a' := ?_) #[true, false, false, false, false, false, false, false, false, false] rfl rfl (any_of HT_.out (by kernel_rfl)) (fun _ _ _ h => h) (Or.inl ⟨by rfl, ?_⟩) ?_ ?_
            rotate_left
            ·intro w'
             go_simp
             with_reducible rfl
            rotate_left
            ·simp only [Act.put, List.setIfInBounds_toArray, List.set_cons_zero, List.set_cons_succ, i64_w, i32_w]
             rfl
            refine pure_ (i := 4) (N := some 69) (v := ?_) (a' := ?_) #[true, false, false, false, true, false, false, false, false, false] rfl rfl (any_of HT_.out (by kernel_rfl)) (fun _ _ _ h => h) (Or.inl ⟨by rfl, ?_⟩) ?_ ?_
            rotate_left
            ·intro w'
             go_simp
             with_reducible rfl
            rotate_left
            ·simp only [Act.put, List.setIfInBounds_toArray, List.set_cons_zero, List.set_cons_succ, i64_w, i32_w]
             rfl
            refine take_ (i := 1) (N := some 66) (v := ?_) (a' := ?_) #[true, true, false, false, true, false, false, false, false, false] rfl rfl (take_ofW HT_.out HW_.out (by kernel_rfl)) (fun _ _ _ h => h) (Or.inl ⟨by rfl, ?_⟩) hHeld ?_ ?_
            rotate_left
            ·rintro w' ⟨s0, s1, s2⟩
             go_simp
             with_reducible rfl
            rotate_left
            ·simp only [Act.put, List.setIfInBounds_toArray, List.set_cons_zero, List.set_cons_succ, i64_w, i32_w]
             rfl
            refine pure_ (i := 2) (N := some 67) (v := ?_) (a' := ?_) #[true, true, true, false, true, false, false, false, false, false] rfl rfl (any_of HT_.out (by kernel_rfl)) (fun _ _ _ h => h) (Or.inl ⟨by rfl, ?_⟩) ?_ ?_
            rotate_left
            ·intro w'
             go_simp
             with_reducible rfl
            rotate_left
            ·simp only [Act.put, List.setIfInBounds_toArray, List.set_cons_zero, List.set_cons_succ, i64_w, i32_w]
             rfl
            refine join_ (σ := Value × Addr) 4 #[true, true, true, true, true, true, false, false, false, false] (fun s_ => [(68, s_.1), (70, .int .i64 t142)]) (fun s_ w' => (w'.cell? ⟨gb118, 0, none⟩ = some (.int .i64 (wrap64 (1 + t133))) ∧ w'.cell? ⟨gb118, 1, none⟩ = some (.int .i64 (rd y121 t124)) ∧ w'.cell? ⟨gb118, 2, none⟩ = some (.int .i64 (rd y112 t115))) ∧ (Kd.R (Kd.int .i64) 3 w' w.heap.size (fun k_ => some k_ ≠ (.slice (some adz_v122) y121.length co39 : Value).ownBlock ∧ some k_ ≠ (.slice (some adz_v128) y127.length co48 : Value).ownBlock ∧ some k_ ≠ (s_.1 : Value).ownBlock) (.slice (some ad117) y112.length co26) y112) ∧ (Kd.R (Kd.int .i64) 3 w' w.heap.size (fun k_ => some k_ ≠ (.slice (some ad117) y112.length co26 : Value).ownBlock ∧ some k_ ≠ (.slice (some adz_v128) y127.length co48 : Value).ownBlock ∧ some k_ ≠ (s_.1 : Value).ownBlock) (.slice (some adz_v122) y121.length co39) y121) ∧ (Kd.R (Kd.int .i64) 3 w' w.heap.size (fun k_ => some k_ ≠ (.slice (some ad117) y112.length co26 : Value).ownBlock ∧ some k_ ≠ (.slice (some adz_v122) y121.length co39 : Value).ownBlock ∧ some k_ ≠ (s_.1 : Value).ownBlock) (.slice (some adz_v128) y127.length co48) y127) ∧ (Kd.R (Kd.int .i64) 3 w' w.heap.size (fun k_ => some k_ ≠ (.slice (some ad117) y112.length co26 : Value).ownBlock ∧ some k_ ≠ (.slice (some adz_v122) y121.length co39 : Value).ownBlock ∧ some k_ ≠ (.slice (some adz_v128) y127.length co48 : Value).ownBlock) s_.1 y139) ∧ (∃ c_, (s_.1 : Value) = .slice (some s_.2) y139.length c_) ∧ (w'.heap[gb109]? = some (.cells #[.int .i64 0, .int .i64 0, .int .i64 0] 88 (0, 0))) ∧ (w'.heap[gb118]? = some (.cells #[.int .i64 (wrap64 (1 + t133)), .int .i64 (rd y121 t124), .int .i64 (rd y112 t115)] 88 (0, 0))) ∧ (IsS110 w0 w' g s0_0 t143) ∧ (KeepBut w w' g none) ∧ (Below w0.heap.size w0 w')) ?_ ?_
            rotate_left
            ·intro hCont
             refine two_ (i := 3) (j := 5) (Ni := some 68) (Nj := some 70) #[true, true, true, true, true, false, false, false, false, false] #[true, true, true, false, true, true, false, false, false, false] rfl rfl rfl rfl (two_of HT_.out (by kernel_rfl)) (by decide) (by decide) (fun K hK => ?_) (fun K hK => ?_)
             ·skip
              refine Kd.R_lit_step (Kd.int .i64) _ 3 ?hg (N := 68) ?hd (xs := ([0, (-1), 9, wrap64 ((rd y121 t124) + 1)] : List Int)) (inner := [.int .i64 0, .int .i64 (-1), .int .i64 9, .int .i64 (wrap64 ((rd y121 t124) + 1))]) (ok := fun _ => True) (okp := fun _ => True) ?hr ?hp (fun _ hk => hk) trivial (Below.refl _ _) (Nat.le_refl _) (by simp) ?_; (case hd => rfl); (case hg => rfl); (case hr => first | (go_simp; done) | (go_simp; rfl)); (case hp => exact (Reps.one (show Kd.M (Kd.int .i64) _ _ _ 0 [.int .i64 0] from rfl) (Reps.one (show Kd.M (Kd.int .i64) _ _ _ (-1) [.int .i64 (-1)] from rfl) (Reps.one (show Kd.M (Kd.int .i64) _ _ _ 9 [.int .i64 9] from rfl) (Reps.one (show Kd.M (Kd.int .i64) _ _ _ (wrap64 ((rd y121 t124) + 1)) [.int .i64 (wrap64 ((rd y121 t124) + 1))] from rfl) (Reps.none _ _))))))
              intro v140 w60 ho61 hb hg_ hnew_
              clear hg_ hnew_
              (first | rw [← Ny139.out] at ho61 | (simp only [Int.reduceToNat] at ho61; rw [← Ny139.out] at ho61))
              have n0_ := Aside0.mk (Kd.R_elder' (by (with_reducible repeat (first | apply Kd.R_alloc | apply Kd.R_drewN | apply Kd.R_drew)); exact HO114.out) (Kd.R_base ho61) hb)
              have n1_ := Aside0.mk (Kd.R_elder' (by (with_reducible repeat (first | apply Kd.R_alloc | apply Kd.R_drewN | apply Kd.R_drew)); exact HO123.out) (Kd.R_base ho61) hb)
              have n2_ := Aside0.mk (Kd.R_elder' (by (with_reducible repeat (first | apply Kd.R_alloc | apply Kd.R_drewN | apply Kd.R_drew)); exact HO129.out) (Kd.R_base ho61) hb)
              have n3_ := Aside0.mk (Kd.R_lower (Kd.R_new' (Kd.R_new' (Kd.R_new' ho61 (Kd.R_lt (by (with_reducible repeat (first | apply Kd.R_alloc | apply Kd.R_drewN | apply Kd.R_drew)); exact HO114.out))) (Kd.R_lt (by (with_reducible repeat (first | apply Kd.R_alloc | apply Kd.R_drewN | apply Kd.R_drew)); exact HO123.out))) (Kd.R_lt (by (with_reducible repeat (first | apply Kd.R_alloc | apply Kd.R_drewN | apply Kd.R_drew)); exact HO129.out))) (keep_size (w := w) (g := g) (row := none) (by repeat (first | (with_reducible first | exact HK.out | apply KeepBut.set_ | apply keep_drewN | apply keep_drew | apply keep_alloc | refine keep_far ?_ GW109.out _ | refine keep_far ?_ GW118.out _) | exact HK.out))))
              have n4_ := Aside0.mk (IsS110.below (by repeat (first | (with_reducible first | exact HI0.out | apply IsS110.alloc | apply IsS110.drewN | apply IsS110.drew | apply IsS110.set_1 | refine IsS110.far ?_ NB0_109.out _ | refine IsS110.far ?_ NB0_118.out _) | exact HI0.out)) hb)
              have n5_ := Aside0.mk (blk_below (g := gb109) (o := .cells #[.int .i64 0, .int .i64 0, .int .i64 0] 88 (0, 0)) (by (with_reducible repeat (first | refine blk_drewN ?_ _ | refine blk_drew ?_ | refine blk_alloc ?_ _)); exact BK109.out) hb)
              have n6_ := Aside0.mk (blk_below (g := gb118) (o := .cells #[.int .i64 (wrap64 (1 + t133)), .int .i64 (rd y121 t124), .int .i64 (rd y112 t115)] 88 (0, 0)) (by (with_reducible repeat (first | refine blk_drewN ?_ _ | refine blk_drew ?_ | refine blk_alloc ?_ _)); exact BK118.out) hb)
              have n7_ := Aside0.mk (KeepBut.trans (by repeat (first | (with_reducible first | exact HK.out | apply KeepBut.set_ | apply keep_drewN | apply keep_drew | apply keep_alloc | refine keep_far ?_ GW109.out _ | refine keep_far ?_ GW118.out _) | exact HK.out)) (KeepBut.of_below hb g none) (.inl rfl))
              have n8_ := Aside0.mk (below_step (by repeat (first | (with_reducible first | exact HB.out | apply below_alloc | apply pw_below_drewN | apply below_drew1 | refine below_set ?_ (IsS110.ge HI0.out) | refine below_set ?_ GE109.out | refine below_set ?_ GE118.out) | exact HB.out)) hb)
              clear HO114
              clear HO123
              clear HO129
              clear HI0
              clear BK109
              clear BK118
              clear HK
              clear HB
              have HO114 := n0_
              have HO123 := n1_
              have HO129 := n2_
              have HO141 := n3_
              have HI0 := n4_
              have BK109 := n5_
              have BK118 := n6_
              have HK := n7_
              have HB := n8_
              clear n0_ n1_ n2_ n3_ n4_ n5_ n6_ n7_ n8_
              clear hb ho61
              obtain ⟨Ao62, co62, eo62⟩ := Kd.R_slice HO141.out
              subst eo62
              obtain ⟨ado62, fo62, _⟩ := Kd.at_int (Kd.R_reads' HO141.out).2.2 0 (by decide) (by rw [Ny139.out]; simp)
              cases fo62
              refine hK.out _ _ ⟨(blk_cell BK118.out 0).trans rfl, (blk_cell BK118.out 1).trans rfl, (blk_cell BK118.out 2).trans rfl⟩ (fun hHeld => ?_)
              clear hK K
              refine norm_ (a' := ?_) ?_ ?_
              rotate_left
              ·show Act.put _ (some 68) _ = _
               simp only [Act.put, List.setIfInBounds_toArray, List.set_cons_zero, List.set_cons_succ, i64_w, i32_w]
               rfl
              refine one_ (i := 5) (N := some 70) #[true, true, true, true, true, true, false, false, false, false] rfl rfl (one_of HT_.out (by kernel_rfl)) (by decide) (fun K hK => ?_)
              refine goes_ Try.func68 (by kernel_rfl) rfl #[.pointer (some ⟨g, 0, none⟩), .int .i64 4] (by rfl) rfl rfl (by (try simp only [List.map_toArray, List.map_cons, List.map_nil]); first | done | rfl | (simp only [List.length_drop, List.length_take]; rfl)) ?_
              with_reducible refine (spec_l20Rd_pick.calls k g s0_0 t138 4 t142 t143 w0 _ ?side1 ?side2 A55.out).mono ?_
              (case side1 => repeat (first | (with_reducible first | exact HI0.out | apply IsS110.alloc | apply IsS110.drewN | apply IsS110.drew | apply IsS110.set_1 | refine IsS110.far ?_ NB0_109.out _ | refine IsS110.far ?_ NB0_118.out _) | exact HI0.out))
              (case side2 => repeat (first | (with_reducible first | exact HB.out | apply below_alloc | apply pw_below_drewN | apply below_drew1 | refine below_set ?_ (IsS110.ge HI0.out) | refine below_set ?_ GE109.out | refine below_set ?_ GE118.out) | exact HB.out))
              rintro e w63 ⟨rfl, hi, hb, hk⟩
              refine ⟨_, rfl, ?_⟩
              have n0_ := Aside0.mk (KeepBut.blk hk (g' := gb109) (o := .cells #[.int .i64 0, .int .i64 0, .int .i64 0] 88 (0, 0)) (by (with_reducible repeat (first | refine blk_drewN ?_ _ | refine blk_drew ?_ | refine blk_alloc ?_ _)); exact BK109.out) NB109_0.out (by simp))
              have n1_ := Aside0.mk (Kd.R_mono (Kd.R_keep (IsS110.apart (show IsS110 w0 _ g s0_0 t138 from by repeat (first | (with_reducible first | exact HI0.out | apply IsS110.alloc | apply IsS110.drewN | apply IsS110.drew | apply IsS110.set_1 | refine IsS110.far ?_ NB0_109.out _ | refine IsS110.far ?_ NB0_118.out _) | exact HI0.out)) (by (with_reducible repeat (first | apply Kd.R_alloc | apply Kd.R_drewN | apply Kd.R_drew)); exact HO114.out) (by decide)) hk (fun _ h => h.2)) (fun _ h => h.1))
              have n2_ := Aside0.mk (KeepBut.blk hk (g' := gb118) (o := .cells #[.int .i64 (wrap64 (1 + t133)), .int .i64 (rd y121 t124), .int .i64 (rd y112 t115)] 88 (0, 0)) (by (with_reducible repeat (first | refine blk_drewN ?_ _ | refine blk_drew ?_ | refine blk_alloc ?_ _)); exact BK118.out) NB118_0.out (by simp))
              have n3_ := Aside0.mk (Kd.R_mono (Kd.R_keep (IsS110.apart (show IsS110 w0 _ g s0_0 t138 from by repeat (first | (with_reducible first | exact HI0.out | apply IsS110.alloc | apply IsS110.drewN | apply IsS110.drew | apply IsS110.set_1 | refine IsS110.far ?_ NB0_109.out _ | refine IsS110.far ?_ NB0_118.out _) | exact HI0.out)) (by (with_reducible repeat (first | apply Kd.R_alloc | apply Kd.R_drewN | apply Kd.R_drew)); exact HO123.out) (by decide)) hk (fun _ h => h.2)) (fun _ h => h.1))
              have n4_ := Aside0.mk (Kd.R_mono (Kd.R_keep (IsS110.apart (show IsS110 w0 _ g s0_0 t138 from by repeat (first | (with_reducible first | exact HI0.out | apply IsS110.alloc | apply IsS110.drewN | apply IsS110.drew | apply IsS110.set_1 | refine IsS110.far ?_ NB0_109.out _ | refine IsS110.far ?_ NB0_118.out _) | exact HI0.out)) (by (with_reducible repeat (first | apply Kd.R_alloc | apply Kd.R_drewN | apply Kd.R_drew)); exact HO129.out) (by decide)) hk (fun _ h => h.2)) (fun _ h => h.1))
              have n5_ := Aside0.mk (Kd.R_mono (Kd.R_keep (IsS110.apart (show IsS110 w0 _ g s0_0 t138 from by repeat (first | (with_reducible first | exact HI0.out | apply IsS110.alloc | apply IsS110.drewN | apply IsS110.drew | apply IsS110.set_1 | refine IsS110.far ?_ NB0_109.out _ | refine IsS110.far ?_ NB0_118.out _) | exact HI0.out)) (by (with_reducible repeat (first | apply Kd.R_alloc | apply Kd.R_drewN | apply Kd.R_drew)); exact HO141.out) (by decide)) hk (fun _ h => h.2)) (fun _ h => h.1))
              have n6_ := Aside0.mk (KeepBut.trans (by repeat (first | (with_reducible first | exact HK.out | apply KeepBut.set_ | apply keep_drewN | apply keep_drew | apply keep_alloc | refine keep_far ?_ GW109.out _ | refine keep_far ?_ GW118.out _) | exact HK.out)) hk (.inl rfl))
              have n7_ := Aside0.mk (hb)
              have n8_ := Aside0.mk (hi)
              clear BK109
              clear HO114
              clear BK118
              clear HO123
              clear HO129
              clear HO141
              clear HK
              clear HB
              clear HI0
              have BK109 := n0_
              have HO114 := n1_
              have BK118 := n2_
              have HO123 := n3_
              have HO129 := n4_
              have HO141 := n5_
              have HK := n6_
              have HB := n7_
              have HI0 := n8_
              clear n0_ n1_ n2_ n3_ n4_ n5_ n6_ n7_ n8_
              (try clear hb)
              (try clear hb2)
              (try clear hk)
              (try clear hi)
              refine hK.out _ _ ⟨(blk_cell BK118.out 0).trans rfl, (blk_cell BK118.out 1).trans rfl, (blk_cell BK118.out 2).trans rfl⟩ (fun hHeld => ?_)
              clear hK K
              refine norm_ (a' := ?_) ?_ ?_
              rotate_left
              ·show Act.put _ (some 70) _ = _
               simp only [Act.put, List.setIfInBounds_toArray, List.set_cons_zero, List.set_cons_succ, i64_w, i32_w]
               rfl
              exact norm_ (by simp only [putAll, Act.put, List.setIfInBounds_toArray, List.set_cons_zero, List.set_cons_succ]) (hCont (.slice (some ado62) y139.length co62, ado62) _ ⟨hHeld, (by (with_reducible repeat (first | apply Kd.R_alloc | apply Kd.R_drewN | apply Kd.R_drew)); exact Kd.R_mono HO114.out (fun _ hk => ⟨hk.1.1, ⟨hk.1.2, hk.2⟩⟩)), (by (with_reducible repeat (first | apply Kd.R_alloc | apply Kd.R_drewN | apply Kd.R_drew)); exact Kd.R_mono HO123.out (fun _ hk => ⟨hk.1.1, ⟨hk.1.2, hk.2⟩⟩)), (by (with_reducible repeat (first | apply Kd.R_alloc | apply Kd.R_drewN | apply Kd.R_drew)); exact Kd.R_mono HO129.out (fun _ hk => ⟨hk.1.1, ⟨hk.1.2, hk.2⟩⟩)), (by (with_reducible repeat (first | apply Kd.R_alloc | apply Kd.R_drewN | apply Kd.R_drew)); exact Kd.R_mono HO141.out (fun _ hk => ⟨hk.1.1.2, ⟨hk.1.2, hk.2⟩⟩)), ⟨_, rfl⟩, (by (with_reducible repeat (first | refine blk_drewN ?_ _ | refine blk_drew ?_ | refine blk_alloc ?_ _)); exact BK109.out), (by (with_reducible repeat (first | refine blk_drewN ?_ _ | refine blk_drew ?_ | refine blk_alloc ?_ _)); exact BK118.out), (by repeat (first | (with_reducible first | exact HI0.out | apply IsS110.alloc | apply IsS110.drewN | apply IsS110.drew | apply IsS110.set_1 | refine IsS110.far ?_ NB0_109.out _ | refine IsS110.far ?_ NB0_118.out _) | exact HI0.out)), (by repeat (first | (with_reducible first | exact HK.out | apply KeepBut.set_ | apply keep_drewN | apply keep_drew | apply keep_alloc | refine keep_far ?_ GW109.out _ | refine keep_far ?_ GW118.out _) | exact HK.out)), (by repeat (first | (with_reducible first | exact HB.out | apply below_alloc | apply pw_below_drewN | apply below_drew1 | refine below_set ?_ (IsS110.ge HI0.out) | refine below_set ?_ GE109.out | refine below_set ?_ GE118.out) | exact HB.out))⟩)
             ·skip
              refine goes_ Try.func68 (by kernel_rfl) rfl #[.pointer (some ⟨g, 0, none⟩), .int .i64 4] (by rfl) rfl rfl (by (try simp only [List.map_toArray, List.map_cons, List.map_nil]); first | done | rfl | (simp only [List.length_drop, List.length_take]; rfl)) ?_
              with_reducible refine (spec_l20Rd_pick.calls k g s0_0 t138 4 t142 t143 w0 _ ?side1 ?side2 A55.out).mono ?_
              (case side1 => repeat (first | (with_reducible first | exact HI0.out | apply IsS110.alloc | apply IsS110.drewN | apply IsS110.drew | apply IsS110.set_1 | refine IsS110.far ?_ NB0_109.out _ | refine IsS110.far ?_ NB0_118.out _) | exact HI0.out))
              (case side2 => repeat (first | (with_reducible first | exact HB.out | apply below_alloc | apply pw_below_drewN | apply below_drew1 | refine below_set ?_ (IsS110.ge HI0.out) | refine below_set ?_ GE109.out | refine below_set ?_ GE118.out) | exact HB.out))
              rintro e w60 ⟨rfl, hi, hb, hk⟩
              refine ⟨_, rfl, ?_⟩
              have n0_ := Aside0.mk (KeepBut.blk hk (g' := gb109) (o := .cells #[.int .i64 0, .int .i64 0, .int .i64 0] 88 (0, 0)) (by (with_reducible repeat (first | refine blk_drewN ?_ _ | refine blk_drew ?_ | refine blk_alloc ?_ _)); exact BK109.out) NB109_0.out (by simp))
              have n1_ := Aside0.mk (Kd.R_mono (Kd.R_keep (IsS110.apart (show IsS110 w0 _ g s0_0 t138 from by repeat (first | (with_reducible first | exact HI0.out | apply IsS110.alloc | apply IsS110.drewN | apply IsS110.drew | apply IsS110.set_1 | refine IsS110.far ?_ NB0_109.out _ | refine IsS110.far ?_ NB0_118.out _) | exact HI0.out)) (by (with_reducible repeat (first | apply Kd.R_alloc | apply Kd.R_drewN | apply Kd.R_drew)); exact HO114.out) (by decide)) hk (fun _ h => h.2)) (fun _ h => h.1))
              have n2_ := Aside0.mk (KeepBut.blk hk (g' := gb118) (o := .cells #[.int .i64 (wrap64 (1 + t133)), .int .i64 (rd y121 t124), .int .i64 (rd y112 t115)] 88 (0, 0)) (by (with_reducible repeat (first | refine blk_drewN ?_ _ | refine blk_drew ?_ | refine blk_alloc ?_ _)); exact BK118.out) NB118_0.out (by simp))
              have n3_ := Aside0.mk (Kd.R_mono (Kd.R_keep (IsS110.apart (show IsS110 w0 _ g s0_0 t138 from by repeat (first | (with_reducible first | exact HI0.out | apply IsS110.alloc | apply IsS110.drewN | apply IsS110.drew | apply IsS110.set_1 | refine IsS110.far ?_ NB0_109.out _ | refine IsS110.far ?_ NB0_118.out _) | exact HI0.out)) (by (with_reducible repeat (first | apply Kd.R_alloc | apply Kd.R_drewN | apply Kd.R_drew)); exact HO123.out) (by decide)) hk (fun _ h => h.2)) (fun _ h => h.1))
              have n4_ := Aside0.mk (Kd.R_mono (Kd.R_keep (IsS110.apart (show IsS110 w0 _ g s0_0 t138 from by repeat (first | (with_reducible first | exact HI0.out | apply IsS110.alloc | apply IsS110.drewN | apply IsS110.drew | apply IsS110.set_1 | refine IsS110.far ?_ NB0_109.out _ | refine IsS110.far ?_ NB0_118.out _) | exact HI0.out)) (by (with_reducible repeat (first | apply Kd.R_alloc | apply Kd.R_drewN | apply Kd.R_drew)); exact HO129.out) (by decide)) hk (fun _ h => h.2)) (fun _ h => h.1))
              have n5_ := Aside0.mk (KeepBut.trans (by repeat (first | (with_reducible first | exact HK.out | apply KeepBut.set_ | apply keep_drewN | apply keep_drew | apply keep_alloc | refine keep_far ?_ GW109.out _ | refine keep_far ?_ GW118.out _) | exact HK.out)) hk (.inl rfl))
              have n6_ := Aside0.mk (hb)
              have n7_ := Aside0.mk (hi)
              clear BK109
              clear HO114
              clear BK118
              clear HO123
              clear HO129
              clear HK
              clear HB
              clear HI0
              have BK109 := n0_
              have HO114 := n1_
              have BK118 := n2_
              have HO123 := n3_
              have HO129 := n4_
              have HK := n5_
              have HB := n6_
              have HI0 := n7_
              clear n0_ n1_ n2_ n3_ n4_ n5_ n6_ n7_
              (try clear hb)
              (try clear hb2)
              (try clear hk)
              (try clear hi)
              refine hK.out _ _ ⟨(blk_cell BK118.out 0).trans rfl, (blk_cell BK118.out 1).trans rfl, (blk_cell BK118.out 2).trans rfl⟩ (fun hHeld => ?_)
              clear hK K
              refine norm_ (a' := ?_) ?_ ?_
              rotate_left
              ·show Act.put _ (some 70) _ = _
               simp only [Act.put, List.setIfInBounds_toArray, List.set_cons_zero, List.set_cons_succ, i64_w, i32_w]
               rfl
              refine one_ (i := 3) (N := some 68) #[true, true, true, true, true, true, false, false, false, false] rfl rfl (one_of HT_.out (by kernel_rfl)) (by decide) (fun K hK => ?_)
              refine Kd.R_lit_step (Kd.int .i64) _ 3 ?hg (N := 68) ?hd (xs := ([0, (-1), 9, wrap64 ((rd y121 t124) + 1)] : List Int)) (inner := [.int .i64 0, .int .i64 (-1), .int .i64 9, .int .i64 (wrap64 ((rd y121 t124) + 1))]) (ok := fun _ => True) (okp := fun _ => True) ?hr ?hp (fun _ hk => hk) trivial (Below.refl _ _) (Nat.le_refl _) (by simp) ?_; (case hd => rfl); (case hg => rfl); (case hr => first | (go_simp; done) | (go_simp; rfl)); (case hp => exact (Reps.one (show Kd.M (Kd.int .i64) _ _ _ 0 [.int .i64 0] from rfl) (Reps.one (show Kd.M (Kd.int .i64) _ _ _ (-1) [.int .i64 (-1)] from rfl) (Reps.one (show Kd.M (Kd.int .i64) _ _ _ 9 [.int .i64 9] from rfl) (Reps.one (show Kd.M (Kd.int .i64) _ _ _ (wrap64 ((rd y121 t124) + 1)) [.int .i64 (wrap64 ((rd y121 t124) + 1))] from rfl) (Reps.none _ _))))))
              intro v140 w61 ho62 hb hg_ hnew_
              clear hg_ hnew_
              (first | rw [← Ny139.out] at ho62 | (simp only [Int.reduceToNat] at ho62; rw [← Ny139.out] at ho62))
              have n0_ := Aside0.mk (Kd.R_elder' (by (with_reducible repeat (first | apply Kd.R_alloc | apply Kd.R_drewN | apply Kd.R_drew)); exact HO114.out) (Kd.R_base ho62) hb)
              have n1_ := Aside0.mk (Kd.R_elder' (by (with_reducible repeat (first | apply Kd.R_alloc | apply Kd.R_drewN | apply Kd.R_drew)); exact HO123.out) (Kd.R_base ho62) hb)
              have n2_ := Aside0.mk (Kd.R_elder' (by (with_reducible repeat (first | apply Kd.R_alloc | apply Kd.R_drewN | apply Kd.R_drew)); exact HO129.out) (Kd.R_base ho62) hb)
              have n3_ := Aside0.mk (Kd.R_lower (Kd.R_new' (Kd.R_new' (Kd.R_new' ho62 (Kd.R_lt (by (with_reducible repeat (first | apply Kd.R_alloc | apply Kd.R_drewN | apply Kd.R_drew)); exact HO114.out))) (Kd.R_lt (by (with_reducible repeat (first | apply Kd.R_alloc | apply Kd.R_drewN | apply Kd.R_drew)); exact HO123.out))) (Kd.R_lt (by (with_reducible repeat (first | apply Kd.R_alloc | apply Kd.R_drewN | apply Kd.R_drew)); exact HO129.out))) (keep_size (w := w) (g := g) (row := none) (by repeat (first | (with_reducible first | exact HK.out | apply KeepBut.set_ | apply keep_drewN | apply keep_drew | apply keep_alloc | refine keep_far ?_ GW109.out _ | refine keep_far ?_ GW118.out _) | exact HK.out))))
              have n4_ := Aside0.mk (IsS110.below (by repeat (first | (with_reducible first | exact HI0.out | apply IsS110.alloc | apply IsS110.drewN | apply IsS110.drew | apply IsS110.set_1 | refine IsS110.far ?_ NB0_109.out _ | refine IsS110.far ?_ NB0_118.out _) | exact HI0.out)) hb)
              have n5_ := Aside0.mk (blk_below (g := gb109) (o := .cells #[.int .i64 0, .int .i64 0, .int .i64 0] 88 (0, 0)) (by (with_reducible repeat (first | refine blk_drewN ?_ _ | refine blk_drew ?_ | refine blk_alloc ?_ _)); exact BK109.out) hb)
              have n6_ := Aside0.mk (blk_below (g := gb118) (o := .cells #[.int .i64 (wrap64 (1 + t133)), .int .i64 (rd y121 t124), .int .i64 (rd y112 t115)] 88 (0, 0)) (by (with_reducible repeat (first | refine blk_drewN ?_ _ | refine blk_drew ?_ | refine blk_alloc ?_ _)); exact BK118.out) hb)
              have n7_ := Aside0.mk (KeepBut.trans (by repeat (first | (with_reducible first | exact HK.out | apply KeepBut.set_ | apply keep_drewN | apply keep_drew | apply keep_alloc | refine keep_far ?_ GW109.out _ | refine keep_far ?_ GW118.out _) | exact HK.out)) (KeepBut.of_below hb g none) (.inl rfl))
              have n8_ := Aside0.mk (below_step (by repeat (first | (with_reducible first | exact HB.out | apply below_alloc | apply pw_below_drewN | apply below_drew1 | refine below_set ?_ (IsS110.ge HI0.out) | refine below_set ?_ GE109.out | refine below_set ?_ GE118.out) | exact HB.out)) hb)
              clear HO114
              clear HO123
              clear HO129
              clear HI0
              clear BK109
              clear BK118
              clear HK
              clear HB
              have HO114 := n0_
              have HO123 := n1_
              have HO129 := n2_
              have HO141 := n3_
              have HI0 := n4_
              have BK109 := n5_
              have BK118 := n6_
              have HK := n7_
              have HB := n8_
              clear n0_ n1_ n2_ n3_ n4_ n5_ n6_ n7_ n8_
              clear hb ho62
              obtain ⟨Ao63, co63, eo63⟩ := Kd.R_slice HO141.out
              subst eo63
              obtain ⟨ado63, fo63, _⟩ := Kd.at_int (Kd.R_reads' HO141.out).2.2 0 (by decide) (by rw [Ny139.out]; simp)
              cases fo63
              refine hK.out _ _ ⟨(blk_cell BK118.out 0).trans rfl, (blk_cell BK118.out 1).trans rfl, (blk_cell BK118.out 2).trans rfl⟩ (fun hHeld => ?_)
              clear hK K
              refine norm_ (a' := ?_) ?_ ?_
              rotate_left
              ·show Act.put _ (some 68) _ = _
               simp only [Act.put, List.setIfInBounds_toArray, List.set_cons_zero, List.set_cons_succ, i64_w, i32_w]
               rfl
              exact norm_ (by simp only [putAll, Act.put, List.setIfInBounds_toArray, List.set_cons_zero, List.set_cons_succ]) (hCont (.slice (some ado63) y139.length co63, ado63) _ ⟨hHeld, (by (with_reducible repeat (first | apply Kd.R_alloc | apply Kd.R_drewN | apply Kd.R_drew)); exact Kd.R_mono HO114.out (fun _ hk => ⟨hk.1.1, ⟨hk.1.2, hk.2⟩⟩)), (by (with_reducible repeat (first | apply Kd.R_alloc | apply Kd.R_drewN | apply Kd.R_drew)); exact Kd.R_mono HO123.out (fun _ hk => ⟨hk.1.1, ⟨hk.1.2, hk.2⟩⟩)), (by (with_reducible repeat (first | apply Kd.R_alloc | apply Kd.R_drewN | apply Kd.R_drew)); exact Kd.R_mono HO129.out (fun _ hk => ⟨hk.1.1, ⟨hk.1.2, hk.2⟩⟩)), (by (with_reducible repeat (first | apply Kd.R_alloc | apply Kd.R_drewN | apply Kd.R_drew)); exact Kd.R_mono HO141.out (fun _ hk => ⟨hk.1.1.2, ⟨hk.1.2, hk.2⟩⟩)), ⟨_, rfl⟩, (by (with_reducible repeat (first | refine blk_drewN ?_ _ | refine blk_drew ?_ | refine blk_alloc ?_ _)); exact BK109.out), (by (with_reducible repeat (first | refine blk_drewN ?_ _ | refine blk_drew ?_ | refine blk_alloc ?_ _)); exact BK118.out), (by repeat (first | (with_reducible first | exact HI0.out | apply IsS110.alloc | apply IsS110.drewN | apply IsS110.drew | apply IsS110.set_1 | refine IsS110.far ?_ NB0_109.out _ | refine IsS110.far ?_ NB0_118.out _) | exact HI0.out)), (by repeat (first | (with_reducible first | exact HK.out | apply KeepBut.set_ | apply keep_drewN | apply keep_drew | apply keep_alloc | refine keep_far ?_ GW109.out _ | refine keep_far ?_ GW118.out _) | exact HK.out)), (by repeat (first | (with_reducible first | exact HB.out | apply below_alloc | apply pw_below_drewN | apply below_drew1 | refine below_set ?_ (IsS110.ge HI0.out) | refine below_set ?_ GE109.out | refine below_set ?_ GE118.out) | exact HB.out))⟩)
            rintro ⟨v140, adz_v140⟩ w64 ⟨hS_, h0_, h1_, h2_, h3_, h4_, h5_, h6_, h7_, h8_, h9_⟩
            have n0_ : Aside0 (Kd.R (Kd.int .i64) 3 w64 w.heap.size (fun k_ => some k_ ≠ (.slice (some adz_v122) y121.length co39 : Value).ownBlock ∧ some k_ ≠ (.slice (some adz_v128) y127.length co48 : Value).ownBlock ∧ some k_ ≠ (v140 : Value).ownBlock) (.slice (some ad117) y112.length co26) y112) := ⟨h0_⟩
            have n1_ : Aside0 (Kd.R (Kd.int .i64) 3 w64 w.heap.size (fun k_ => some k_ ≠ (.slice (some ad117) y112.length co26 : Value).ownBlock ∧ some k_ ≠ (.slice (some adz_v128) y127.length co48 : Value).ownBlock ∧ some k_ ≠ (v140 : Value).ownBlock) (.slice (some adz_v122) y121.length co39) y121) := ⟨h1_⟩
            have n2_ : Aside0 (Kd.R (Kd.int .i64) 3 w64 w.heap.size (fun k_ => some k_ ≠ (.slice (some ad117) y112.length co26 : Value).ownBlock ∧ some k_ ≠ (.slice (some adz_v122) y121.length co39 : Value).ownBlock ∧ some k_ ≠ (v140 : Value).ownBlock) (.slice (some adz_v128) y127.length co48) y127) := ⟨h2_⟩
            have n3_ : Aside0 (Kd.R (Kd.int .i64) 3 w64 w.heap.size (fun k_ => some k_ ≠ (.slice (some ad117) y112.length co26 : Value).ownBlock ∧ some k_ ≠ (.slice (some adz_v122) y121.length co39 : Value).ownBlock ∧ some k_ ≠ (.slice (some adz_v128) y127.length co48 : Value).ownBlock) v140 y139) := ⟨h3_⟩
            have n4_ : Aside0 (∃ c_, (v140 : Value) = .slice (some adz_v140) y139.length c_) := ⟨h4_⟩
            have n5_ : Aside0 (w64.heap[gb109]? = some (.cells #[.int .i64 0, .int .i64 0, .int .i64 0] 88 (0, 0))) := ⟨h5_⟩
            have n6_ : Aside0 (w64.heap[gb118]? = some (.cells #[.int .i64 (wrap64 (1 + t133)), .int .i64 (rd y121 t124), .int .i64 (rd y112 t115)] 88 (0, 0))) := ⟨h6_⟩
            have n7_ : Aside0 (IsS110 w0 w64 g s0_0 t143) := ⟨h7_⟩
            have n8_ : Aside0 (KeepBut w w64 g none) := ⟨h8_⟩
            have n9_ : Aside0 (Below w0.heap.size w0 w64) := ⟨h9_⟩
            clear HO114
            clear HO123
            clear HO129
            clear BK109
            clear BK118
            clear HI0
            clear HK
            clear HB
            clear h0_ h1_ h2_ h3_ h4_ h5_ h6_ h7_ h8_ h9_
            have HO114 := n0_
            have HO123 := n1_
            have HO129 := n2_
            have HO141 := n3_
            have HA_HO141 := n4_
            have BK109 := n5_
            have BK118 := n6_
            have HI0 := n7_
            have HK := n8_
            have HB := n9_
            clear n0_ n1_ n2_ n3_ n4_ n5_ n6_ n7_ n8_ n9_
            have hHeld : w64.cell? ⟨gb118, 0, none⟩ = some (.int .i64 (wrap64 (1 + t133))) ∧ w64.cell? ⟨gb118, 1, none⟩ = some (.int .i64 (rd y121 t124)) ∧ w64.cell? ⟨gb118, 2, none⟩ = some (.int .i64 (rd y112 t115)) := hS_
            obtain ⟨co65, eo65⟩ := HA_HO141.out
            clear HA_HO141
            subst eo65
            refine norm_ (a' := ?_) ?_ ?_
            rotate_left
            ·simp only [putAll, Act.put, List.setIfInBounds_toArray, List.set_cons_zero, List.set_cons_succ]
             rfl
            refine pure_ (i := 6) (N := some 71) (v := ?_) (a' := ?_) #[true, true, true, true, true, true, true, false, false, false] rfl rfl (any_of HT_.out (by kernel_rfl)) (fun _ _ _ h => h) (Or.inl ⟨by rfl, ?_⟩) ?_ ?_
            rotate_left
            ·intro w'
             go_simp
             with_reducible rfl
            rotate_left
            ·simp only [Act.put, List.setIfInBounds_toArray, List.set_cons_zero, List.set_cons_succ, i64_w, i32_w]
             rfl
            refine one_ (i := 7) (N := some 72) #[true, true, true, true, true, true, true, true, false, false] rfl rfl (one_of HT_.out (by kernel_rfl)) (by decide) (fun K hK => ?_)
            (have p144 : 0 ≤ (t142 : Int) := of_decide_eq_true (by first | (with_reducible assumption) | assumption); have q144 : t142 < (y139.length : Int) := of_decide_eq_true (by first | (with_reducible assumption) | assumption); obtain ⟨ad144, e144, hx144_0⟩ := Kd.at_int (Kd.R_reads' HO141.out).2.2 t142 p144 q144; obtain rfl : adz_v140 = ad144 := (by injection e144))
            refine value_ (w1 := ?_) (v := ?_) (by rfl) rfl ?_ ?_
            rotate_left 2
            ·go_simp
             constructor
             ·rfl
             ·rfl
            clear hx144_0
            refine hK.out _ _ ⟨(blk_cell BK118.out 0).trans rfl, (blk_cell BK118.out 1).trans rfl, (blk_cell BK118.out 2).trans rfl⟩ (fun hHeld => ?_)
            clear hK K
            refine norm_ (a' := ?_) ?_ ?_
            rotate_left
            ·show Act.put _ (some 72) _ = _
             simp only [Act.put, List.setIfInBounds_toArray, List.set_cons_zero, List.set_cons_succ, i64_w, i32_w]
             rfl
            refine pure_ (i := 8) (N := some 73) (v := ?_) (a' := ?_) #[true, true, true, true, true, true, true, true, true, false] rfl rfl (any_of HT_.out (by kernel_rfl)) (fun _ _ _ h => h) (Or.inl ⟨by rfl, ?_⟩) ?_ ?_
            rotate_left
            ·intro w'
             go_simp
             with_reducible rfl
            rotate_left
            ·simp only [Act.put, List.setIfInBounds_toArray, List.set_cons_zero, List.set_cons_succ, i64_w, i32_w]
             rfl
            refine last_ (i := 9) (N := none) #[true, true, true, true, true, true, true, true, true, true] rfl rfl (one_of HT_.out (by kernel_rfl)) (by decide) (fun K hK => ?_)
            have hs66 : w64.cell? ⟨gb118, 0, none⟩ = some (.int .i64 (wrap64 (1 + t133))) := (blk_cell BK118.out 0).trans rfl
            have hfs66 := blk_frozen BK118.out 0
            have hns66_0 := NB109_118.out
            have hms66_0 := NB118_109.out
            refine skip_ (w1 := ?_) (by rfl) rfl ?_ ?_
            rotate_left
            ·go_simp
             rfl
            refine hK.out _ _ ?_
            clear hK K
            refine done_ (done_of HT_.out (by kernel_rfl)) ?_
            try go_wp2
            go_meet
            case rel => exact ⟨_, (t143), (rd y139 t142), (rd y121 t124), (rd y112 t115), H', ⟨by first | omega | exact Nat.le_refl _⟩, ⟨by (with_reducible repeat (first | refine blk_drewN ?_ _ | refine blk_drew ?_ | refine blk_alloc ?_ _)); refine blk_far ?_ NB109_118.out _; (with_reducible repeat (first | refine blk_drewN ?_ _ | refine blk_drew ?_ | refine blk_alloc ?_ _)); exact BK109.out⟩, ⟨by (with_reducible repeat (first | refine blk_drewN ?_ _ | refine blk_drew ?_ | refine blk_alloc ?_ _)); refine blk_put (cs := #[.int .i64 (wrap64 (1 + t133)), .int .i64 (rd y121 t124), .int .i64 (rd y112 t115)]) ?_ 0 _ rfl; (with_reducible repeat (first | refine blk_drewN ?_ _ | refine blk_drew ?_ | refine blk_alloc ?_ _)); exact BK118.out⟩, ⟨by repeat (first | (with_reducible first | exact HI0.out | apply IsS110.alloc | apply IsS110.drewN | apply IsS110.drew | apply IsS110.set_1 | refine IsS110.far ?_ NB0_109.out _ | refine IsS110.far ?_ NB0_118.out _) | exact HI0.out)⟩, ⟨by repeat (first | (with_reducible first | exact HK.out | apply KeepBut.set_ | apply keep_drewN | apply keep_drew | apply keep_alloc | refine keep_far ?_ GW109.out _ | refine keep_far ?_ GW118.out _) | exact HK.out)⟩, ⟨by repeat (first | (with_reducible first | exact HB.out | apply below_alloc | apply pw_below_drewN | apply below_drew1 | refine below_set ?_ (IsS110.ge HI0.out) | refine below_set ?_ GE109.out | refine below_set ?_ GE118.out) | exact HB.out)⟩⟩
           ·rw [if_neg c57] at H
            exact absurd H (by simp)
          ·rw [if_neg c56] at H
           exact absurd H (by simp)
         ·rw [if_neg c54] at H
          have c54b0 : (t137 == 0) = false := beq_eq_false_iff_ne.mpr c54
          have c54b1 : (t137 != 0) = true := bne_iff_ne.mpr c54
          (first | rw [c54b0] | (simp only [i64_w, i32_w]; rw [c54b0]) | skip)
          by_cases c67 : t137 = 1
          ·rw [if_pos c67] at H
           have c67b0 : (t137 == 1) = true := beq_iff_eq.mpr c67
           have c67b1 : (t137 != 1) = false := bne_eq_false_iff_eq.mpr c67
           clear c67
           obtain ⟨y145, hy145⟩ : ∃ y_ : List Int, y_ = (([0, wrap64 ((rd y112 t115) + 1), (-1)] : List Int)) := ⟨_, rfl⟩
           replace H : ((spec_l20Rd_pick.f k s0_0 t138 3).bind fun bt148 => (if 0 ≤ bt148.1 then (if bt148.1 < (y145.length : Int) then (spec_l20Task.j0 k s0_0 bt148.2 (wrap64 (1 + t133)) (rd y145 bt148.1) (rd y112 t115)) else (none)) else (none))) = some (r1, r2, r3, r4) := by first | (rw [hy145]; with_reducible exact H) | (have H2_ := (Option.bind_some _ _).symm.trans H; rw [hy145]; with_reducible exact H2_) | (have H2_ := (Option.bind_some _ _).symm.trans H; with_reducible exact H2_) | with_reducible exact H | (rw [hy145]; exact H) | exact H
           have Ny145 := Aside0.mk hy145
           clear hy145
           replace H := Option.bind_eq_some_iff.mp H
           obtain ⟨⟨t148, t149⟩, A680, H⟩ := H
           replace H : (if 0 ≤ t148 then (if t148 < (y145.length : Int) then (spec_l20Task.j0 k s0_0 t149 (wrap64 (1 + t133)) (rd y145 t148) (rd y112 t115)) else (none)) else (none)) = some (r1, r2, r3, r4) := H
           have A68 := Aside0.mk A680
           clear A680
           by_cases c69 : 0 ≤ t148
           ·rw [if_pos c69] at H
            have c69b0 : decide (0 ≤ t148) = true := decide_eq_true c69
            clear c69
            by_cases c70 : t148 < (y145.length : Int)
            ·rw [if_pos c70] at H
             have c70b0 : decide (t148 < (y145.length : Int)) = true := decide_eq_true c70
             clear c70
             have H' := Aside0.mk H
             clear H
             try go_wp2_with (first | ((with_reducible refine gate_callee (f := 68) rfl ?_); refine goesL_ (some 56) rfl rfl Try.func68 (by kernel_rfl) rfl #[.pointer (some ⟨g, 0, none⟩), .int .i64 3] rfl (by (try simp only [List.map_toArray, List.map_cons, List.map_nil]); first | done | rfl | (simp only [List.length_drop, List.length_take]; rfl)) ?_; (with_reducible refine (spec_l20Rd_pick.calls k g s0_0 t136 3 t137 t138 w0 _ ?side1 ?side2 A53.out).mono ?_); (case side1 => repeat (first | (with_reducible first | exact HI0.out | apply IsS110.alloc | apply IsS110.drewN | apply IsS110.drew | apply IsS110.set_1 | refine IsS110.far ?_ NB0_109.out _ | refine IsS110.far ?_ NB0_118.out _) | exact HI0.out)); (case side2 => repeat (first | (with_reducible first | exact HB.out | apply below_alloc | apply pw_below_drewN | apply below_drew1 | refine below_set ?_ (IsS110.ge HI0.out) | refine below_set ?_ GE109.out | refine below_set ?_ GE118.out) | exact HB.out)); rintro e w71 ⟨rfl, hi, hb, hk⟩; refine ⟨_, rfl, ?_⟩; have n0_ := Aside0.mk (KeepBut.blk hk (g' := gb109) (o := .cells #[.int .i64 0, .int .i64 0, .int .i64 0] 88 (0, 0)) (by (with_reducible repeat (first | refine blk_drewN ?_ _ | refine blk_drew ?_ | refine blk_alloc ?_ _)); exact BK109.out) NB109_0.out (by simp)); have n1_ := Aside0.mk (Kd.R_mono (Kd.R_keep (IsS110.apart (show IsS110 w0 _ g s0_0 t136 from by repeat (first | (with_reducible first | exact HI0.out | apply IsS110.alloc | apply IsS110.drewN | apply IsS110.drew | apply IsS110.set_1 | refine IsS110.far ?_ NB0_109.out _ | refine IsS110.far ?_ NB0_118.out _) | exact HI0.out)) (by (with_reducible repeat (first | apply Kd.R_alloc | apply Kd.R_drewN | apply Kd.R_drew)); exact HO114.out) (by decide)) hk (fun _ h => h.2)) (fun _ h => h.1)); have n2_ := Aside0.mk (KeepBut.blk hk (g' := gb118) (o := .cells #[.int .i64 (wrap64 (1 + t133)), .int .i64 (rd y121 t124), .int .i64 (rd y112 t115)] 88 (0, 0)) (by (with_reducible repeat (first | refine blk_drewN ?_ _ | refine blk_drew ?_ | refine blk_alloc ?_ _)); exact BK118.out) NB118_0.out (by simp)); have n3_ := Aside0.mk (Kd.R_mono (Kd.R_keep (IsS110.apart (show IsS110 w0 _ g s0_0 t136 from by repeat (first | (with_reducible first | exact HI0.out | apply IsS110.alloc | apply IsS110.drewN | apply IsS110.drew | apply IsS110.set_1 | refine IsS110.far ?_ NB0_109.out _ | refine IsS110.far ?_ NB0_118.out _) | exact HI0.out)) (by (with_reducible repeat (first | apply Kd.R_alloc | apply Kd.R_drewN | apply Kd.R_drew)); exact HO123.out) (by decide)) hk (fun _ h => h.2)) (fun _ h => h.1)); have n4_ := Aside0.mk (Kd.R_mono (Kd.R_keep (IsS110.apart (show IsS110 w0 _ g s0_0 t136 from by repeat (first | (with_reducible first | exact HI0.out | apply IsS110.alloc | apply IsS110.drewN | apply IsS110.drew | apply IsS110.set_1 | refine IsS110.far ?_ NB0_109.out _ | refine IsS110.far ?_ NB0_118.out _) | exact HI0.out)) (by (with_reducible repeat (first | apply Kd.R_alloc | apply Kd.R_drewN | apply Kd.R_drew)); exact HO129.out) (by decide)) hk (fun _ h => h.2)) (fun _ h => h.1)); have n5_ := Aside0.mk (KeepBut.trans (by repeat (first | (with_reducible first | exact HK.out | apply KeepBut.set_ | apply keep_drewN | apply keep_drew | apply keep_alloc | refine keep_far ?_ GW109.out _ | refine keep_far ?_ GW118.out _) | exact HK.out)) hk (.inl rfl)); have n6_ := Aside0.mk (hb); have n7_ := Aside0.mk (hi); clear BK109; clear HO114; clear BK118; clear HO123; clear HO129; clear HK; clear HB; clear HI0; have BK109 := n0_; have HO114 := n1_; have BK118 := n2_; have HO123 := n3_; have HO129 := n4_; have HK := n5_; have HB := n6_; have HI0 := n7_; clear n0_ n1_ n2_ n3_ n4_ n5_ n6_ n7_; (try clear hb); (try clear hb2); (try clear hk); (try clear hi)))
             have pi150 : (0 ≤ (t148 : Int)) = True := eq_true (of_decide_eq_true (by first | (with_reducible assumption) | assumption))
             have qi150 : (t148 < (y145.length : Int)) = True := eq_true (of_decide_eq_true (by first | (with_reducible assumption) | assumption))
             have n0_ := Aside0.mk (Kd.R_drew HO114.out)
             have n1_ := Aside0.mk (Kd.R_drew HO123.out)
             have n2_ := Aside0.mk (Kd.R_drew HO129.out)
             have n3_ := Aside0.mk (blk_drew BK109.out)
             have n4_ := Aside0.mk (blk_drew BK118.out)
             have n5_ := Aside0.mk (IsS110.drew HI0.out)
             have n6_ := Aside0.mk (keep_drew HK.out)
             have n7_ := Aside0.mk (below_drew1 HB.out)
             clear HO114
             clear HO123
             clear HO129
             clear BK109
             clear BK118
             clear HI0
             clear HK
             clear HB
             have HO114 := n0_
             have HO123 := n1_
             have HO129 := n2_
             have BK109 := n3_
             have BK118 := n4_
             have HI0 := n5_
             have HK := n6_
             have HB := n7_
             clear n0_ n1_ n2_ n3_ n4_ n5_ n6_ n7_
             refine start_ (n := 10) (S := fun w' => w'.cell? ⟨gb118, 0, none⟩ = some (.int .i64 (wrap64 (1 + t133))) ∧ w'.cell? ⟨gb118, 1, none⟩ = some (.int .i64 (rd y121 t124)) ∧ w'.cell? ⟨gb118, 2, none⟩ = some (.int .i64 (rd y112 t115))) (ds := [9]) #[false, false, false, false, false, false, false, false, false, false] (by kernel_rfl) rfl rfl ⟨(blk_cell BK118.out 0).trans rfl, (blk_cell BK118.out 1).trans rfl, (blk_cell BK118.out 2).trans rfl⟩ (fun hHeld => ?_); refine with_tabW spec_l20Task.tab10 spec_l20Task.bits10 (fun HT_ HW_ => ?_)
             generalize w71.drew = w72 at HO114 HO123 HO129 BK109 BK118 HI0 HK HB hHeld ⊢
             refine pure_ (i := 0) (N := some 76) (v := ?_) (a' := ?_) #[true, false, false, false, false, false, false, false, false, false] rfl rfl (any_of HT_.out (by kernel_rfl)) (fun _ _ _ h => h) (Or.inl ⟨by rfl, ?_⟩) ?_ ?_
             rotate_left
             ·intro w'
              go_simp
              with_reducible rfl
             rotate_left
             ·simp only [Act.put, List.setIfInBounds_toArray, List.set_cons_zero, List.set_cons_succ, i64_w, i32_w]
              rfl
             refine pure_ (i := 4) (N := some 80) (v := ?_) (a' := ?_) #[true, false, false, false, true, false, false, false, false, false] rfl rfl (any_of HT_.out (by kernel_rfl)) (fun _ _ _ h => h) (Or.inl ⟨by rfl, ?_⟩) ?_ ?_
             rotate_left
             ·intro w'
              go_simp
              with_reducible rfl
             rotate_left
             ·simp only [Act.put, List.setIfInBounds_toArray, List.set_cons_zero, List.set_cons_succ, i64_w, i32_w]
              rfl
             refine take_ (i := 1) (N := some 77) (v := ?_) (a' := ?_) #[true, true, false, false, true, false, false, false, false, false] rfl rfl (take_ofW HT_.out HW_.out (by kernel_rfl)) (fun _ _ _ h => h) (Or.inl ⟨by rfl, ?_⟩) hHeld ?_ ?_
             rotate_left
             ·rintro w' ⟨s0, s1, s2⟩
              go_simp
              with_reducible rfl
             rotate_left
             ·simp only [Act.put, List.setIfInBounds_toArray, List.set_cons_zero, List.set_cons_succ, i64_w, i32_w]
              rfl
             refine pure_ (i := 2) (N := some 78) (v := ?_) (a' := ?_) #[true, true, true, false, true, false, false, false, false, false] rfl rfl (any_of HT_.out (by kernel_rfl)) (fun _ _ _ h => h) (Or.inl ⟨by rfl, ?_⟩) ?_ ?_
             rotate_left
             ·intro w'
              go_simp
              with_reducible rfl
             rotate_left
             ·simp only [Act.put, List.setIfInBounds_toArray, List.set_cons_zero, List.set_cons_succ, i64_w, i32_w]
              rfl
             refine join_ (σ := Value × Addr) 4 #[true, true, true, true, true, true, false, false, false, false] (fun s_ => [(79, s_.1), (81, .int .i64 t148)]) (fun s_ w' => (w'.cell? ⟨gb118, 0, none⟩ = some (.int .i64 (wrap64 (1 + t133))) ∧ w'.cell? ⟨gb118, 1, none⟩ = some (.int .i64 (rd y121 t124)) ∧ w'.cell? ⟨gb118, 2, none⟩ = some (.int .i64 (rd y112 t115))) ∧ (Kd.R (Kd.int .i64) 3 w' w.heap.size (fun k_ => some k_ ≠ (.slice (some adz_v122) y121.length co39 : Value).ownBlock ∧ some k_ ≠ (.slice (some adz_v128) y127.length co48 : Value).ownBlock ∧ some k_ ≠ (s_.1 : Value).ownBlock) (.slice (some ad117) y112.length co26) y112) ∧ (Kd.R (Kd.int .i64) 3 w' w.heap.size (fun k_ => some k_ ≠ (.slice (some ad117) y112.length co26 : Value).ownBlock ∧ some k_ ≠ (.slice (some adz_v128) y127.length co48 : Value).ownBlock ∧ some k_ ≠ (s_.1 : Value).ownBlock) (.slice (some adz_v122) y121.length co39) y121) ∧ (Kd.R (Kd.int .i64) 3 w' w.heap.size (fun k_ => some k_ ≠ (.slice (some ad117) y112.length co26 : Value).ownBlock ∧ some k_ ≠ (.slice (some adz_v122) y121.length co39 : Value).ownBlock ∧ some k_ ≠ (s_.1 : Value).ownBlock) (.slice (some adz_v128) y127.length co48) y127) ∧ (Kd.R (Kd.int .i64) 3 w' w.heap.size (fun k_ => some k_ ≠ (.slice (some ad117) y112.length co26 : Value).ownBlock ∧ some k_ ≠ (.slice (some adz_v122) y121.length co39 : Value).ownBlock ∧ some k_ ≠ (.slice (some adz_v128) y127.length co48 : Value).ownBlock) s_.1 y145) ∧ (∃ c_, (s_.1 : Value) = .slice (some s_.2) y145.length c_) ∧ (w'.heap[gb109]? = some (.cells #[.int .i64 0, .int .i64 0, .int .i64 0] 88 (0, 0))) ∧ (w'.heap[gb118]? = some (.cells #[.int .i64 (wrap64 (1 + t133)), .int .i64 (rd y121 t124), .int .i64 (rd y112 t115)] 88 (0, 0))) ∧ (IsS110 w0 w' g s0_0 t149) ∧ (KeepBut w w' g none) ∧ (Below w0.heap.size w0 w')) ?_ ?_
             rotate_left
             ·intro hCont
              refine two_ (i := 3) (j := 5) (Ni := some 79) (Nj := some 81) #[true, true, true, true, true, false, false, false, false, false] #[true, true, true, false, true, true, false, false, false, false] rfl rfl rfl rfl (two_of HT_.out (by kernel_rfl)) (by decide) (by decide) (fun K hK => ?_) (fun K hK => ?_)
              ·skip
               refine Kd.R_lit_step (Kd.int .i64) _ 3 ?hg (N := 79) ?hd (xs := ([0, wrap64 ((rd y112 t115) + 1), (-1)] : List Int)) (inner := [.int .i64 0, .int .i64 (wrap64 ((rd y112 t115) + 1)), .int .i64 (-1)]) (ok := fun _ => True) (okp := fun _ => True) ?hr ?hp (fun _ hk => hk) trivial (Below.refl _ _) (Nat.le_refl _) (by simp) ?_; (case hd => rfl); (case hg => rfl); (case hr => first | (go_simp; done) | (go_simp; rfl)); (case hp => exact (Reps.one (show Kd.M (Kd.int .i64) _ _ _ 0 [.int .i64 0] from rfl) (Reps.one (show Kd.M (Kd.int .i64) _ _ _ (wrap64 ((rd y112 t115) + 1)) [.int .i64 (wrap64 ((rd y112 t115) + 1))] from rfl) (Reps.one (show Kd.M (Kd.int .i64) _ _ _ (-1) [.int .i64 (-1)] from rfl) (Reps.none _ _)))))
               intro v146 w73 ho74 hb hg_ hnew_
               clear hg_ hnew_
               (first | rw [← Ny145.out] at ho74 | (simp only [Int.reduceToNat] at ho74; rw [← Ny145.out] at ho74))
               have n0_ := Aside0.mk (Kd.R_elder' (by (with_reducible repeat (first | apply Kd.R_alloc | apply Kd.R_drewN | apply Kd.R_drew)); exact HO114.out) (Kd.R_base ho74) hb)
               have n1_ := Aside0.mk (Kd.R_elder' (by (with_reducible repeat (first | apply Kd.R_alloc | apply Kd.R_drewN | apply Kd.R_drew)); exact HO123.out) (Kd.R_base ho74) hb)
               have n2_ := Aside0.mk (Kd.R_elder' (by (with_reducible repeat (first | apply Kd.R_alloc | apply Kd.R_drewN | apply Kd.R_drew)); exact HO129.out) (Kd.R_base ho74) hb)
               have n3_ := Aside0.mk (Kd.R_lower (Kd.R_new' (Kd.R_new' (Kd.R_new' ho74 (Kd.R_lt (by (with_reducible repeat (first | apply Kd.R_alloc | apply Kd.R_drewN | apply Kd.R_drew)); exact HO114.out))) (Kd.R_lt (by (with_reducible repeat (first | apply Kd.R_alloc | apply Kd.R_drewN | apply Kd.R_drew)); exact HO123.out))) (Kd.R_lt (by (with_reducible repeat (first | apply Kd.R_alloc | apply Kd.R_drewN | apply Kd.R_drew)); exact HO129.out))) (keep_size (w := w) (g := g) (row := none) (by repeat (first | (with_reducible first | exact HK.out | apply KeepBut.set_ | apply keep_drewN | apply keep_drew | apply keep_alloc | refine keep_far ?_ GW109.out _ | refine keep_far ?_ GW118.out _) | exact HK.out))))
               have n4_ := Aside0.mk (IsS110.below (by repeat (first | (with_reducible first | exact HI0.out | apply IsS110.alloc | apply IsS110.drewN | apply IsS110.drew | apply IsS110.set_1 | refine IsS110.far ?_ NB0_109.out _ | refine IsS110.far ?_ NB0_118.out _) | exact HI0.out)) hb)
               have n5_ := Aside0.mk (blk_below (g := gb109) (o := .cells #[.int .i64 0, .int .i64 0, .int .i64 0] 88 (0, 0)) (by (with_reducible repeat (first | refine blk_drewN ?_ _ | refine blk_drew ?_ | refine blk_alloc ?_ _)); exact BK109.out) hb)
               have n6_ := Aside0.mk (blk_below (g := gb118) (o := .cells #[.int .i64 (wrap64 (1 + t133)), .int .i64 (rd y121 t124), .int .i64 (rd y112 t115)] 88 (0, 0)) (by (with_reducible repeat (first | refine blk_drewN ?_ _ | refine blk_drew ?_ | refine blk_alloc ?_ _)); exact BK118.out) hb)
               have n7_ := Aside0.mk (KeepBut.trans (by repeat (first | (with_reducible first | exact HK.out | apply KeepBut.set_ | apply keep_drewN | apply keep_drew | apply keep_alloc | refine keep_far ?_ GW109.out _ | refine keep_far ?_ GW118.out _) | exact HK.out)) (KeepBut.of_below hb g none) (.inl rfl))
               have n8_ := Aside0.mk (below_step (by repeat (first | (with_reducible first | exact HB.out | apply below_alloc | apply pw_below_drewN | apply below_drew1 | refine below_set ?_ (IsS110.ge HI0.out) | refine below_set ?_ GE109.out | refine below_set ?_ GE118.out) | exact HB.out)) hb)
               clear HO114
               clear HO123
               clear HO129
               clear HI0
               clear BK109
               clear BK118
               clear HK
               clear HB
               have HO114 := n0_
               have HO123 := n1_
               have HO129 := n2_
               have HO147 := n3_
               have HI0 := n4_
               have BK109 := n5_
               have BK118 := n6_
               have HK := n7_
               have HB := n8_
               clear n0_ n1_ n2_ n3_ n4_ n5_ n6_ n7_ n8_
               clear hb ho74
               obtain ⟨Ao75, co75, eo75⟩ := Kd.R_slice HO147.out
               subst eo75
               obtain ⟨ado75, fo75, _⟩ := Kd.at_int (Kd.R_reads' HO147.out).2.2 0 (by decide) (by rw [Ny145.out]; simp)
               cases fo75
               refine hK.out _ _ ⟨(blk_cell BK118.out 0).trans rfl, (blk_cell BK118.out 1).trans rfl, (blk_cell BK118.out 2).trans rfl⟩ (fun hHeld => ?_)
               clear hK K
               refine norm_ (a' := ?_) ?_ ?_
               rotate_left
               ·show Act.put _ (some 79) _ = _
                simp only [Act.put, List.setIfInBounds_toArray, List.set_cons_zero, List.set_cons_succ, i64_w, i32_w]
                rfl
               refine one_ (i := 5) (N := some 81) #[true, true, true, true, true, true, false, false, false, false] rfl rfl (one_of HT_.out (by kernel_rfl)) (by decide) (fun K hK => ?_)
               refine goes_ Try.func68 (by kernel_rfl) rfl #[.pointer (some ⟨g, 0, none⟩), .int .i64 3] (by rfl) rfl rfl (by (try simp only [List.map_toArray, List.map_cons, List.map_nil]); first | done | rfl | (simp only [List.length_drop, List.length_take]; rfl)) ?_
               with_reducible refine (spec_l20Rd_pick.calls k g s0_0 t138 3 t148 t149 w0 _ ?side1 ?side2 A68.out).mono ?_
               (case side1 => repeat (first | (with_reducible first | exact HI0.out | apply IsS110.alloc | apply IsS110.drewN | apply IsS110.drew | apply IsS110.set_1 | refine IsS110.far ?_ NB0_109.out _ | refine IsS110.far ?_ NB0_118.out _) | exact HI0.out))
               (case side2 => repeat (first | (with_reducible first | exact HB.out | apply below_alloc | apply pw_below_drewN | apply below_drew1 | refine below_set ?_ (IsS110.ge HI0.out) | refine below_set ?_ GE109.out | refine below_set ?_ GE118.out) | exact HB.out))
               rintro e w76 ⟨rfl, hi, hb, hk⟩
               refine ⟨_, rfl, ?_⟩
               have n0_ := Aside0.mk (KeepBut.blk hk (g' := gb109) (o := .cells #[.int .i64 0, .int .i64 0, .int .i64 0] 88 (0, 0)) (by (with_reducible repeat (first | refine blk_drewN ?_ _ | refine blk_drew ?_ | refine blk_alloc ?_ _)); exact BK109.out) NB109_0.out (by simp))
               have n1_ := Aside0.mk (Kd.R_mono (Kd.R_keep (IsS110.apart (show IsS110 w0 _ g s0_0 t138 from by repeat (first | (with_reducible first | exact HI0.out | apply IsS110.alloc | apply IsS110.drewN | apply IsS110.drew | apply IsS110.set_1 | refine IsS110.far ?_ NB0_109.out _ | refine IsS110.far ?_ NB0_118.out _) | exact HI0.out)) (by (with_reducible repeat (first | apply Kd.R_alloc | apply Kd.R_drewN | apply Kd.R_drew)); exact HO114.out) (by decide)) hk (fun _ h => h.2)) (fun _ h => h.1))
               have n2_ := Aside0.mk (KeepBut.blk hk (g' := gb118) (o := .cells #[.int .i64 (wrap64 (1 + t133)), .int .i64 (rd y121 t124), .int .i64 (rd y112 t115)] 88 (0, 0)) (by (with_reducible repeat (first | refine blk_drewN ?_ _ | refine blk_drew ?_ | refine blk_alloc ?_ _)); exact BK118.out) NB118_0.out (by simp))
               have n3_ := Aside0.mk (Kd.R_mono (Kd.R_keep (IsS110.apart (show IsS110 w0 _ g s0_0 t138 from by repeat (first | (with_reducible first | exact HI0.out | apply IsS110.alloc | apply IsS110.drewN | apply IsS110.drew | apply IsS110.set_1 | refine IsS110.far ?_ NB0_109.out _ | refine IsS110.far ?_ NB0_118.out _) | exact HI0.out)) (by (with_reducible repeat (first | apply Kd.R_alloc | apply Kd.R_drewN | apply Kd.R_drew)); exact HO123.out) (by decide)) hk (fun _ h => h.2)) (fun _ h => h.1))
               have n4_ := Aside0.mk (Kd.R_mono (Kd.R_keep (IsS110.apart (show IsS110 w0 _ g s0_0 t138 from by repeat (first | (with_reducible first | exact HI0.out | apply IsS110.alloc | apply IsS110.drewN | apply IsS110.drew | apply IsS110.set_1 | refine IsS110.far ?_ NB0_109.out _ | refine IsS110.far ?_ NB0_118.out _) | exact HI0.out)) (by (with_reducible repeat (first | apply Kd.R_alloc | apply Kd.R_drewN | apply Kd.R_drew)); exact HO129.out) (by decide)) hk (fun _ h => h.2)) (fun _ h => h.1))
               have n5_ := Aside0.mk (Kd.R_mono (Kd.R_keep (IsS110.apart (show IsS110 w0 _ g s0_0 t138 from by repeat (first | (with_reducible first | exact HI0.out | apply IsS110.alloc | apply IsS110.drewN | apply IsS110.drew | apply IsS110.set_1 | refine IsS110.far ?_ NB0_109.out _ | refine IsS110.far ?_ NB0_118.out _) | exact HI0.out)) (by (with_reducible repeat (first | apply Kd.R_alloc | apply Kd.R_drewN | apply Kd.R_drew)); exact HO147.out) (by decide)) hk (fun _ h => h.2)) (fun _ h => h.1))
               have n6_ := Aside0.mk (KeepBut.trans (by repeat (first | (with_reducible first | exact HK.out | apply KeepBut.set_ | apply keep_drewN | apply keep_drew | apply keep_alloc | refine keep_far ?_ GW109.out _ | refine keep_far ?_ GW118.out _) | exact HK.out)) hk (.inl rfl))
               have n7_ := Aside0.mk (hb)
               have n8_ := Aside0.mk (hi)
               clear BK109
               clear HO114
               clear BK118
               clear HO123
               clear HO129
               clear HO147
               clear HK
               clear HB
               clear HI0
               have BK109 := n0_
               have HO114 := n1_
               have BK118 := n2_
               have HO123 := n3_
               have HO129 := n4_
               have HO147 := n5_
               have HK := n6_
               have HB := n7_
               have HI0 := n8_
               clear n0_ n1_ n2_ n3_ n4_ n5_ n6_ n7_ n8_
               (try clear hb)
               (try clear hb2)
               (try clear hk)
               (try clear hi)
               refine hK.out _ _ ⟨(blk_cell BK118.out 0).trans rfl, (blk_cell BK118.out 1).trans rfl, (blk_cell BK118.out 2).trans rfl⟩ (fun hHeld => ?_)
               clear hK K
               refine norm_ (a' := ?_) ?_ ?_
               rotate_left
               ·show Act.put _ (some 81) _ = _
                simp only [Act.put, List.setIfInBounds_toArray, List.set_cons_zero, List.set_cons_succ, i64_w, i32_w]
                rfl
               exact norm_ (by simp only [putAll, Act.put, List.setIfInBounds_toArray, List.set_cons_zero, List.set_cons_succ]) (hCont (.slice (some ado75) y145.length co75, ado75) _ ⟨hHeld, (by (with_reducible repeat (first | apply Kd.R_alloc | apply Kd.R_drewN | apply Kd.R_drew)); exact Kd.R_mono HO114.out (fun _ hk => ⟨hk.1.1, ⟨hk.1.2, hk.2⟩⟩)), (by (with_reducible repeat (first | apply Kd.R_alloc | apply Kd.R_drewN | apply Kd.R_drew)); exact Kd.R_mono HO123.out (fun _ hk => ⟨hk.1.1, ⟨hk.1.2, hk.2⟩⟩)), (by (with_reducible repeat (first | apply Kd.R_alloc | apply Kd.R_drewN | apply Kd.R_drew)); exact Kd.R_mono HO129.out (fun _ hk => ⟨hk.1.1, ⟨hk.1.2, hk.2⟩⟩)), (by (with_reducible repeat (first | apply Kd.R_alloc | apply Kd.R_drewN | apply Kd.R_drew)); exact Kd.R_mono HO147.out (fun _ hk => ⟨hk.1.1.2, ⟨hk.1.2, hk.2⟩⟩)), ⟨_, rfl⟩, (by (with_reducible repeat (first | refine blk_drewN ?_ _ | refine blk_drew ?_ | refine blk_alloc ?_ _)); exact BK109.out), (by (with_reducible repeat (first | refine blk_drewN ?_ _ | refine blk_drew ?_ | refine blk_alloc ?_ _)); exact BK118.out), (by repeat (first | (with_reducible first | exact HI0.out | apply IsS110.alloc | apply IsS110.drewN | apply IsS110.drew | apply IsS110.set_1 | refine IsS110.far ?_ NB0_109.out _ | refine IsS110.far ?_ NB0_118.out _) | exact HI0.out)), (by repeat (first | (with_reducible first | exact HK.out | apply KeepBut.set_ | apply keep_drewN | apply keep_drew | apply keep_alloc | refine keep_far ?_ GW109.out _ | refine keep_far ?_ GW118.out _) | exact HK.out)), (by repeat (first | (with_reducible first | exact HB.out | apply below_alloc | apply pw_below_drewN | apply below_drew1 | refine below_set ?_ (IsS110.ge HI0.out) | refine below_set ?_ GE109.out | refine below_set ?_ GE118.out) | exact HB.out))⟩)
              ·skip
               refine goes_ Try.func68 (by kernel_rfl) rfl #[.pointer (some ⟨g, 0, none⟩), .int .i64 3] (by rfl) rfl rfl (by (try simp only [List.map_toArray, List.map_cons, List.map_nil]); first | done | rfl | (simp only [List.length_drop, List.length_take]; rfl)) ?_
               with_reducible refine (spec_l20Rd_pick.calls k g s0_0 t138 3 t148 t149 w0 _ ?side1 ?side2 A68.out).mono ?_
               (case side1 => repeat (first | (with_reducible first | exact HI0.out | apply IsS110.alloc | apply IsS110.drewN | apply IsS110.drew | apply IsS110.set_1 | refine IsS110.far ?_ NB0_109.out _ | refine IsS110.far ?_ NB0_118.out _) | exact HI0.out))
               (case side2 => repeat (first | (with_reducible first | exact HB.out | apply below_alloc | apply pw_below_drewN | apply below_drew1 | refine below_set ?_ (IsS110.ge HI0.out) | refine below_set ?_ GE109.out | refine below_set ?_ GE118.out) | exact HB.out))
               rintro e w73 ⟨rfl, hi, hb, hk⟩
               refine ⟨_, rfl, ?_⟩
               have n0_ := Aside0.mk (KeepBut.blk hk (g' := gb109) (o := .cells #[.int .i64 0, .int .i64 0, .int .i64 0] 88 (0, 0)) (by (with_reducible repeat (first | refine blk_drewN ?_ _ | refine blk_drew ?_ | refine blk_alloc ?_ _)); exact BK109.out) NB109_0.out (by simp))
               have n1_ := Aside0.mk (Kd.R_mono (Kd.R_keep (IsS110.apart (show IsS110 w0 _ g s0_0 t138 from by repeat (first | (with_reducible first | exact HI0.out | apply IsS110.alloc | apply IsS110.drewN | apply IsS110.drew | apply IsS110.set_1 | refine IsS110.far ?_ NB0_109.out _ | refine IsS110.far ?_ NB0_118.out _) | exact HI0.out)) (by (with_reducible repeat (first | apply Kd.R_alloc | apply Kd.R_drewN | apply Kd.R_drew)); exact HO114.out) (by decide)) hk (fun _ h => h.2)) (fun _ h => h.1))
               have n2_ := Aside0.mk (KeepBut.blk hk (g' := gb118) (o := .cells #[.int .i64 (wrap64 (1 + t133)), .int .i64 (rd y121 t124), .int .i64 (rd y112 t115)] 88 (0, 0)) (by (with_reducible repeat (first | refine blk_drewN ?_ _ | refine blk_drew ?_ | refine blk_alloc ?_ _)); exact BK118.out) NB118_0.out (by simp))
               have n3_ := Aside0.mk (Kd.R_mono (Kd.R_keep (IsS110.apart (show IsS110 w0 _ g s0_0 t138 from by repeat (first | (with_reducible first | exact HI0.out | apply IsS110.alloc | apply IsS110.drewN | apply IsS110.drew | apply IsS110.set_1 | refine IsS110.far ?_ NB0_109.out _ | refine IsS110.far ?_ NB0_118.out _) | exact HI0.out)) (by (with_reducible repeat (first | apply Kd.R_alloc | apply Kd.R_drewN | apply Kd.R_drew)); exact HO123.out) (by decide)) hk (fun _ h => h.2)) (fun _ h => h.1))
               have n4_ := Aside0.mk (Kd.R_mono (Kd.R_keep (IsS110.apart (show IsS110 w0 _ g s0_0 t138 from by repeat (first | (with_reducible first | exact HI0.out | apply IsS110.alloc | apply IsS110.drewN | apply IsS110.drew | apply IsS110.set_1 | refine IsS110.far ?_ NB0_109.out _ | refine IsS110.far ?_ NB0_118.out _) | exact HI0.out)) (by (with_reducible repeat (first | apply Kd.R_alloc | apply Kd.R_drewN | apply Kd.R_drew)); exact HO129.out) (by decide)) hk (fun _ h => h.2)) (fun _ h => h.1))
               have n5_ := Aside0.mk (KeepBut.trans (by repeat (first | (with_reducible first | exact HK.out | apply KeepBut.set_ | apply keep_drewN | apply keep_drew | apply keep_alloc | refine keep_far ?_ GW109.out _ | refine keep_far ?_ GW118.out _) | exact HK.out)) hk (.inl rfl))
               have n6_ := Aside0.mk (hb)
               have n7_ := Aside0.mk (hi)
               clear BK109
               clear HO114
               clear BK118
               clear HO123
               clear HO129
               clear HK
               clear HB
               clear HI0
               have BK109 := n0_
               have HO114 := n1_
               have BK118 := n2_
               have HO123 := n3_
               have HO129 := n4_
               have HK := n5_
               have HB := n6_
               have HI0 := n7_
               clear n0_ n1_ n2_ n3_ n4_ n5_ n6_ n7_
               (try clear hb)
               (try clear hb2)
               (try clear hk)
               (try clear hi)
               refine hK.out _ _ ⟨(blk_cell BK118.out 0).trans rfl, (blk_cell BK118.out 1).trans rfl, (blk_cell BK118.out 2).trans rfl⟩ (fun hHeld => ?_)
               clear hK K
               refine norm_ (a' := ?_) ?_ ?_
               rotate_left
               ·show Act.put _ (some 81) _ = _
                simp only [Act.put, List.setIfInBounds_toArray, List.set_cons_zero, List.set_cons_succ, i64_w, i32_w]
                rfl
               refine one_ (i := 3) (N := some 79) #[true, true, true, true, true, true, false, false, false, false] rfl rfl (one_of HT_.out (by kernel_rfl)) (by decide) (fun K hK => ?_)
               refine Kd.R_lit_step (Kd.int .i64) _ 3 ?hg (N := 79) ?hd (xs := ([0, wrap64 ((rd y112 t115) + 1), (-1)] : List Int)) (inner := [.int .i64 0, .int .i64 (wrap64 ((rd y112 t115) + 1)), .int .i64 (-1)]) (ok := fun _ => True) (okp := fun _ => True) ?hr ?hp (fun _ hk => hk) trivial (Below.refl _ _) (Nat.le_refl _) (by simp) ?_; (case hd => rfl); (case hg => rfl); (case hr => first | (go_simp; done) | (go_simp; rfl)); (case hp => exact (Reps.one (show Kd.M (Kd.int .i64) _ _ _ 0 [.int .i64 0] from rfl) (Reps.one (show Kd.M (Kd.int .i64) _ _ _ (wrap64 ((rd y112 t115) + 1)) [.int .i64 (wrap64 ((rd y112 t115) + 1))] from rfl) (Reps.one (show Kd.M (Kd.int .i64) _ _ _ (-1) [.int .i64 (-1)] from rfl) (Reps.none _ _)))))
               intro v146 w74 ho75 hb hg_ hnew_
               clear hg_ hnew_
               (first | rw [← Ny145.out] at ho75 | (simp only [Int.reduceToNat] at ho75; rw [← Ny145.out] at ho75))
               have n0_ := Aside0.mk (Kd.R_elder' (by (with_reducible repeat (first | apply Kd.R_alloc | apply Kd.R_drewN | apply Kd.R_drew)); exact HO114.out) (Kd.R_base ho75) hb)
               have n1_ := Aside0.mk (Kd.R_elder' (by (with_reducible repeat (first | apply Kd.R_alloc | apply Kd.R_drewN | apply Kd.R_drew)); exact HO123.out) (Kd.R_base ho75) hb)
               have n2_ := Aside0.mk (Kd.R_elder' (by (with_reducible repeat (first | apply Kd.R_alloc | apply Kd.R_drewN | apply Kd.R_drew)); exact HO129.out) (Kd.R_base ho75) hb)
               have n3_ := Aside0.mk (Kd.R_lower (Kd.R_new' (Kd.R_new' (Kd.R_new' ho75 (Kd.R_lt (by (with_reducible repeat (first | apply Kd.R_alloc | apply Kd.R_drewN | apply Kd.R_drew)); exact HO114.out))) (Kd.R_lt (by (with_reducible repeat (first | apply Kd.R_alloc | apply Kd.R_drewN | apply Kd.R_drew)); exact HO123.out))) (Kd.R_lt (by (with_reducible repeat (first | apply Kd.R_alloc | apply Kd.R_drewN | apply Kd.R_drew)); exact HO129.out))) (keep_size (w := w) (g := g) (row := none) (by repeat (first | (with_reducible first | exact HK.out | apply KeepBut.set_ | apply keep_drewN | apply keep_drew | apply keep_alloc | refine keep_far ?_ GW109.out _ | refine keep_far ?_ GW118.out _) | exact HK.out))))
               have n4_ := Aside0.mk (IsS110.below (by repeat (first | (with_reducible first | exact HI0.out | apply IsS110.alloc | apply IsS110.drewN | apply IsS110.drew | apply IsS110.set_1 | refine IsS110.far ?_ NB0_109.out _ | refine IsS110.far ?_ NB0_118.out _) | exact HI0.out)) hb)
               have n5_ := Aside0.mk (blk_below (g := gb109) (o := .cells #[.int .i64 0, .int .i64 0, .int .i64 0] 88 (0, 0)) (by (with_reducible repeat (first | refine blk_drewN ?_ _ | refine blk_drew ?_ | refine blk_alloc ?_ _)); exact BK109.out) hb)
               have n6_ := Aside0.mk (blk_below (g := gb118) (o := .cells #[.int .i64 (wrap64 (1 + t133)), .int .i64 (rd y121 t124), .int .i64 (rd y112 t115)] 88 (0, 0)) (by (with_reducible repeat (first | refine blk_drewN ?_ _ | refine blk_drew ?_ | refine blk_alloc ?_ _)); exact BK118.out) hb)
               have n7_ := Aside0.mk (KeepBut.trans (by repeat (first | (with_reducible first | exact HK.out | apply KeepBut.set_ | apply keep_drewN | apply keep_drew | apply keep_alloc | refine keep_far ?_ GW109.out _ | refine keep_far ?_ GW118.out _) | exact HK.out)) (KeepBut.of_below hb g none) (.inl rfl))
               have n8_ := Aside0.mk (below_step (by repeat (first | (with_reducible first | exact HB.out | apply below_alloc | apply pw_below_drewN | apply below_drew1 | refine below_set ?_ (IsS110.ge HI0.out) | refine below_set ?_ GE109.out | refine below_set ?_ GE118.out) | exact HB.out)) hb)
               clear HO114
               clear HO123
               clear HO129
               clear HI0
               clear BK109
               clear BK118
               clear HK
               clear HB
               have HO114 := n0_
               have HO123 := n1_
               have HO129 := n2_
               have HO147 := n3_
               have HI0 := n4_
               have BK109 := n5_
               have BK118 := n6_
               have HK := n7_
               have HB := n8_
               clear n0_ n1_ n2_ n3_ n4_ n5_ n6_ n7_ n8_
               clear hb ho75
               obtain ⟨Ao76, co76, eo76⟩ := Kd.R_slice HO147.out
               subst eo76
               obtain ⟨ado76, fo76, _⟩ := Kd.at_int (Kd.R_reads' HO147.out).2.2 0 (by decide) (by rw [Ny145.out]; simp)
               cases fo76
               refine hK.out _ _ ⟨(blk_cell BK118.out 0).trans rfl, (blk_cell BK118.out 1).trans rfl, (blk_cell BK118.out 2).trans rfl⟩ (fun hHeld => ?_)
               clear hK K
               refine norm_ (a' := ?_) ?_ ?_
               rotate_left
               ·show Act.put _ (some 79) _ = _
                simp only [Act.put, List.setIfInBounds_toArray, List.set_cons_zero, List.set_cons_succ, i64_w, i32_w]
                rfl
               exact norm_ (by simp only [putAll, Act.put, List.setIfInBounds_toArray, List.set_cons_zero, List.set_cons_succ]) (hCont (.slice (some ado76) y145.length co76, ado76) _ ⟨hHeld, (by (with_reducible repeat (first | apply Kd.R_alloc | apply Kd.R_drewN | apply Kd.R_drew)); exact Kd.R_mono HO114.out (fun _ hk => ⟨hk.1.1, ⟨hk.1.2, hk.2⟩⟩)), (by (with_reducible repeat (first | apply Kd.R_alloc | apply Kd.R_drewN | apply Kd.R_drew)); exact Kd.R_mono HO123.out (fun _ hk => ⟨hk.1.1, ⟨hk.1.2, hk.2⟩⟩)), (by (with_reducible repeat (first | apply Kd.R_alloc | apply Kd.R_drewN | apply Kd.R_drew)); exact Kd.R_mono HO129.out (fun _ hk => ⟨hk.1.1, ⟨hk.1.2, hk.2⟩⟩)), (by (with_reducible repeat (first | apply Kd.R_alloc | apply Kd.R_drewN | apply Kd.R_drew)); exact Kd.R_mono HO147.out (fun _ hk => ⟨hk.1.1.2, ⟨hk.1.2, hk.2⟩⟩)), ⟨_, rfl⟩, (by (with_reducible repeat (first | refine blk_drewN ?_ _ | refine blk_drew ?_ | refine blk_alloc ?_ _)); exact BK109.out), (by (with_reducible repeat (first | refine blk_drewN ?_ _ | refine blk_drew ?_ | refine blk_alloc ?_ _)); exact BK118.out), (by repeat (first | (with_reducible first | exact HI0.out | apply IsS110.alloc | apply IsS110.drewN | apply IsS110.drew | apply IsS110.set_1 | refine IsS110.far ?_ NB0_109.out _ | refine IsS110.far ?_ NB0_118.out _) | exact HI0.out)), (by repeat (first | (with_reducible first | exact HK.out | apply KeepBut.set_ | apply keep_drewN | apply keep_drew | apply keep_alloc | refine keep_far ?_ GW109.out _ | refine keep_far ?_ GW118.out _) | exact HK.out)), (by repeat (first | (with_reducible first | exact HB.out | apply below_alloc | apply pw_below_drewN | apply below_drew1 | refine below_set ?_ (IsS110.ge HI0.out) | refine below_set ?_ GE109.out | refine below_set ?_ GE118.out) | exact HB.out))⟩)
             rintro ⟨v146, adz_v146⟩ w77 ⟨hS_, h0_, h1_, h2_, h3_, h4_, h5_, h6_, h7_, h8_, h9_⟩
             have n0_ : Aside0 (Kd.R (Kd.int .i64) 3 w77 w.heap.size (fun k_ => some k_ ≠ (.slice (some adz_v122) y121.length co39 : Value).ownBlock ∧ some k_ ≠ (.slice (some adz_v128) y127.length co48 : Value).ownBlock ∧ some k_ ≠ (v146 : Value).ownBlock) (.slice (some ad117) y112.length co26) y112) := ⟨h0_⟩
             have n1_ : Aside0 (Kd.R (Kd.int .i64) 3 w77 w.heap.size (fun k_ => some k_ ≠ (.slice (some ad117) y112.length co26 : Value).ownBlock ∧ some k_ ≠ (.slice (some adz_v128) y127.length co48 : Value).ownBlock ∧ some k_ ≠ (v146 : Value).ownBlock) (.slice (some adz_v122) y121.length co39) y121) := ⟨h1_⟩
             have n2_ : Aside0 (Kd.R (Kd.int .i64) 3 w77 w.heap.size (fun k_ => some k_ ≠ (.slice (some ad117) y112.length co26 : Value).ownBlock ∧ some k_ ≠ (.slice (some adz_v122) y121.length co39 : Value).ownBlock ∧ some k_ ≠ (v146 : Value).ownBlock) (.slice (some adz_v128) y127.length co48) y127) := ⟨h2_⟩
             have n3_ : Aside0 (Kd.R (Kd.int .i64) 3 w77 w.heap.size (fun k_ => some k_ ≠ (.slice (some ad117) y112.length co26 : Value).ownBlock ∧ some k_ ≠ (.slice (some adz_v122) y121.length co39 : Value).ownBlock ∧ some k_ ≠ (.slice (some adz_v128) y127.length co48 : Value).ownBlock) v146 y145) := ⟨h3_⟩
             have n4_ : Aside0 (∃ c_, (v146 : Value) = .slice (some adz_v146) y145.length c_) := ⟨h4_⟩
             have n5_ : Aside0 (w77.heap[gb109]? = some (.cells #[.int .i64 0, .int .i64 0, .int .i64 0] 88 (0, 0))) := ⟨h5_⟩
             have n6_ : Aside0 (w77.heap[gb118]? = some (.cells #[.int .i64 (wrap64 (1 + t133)), .int .i64 (rd y121 t124), .int .i64 (rd y112 t115)] 88 (0, 0))) := ⟨h6_⟩
             have n7_ : Aside0 (IsS110 w0 w77 g s0_0 t149) := ⟨h7_⟩
             have n8_ : Aside0 (KeepBut w w77 g none) := ⟨h8_⟩
             have n9_ : Aside0 (Below w0.heap.size w0 w77) := ⟨h9_⟩
             clear HO114
             clear HO123
             clear HO129
             clear BK109
             clear BK118
             clear HI0
             clear HK
             clear HB
             clear h0_ h1_ h2_ h3_ h4_ h5_ h6_ h7_ h8_ h9_
             have HO114 := n0_
             have HO123 := n1_
             have HO129 := n2_
             have HO147 := n3_
             have HA_HO147 := n4_
             have BK109 := n5_
             have BK118 := n6_
             have HI0 := n7_
             have HK := n8_
             have HB := n9_
             clear n0_ n1_ n2_ n3_ n4_ n5_ n6_ n7_ n8_ n9_
             have hHeld : w77.cell? ⟨gb118, 0, none⟩ = some (.int .i64 (wrap64 (1 + t133))) ∧ w77.cell? ⟨gb118, 1, none⟩ = some (.int .i64 (rd y121 t124)) ∧ w77.cell? ⟨gb118, 2, none⟩ = some (.int .i64 (rd y112 t115)) := hS_
             obtain ⟨co78, eo78⟩ := HA_HO147.out
             clear HA_HO147
             subst eo78
             refine norm_ (a' := ?_) ?_ ?_
             rotate_left
             ·simp only [putAll, Act.put, List.setIfInBounds_toArray, List.set_cons_zero, List.set_cons_succ]
              rfl
             refine pure_ (i := 6) (N := some 82) (v := ?_) (a' := ?_) #[true, true, true, true, true, true, true, false, false, false] rfl rfl (any_of HT_.out (by kernel_rfl)) (fun _ _ _ h => h) (Or.inl ⟨by rfl, ?_⟩) ?_ ?_
             rotate_left
             ·intro w'
              go_simp
              with_reducible rfl
             rotate_left
             ·simp only [Act.put, List.setIfInBounds_toArray, List.set_cons_zero, List.set_cons_succ, i64_w, i32_w]
              rfl
             refine one_ (i := 7) (N := some 83) #[true, true, true, true, true, true, true, true, false, false] rfl rfl (one_of HT_.out (by kernel_rfl)) (by decide) (fun K hK => ?_)
             (have p150 : 0 ≤ (t148 : Int) := of_decide_eq_true (by first | (with_reducible assumption) | assumption); have q150 : t148 < (y145.length : Int) := of_decide_eq_true (by first | (with_reducible assumption) | assumption); obtain ⟨ad150, e150, hx150_0⟩ := Kd.at_int (Kd.R_reads' HO147.out).2.2 t148 p150 q150; obtain rfl : adz_v146 = ad150 := (by injection e150))
             refine value_ (w1 := ?_) (v := ?_) (by rfl) rfl ?_ ?_
             rotate_left 2
             ·go_simp
              constructor
              ·rfl
              ·rfl
             clear hx150_0
             refine hK.out _ _ ⟨(blk_cell BK118.out 0).trans rfl, (blk_cell BK118.out 1).trans rfl, (blk_cell BK118.out 2).trans rfl⟩ (fun hHeld => ?_)
             clear hK K
             refine norm_ (a' := ?_) ?_ ?_
             rotate_left
             ·show Act.put _ (some 83) _ = _
              simp only [Act.put, List.setIfInBounds_toArray, List.set_cons_zero, List.set_cons_succ, i64_w, i32_w]
              rfl
             refine pure_ (i := 8) (N := some 84) (v := ?_) (a' := ?_) #[true, true, true, true, true, true, true, true, true, false] rfl rfl (any_of HT_.out (by kernel_rfl)) (fun _ _ _ h => h) (Or.inl ⟨by rfl, ?_⟩) ?_ ?_
             rotate_left
             ·intro w'
              go_simp
              with_reducible rfl
             rotate_left
             ·simp only [Act.put, List.setIfInBounds_toArray, List.set_cons_zero, List.set_cons_succ, i64_w, i32_w]
              rfl
             refine last_ (i := 9) (N := none) #[true, true, true, true, true, true, true, true, true, true] rfl rfl (one_of HT_.out (by kernel_rfl)) (by decide) (fun K hK => ?_)
             have hs79 : w77.cell? ⟨gb118, 1, none⟩ = some (.int .i64 (rd y121 t124)) := (blk_cell BK118.out 1).trans rfl
             have hfs79 := blk_frozen BK118.out 1
             have hns79_0 := NB109_118.out
             have hms79_0 := NB118_109.out
             refine skip_ (w1 := ?_) (by rfl) rfl ?_ ?_
             rotate_left
             ·go_simp
              rfl
             refine hK.out _ _ ?_
             clear hK K
             refine done_ (done_of HT_.out (by kernel_rfl)) ?_
             try go_wp2
             go_meet
             case rel => exact ⟨_, (t149), (wrap64 (1 + t133)), (rd y145 t148), (rd y112 t115), H', ⟨by first | omega | exact Nat.le_refl _⟩, ⟨by (with_reducible repeat (first | refine blk_drewN ?_ _ | refine blk_drew ?_ | refine blk_alloc ?_ _)); refine blk_far ?_ NB109_118.out _; (with_reducible repeat (first | refine blk_drewN ?_ _ | refine blk_drew ?_ | refine blk_alloc ?_ _)); exact BK109.out⟩, ⟨by (with_reducible repeat (first | refine blk_drewN ?_ _ | refine blk_drew ?_ | refine blk_alloc ?_ _)); refine blk_put (cs := #[.int .i64 (wrap64 (1 + t133)), .int .i64 (rd y121 t124), .int .i64 (rd y112 t115)]) ?_ 1 _ rfl; (with_reducible repeat (first | refine blk_drewN ?_ _ | refine blk_drew ?_ | refine blk_alloc ?_ _)); exact BK118.out⟩, ⟨by repeat (first | (with_reducible first | exact HI0.out | apply IsS110.alloc | apply IsS110.drewN | apply IsS110.drew | apply IsS110.set_1 | refine IsS110.far ?_ NB0_109.out _ | refine IsS110.far ?_ NB0_118.out _) | exact HI0.out)⟩, ⟨by repeat (first | (with_reducible first | exact HK.out | apply KeepBut.set_ | apply keep_drewN | apply keep_drew | apply keep_alloc | refine keep_far ?_ GW109.out _ | refine keep_far ?_ GW118.out _) | exact HK.out)⟩, ⟨by repeat (first | (with_reducible first | exact HB.out | apply below_alloc | apply pw_below_drewN | apply below_drew1 | refine below_set ?_ (IsS110.ge HI0.out) | refine below_set ?_ GE109.out | refine below_set ?_ GE118.out) | exact HB.out)⟩⟩
            ·rw [if_neg c70] at H
             exact absurd H (by simp)
           ·rw [if_neg c69] at H
            exact absurd H (by simp)
          ·rw [if_neg c67] at H
           have c67b0 : (t137 == 1) = false := beq_eq_false_iff_ne.mpr c67
           have c67b1 : (t137 != 1) = true := bne_iff_ne.mpr c67
           obtain ⟨y151, hy151⟩ : ∃ y_ : List Int, y_ = (([0, 13, (-1)] : List Int)) := ⟨_, rfl⟩
           replace H : ((spec_l20Rd_pick.f k s0_0 t138 3).bind fun bt154 => (if 0 ≤ bt154.1 then (if bt154.1 < (y151.length : Int) then (spec_l20Task.j0 k s0_0 bt154.2 (wrap64 (1 + t133)) (rd y121 t124) (rd y151 bt154.1)) else (none)) else (none))) = some (r1, r2, r3, r4) := by first | (rw [hy151]; with_reducible exact H) | (have H2_ := (Option.bind_some _ _).symm.trans H; rw [hy151]; with_reducible exact H2_) | (have H2_ := (Option.bind_some _ _).symm.trans H; with_reducible exact H2_) | with_reducible exact H | (rw [hy151]; exact H) | exact H
           have Ny151 := Aside0.mk hy151
           clear hy151
           replace H := Option.bind_eq_some_iff.mp H
           obtain ⟨⟨t154, t155⟩, A800, H⟩ := H
           replace H : (if 0 ≤ t154 then (if t154 < (y151.length : Int) then (spec_l20Task.j0 k s0_0 t155 (wrap64 (1 + t133)) (rd y121 t124) (rd y151 t154)) else (none)) else (none)) = some (r1, r2, r3, r4) := H
           have A80 := Aside0.mk A800
           clear A800
           by_cases c81 : 0 ≤ t154
           ·rw [if_pos c81] at H
            have c81b0 : decide (0 ≤ t154) = true := decide_eq_true c81
            clear c81
            by_cases c82 : t154 < (y151.length : Int)
            ·rw [if_pos c82] at H
             have c82b0 : decide (t154 < (y151.length : Int)) = true := decide_eq_true c82
             clear c82
             have H' := Aside0.mk H
             clear H
             go_wp2_with (first | ((with_reducible refine gate_callee (f := 68) rfl ?_); refine goesL_ (some 56) rfl rfl Try.func68 (by kernel_rfl) rfl #[.pointer (some ⟨g, 0, none⟩), .int .i64 3] rfl (by (try simp only [List.map_toArray, List.map_cons, List.map_nil]); first | done | rfl | (simp only [List.length_drop, List.length_take]; rfl)) ?_; (with_reducible refine (spec_l20Rd_pick.calls k g s0_0 t136 3 t137 t138 w0 _ ?side1 ?side2 A53.out).mono ?_); (case side1 => repeat (first | (with_reducible first | exact HI0.out | apply IsS110.alloc | apply IsS110.drewN | apply IsS110.drew | apply IsS110.set_1 | refine IsS110.far ?_ NB0_109.out _ | refine IsS110.far ?_ NB0_118.out _) | exact HI0.out)); (case side2 => repeat (first | (with_reducible first | exact HB.out | apply below_alloc | apply pw_below_drewN | apply below_drew1 | refine below_set ?_ (IsS110.ge HI0.out) | refine below_set ?_ GE109.out | refine below_set ?_ GE118.out) | exact HB.out)); rintro e w83 ⟨rfl, hi, hb, hk⟩; refine ⟨_, rfl, ?_⟩; have n0_ := Aside0.mk (KeepBut.blk hk (g' := gb109) (o := .cells #[.int .i64 0, .int .i64 0, .int .i64 0] 88 (0, 0)) (by (with_reducible repeat (first | refine blk_drewN ?_ _ | refine blk_drew ?_ | refine blk_alloc ?_ _)); exact BK109.out) NB109_0.out (by simp)); have n1_ := Aside0.mk (Kd.R_mono (Kd.R_keep (IsS110.apart (show IsS110 w0 _ g s0_0 t136 from by repeat (first | (with_reducible first | exact HI0.out | apply IsS110.alloc | apply IsS110.drewN | apply IsS110.drew | apply IsS110.set_1 | refine IsS110.far ?_ NB0_109.out _ | refine IsS110.far ?_ NB0_118.out _) | exact HI0.out)) (by (with_reducible repeat (first | apply Kd.R_alloc | apply Kd.R_drewN | apply Kd.R_drew)); exact HO114.out) (by decide)) hk (fun _ h => h.2)) (fun _ h => h.1)); have n2_ := Aside0.mk (KeepBut.blk hk (g' := gb118) (o := .cells #[.int .i64 (wrap64 (1 + t133)), .int .i64 (rd y121 t124), .int .i64 (rd y112 t115)] 88 (0, 0)) (by (with_reducible repeat (first | refine blk_drewN ?_ _ | refine blk_drew ?_ | refine blk_alloc ?_ _)); exact BK118.out) NB118_0.out (by simp)); have n3_ := Aside0.mk (Kd.R_mono (Kd.R_keep (IsS110.apart (show IsS110 w0 _ g s0_0 t136 from by repeat (first | (with_reducible first | exact HI0.out | apply IsS110.alloc | apply IsS110.drewN | apply IsS110.drew | apply IsS110.set_1 | refine IsS110.far ?_ NB0_109.out _ | refine IsS110.far ?_ NB0_118.out _) | exact HI0.out)) (by (with_reducible repeat (first | apply Kd.R_alloc | apply Kd.R_drewN | apply Kd.R_drew)); exact HO123.out) (by decide)) hk (fun _ h => h.2)) (fun _ h => h.1)); have n4_ := Aside0.mk (Kd.R_mono (Kd.R_keep (IsS110.apart (show IsS110 w0 _ g s0_0 t136 from by repeat (first | (with_reducible first | exact HI0.out | apply IsS110.alloc | apply IsS110.drewN | apply IsS110.drew | apply IsS110.set_1 | refine IsS110.far ?_ NB0_109.out _ | refine IsS110.far ?_ NB0_118.out _) | exact HI0.out)) (by (with_reducible repeat (first | apply Kd.R_alloc | apply Kd.R_drewN | apply Kd.R_drew)); exact HO129.out) (by decide)) hk (fun _ h => h.2)) (fun _ h => h.1)); have n5_ := Aside0.mk (KeepBut.trans (by repeat (first | (with_reducible first | exact HK.out | apply KeepBut.set_ | apply keep_drewN | apply keep_drew | apply keep_alloc | refine keep_far ?_ GW109.out _ | refine keep_far ?_ GW118.out _) | exact HK.out)) hk (.inl rfl)); have n6_ := Aside0.mk (hb); have n7_ := Aside0.mk (hi); clear BK109; clear HO114; clear BK118; clear HO123; clear HO129; clear HK; clear HB; clear HI0; have BK109 := n0_; have HO114 := n1_; have BK118 := n2_; have HO123 := n3_; have HO129 := n4_; have HK := n5_; have HB := n6_; have HI0 := n7_; clear n0_ n1_ n2_ n3_ n4_ n5_ n6_ n7_; (try clear hb); (try clear hb2); (try clear hk); (try clear hi)) | ((with_reducible refine gate_dst (N := 57) rfl ?_); refine Kd.R_lit (Kd.int .i64) _ 3 ?hg (N := 57) ?hd (xs := ([0, 13, (-1)] : List Int)) (inner := [.int .i64 0, .int .i64 13, .int .i64 (-1)]) (ok := fun _ => True) (okp := fun _ => True) ?hr ?hp (fun _ hk => hk) trivial (Below.refl _ _) (Nat.le_refl _) (by simp) ?_; (case hd => rfl); (case hg => rfl); (case hr => first | (go_simp; done) | (go_simp; rfl)); (case hp => exact (Reps.one (show Kd.M (Kd.int .i64) _ _ _ 0 [.int .i64 0] from rfl) (Reps.one (show Kd.M (Kd.int .i64) _ _ _ 13 [.int .i64 13] from rfl) (Reps.one (show Kd.M (Kd.int .i64) _ _ _ (-1) [.int .i64 (-1)] from rfl) (Reps.none _ _))))); intro v152 w84 ho85 hb hg_ hnew_; clear hg_ hnew_; (first | rw [← Ny151.out] at ho85 | (simp only [Int.reduceToNat] at ho85; rw [← Ny151.out] at ho85)); have n0_ := Aside0.mk (Kd.R_elder' (by (with_reducible repeat (first | apply Kd.R_alloc | apply Kd.R_drewN | apply Kd.R_drew)); exact HO114.out) (Kd.R_base ho85) hb); have n1_ := Aside0.mk (Kd.R_elder' (by (with_reducible repeat (first | apply Kd.R_alloc | apply Kd.R_drewN | apply Kd.R_drew)); exact HO123.out) (Kd.R_base ho85) hb); have n2_ := Aside0.mk (Kd.R_elder' (by (with_reducible repeat (first | apply Kd.R_alloc | apply Kd.R_drewN | apply Kd.R_drew)); exact HO129.out) (Kd.R_base ho85) hb); have n3_ := Aside0.mk (Kd.R_lower (Kd.R_new' (Kd.R_new' (Kd.R_new' ho85 (Kd.R_lt (by (with_reducible repeat (first | apply Kd.R_alloc | apply Kd.R_drewN | apply Kd.R_drew)); exact HO114.out))) (Kd.R_lt (by (with_reducible repeat (first | apply Kd.R_alloc | apply Kd.R_drewN | apply Kd.R_drew)); exact HO123.out))) (Kd.R_lt (by (with_reducible repeat (first | apply Kd.R_alloc | apply Kd.R_drewN | apply Kd.R_drew)); exact HO129.out))) (keep_size (w := w) (g := g) (row := none) (by repeat (first | (with_reducible first | exact HK.out | apply KeepBut.set_ | apply keep_drewN | apply keep_drew | apply keep_alloc | refine keep_far ?_ GW109.out _ | refine keep_far ?_ GW118.out _) | exact HK.out)))); have n4_ := Aside0.mk (IsS110.below (by repeat (first | (with_reducible first | exact HI0.out | apply IsS110.alloc | apply IsS110.drewN | apply IsS110.drew | apply IsS110.set_1 | refine IsS110.far ?_ NB0_109.out _ | refine IsS110.far ?_ NB0_118.out _) | exact HI0.out)) hb); have n5_ := Aside0.mk (blk_below (g := gb109) (o := .cells #[.int .i64 0, .int .i64 0, .int .i64 0] 88 (0, 0)) (by (with_reducible repeat (first | refine blk_drewN ?_ _ | refine blk_drew ?_ | refine blk_alloc ?_ _)); exact BK109.out) hb); have n6_ := Aside0.mk (blk_below (g := gb118) (o := .cells #[.int .i64 (wrap64 (1 + t133)), .int .i64 (rd y121 t124), .int .i64 (rd y112 t115)] 88 (0, 0)) (by (with_reducible repeat (first | refine blk_drewN ?_ _ | refine blk_drew ?_ | refine blk_alloc ?_ _)); exact BK118.out) hb); have n7_ := Aside0.mk (KeepBut.trans (by repeat (first | (with_reducible first | exact HK.out | apply KeepBut.set_ | apply keep_drewN | apply keep_drew | apply keep_alloc | refine keep_far ?_ GW109.out _ | refine keep_far ?_ GW118.out _) | exact HK.out)) (KeepBut.of_below hb g none) (.inl rfl)); have n8_ := Aside0.mk (below_step (by repeat (first | (with_reducible first | exact HB.out | apply below_alloc | apply pw_below_drewN | apply below_drew1 | refine below_set ?_ (IsS110.ge HI0.out) | refine below_set ?_ GE109.out | refine below_set ?_ GE118.out) | exact HB.out)) hb); clear HO114; clear HO123; clear HO129; clear HI0; clear BK109; clear BK118; clear HK; clear HB; have HO114 := n0_; have HO123 := n1_; have HO129 := n2_; have HO153 := n3_; have HI0 := n4_; have BK109 := n5_; have BK118 := n6_; have HK := n7_; have HB := n8_; clear n0_ n1_ n2_ n3_ n4_ n5_ n6_ n7_ n8_; clear hb ho85) | ((with_reducible refine gate_callee (f := 68) rfl ?_); refine goesL_ (some 59) rfl rfl Try.func68 (by kernel_rfl) rfl #[.pointer (some ⟨g, 0, none⟩), .int .i64 3] rfl (by (try simp only [List.map_toArray, List.map_cons, List.map_nil]); first | done | rfl | (simp only [List.length_drop, List.length_take]; rfl)) ?_; (with_reducible refine (spec_l20Rd_pick.calls k g s0_0 t138 3 t154 t155 w0 _ ?side1 ?side2 A80.out).mono ?_); (case side1 => repeat (first | (with_reducible first | exact HI0.out | apply IsS110.alloc | apply IsS110.drewN | apply IsS110.drew | apply IsS110.set_1 | refine IsS110.far ?_ NB0_109.out _ | refine IsS110.far ?_ NB0_118.out _) | exact HI0.out)); (case side2 => repeat (first | (with_reducible first | exact HB.out | apply below_alloc | apply pw_below_drewN | apply below_drew1 | refine below_set ?_ (IsS110.ge HI0.out) | refine below_set ?_ GE109.out | refine below_set ?_ GE118.out) | exact HB.out)); rintro e w86 ⟨rfl, hi, hb, hk⟩; refine ⟨_, rfl, ?_⟩; have n0_ := Aside0.mk (KeepBut.blk hk (g' := gb109) (o := .cells #[.int .i64 0, .int .i64 0, .int .i64 0] 88 (0, 0)) (by (with_reducible repeat (first | refine blk_drewN ?_ _ | refine blk_drew ?_ | refine blk_alloc ?_ _)); exact BK109.out) NB109_0.out (by simp)); have n1_ := Aside0.mk (Kd.R_mono (Kd.R_keep (IsS110.apart (show IsS110 w0 _ g s0_0 t138 from by repeat (first | (with_reducible first | exact HI0.out | apply IsS110.alloc | apply IsS110.drewN | apply IsS110.drew | apply IsS110.set_1 | refine IsS110.far ?_ NB0_109.out _ | refine IsS110.far ?_ NB0_118.out _) | exact HI0.out)) (by (with_reducible repeat (first | apply Kd.R_alloc | apply Kd.R_drewN | apply Kd.R_drew)); exact HO114.out) (by decide)) hk (fun _ h => h.2)) (fun _ h => h.1)); have n2_ := Aside0.mk (KeepBut.blk hk (g' := gb118) (o := .cells #[.int .i64 (wrap64 (1 + t133)), .int .i64 (rd y121 t124), .int .i64 (rd y112 t115)] 88 (0, 0)) (by (with_reducible repeat (first | refine blk_drewN ?_ _ | refine blk_drew ?_ | refine blk_alloc ?_ _)); exact BK118.out) NB118_0.out (by simp)); have n3_ := Aside0.mk (Kd.R_mono (Kd.R_keep (IsS110.apart (show IsS110 w0 _ g s0_0 t138 from by repeat (first | (with_reducible first | exact HI0.out | apply IsS110.alloc | apply IsS110.drewN | apply IsS110.drew | apply IsS110.set_1 | refine IsS110.far ?_ NB0_109.out _ | refine IsS110.far ?_ NB0_118.out _) | exact HI0.out)) (by (with_reducible repeat (first | apply Kd.R_alloc | apply Kd.R_drewN | apply Kd.R_drew)); exact HO123.out) (by decide)) hk (fun _ h => h.2)) (fun _ h => h.1)); have n4_ := Aside0.mk (Kd.R_mono (Kd.R_keep (IsS110.apart (show IsS110 w0 _ g s0_0 t138 from by repeat (first | (with_reducible first | exact HI0.out | apply IsS110.alloc | apply IsS110.drewN | apply IsS110.drew | apply IsS110.set_1 | refine IsS110.far ?_ NB0_109.out _ | refine IsS110.far ?_ NB0_118.out _) | exact HI0.out)) (by (with_reducible repeat (first | apply Kd.R_alloc | apply Kd.R_drewN | apply Kd.R_drew)); exact HO129.out) (by decide)) hk (fun _ h => h.2)) (fun _ h => h.1)); have n5_ := Aside0.mk (Kd.R_mono (Kd.R_keep (IsS110.apart (show IsS110 w0 _ g s0_0 t138 from by repeat (first | (with_reducible first | exact HI0.out | apply IsS110.alloc | apply IsS110.drewN | apply IsS110.drew | apply IsS110.set_1 | refine IsS110.far ?_ NB0_109.out _ | refine IsS110.far ?_ NB0_118.out _) | exact HI0.out)) (by (with_reducible repeat (first | apply Kd.R_alloc | apply Kd.R_drewN | apply Kd.R_drew)); exact HO153.out) (by decide)) hk (fun _ h => h.2)) (fun _ h => h.1)); have n6_ := Aside0.mk (KeepBut.trans (by repeat (first | (with_reducible first | exact HK.out | apply KeepBut.set_ | apply keep_drewN | apply keep_drew | apply keep_alloc | refine keep_far ?_ GW109.out _ | refine keep_far ?_ GW118.out _) | exact HK.out)) hk (.inl rfl)); have n7_ := Aside0.mk (hb); have n8_ := Aside0.mk (hi); clear BK109; clear HO114; clear BK118; clear HO123; clear HO129; clear HO153; clear HK; clear HB; clear HI0; have BK109 := n0_; have HO114 := n1_; have BK118 := n2_; have HO123 := n3_; have HO129 := n4_; have HO153 := n5_; have HK := n6_; have HB := n7_; have HI0 := n8_; clear n0_ n1_ n2_ n3_ n4_ n5_ n6_ n7_ n8_; (try clear hb); (try clear hb2); (try clear hk); (try clear hi); obtain ⟨Ao87, co87, eo87⟩ := Kd.R_slice HO153.out; subst eo87; have p156 : 0 ≤ (t154 : Int) := of_decide_eq_true (by first | (with_reducible assumption) | assumption); have q156 : t154 < (y151.length : Int) := of_decide_eq_true (by first | (with_reducible assumption) | assumption); obtain ⟨ad156, e156, hx156_0⟩ := Kd.at_int (Kd.R_reads' HO153.out).2.2 t154 p156 q156; cases e156; replace p156 := eq_true p156; replace q156 := eq_true q156; have hnb88 := NB118_109.out; have hnc88 := NB109_118.out; have hnb89 := NB118_0.out; have hnc89 := NB0_118.out; have hcz90_0 : w86.cell? ⟨gb118, 0, none⟩ = some (.int .i64 (wrap64 (1 + t133))) := (blk_cell BK118.out 0).trans rfl; have hcz90_1 : w86.cell? ⟨gb118, 1, none⟩ = some (.int .i64 (rd y121 t124)) := (blk_cell BK118.out 1).trans rfl; have hcz90_2 : w86.cell? ⟨gb118, 2, none⟩ = some (.int .i64 (rd y112 t115)) := (blk_cell BK118.out 2).trans rfl; have hfz90_0 := blk_frozen BK118.out 0; have hfz90_1 := blk_frozen BK118.out 1; have hfz90_2 := blk_frozen BK118.out 2))
             go_meet
             case rel => exact ⟨_, (t155), (wrap64 (1 + t133)), (rd y121 t124), (rd y151 t154), H', ⟨by first | omega | exact Nat.le_refl _⟩, ⟨by (with_reducible repeat (first | refine blk_drewN ?_ _ | refine blk_drew ?_ | refine blk_alloc ?_ _)); refine blk_far ?_ NB109_118.out _; (with_reducible repeat (first | refine blk_drewN ?_ _ | refine blk_drew ?_ | refine blk_alloc ?_ _)); exact BK109.out⟩, ⟨by (with_reducible repeat (first | refine blk_drewN ?_ _ | refine blk_drew ?_ | refine blk_alloc ?_ _)); refine blk_put (cs := #[.int .i64 (wrap64 (1 + t133)), .int .i64 (rd y121 t124), .int .i64 (rd y112 t115)]) ?_ 2 _ rfl; (with_reducible repeat (first | refine blk_drewN ?_ _ | refine blk_drew ?_ | refine blk_alloc ?_ _)); exact BK118.out⟩, ⟨by repeat (first | (with_reducible first | exact HI0.out | apply IsS110.alloc | apply IsS110.drewN | apply IsS110.drew | apply IsS110.set_1 | refine IsS110.far ?_ NB0_109.out _ | refine IsS110.far ?_ NB0_118.out _) | exact HI0.out)⟩, ⟨by repeat (first | (with_reducible first | exact HK.out | apply KeepBut.set_ | apply keep_drewN | apply keep_drew | apply keep_alloc | refine keep_far ?_ GW109.out _ | refine keep_far ?_ GW118.out _) | exact HK.out)⟩, ⟨by repeat (first | (with_reducible first | exact HB.out | apply below_alloc | apply pw_below_drewN | apply below_drew1 | refine below_set ?_ (IsS110.ge HI0.out) | refine below_set ?_ GE109.out | refine below_set ?_ GE118.out) | exact HB.out)⟩⟩
            ·rw [if_neg c82] at H
             exact absurd H (by simp)
           ·rw [if_neg c81] at H
            exact absurd H (by simp)
        ·replace c52 := Bool.eq_false_iff.mpr c52
         subst c52
         have H1 : (spec_l20Task.j0 k s0_0 t136 (wrap64 (1 + t133)) (rd y121 t124) (rd y112 t115)) = some (r1, r2, r3, r4) := by rw [if_neg (show ¬ (false = true) by decide)] at H; exact H
         clear H
         have H := H1
         clear H1
         have H' := Aside0.mk H
         clear H
         go_wp2
         go_meet
         case rel => exact ⟨_, (t136), (wrap64 (1 + t133)), (rd y121 t124), (rd y112 t115), H', ⟨by first | omega | exact Nat.le_refl _⟩, ⟨by (with_reducible repeat (first | refine blk_drewN ?_ _ | refine blk_drew ?_ | refine blk_alloc ?_ _)); exact BK109.out⟩, ⟨by (with_reducible repeat (first | refine blk_drewN ?_ _ | refine blk_drew ?_ | refine blk_alloc ?_ _)); exact BK118.out⟩, ⟨by repeat (first | (with_reducible first | exact HI0.out | apply IsS110.alloc | apply IsS110.drewN | apply IsS110.drew | apply IsS110.set_1 | refine IsS110.far ?_ NB0_109.out _ | refine IsS110.far ?_ NB0_118.out _) | exact HI0.out)⟩, ⟨by repeat (first | (with_reducible first | exact HK.out | apply KeepBut.set_ | apply keep_drewN | apply keep_drew | apply keep_alloc | refine keep_far ?_ GW109.out _ | refine keep_far ?_ GW118.out _) | exact HK.out)⟩, ⟨by repeat (first | (with_reducible first | exact HB.out | apply below_alloc | apply pw_below_drewN | apply below_drew1 | refine below_set ?_ (IsS110.ge HI0.out) | refine below_set ?_ GE109.out | refine below_set ?_ GE118.out) | exact HB.out)⟩⟩
       case rest =>
        clear HC20
        try clear p1
        try clear q1
        try clear hx1
        try clear qi1
        try clear p2
        try clear c5
        try clear c6
        try clear p6
        try clear c7
        try clear c8
        try clear p14
        try clear q14
        try clear hx14
        try clear p15
        try clear q15
        try clear hx15
        try clear qi15
        try clear c52
        try clear c54
        try clear c54b0
        try clear c54b1
        try clear c56
        try clear c57
        try clear p64
        try clear c67
        try clear c67b0
        try clear c67b1
        try clear c68
        try clear c69
        try clear c69b0
        try clear c70
        try clear c70b0
        try clear c81
        try clear c81b0
        try clear c82
        try clear c82b0
        try clear c88
        try clear c89
        try clear hcz90_0
        try clear hcz90_1
        try clear hcz90_2
        try clear hfz90_0
        try clear hfz90_1
        try clear hfz90_2
        try clear hx144_0
        try clear hx150_0
        try clear hx156_0
        try clear p144
        try clear p150
        try clear p156
        try clear q144
        try clear q150
        try clear q156
        obtain ⟨kq, x1001_19, x119000_19, x119001_19, x119002_19, HA, HJ19, BK109, BK118, HI0, HK, HB⟩ := hcut
        cases kq with
        | zero => exact absurd HA.out (by simp [spec_l20Task.j0])
        | succ kj19 =>
         have H := HA.out
         clear HA
         simp only [spec_l20Task.j0] at H
         simp only [Option.some.injEq, Prod.mk.injEq] at H
         obtain ⟨rfl, rfl, rfl, rfl⟩ := H
         have hnb91 := NB118_109.out
         have hnc91 := NB109_118.out
         have hnb92 := NB118_0.out
         have hnc92 := NB0_118.out
         have hcz93_0 : wc.cell? ⟨gb118, 0, none⟩ = some (.int .i64 x119000_19) := (blk_cell BK118.out 0).trans rfl
         have hcz93_1 : wc.cell? ⟨gb118, 1, none⟩ = some (.int .i64 x119001_19) := (blk_cell BK118.out 1).trans rfl
         have hcz93_2 : wc.cell? ⟨gb118, 2, none⟩ = some (.int .i64 x119002_19) := (blk_cell BK118.out 2).trans rfl
         have hfz93_0 := blk_frozen BK118.out 0
         have hfz93_1 := blk_frozen BK118.out 1
         have hfz93_2 := blk_frozen BK118.out 2
         have hnb94 := NB109_0.out
         have hnc94 := NB0_109.out
         have hcz95_0 : wc.cell? ⟨gb109, 0, none⟩ = some (.int .i64 0) := (blk_cell BK109.out 0).trans rfl
         have hcz95_1 : wc.cell? ⟨gb109, 1, none⟩ = some (.int .i64 0) := (blk_cell BK109.out 1).trans rfl
         have hcz95_2 : wc.cell? ⟨gb109, 2, none⟩ = some (.int .i64 0) := (blk_cell BK109.out 2).trans rfl
         have hfz95_0 := blk_frozen BK109.out 0
         have hfz95_1 := blk_frozen BK109.out 1
         have hfz95_2 := blk_frozen BK109.out 2
         go_wp2
         refine bodyPost_ret (results_cell_row rfl _ _ gb109 88 #[.int .i64 x119000_19, .int .i64 x119001_19, .int .i64 x119002_19] (0, 0) _ rfl (by (with_reducible repeat (first | refine blk_drewN ?_ _ | refine blk_drew ?_ | refine blk_alloc ?_ _)); refine blk_put (cs := #[.int .i64 x119000_19, .int .i64 x119001_19, .int .i64 0]) ?_ 2 _ rfl; (with_reducible repeat (first | refine blk_drewN ?_ _ | refine blk_drew ?_ | refine blk_alloc ?_ _)); refine blk_put (cs := #[.int .i64 x119000_19, .int .i64 0, .int .i64 0]) ?_ 1 _ rfl; (with_reducible repeat (first | refine blk_drewN ?_ _ | refine blk_drew ?_ | refine blk_alloc ?_ _)); refine blk_put (cs := #[.int .i64 0, .int .i64 0, .int .i64 0]) ?_ 0 _ rfl; (with_reducible repeat (first | refine blk_drewN ?_ _ | refine blk_drew ?_ | refine blk_alloc ?_ _)); exact BK109.out) Try.underlying88 rfl (by kernel_rfl)) rfl ?_
         exact ⟨by first | rfl | (simp [errW_none, errW_some] <;> rfl) | (simp only [← hji8, ← hji12, ← hji13, ← hji17]; first | rfl | (simp [errW_none, errW_some] <;> rfl)) | (simp [*, errW_none, errW_some] <;> rfl), by repeat (first | (with_reducible first | exact HI0.out | apply IsS110.alloc | apply IsS110.drewN | apply IsS110.drew | apply IsS110.set_1 | refine IsS110.far ?_ NB0_109.out _ | refine IsS110.far ?_ NB0_118.out _) | exact HI0.out), by repeat (first | (with_reducible first | exact HB.out | apply below_alloc | apply pw_below_drewN | apply below_drew1 | refine below_set ?_ (IsS110.ge HI0.out) | refine below_set ?_ GE109.out | refine below_set ?_ GE118.out) | exact HB.out), by repeat (first | (with_reducible first | exact HK.out | apply KeepBut.set_ | apply keep_drewN | apply keep_drew | apply keep_alloc | refine keep_far ?_ GW109.out _ | refine keep_far ?_ GW118.out _) | exact HK.out)⟩
      ·rw [if_neg c16] at H
       exact absurd H (by simp)
     ·rw [if_neg c15] at H
      exact absurd H (by simp)
    ·rw [if_neg c11] at H
     exact absurd H (by simp)
   ·rw [if_neg c10] at H
    exact absurd H (by simp)
  ·rw [if_neg c6] at H
   exact absurd H (by simp)
 ·rw [if_neg c5] at H
  exact absurd H (by simp)

end Go.Proofs.Ytkdfjomhichkoaa.P
