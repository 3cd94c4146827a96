/- The law FnMinBudget for every input, part 4 of its proof: what the program's functions answer, and the plain law. No condition. -/
import Derived.Test.YtgcjadhmkhpbnaaMFnMinBudget1
import Derived.Test.YtgcjadhmkhpbnaaMFnMinBudget3
-- Laid by a program of this work.
namespace Go.Proofs.Ytgcjadhmkhpbnaa.P
open Go.RowKit Go.Proofs.YtgcjadhmkhpbnaaW.PrintWords Go.Proofs.YtgcjadhmkhpbnaaW.PrintLast Go.Proofs.YtgcjadhmkhpbnaaW.PrintMore
attribute [local go_sem] max2_int min2_int max_two min_two max_three min_three max_four min_four   -- for this text's walks alone
set_option linter.unusedVariables false
set_option linter.unusedSimpArgs false

/-! ### spec_l20Task: function 102 -/
def spec_l20Task.j0 : Nat → List Int → Int → Int → Int → Int → Option (Int × Int × Int × Int)
  | 0, _, _, _, _, _ => none
  | k + 1, x1000, x1001, x152000, x152001, x152002 => some (x152000, x152001, x152002, x1001)
def spec_l20Task.f (k : Nat) (s0_0 : List Int) (s0_1 : Int) (a1 : Int) : Option (Int × Int × Int × Int) := (spec_l20Rd_pick.f k s0_0 s0_1 12).bind fun bt143 => ((some (([2, 3, 4, 6, 8, 12, wrap64 (1 + bt143.1), 5] : List Int) : List Int)).bind fun y145 => ((spec_l20Rd_pick.f k s0_0 bt143.2 8).bind fun bt148 => (if 0 ≤ bt148.1 then (if bt148.1 < (y145.length : Int) then ((spec_l20Rd_pick.f k s0_0 bt148.2 (rd y145 bt148.1)).bind fun bt152 => ((some (([rd y145 bt148.1, wrap64 (1 + bt152.1), mx 1 (wrap64 ((rd y145 bt148.1) - 1))] : List Int) : List Int)).bind fun y154 => ((spec_l20Rd_pick.f k s0_0 bt152.2 3).bind fun bt157 => (if 0 ≤ bt157.1 then (if bt157.1 < (y154.length : Int) then ((some (([rd y154 bt157.1, mx 1 (wrap64 (Int.tdiv (rd y154 bt157.1) 2)), mx 1 (wrap64 (Int.tdiv (rd y154 bt157.1) 3))] : List Int) : List Int)).bind fun y160 => ((spec_l20Rd_pick.f k s0_0 bt157.2 3).bind fun bt163 => (if 0 ≤ bt163.1 then (if bt163.1 < (y160.length : Int) then ((spec_l20Rd_pick.f k s0_0 bt163.2 (mn 8 (rd y160 bt163.1))).bind fun bt166 => ((spec_l20Rd_odd.f k s0_0 bt166.2 a1).bind fun bt168 => (if bt168.1 = true then ((spec_l20Rd_pick.f k s0_0 bt168.2 3).bind fun bt170 => (if bt170.1 = 0 then ((some (([0, (-1), 9, wrap64 ((rd y154 bt157.1) + 1)] : List Int) : List Int)).bind fun y172 => ((spec_l20Rd_pick.f k s0_0 bt170.2 4).bind fun bt175 => (if 0 ≤ bt175.1 then (if bt175.1 < (y172.length : Int) then (spec_l20Task.j0 k s0_0 bt175.2 (rd y172 bt175.1) (rd y154 bt157.1) (rd y145 bt148.1)) else (none)) else (none)))) else (if bt170.1 = 1 then ((some (([0, wrap64 ((rd y145 bt148.1) + 1), (-1)] : List Int) : List Int)).bind fun y178 => ((spec_l20Rd_pick.f k s0_0 bt170.2 3).bind fun bt181 => (if 0 ≤ bt181.1 then (if bt181.1 < (y178.length : Int) then (spec_l20Task.j0 k s0_0 bt181.2 (wrap64 (1 + bt166.1)) (rd y178 bt181.1) (rd y145 bt148.1)) else (none)) else (none)))) else ((some (([0, 13, (-1)] : List Int) : List Int)).bind fun y184 => ((spec_l20Rd_pick.f k s0_0 bt170.2 3).bind fun bt187 => (if 0 ≤ bt187.1 then (if bt187.1 < (y184.length : Int) then (spec_l20Task.j0 k s0_0 bt187.2 (wrap64 (1 + bt166.1)) (rd y154 bt157.1) (rd y184 bt187.1)) else (none)) else (none))))))) else (spec_l20Task.j0 k s0_0 bt168.2 (wrap64 (1 + bt166.1)) (rd y154 bt157.1) (rd y145 bt148.1))))) else (none)) else (none)))) else (none)) else (none))))) else (none)) else (none))))
theorem spec_l20Task.mono_l : ∀ k, (∀ y0 y1 y2 y3 y4, LeO (spec_l20Task.j0 k y0 y1 y2 y3 y4) (spec_l20Task.j0 (k + 1) y0 y1 y2 y3 y4))
  | 0 => fun _ _ _ _ _ r h => by simp [spec_l20Task.j0] at h
  | k + 1 => by
    have ih0 := spec_l20Task.mono_l k
    · intro y0 y1 y2 y3 y4
      unfold spec_l20Task.j0
      repeat' first
      | (with_reducible exact ih0 _ _ _ _ _)
      | (with_reducible exact spec_l20Rd_odd.mono _ _ _ _)
      | (with_reducible exact spec_l20Rd_pick.mono _ _ _ _)
      | (with_reducible exact LeO.refl _)
      | (with_reducible exact LeO.none _)
      | (with_reducible refine LeO.ite ?_ ?_)
      | (with_reducible refine LeO.bind ?_ (fun _ => ?_))
      | exact ih0 _ _ _ _ _
      | exact spec_l20Rd_odd.mono _ _ _ _
      | exact spec_l20Rd_pick.mono _ _ _ _
      | exact LeO.none _
      | refine LeO.ite ?_ ?_
      | refine LeO.bind ?_ (fun _ => ?_)
theorem spec_l20Task.mono : ∀ a0 a1 a2 k, LeO (spec_l20Task.f k a0 a1 a2) (spec_l20Task.f (k + 1) a0 a1 a2) := by
  intro a0 a1 a2 k
  have ih0 := spec_l20Task.mono_l k
  unfold spec_l20Task.f
  repeat' first
      | (with_reducible exact ih0 _ _ _ _ _)
      | (with_reducible exact spec_l20Rd_odd.mono _ _ _ _)
      | (with_reducible exact spec_l20Rd_pick.mono _ _ _ _)
      | (with_reducible exact LeO.refl _)
      | (with_reducible exact LeO.none _)
      | (with_reducible refine LeO.ite ?_ ?_)
      | (with_reducible refine LeO.bind ?_ (fun _ => ?_))
      | exact ih0 _ _ _ _ _
      | exact spec_l20Rd_odd.mono _ _ _ _
      | exact spec_l20Rd_pick.mono _ _ _ _
      | exact LeO.none _
      | refine LeO.ite ?_ ?_
      | refine LeO.bind ?_ (fun _ => ?_)
def spec_l20Task.T2 : Bool × List (List Nat × List Nat) := (true, [([], []), ([0], [0]), ([], []), ([], []), ([3], [3]), ([2, 4], [2, 4]), ([5], [5]), ([], []), ([7], [7]), ([8], [8]), ([9], [9]), ([1, 6, 10], [1, 6, 10]), ([], []), ([12, 5], [12]), ([11, 13], [11, 13]), ([14], [14]), ([0, 1, 2, 3, 4, 5, 6, 7, 8, 9, 10, 11, 12, 13, 14, 15], []), ([16, 15, 13, 0, 1, 2, 3, 4, 5, 6, 7, 8, 9, 10, 11, 12, 13, 14, 15], [15, 16])])
def spec_l20Task.B2 : List Nat := [0, 1, 0, 0, 8, 28, 60, 0, 128, 384, 896, 2047, 0, 4156, 16383, 32767, 65535, 131071]
theorem spec_l20Task.tab2 : rtab .any (opsOf Try.f102 2) = spec_l20Task.T2 := by kernel_rfl
theorem spec_l20Task.bits2 : waitsOk spec_l20Task.T2.2 spec_l20Task.B2 = true := by kernel_rfl
def spec_l20Task.T3 : Bool × List (List Nat × List Nat) := (true, [([], []), ([], []), ([1], [1]), ([], []), ([3], [3]), ([4], [4]), ([5], [5]), ([], []), ([7], [7]), ([8], [8]), ([9], [9]), ([2, 6, 10], [2, 6, 10]), ([], []), ([12], [12]), ([11, 13], [11, 13]), ([14], [14]), ([15], [15]), ([0, 16, 13], [0, 16]), ([17], [17]), ([0, 1, 2, 3, 4, 5, 6, 7, 8, 9, 10, 11, 12, 13, 14, 15, 16, 17, 18], []), ([19, 18, 17, 0, 1, 2, 3, 4, 5, 6, 7, 8, 9, 10, 11, 12, 13, 14, 15, 16, 17, 18], [18, 19])])
def spec_l20Task.B3 : List Nat := [0, 0, 2, 0, 8, 24, 56, 0, 128, 384, 896, 2046, 0, 4096, 16382, 32766, 65534, 131071, 262143, 524287, 1048575]
theorem spec_l20Task.tab3 : rtab .any (opsOf Try.f102 3) = spec_l20Task.T3 := by kernel_rfl
theorem spec_l20Task.bits3 : waitsOk spec_l20Task.T3.2 spec_l20Task.B3 = true := by kernel_rfl
def spec_l20Task.T8 : Bool × List (List Nat × List Nat) := (true, [([], []), ([0], [0]), ([1], [1]), ([2], [2]), ([], []), ([4], [4]), ([3, 5], [3, 5]), ([6], [6]), ([0, 1, 2, 3, 4, 5, 6, 7], []), ([8, 7, 5, 0, 1, 2, 3, 4, 5, 6, 7], [7, 8])])
def spec_l20Task.B8 : List Nat := [0, 1, 3, 7, 0, 16, 63, 127, 255, 511]
theorem spec_l20Task.tab8 : rtab .any (opsOf Try.f102 8) = spec_l20Task.T8 := by kernel_rfl
theorem spec_l20Task.bits8 : waitsOk spec_l20Task.T8.2 spec_l20Task.B8 = true := by kernel_rfl
def spec_l20Task.T10 : Bool × List (List Nat × List Nat) := (true, [([], []), ([0], [0]), ([1], [1]), ([2], [2]), ([], []), ([4], [4]), ([3, 5], [3, 5]), ([6], [6]), ([0, 1, 2, 3, 4, 5, 6, 7], []), ([8, 7, 5, 0, 1, 2, 3, 4, 5, 6, 7], [7, 8])])
def spec_l20Task.B10 : List Nat := [0, 1, 3, 7, 0, 16, 63, 127, 255, 511]
theorem spec_l20Task.tab10 : rtab .any (opsOf Try.f102 10) = spec_l20Task.T10 := by kernel_rfl
theorem spec_l20Task.bits10 : waitsOk spec_l20Task.T10.2 spec_l20Task.B10 = true := by kernel_rfl
set_option maxHeartbeats 8000000 in
set_option maxRecDepth 100000 in
theorem spec_l20Task.calls (k : Nat) (g : Nat) (s0_0 : List Int) (s0_1 : Int) (a1 : Int) (r1 : Int) (r2 : Int) (r3 : Int) (r4 : Int) (w0 w : World) (hI : IsS94 w0 w g s0_0 s0_1) (hB : Below w0.heap.size w0 w) (h : spec_l20Task.f k s0_0 s0_1 a1 = some (r1, r2, r3, r4)) :
    Calls Try.prog 102 #[.pointer (some ⟨g, 0, none⟩), .int .i64 a1] w fun e w' => e = .returned (.agg #[.int .i64 r1, .int .i64 r2, .int .i64 r3]) ∧ IsS94 w0 w' g s0_0 r4 ∧ Below w0.heap.size w0 w' ∧ KeepBut w w' g none := by
  have hu56 := Try.underlying56
  have HI0 := Aside0.mk hI
  have HK := Aside0.mk (KeepBut.refl w g none)
  have HL := Aside0.mk hB.size
  clear hI
  have HW0 := Aside0.mk hB.size
  have HB := Aside0.mk hB
  clear hB
  have H : ((spec_l20Rd_pick.f k s0_0 s0_1 12).bind fun bt143 => ((some (([2, 3, 4, 6, 8, 12, wrap64 (1 + bt143.1), 5] : List Int) : List Int)).bind fun y145 => ((spec_l20Rd_pick.f k s0_0 bt143.2 8).bind fun bt148 => (if 0 ≤ bt148.1 then (if bt148.1 < (y145.length : Int) then ((spec_l20Rd_pick.f k s0_0 bt148.2 (rd y145 bt148.1)).bind fun bt152 => ((some (([rd y145 bt148.1, wrap64 (1 + bt152.1), mx 1 (wrap64 ((rd y145 bt148.1) - 1))] : List Int) : List Int)).bind fun y154 => ((spec_l20Rd_pick.f k s0_0 bt152.2 3).bind fun bt157 => (if 0 ≤ bt157.1 then (if bt157.1 < (y154.length : Int) then ((some (([rd y154 bt157.1, mx 1 (wrap64 (Int.tdiv (rd y154 bt157.1) 2)), mx 1 (wrap64 (Int.tdiv (rd y154 bt157.1) 3))] : List Int) : List Int)).bind fun y160 => ((spec_l20Rd_pick.f k s0_0 bt157.2 3).bind fun bt163 => (if 0 ≤ bt163.1 then (if bt163.1 < (y160.length : Int) then ((spec_l20Rd_pick.f k s0_0 bt163.2 (mn 8 (rd y160 bt163.1))).bind fun bt166 => ((spec_l20Rd_odd.f k s0_0 bt166.2 a1).bind fun bt168 => (if bt168.1 = true then ((spec_l20Rd_pick.f k s0_0 bt168.2 3).bind fun bt170 => (if bt170.1 = 0 then ((some (([0, (-1), 9, wrap64 ((rd y154 bt157.1) + 1)] : List Int) : List Int)).bind fun y172 => ((spec_l20Rd_pick.f k s0_0 bt170.2 4).bind fun bt175 => (if 0 ≤ bt175.1 then (if bt175.1 < (y172.length : Int) then (spec_l20Task.j0 k s0_0 bt175.2 (rd y172 bt175.1) (rd y154 bt157.1) (rd y145 bt148.1)) else (none)) else (none)))) else (if bt170.1 = 1 then ((some (([0, wrap64 ((rd y145 bt148.1) + 1), (-1)] : List Int) : List Int)).bind fun y178 => ((spec_l20Rd_pick.f k s0_0 bt170.2 3).bind fun bt181 => (if 0 ≤ bt181.1 then (if bt181.1 < (y178.length : Int) then (spec_l20Task.j0 k s0_0 bt181.2 (wrap64 (1 + bt166.1)) (rd y178 bt181.1) (rd y145 bt148.1)) else (none)) else (none)))) else ((some (([0, 13, (-1)] : List Int) : List Int)).bind fun y184 => ((spec_l20Rd_pick.f k s0_0 bt170.2 3).bind fun bt187 => (if 0 ≤ bt187.1 then (if bt187.1 < (y184.length : Int) then (spec_l20Task.j0 k s0_0 bt187.2 (wrap64 (1 + bt166.1)) (rd y154 bt157.1) (rd y184 bt187.1)) else (none)) else (none))))))) else (spec_l20Task.j0 k s0_0 bt168.2 (wrap64 (1 + bt166.1)) (rd y154 bt157.1) (rd y145 bt148.1))))) else (none)) else (none)))) else (none)) else (none))))) else (none)) else (none))))) = some (r1, r2, r3, r4) := h
  clear h
  replace H := Option.bind_eq_some_iff.mp H
  obtain ⟨⟨t143, t144⟩, A30, H⟩ := H
  replace H : ((some (([2, 3, 4, 6, 8, 12, wrap64 (1 + t143), 5] : List Int) : List Int)).bind fun y145 => ((spec_l20Rd_pick.f k s0_0 t144 8).bind fun bt148 => (if 0 ≤ bt148.1 then (if bt148.1 < (y145.length : Int) then ((spec_l20Rd_pick.f k s0_0 bt148.2 (rd y145 bt148.1)).bind fun bt152 => ((some (([rd y145 bt148.1, wrap64 (1 + bt152.1), mx 1 (wrap64 ((rd y145 bt148.1) - 1))] : List Int) : List Int)).bind fun y154 => ((spec_l20Rd_pick.f k s0_0 bt152.2 3).bind fun bt157 => (if 0 ≤ bt157.1 then (if bt157.1 < (y154.length : Int) then ((some (([rd y154 bt157.1, mx 1 (wrap64 (Int.tdiv (rd y154 bt157.1) 2)), mx 1 (wrap64 (Int.tdiv (rd y154 bt157.1) 3))] : List Int) : List Int)).bind fun y160 => ((spec_l20Rd_pick.f k s0_0 bt157.2 3).bind fun bt163 => (if 0 ≤ bt163.1 then (if bt163.1 < (y160.length : Int) then ((spec_l20Rd_pick.f k s0_0 bt163.2 (mn 8 (rd y160 bt163.1))).bind fun bt166 => ((spec_l20Rd_odd.f k s0_0 bt166.2 a1).bind fun bt168 => (if bt168.1 = true then ((spec_l20Rd_pick.f k s0_0 bt168.2 3).bind fun bt170 => (if bt170.1 = 0 then ((some (([0, (-1), 9, wrap64 ((rd y154 bt157.1) + 1)] : List Int) : List Int)).bind fun y172 => ((spec_l20Rd_pick.f k s0_0 bt170.2 4).bind fun bt175 => (if 0 ≤ bt175.1 then (if bt175.1 < (y172.length : Int) then (spec_l20Task.j0 k s0_0 bt175.2 (rd y172 bt175.1) (rd y154 bt157.1) (rd y145 bt148.1)) else (none)) else (none)))) else (if bt170.1 = 1 then ((some (([0, wrap64 ((rd y145 bt148.1) + 1), (-1)] : List Int) : List Int)).bind fun y178 => ((spec_l20Rd_pick.f k s0_0 bt170.2 3).bind fun bt181 => (if 0 ≤ bt181.1 then (if bt181.1 < (y178.length : Int) then (spec_l20Task.j0 k s0_0 bt181.2 (wrap64 (1 + bt166.1)) (rd y178 bt181.1) (rd y145 bt148.1)) else (none)) else (none)))) else ((some (([0, 13, (-1)] : List Int) : List Int)).bind fun y184 => ((spec_l20Rd_pick.f k s0_0 bt170.2 3).bind fun bt187 => (if 0 ≤ bt187.1 then (if bt187.1 < (y184.length : Int) then (spec_l20Task.j0 k s0_0 bt187.2 (wrap64 (1 + bt166.1)) (rd y154 bt157.1) (rd y184 bt187.1)) else (none)) else (none))))))) else (spec_l20Task.j0 k s0_0 bt168.2 (wrap64 (1 + bt166.1)) (rd y154 bt157.1) (rd y145 bt148.1))))) else (none)) else (none)))) else (none)) else (none))))) else (none)) else (none)))) = some (r1, r2, r3, r4) := H
  have A3 := Aside0.mk A30
  clear A30
  obtain ⟨y145, hy145⟩ : ∃ y_ : List Int, y_ = (([2, 3, 4, 6, 8, 12, wrap64 (1 + t143), 5] : List Int)) := ⟨_, rfl⟩
  replace H : ((spec_l20Rd_pick.f k s0_0 t144 8).bind fun bt148 => (if 0 ≤ bt148.1 then (if bt148.1 < (y145.length : Int) then ((spec_l20Rd_pick.f k s0_0 bt148.2 (rd y145 bt148.1)).bind fun bt152 => ((some (([rd y145 bt148.1, wrap64 (1 + bt152.1), mx 1 (wrap64 ((rd y145 bt148.1) - 1))] : List Int) : List Int)).bind fun y154 => ((spec_l20Rd_pick.f k s0_0 bt152.2 3).bind fun bt157 => (if 0 ≤ bt157.1 then (if bt157.1 < (y154.length : Int) then ((some (([rd y154 bt157.1, mx 1 (wrap64 (Int.tdiv (rd y154 bt157.1) 2)), mx 1 (wrap64 (Int.tdiv (rd y154 bt157.1) 3))] : List Int) : List Int)).bind fun y160 => ((spec_l20Rd_pick.f k s0_0 bt157.2 3).bind fun bt163 => (if 0 ≤ bt163.1 then (if bt163.1 < (y160.length : Int) then ((spec_l20Rd_pick.f k s0_0 bt163.2 (mn 8 (rd y160 bt163.1))).bind fun bt166 => ((spec_l20Rd_odd.f k s0_0 bt166.2 a1).bind fun bt168 => (if bt168.1 = true then ((spec_l20Rd_pick.f k s0_0 bt168.2 3).bind fun bt170 => (if bt170.1 = 0 then ((some (([0, (-1), 9, wrap64 ((rd y154 bt157.1) + 1)] : List Int) : List Int)).bind fun y172 => ((spec_l20Rd_pick.f k s0_0 bt170.2 4).bind fun bt175 => (if 0 ≤ bt175.1 then (if bt175.1 < (y172.length : Int) then (spec_l20Task.j0 k s0_0 bt175.2 (rd y172 bt175.1) (rd y154 bt157.1) (rd y145 bt148.1)) else (none)) else (none)))) else (if bt170.1 = 1 then ((some (([0, wrap64 ((rd y145 bt148.1) + 1), (-1)] : List Int) : List Int)).bind fun y178 => ((spec_l20Rd_pick.f k s0_0 bt170.2 3).bind fun bt181 => (if 0 ≤ bt181.1 then (if bt181.1 < (y178.length : Int) then (spec_l20Task.j0 k s0_0 bt181.2 (wrap64 (1 + bt166.1)) (rd y178 bt181.1) (rd y145 bt148.1)) else (none)) else (none)))) else ((some (([0, 13, (-1)] : List Int) : List Int)).bind fun y184 => ((spec_l20Rd_pick.f k s0_0 bt170.2 3).bind fun bt187 => (if 0 ≤ bt187.1 then (if bt187.1 < (y184.length : Int) then (spec_l20Task.j0 k s0_0 bt187.2 (wrap64 (1 + bt166.1)) (rd y154 bt157.1) (rd y184 bt187.1)) else (none)) else (none))))))) else (spec_l20Task.j0 k s0_0 bt168.2 (wrap64 (1 + bt166.1)) (rd y154 bt157.1) (rd y145 bt148.1))))) else (none)) else (none)))) else (none)) else (none))))) else (none)) else (none))) = some (r1, r2, r3, r4) := by first | (rw [hy145]; with_reducible exact H) | (have H2_ := (Option.bind_some _ _).symm.trans H; rw [hy145]; with_reducible exact H2_) | (have H2_ := (Option.bind_some _ _).symm.trans H; with_reducible exact H2_) | with_reducible exact H | (rw [hy145]; exact H) | exact H
  have Ny145 := Aside0.mk hy145
  clear hy145
  replace H := Option.bind_eq_some_iff.mp H
  obtain ⟨⟨t148, t149⟩, A40, H⟩ := H
  replace H : (if 0 ≤ t148 then (if t148 < (y145.length : Int) then ((spec_l20Rd_pick.f k s0_0 t149 (rd y145 t148)).bind fun bt152 => ((some (([rd y145 t148, wrap64 (1 + bt152.1), mx 1 (wrap64 ((rd y145 t148) - 1))] : List Int) : List Int)).bind fun y154 => ((spec_l20Rd_pick.f k s0_0 bt152.2 3).bind fun bt157 => (if 0 ≤ bt157.1 then (if bt157.1 < (y154.length : Int) then ((some (([rd y154 bt157.1, mx 1 (wrap64 (Int.tdiv (rd y154 bt157.1) 2)), mx 1 (wrap64 (Int.tdiv (rd y154 bt157.1) 3))] : List Int) : List Int)).bind fun y160 => ((spec_l20Rd_pick.f k s0_0 bt157.2 3).bind fun bt163 => (if 0 ≤ bt163.1 then (if bt163.1 < (y160.length : Int) then ((spec_l20Rd_pick.f k s0_0 bt163.2 (mn 8 (rd y160 bt163.1))).bind fun bt166 => ((spec_l20Rd_odd.f k s0_0 bt166.2 a1).bind fun bt168 => (if bt168.1 = true then ((spec_l20Rd_pick.f k s0_0 bt168.2 3).bind fun bt170 => (if bt170.1 = 0 then ((some (([0, (-1), 9, wrap64 ((rd y154 bt157.1) + 1)] : List Int) : List Int)).bind fun y172 => ((spec_l20Rd_pick.f k s0_0 bt170.2 4).bind fun bt175 => (if 0 ≤ bt175.1 then (if bt175.1 < (y172.length : Int) then (spec_l20Task.j0 k s0_0 bt175.2 (rd y172 bt175.1) (rd y154 bt157.1) (rd y145 t148)) else (none)) else (none)))) else (if bt170.1 = 1 then ((some (([0, wrap64 ((rd y145 t148) + 1), (-1)] : List Int) : List Int)).bind fun y178 => ((spec_l20Rd_pick.f k s0_0 bt170.2 3).bind fun bt181 => (if 0 ≤ bt181.1 then (if bt181.1 < (y178.length : Int) then (spec_l20Task.j0 k s0_0 bt181.2 (wrap64 (1 + bt166.1)) (rd y178 bt181.1) (rd y145 t148)) else (none)) else (none)))) else ((some (([0, 13, (-1)] : List Int) : List Int)).bind fun y184 => ((spec_l20Rd_pick.f k s0_0 bt170.2 3).bind fun bt187 => (if 0 ≤ bt187.1 then (if bt187.1 < (y184.length : Int) then (spec_l20Task.j0 k s0_0 bt187.2 (wrap64 (1 + bt166.1)) (rd y154 bt157.1) (rd y184 bt187.1)) else (none)) else (none))))))) else (spec_l20Task.j0 k s0_0 bt168.2 (wrap64 (1 + bt166.1)) (rd y154 bt157.1) (rd y145 t148))))) else (none)) else (none)))) else (none)) else (none))))) else (none)) else (none)) = some (r1, r2, r3, r4) := H
  have A4 := Aside0.mk A40
  clear A40
  by_cases c5 : 0 ≤ t148
  · rw [if_pos c5] at H
    have c5b0 : decide (0 ≤ t148) = true := decide_eq_true c5
    clear c5
    by_cases c6 : t148 < (y145.length : Int)
    · rw [if_pos c6] at H
      have c6b0 : decide (t148 < (y145.length : Int)) = true := decide_eq_true c6
      clear c6
      replace H := Option.bind_eq_some_iff.mp H
      obtain ⟨⟨t152, t153⟩, A70, H⟩ := H
      replace H : ((some (([rd y145 t148, wrap64 (1 + t152), mx 1 (wrap64 ((rd y145 t148) - 1))] : List Int) : List Int)).bind fun y154 => ((spec_l20Rd_pick.f k s0_0 t153 3).bind fun bt157 => (if 0 ≤ bt157.1 then (if bt157.1 < (y154.length : Int) then ((some (([rd y154 bt157.1, mx 1 (wrap64 (Int.tdiv (rd y154 bt157.1) 2)), mx 1 (wrap64 (Int.tdiv (rd y154 bt157.1) 3))] : List Int) : List Int)).bind fun y160 => ((spec_l20Rd_pick.f k s0_0 bt157.2 3).bind fun bt163 => (if 0 ≤ bt163.1 then (if bt163.1 < (y160.length : Int) then ((spec_l20Rd_pick.f k s0_0 bt163.2 (mn 8 (rd y160 bt163.1))).bind fun bt166 => ((spec_l20Rd_odd.f k s0_0 bt166.2 a1).bind fun bt168 => (if bt168.1 = true then ((spec_l20Rd_pick.f k s0_0 bt168.2 3).bind fun bt170 => (if bt170.1 = 0 then ((some (([0, (-1), 9, wrap64 ((rd y154 bt157.1) + 1)] : List Int) : List Int)).bind fun y172 => ((spec_l20Rd_pick.f k s0_0 bt170.2 4).bind fun bt175 => (if 0 ≤ bt175.1 then (if bt175.1 < (y172.length : Int) then (spec_l20Task.j0 k s0_0 bt175.2 (rd y172 bt175.1) (rd y154 bt157.1) (rd y145 t148)) else (none)) else (none)))) else (if bt170.1 = 1 then ((some (([0, wrap64 ((rd y145 t148) + 1), (-1)] : List Int) : List Int)).bind fun y178 => ((spec_l20Rd_pick.f k s0_0 bt170.2 3).bind fun bt181 => (if 0 ≤ bt181.1 then (if bt181.1 < (y178.length : Int) then (spec_l20Task.j0 k s0_0 bt181.2 (wrap64 (1 + bt166.1)) (rd y178 bt181.1) (rd y145 t148)) else (none)) else (none)))) else ((some (([0, 13, (-1)] : List Int) : List Int)).bind fun y184 => ((spec_l20Rd_pick.f k s0_0 bt170.2 3).bind fun bt187 => (if 0 ≤ bt187.1 then (if bt187.1 < (y184.length : Int) then (spec_l20Task.j0 k s0_0 bt187.2 (wrap64 (1 + bt166.1)) (rd y154 bt157.1) (rd y184 bt187.1)) else (none)) else (none))))))) else (spec_l20Task.j0 k s0_0 bt168.2 (wrap64 (1 + bt166.1)) (rd y154 bt157.1) (rd y145 t148))))) else (none)) else (none)))) else (none)) else (none)))) = some (r1, r2, r3, r4) := H
      have A7 := Aside0.mk A70
      clear A70
      obtain ⟨ji8, hji8⟩ : ∃ j_ : Int, (mx 1 (wrap64 ((rd y145 t148) - 1))) = j_ := ⟨_, rfl⟩
      replace H : ((some (([rd y145 t148, wrap64 (1 + t152), ji8] : List Int) : List Int)).bind fun y154 => ((spec_l20Rd_pick.f k s0_0 t153 3).bind fun bt157 => (if 0 ≤ bt157.1 then (if bt157.1 < (y154.length : Int) then ((some (([rd y154 bt157.1, mx 1 (wrap64 (Int.tdiv (rd y154 bt157.1) 2)), mx 1 (wrap64 (Int.tdiv (rd y154 bt157.1) 3))] : List Int) : List Int)).bind fun y160 => ((spec_l20Rd_pick.f k s0_0 bt157.2 3).bind fun bt163 => (if 0 ≤ bt163.1 then (if bt163.1 < (y160.length : Int) then ((spec_l20Rd_pick.f k s0_0 bt163.2 (mn 8 (rd y160 bt163.1))).bind fun bt166 => ((spec_l20Rd_odd.f k s0_0 bt166.2 a1).bind fun bt168 => (if bt168.1 = true then ((spec_l20Rd_pick.f k s0_0 bt168.2 3).bind fun bt170 => (if bt170.1 = 0 then ((some (([0, (-1), 9, wrap64 ((rd y154 bt157.1) + 1)] : List Int) : List Int)).bind fun y172 => ((spec_l20Rd_pick.f k s0_0 bt170.2 4).bind fun bt175 => (if 0 ≤ bt175.1 then (if bt175.1 < (y172.length : Int) then (spec_l20Task.j0 k s0_0 bt175.2 (rd y172 bt175.1) (rd y154 bt157.1) (rd y145 t148)) else (none)) else (none)))) else (if bt170.1 = 1 then ((some (([0, wrap64 ((rd y145 t148) + 1), (-1)] : List Int) : List Int)).bind fun y178 => ((spec_l20Rd_pick.f k s0_0 bt170.2 3).bind fun bt181 => (if 0 ≤ bt181.1 then (if bt181.1 < (y178.length : Int) then (spec_l20Task.j0 k s0_0 bt181.2 (wrap64 (1 + bt166.1)) (rd y178 bt181.1) (rd y145 t148)) else (none)) else (none)))) else ((some (([0, 13, (-1)] : List Int) : List Int)).bind fun y184 => ((spec_l20Rd_pick.f k s0_0 bt170.2 3).bind fun bt187 => (if 0 ≤ bt187.1 then (if bt187.1 < (y184.length : Int) then (spec_l20Task.j0 k s0_0 bt187.2 (wrap64 (1 + bt166.1)) (rd y154 bt157.1) (rd y184 bt187.1)) else (none)) else (none))))))) else (spec_l20Task.j0 k s0_0 bt168.2 (wrap64 (1 + bt166.1)) (rd y154 bt157.1) (rd y145 t148))))) else (none)) else (none)))) else (none)) else (none)))) = some (r1, r2, r3, r4) := by first | (rw [hji8] at H; exact H) | (simp only [hji8] at H ⊢; exact H)
      (try rw [hji8] at A3)
      (try rw [hji8] at A4)
      (try rw [hji8] at A7)
      (try (have hji8l : 1 ≤ ji8 := by (rw [← hji8]; unfold mx; (repeat' split) <;> omega)))
      (try (have hji8m : 0 ≤ ji8 := by omega))
      have hji8_ : (if 1 < (wrap64 ((rd y145 t148) - 1)) then (wrap64 ((rd y145 t148) - 1)) else 1) = ji8 := hji8
      obtain ⟨y154, hy154⟩ : ∃ y_ : List Int, y_ = (([rd y145 t148, wrap64 (1 + t152), ji8] : List Int)) := ⟨_, rfl⟩
      replace H : ((spec_l20Rd_pick.f k s0_0 t153 3).bind fun bt157 => (if 0 ≤ bt157.1 then (if bt157.1 < (y154.length : Int) then ((some (([rd y154 bt157.1, mx 1 (wrap64 (Int.tdiv (rd y154 bt157.1) 2)), mx 1 (wrap64 (Int.tdiv (rd y154 bt157.1) 3))] : List Int) : List Int)).bind fun y160 => ((spec_l20Rd_pick.f k s0_0 bt157.2 3).bind fun bt163 => (if 0 ≤ bt163.1 then (if bt163.1 < (y160.length : Int) then ((spec_l20Rd_pick.f k s0_0 bt163.2 (mn 8 (rd y160 bt163.1))).bind fun bt166 => ((spec_l20Rd_odd.f k s0_0 bt166.2 a1).bind fun bt168 => (if bt168.1 = true then ((spec_l20Rd_pick.f k s0_0 bt168.2 3).bind fun bt170 => (if bt170.1 = 0 then ((some (([0, (-1), 9, wrap64 ((rd y154 bt157.1) + 1)] : List Int) : List Int)).bind fun y172 => ((spec_l20Rd_pick.f k s0_0 bt170.2 4).bind fun bt175 => (if 0 ≤ bt175.1 then (if bt175.1 < (y172.length : Int) then (spec_l20Task.j0 k s0_0 bt175.2 (rd y172 bt175.1) (rd y154 bt157.1) (rd y145 t148)) else (none)) else (none)))) else (if bt170.1 = 1 then ((some (([0, wrap64 ((rd y145 t148) + 1), (-1)] : List Int) : List Int)).bind fun y178 => ((spec_l20Rd_pick.f k s0_0 bt170.2 3).bind fun bt181 => (if 0 ≤ bt181.1 then (if bt181.1 < (y178.length : Int) then (spec_l20Task.j0 k s0_0 bt181.2 (wrap64 (1 + bt166.1)) (rd y178 bt181.1) (rd y145 t148)) else (none)) else (none)))) else ((some (([0, 13, (-1)] : List Int) : List Int)).bind fun y184 => ((spec_l20Rd_pick.f k s0_0 bt170.2 3).bind fun bt187 => (if 0 ≤ bt187.1 then (if bt187.1 < (y184.length : Int) then (spec_l20Task.j0 k s0_0 bt187.2 (wrap64 (1 + bt166.1)) (rd y154 bt157.1) (rd y184 bt187.1)) else (none)) else (none))))))) else (spec_l20Task.j0 k s0_0 bt168.2 (wrap64 (1 + bt166.1)) (rd y154 bt157.1) (rd y145 t148))))) else (none)) else (none)))) else (none)) else (none))) = some (r1, r2, r3, r4) := by first | (rw [hy154]; with_reducible exact H) | (have H2_ := (Option.bind_some _ _).symm.trans H; rw [hy154]; with_reducible exact H2_) | (have H2_ := (Option.bind_some _ _).symm.trans H; with_reducible exact H2_) | with_reducible exact H | (rw [hy154]; exact H) | exact H
      have Ny154 := Aside0.mk hy154
      clear hy154
      replace H := Option.bind_eq_some_iff.mp H
      obtain ⟨⟨t157, t158⟩, A90, H⟩ := H
      replace H : (if 0 ≤ t157 then (if t157 < (y154.length : Int) then ((some (([rd y154 t157, mx 1 (wrap64 (Int.tdiv (rd y154 t157) 2)), mx 1 (wrap64 (Int.tdiv (rd y154 t157) 3))] : List Int) : List Int)).bind fun y160 => ((spec_l20Rd_pick.f k s0_0 t158 3).bind fun bt163 => (if 0 ≤ bt163.1 then (if bt163.1 < (y160.length : Int) then ((spec_l20Rd_pick.f k s0_0 bt163.2 (mn 8 (rd y160 bt163.1))).bind fun bt166 => ((spec_l20Rd_odd.f k s0_0 bt166.2 a1).bind fun bt168 => (if bt168.1 = true then ((spec_l20Rd_pick.f k s0_0 bt168.2 3).bind fun bt170 => (if bt170.1 = 0 then ((some (([0, (-1), 9, wrap64 ((rd y154 t157) + 1)] : List Int) : List Int)).bind fun y172 => ((spec_l20Rd_pick.f k s0_0 bt170.2 4).bind fun bt175 => (if 0 ≤ bt175.1 then (if bt175.1 < (y172.length : Int) then (spec_l20Task.j0 k s0_0 bt175.2 (rd y172 bt175.1) (rd y154 t157) (rd y145 t148)) else (none)) else (none)))) else (if bt170.1 = 1 then ((some (([0, wrap64 ((rd y145 t148) + 1), (-1)] : List Int) : List Int)).bind fun y178 => ((spec_l20Rd_pick.f k s0_0 bt170.2 3).bind fun bt181 => (if 0 ≤ bt181.1 then (if bt181.1 < (y178.length : Int) then (spec_l20Task.j0 k s0_0 bt181.2 (wrap64 (1 + bt166.1)) (rd y178 bt181.1) (rd y145 t148)) else (none)) else (none)))) else ((some (([0, 13, (-1)] : List Int) : List Int)).bind fun y184 => ((spec_l20Rd_pick.f k s0_0 bt170.2 3).bind fun bt187 => (if 0 ≤ bt187.1 then (if bt187.1 < (y184.length : Int) then (spec_l20Task.j0 k s0_0 bt187.2 (wrap64 (1 + bt166.1)) (rd y154 t157) (rd y184 bt187.1)) else (none)) else (none))))))) else (spec_l20Task.j0 k s0_0 bt168.2 (wrap64 (1 + bt166.1)) (rd y154 t157) (rd y145 t148))))) else (none)) else (none)))) else (none)) else (none)) = some (r1, r2, r3, r4) := H
      have A9 := Aside0.mk A90
      clear A90
      by_cases c10 : 0 ≤ t157
      · rw [if_pos c10] at H
        have c10b0 : decide (0 ≤ t157) = true := decide_eq_true c10
        clear c10
        by_cases c11 : t157 < (y154.length : Int)
        · rw [if_pos c11] at H
          have c11b0 : decide (t157 < (y154.length : Int)) = true := decide_eq_true c11
          clear c11
          obtain ⟨ji12, hji12⟩ : ∃ j_ : Int, (mx 1 (wrap64 (Int.tdiv (rd y154 t157) 2))) = j_ := ⟨_, rfl⟩
          replace H : ((some (([rd y154 t157, ji12, mx 1 (wrap64 (Int.tdiv (rd y154 t157) 3))] : List Int) : List Int)).bind fun y160 => ((spec_l20Rd_pick.f k s0_0 t158 3).bind fun bt163 => (if 0 ≤ bt163.1 then (if bt163.1 < (y160.length : Int) then ((spec_l20Rd_pick.f k s0_0 bt163.2 (mn 8 (rd y160 bt163.1))).bind fun bt166 => ((spec_l20Rd_odd.f k s0_0 bt166.2 a1).bind fun bt168 => (if bt168.1 = true then ((spec_l20Rd_pick.f k s0_0 bt168.2 3).bind fun bt170 => (if bt170.1 = 0 then ((some (([0, (-1), 9, wrap64 ((rd y154 t157) + 1)] : List Int) : List Int)).bind fun y172 => ((spec_l20Rd_pick.f k s0_0 bt170.2 4).bind fun bt175 => (if 0 ≤ bt175.1 then (if bt175.1 < (y172.length : Int) then (spec_l20Task.j0 k s0_0 bt175.2 (rd y172 bt175.1) (rd y154 t157) (rd y145 t148)) else (none)) else (none)))) else (if bt170.1 = 1 then ((some (([0, wrap64 ((rd y145 t148) + 1), (-1)] : List Int) : List Int)).bind fun y178 => ((spec_l20Rd_pick.f k s0_0 bt170.2 3).bind fun bt181 => (if 0 ≤ bt181.1 then (if bt181.1 < (y178.length : Int) then (spec_l20Task.j0 k s0_0 bt181.2 (wrap64 (1 + bt166.1)) (rd y178 bt181.1) (rd y145 t148)) else (none)) else (none)))) else ((some (([0, 13, (-1)] : List Int) : List Int)).bind fun y184 => ((spec_l20Rd_pick.f k s0_0 bt170.2 3).bind fun bt187 => (if 0 ≤ bt187.1 then (if bt187.1 < (y184.length : Int) then (spec_l20Task.j0 k s0_0 bt187.2 (wrap64 (1 + bt166.1)) (rd y154 t157) (rd y184 bt187.1)) else (none)) else (none))))))) else (spec_l20Task.j0 k s0_0 bt168.2 (wrap64 (1 + bt166.1)) (rd y154 t157) (rd y145 t148))))) else (none)) else (none)))) = some (r1, r2, r3, r4) := by first | (rw [hji12] at H; exact H) | (simp only [hji12] at H ⊢; exact H)
          (try rw [hji12] at A3)
          (try rw [hji12] at A4)
          (try rw [hji12] at A7)
          (try rw [hji12] at A9)
          (try (have hji12l : 1 ≤ ji12 := by (rw [← hji12]; unfold mx; (repeat' split) <;> omega)))
          (try (have hji12m : 0 ≤ ji12 := by omega))
          have hji12_ : (if 1 < (wrap64 (Int.tdiv (rd y154 t157) 2)) then (wrap64 (Int.tdiv (rd y154 t157) 2)) else 1) = ji12 := hji12
          obtain ⟨ji13, hji13⟩ : ∃ j_ : Int, (mx 1 (wrap64 (Int.tdiv (rd y154 t157) 3))) = j_ := ⟨_, rfl⟩
          replace H : ((some (([rd y154 t157, ji12, ji13] : List Int) : List Int)).bind fun y160 => ((spec_l20Rd_pick.f k s0_0 t158 3).bind fun bt163 => (if 0 ≤ bt163.1 then (if bt163.1 < (y160.length : Int) then ((spec_l20Rd_pick.f k s0_0 bt163.2 (mn 8 (rd y160 bt163.1))).bind fun bt166 => ((spec_l20Rd_odd.f k s0_0 bt166.2 a1).bind fun bt168 => (if bt168.1 = true then ((spec_l20Rd_pick.f k s0_0 bt168.2 3).bind fun bt170 => (if bt170.1 = 0 then ((some (([0, (-1), 9, wrap64 ((rd y154 t157) + 1)] : List Int) : List Int)).bind fun y172 => ((spec_l20Rd_pick.f k s0_0 bt170.2 4).bind fun bt175 => (if 0 ≤ bt175.1 then (if bt175.1 < (y172.length : Int) then (spec_l20Task.j0 k s0_0 bt175.2 (rd y172 bt175.1) (rd y154 t157) (rd y145 t148)) else (none)) else (none)))) else (if bt170.1 = 1 then ((some (([0, wrap64 ((rd y145 t148) + 1), (-1)] : List Int) : List Int)).bind fun y178 => ((spec_l20Rd_pick.f k s0_0 bt170.2 3).bind fun bt181 => (if 0 ≤ bt181.1 then (if bt181.1 < (y178.length : Int) then (spec_l20Task.j0 k s0_0 bt181.2 (wrap64 (1 + bt166.1)) (rd y178 bt181.1) (rd y145 t148)) else (none)) else (none)))) else ((some (([0, 13, (-1)] : List Int) : List Int)).bind fun y184 => ((spec_l20Rd_pick.f k s0_0 bt170.2 3).bind fun bt187 => (if 0 ≤ bt187.1 then (if bt187.1 < (y184.length : Int) then (spec_l20Task.j0 k s0_0 bt187.2 (wrap64 (1 + bt166.1)) (rd y154 t157) (rd y184 bt187.1)) else (none)) else (none))))))) else (spec_l20Task.j0 k s0_0 bt168.2 (wrap64 (1 + bt166.1)) (rd y154 t157) (rd y145 t148))))) else (none)) else (none)))) = some (r1, r2, r3, r4) := by first | (rw [hji13] at H; exact H) | (simp only [hji13] at H ⊢; exact H)
          (try rw [hji13] at A3)
          (try rw [hji13] at A4)
          (try rw [hji13] at A7)
          (try rw [hji13] at A9)
          (try (have hji13l : 1 ≤ ji13 := by (rw [← hji13]; unfold mx; (repeat' split) <;> omega)))
          (try (have hji13m : 0 ≤ ji13 := by omega))
          have hji13_ : (if 1 < (wrap64 (Int.tdiv (rd y154 t157) 3)) then (wrap64 (Int.tdiv (rd y154 t157) 3)) else 1) = ji13 := hji13
          obtain ⟨y160, hy160⟩ : ∃ y_ : List Int, y_ = (([rd y154 t157, ji12, ji13] : List Int)) := ⟨_, rfl⟩
          replace H : ((spec_l20Rd_pick.f k s0_0 t158 3).bind fun bt163 => (if 0 ≤ bt163.1 then (if bt163.1 < (y160.length : Int) then ((spec_l20Rd_pick.f k s0_0 bt163.2 (mn 8 (rd y160 bt163.1))).bind fun bt166 => ((spec_l20Rd_odd.f k s0_0 bt166.2 a1).bind fun bt168 => (if bt168.1 = true then ((spec_l20Rd_pick.f k s0_0 bt168.2 3).bind fun bt170 => (if bt170.1 = 0 then ((some (([0, (-1), 9, wrap64 ((rd y154 t157) + 1)] : List Int) : List Int)).bind fun y172 => ((spec_l20Rd_pick.f k s0_0 bt170.2 4).bind fun bt175 => (if 0 ≤ bt175.1 then (if bt175.1 < (y172.length : Int) then (spec_l20Task.j0 k s0_0 bt175.2 (rd y172 bt175.1) (rd y154 t157) (rd y145 t148)) else (none)) else (none)))) else (if bt170.1 = 1 then ((some (([0, wrap64 ((rd y145 t148) + 1), (-1)] : List Int) : List Int)).bind fun y178 => ((spec_l20Rd_pick.f k s0_0 bt170.2 3).bind fun bt181 => (if 0 ≤ bt181.1 then (if bt181.1 < (y178.length : Int) then (spec_l20Task.j0 k s0_0 bt181.2 (wrap64 (1 + bt166.1)) (rd y178 bt181.1) (rd y145 t148)) else (none)) else (none)))) else ((some (([0, 13, (-1)] : List Int) : List Int)).bind fun y184 => ((spec_l20Rd_pick.f k s0_0 bt170.2 3).bind fun bt187 => (if 0 ≤ bt187.1 then (if bt187.1 < (y184.length : Int) then (spec_l20Task.j0 k s0_0 bt187.2 (wrap64 (1 + bt166.1)) (rd y154 t157) (rd y184 bt187.1)) else (none)) else (none))))))) else (spec_l20Task.j0 k s0_0 bt168.2 (wrap64 (1 + bt166.1)) (rd y154 t157) (rd y145 t148))))) else (none)) else (none))) = some (r1, r2, r3, r4) := by first | (rw [hy160]; with_reducible exact H) | (have H2_ := (Option.bind_some _ _).symm.trans H; rw [hy160]; with_reducible exact H2_) | (have H2_ := (Option.bind_some _ _).symm.trans H; with_reducible exact H2_) | with_reducible exact H | (rw [hy160]; exact H) | exact H
          have Ny160 := Aside0.mk hy160
          clear hy160
          replace H := Option.bind_eq_some_iff.mp H
          obtain ⟨⟨t163, t164⟩, A140, H⟩ := H
          replace H : (if 0 ≤ t163 then (if t163 < (y160.length : Int) then ((spec_l20Rd_pick.f k s0_0 t164 (mn 8 (rd y160 t163))).bind fun bt166 => ((spec_l20Rd_odd.f k s0_0 bt166.2 a1).bind fun bt168 => (if bt168.1 = true then ((spec_l20Rd_pick.f k s0_0 bt168.2 3).bind fun bt170 => (if bt170.1 = 0 then ((some (([0, (-1), 9, wrap64 ((rd y154 t157) + 1)] : List Int) : List Int)).bind fun y172 => ((spec_l20Rd_pick.f k s0_0 bt170.2 4).bind fun bt175 => (if 0 ≤ bt175.1 then (if bt175.1 < (y172.length : Int) then (spec_l20Task.j0 k s0_0 bt175.2 (rd y172 bt175.1) (rd y154 t157) (rd y145 t148)) else (none)) else (none)))) else (if bt170.1 = 1 then ((some (([0, wrap64 ((rd y145 t148) + 1), (-1)] : List Int) : List Int)).bind fun y178 => ((spec_l20Rd_pick.f k s0_0 bt170.2 3).bind fun bt181 => (if 0 ≤ bt181.1 then (if bt181.1 < (y178.length : Int) then (spec_l20Task.j0 k s0_0 bt181.2 (wrap64 (1 + bt166.1)) (rd y178 bt181.1) (rd y145 t148)) else (none)) else (none)))) else ((some (([0, 13, (-1)] : List Int) : List Int)).bind fun y184 => ((spec_l20Rd_pick.f k s0_0 bt170.2 3).bind fun bt187 => (if 0 ≤ bt187.1 then (if bt187.1 < (y184.length : Int) then (spec_l20Task.j0 k s0_0 bt187.2 (wrap64 (1 + bt166.1)) (rd y154 t157) (rd y184 bt187.1)) else (none)) else (none))))))) else (spec_l20Task.j0 k s0_0 bt168.2 (wrap64 (1 + bt166.1)) (rd y154 t157) (rd y145 t148))))) else (none)) else (none)) = some (r1, r2, r3, r4) := H
          have A14 := Aside0.mk A140
          clear A140
          by_cases c15 : 0 ≤ t163
          · rw [if_pos c15] at H
            have c15b0 : decide (0 ≤ t163) = true := decide_eq_true c15
            clear c15
            by_cases c16 : t163 < (y160.length : Int)
            · rw [if_pos c16] at H
              have c16b0 : decide (t163 < (y160.length : Int)) = true := decide_eq_true c16
              clear c16
              obtain ⟨ji17, hji17⟩ : ∃ j_ : Int, (mn 8 (rd y160 t163)) = j_ := ⟨_, rfl⟩
              replace H : ((spec_l20Rd_pick.f k s0_0 t164 (ji17)).bind fun bt166 => ((spec_l20Rd_odd.f k s0_0 bt166.2 a1).bind fun bt168 => (if bt168.1 = true then ((spec_l20Rd_pick.f k s0_0 bt168.2 3).bind fun bt170 => (if bt170.1 = 0 then ((some (([0, (-1), 9, wrap64 ((rd y154 t157) + 1)] : List Int) : List Int)).bind fun y172 => ((spec_l20Rd_pick.f k s0_0 bt170.2 4).bind fun bt175 => (if 0 ≤ bt175.1 then (if bt175.1 < (y172.length : Int) then (spec_l20Task.j0 k s0_0 bt175.2 (rd y172 bt175.1) (rd y154 t157) (rd y145 t148)) else (none)) else (none)))) else (if bt170.1 = 1 then ((some (([0, wrap64 ((rd y145 t148) + 1), (-1)] : List Int) : List Int)).bind fun y178 => ((spec_l20Rd_pick.f k s0_0 bt170.2 3).bind fun bt181 => (if 0 ≤ bt181.1 then (if bt181.1 < (y178.length : Int) then (spec_l20Task.j0 k s0_0 bt181.2 (wrap64 (1 + bt166.1)) (rd y178 bt181.1) (rd y145 t148)) else (none)) else (none)))) else ((some (([0, 13, (-1)] : List Int) : List Int)).bind fun y184 => ((spec_l20Rd_pick.f k s0_0 bt170.2 3).bind fun bt187 => (if 0 ≤ bt187.1 then (if bt187.1 < (y184.length : Int) then (spec_l20Task.j0 k s0_0 bt187.2 (wrap64 (1 + bt166.1)) (rd y154 t157) (rd y184 bt187.1)) else (none)) else (none))))))) else (spec_l20Task.j0 k s0_0 bt168.2 (wrap64 (1 + bt166.1)) (rd y154 t157) (rd y145 t148))))) = some (r1, r2, r3, r4) := by first | (rw [hji17] at H; exact H) | (simp only [hji17] at H ⊢; exact H)
              (try rw [hji17] at A3)
              (try rw [hji17] at A4)
              (try rw [hji17] at A7)
              (try rw [hji17] at A9)
              (try rw [hji17] at A14)
              (try (have hji17h : ji17 ≤ 8 := by (rw [← hji17]; unfold mn; (repeat' split) <;> omega)))
              (try (have hji17g : ji17 ≤ 64 := by omega))
              have hji17_ : (if (rd y160 t163) < 8 then (rd y160 t163) else 8) = ji17 := hji17
              replace H := Option.bind_eq_some_iff.mp H
              obtain ⟨⟨t166, t167⟩, A180, H⟩ := H
              replace H : ((spec_l20Rd_odd.f k s0_0 t167 a1).bind fun bt168 => (if bt168.1 = true then ((spec_l20Rd_pick.f k s0_0 bt168.2 3).bind fun bt170 => (if bt170.1 = 0 then ((some (([0, (-1), 9, wrap64 ((rd y154 t157) + 1)] : List Int) : List Int)).bind fun y172 => ((spec_l20Rd_pick.f k s0_0 bt170.2 4).bind fun bt175 => (if 0 ≤ bt175.1 then (if bt175.1 < (y172.length : Int) then (spec_l20Task.j0 k s0_0 bt175.2 (rd y172 bt175.1) (rd y154 t157) (rd y145 t148)) else (none)) else (none)))) else (if bt170.1 = 1 then ((some (([0, wrap64 ((rd y145 t148) + 1), (-1)] : List Int) : List Int)).bind fun y178 => ((spec_l20Rd_pick.f k s0_0 bt170.2 3).bind fun bt181 => (if 0 ≤ bt181.1 then (if bt181.1 < (y178.length : Int) then (spec_l20Task.j0 k s0_0 bt181.2 (wrap64 (1 + t166)) (rd y178 bt181.1) (rd y145 t148)) else (none)) else (none)))) else ((some (([0, 13, (-1)] : List Int) : List Int)).bind fun y184 => ((spec_l20Rd_pick.f k s0_0 bt170.2 3).bind fun bt187 => (if 0 ≤ bt187.1 then (if bt187.1 < (y184.length : Int) then (spec_l20Task.j0 k s0_0 bt187.2 (wrap64 (1 + t166)) (rd y154 t157) (rd y184 bt187.1)) else (none)) else (none))))))) else (spec_l20Task.j0 k s0_0 bt168.2 (wrap64 (1 + t166)) (rd y154 t157) (rd y145 t148)))) = some (r1, r2, r3, r4) := H
              have A18 := Aside0.mk A180
              clear A180
              replace H := Option.bind_eq_some_iff.mp H
              obtain ⟨⟨t168, t169⟩, A190, H⟩ := H
              replace H : (if t168 = true then ((spec_l20Rd_pick.f k s0_0 t169 3).bind fun bt170 => (if bt170.1 = 0 then ((some (([0, (-1), 9, wrap64 ((rd y154 t157) + 1)] : List Int) : List Int)).bind fun y172 => ((spec_l20Rd_pick.f k s0_0 bt170.2 4).bind fun bt175 => (if 0 ≤ bt175.1 then (if bt175.1 < (y172.length : Int) then (spec_l20Task.j0 k s0_0 bt175.2 (rd y172 bt175.1) (rd y154 t157) (rd y145 t148)) else (none)) else (none)))) else (if bt170.1 = 1 then ((some (([0, wrap64 ((rd y145 t148) + 1), (-1)] : List Int) : List Int)).bind fun y178 => ((spec_l20Rd_pick.f k s0_0 bt170.2 3).bind fun bt181 => (if 0 ≤ bt181.1 then (if bt181.1 < (y178.length : Int) then (spec_l20Task.j0 k s0_0 bt181.2 (wrap64 (1 + t166)) (rd y178 bt181.1) (rd y145 t148)) else (none)) else (none)))) else ((some (([0, 13, (-1)] : List Int) : List Int)).bind fun y184 => ((spec_l20Rd_pick.f k s0_0 bt170.2 3).bind fun bt187 => (if 0 ≤ bt187.1 then (if bt187.1 < (y184.length : Int) then (spec_l20Task.j0 k s0_0 bt187.2 (wrap64 (1 + t166)) (rd y154 t157) (rd y184 bt187.1)) else (none)) else (none))))))) else (spec_l20Task.j0 k s0_0 t169 (wrap64 (1 + t166)) (rd y154 t157) (rd y145 t148))) = some (r1, r2, r3, r4) := H
              have A19 := Aside0.mk A190
              clear A190
              have HC20 := Aside0.mk H
              clear H
              go_enter Try.func102, Try.ntmps102
              try go_wp2_with (first | ((with_reducible refine gate_dst (N := 4) rfl ?_); refine box_event ?hg (N := 4) ?hd (cs := #[.int .i64 0, .int .i64 0, .int .i64 0]) (t := 56) ?hr ?_; (case hd => rfl); (case hg => rfl); (case hr => first | (go_simp; done) | (go_simp; rfl)); intro gb142 hg w21 hbox hb; have n0_ := Aside0.mk (IsS94.below (by repeat (first | (with_reducible first | exact HI0.out | apply IsS94.alloc | apply IsS94.drewN | apply IsS94.drew | apply IsS94.set_1) | exact HI0.out)) hb); have n1_ := Aside0.mk (KeepBut.trans (by repeat (first | (with_reducible first | exact HK.out | apply KeepBut.set_ | apply keep_drewN | apply keep_drew | apply keep_alloc) | exact HK.out)) (KeepBut.of_below hb g none) (.inl rfl)); have n2_ := Aside0.mk (below_step (by repeat (first | (with_reducible first | exact HB.out | apply below_alloc | apply pw_below_drewN | apply below_drew1 | refine below_set ?_ (IsS94.ge HI0.out)) | exact HB.out)) hb); have n3_ := Aside0.mk (hbox); have n4_ := Aside0.mk ((by rw [hg]; exact (keep_size (w := w) (g := g) (row := none) (by repeat (first | (with_reducible first | exact HK.out | apply KeepBut.set_ | apply keep_drewN | apply keep_drew | apply keep_alloc) | exact HK.out))) : w.heap.size ≤ gb142)); have n5_ := Aside0.mk ((Nat.le_trans HW0.out (by rw [hg]; exact (keep_size (w := w) (g := g) (row := none) (by repeat (first | (with_reducible first | exact HK.out | apply KeepBut.set_ | apply keep_drewN | apply keep_drew | apply keep_alloc) | exact HK.out))) : w.heap.size ≤ gb142) : w0.heap.size ≤ gb142)); have n6_ := Aside0.mk ((by rw [hg]; exact Nat.ne_of_lt (IsS94.lt (show IsS94 w0 _ g s0_0 s0_1 from by repeat (first | (with_reducible first | exact HI0.out | apply IsS94.alloc | apply IsS94.drewN | apply IsS94.drew | apply IsS94.set_1) | exact HI0.out))) : g ≠ gb142)); have n7_ := Aside0.mk ((by rw [hg]; exact Nat.ne_of_gt (IsS94.lt (show IsS94 w0 _ g s0_0 s0_1 from by repeat (first | (with_reducible first | exact HI0.out | apply IsS94.alloc | apply IsS94.drewN | apply IsS94.drew | apply IsS94.set_1) | exact HI0.out))) : gb142 ≠ g)); clear HI0; clear HK; clear HB; have HI0 := n0_; have HK := n1_; have HB := n2_; have BK142 := n3_; have GW142 := n4_; have GE142 := n5_; have NB0_142 := n6_; have NB142_0 := n7_; clear n0_ n1_ n2_ n3_ n4_ n5_ n6_ n7_; clear hb hbox hg) | ((with_reducible refine gate_callee (f := 61) rfl ?_); refine goesL_ (some 7) rfl rfl Try.func61 (by kernel_rfl) rfl #[.pointer (some ⟨g, 0, none⟩), .int .i64 12] rfl (by (try simp only [List.map_toArray, List.map_cons, List.map_nil]); first | done | rfl | (simp only [List.length_drop, List.length_take]; rfl)) ?_; (with_reducible refine (spec_l20Rd_pick.calls k g s0_0 s0_1 12 t143 t144 w0 _ ?side1 ?side2 A3.out).mono ?_); (case side1 => repeat (first | (with_reducible first | exact HI0.out | apply IsS94.alloc | apply IsS94.drewN | apply IsS94.drew | apply IsS94.set_1 | refine IsS94.far ?_ NB0_142.out _) | exact HI0.out)); (case side2 => repeat (first | (with_reducible first | exact HB.out | apply below_alloc | apply pw_below_drewN | apply below_drew1 | refine below_set ?_ (IsS94.ge HI0.out) | refine below_set ?_ GE142.out) | exact HB.out)); rintro e w22 ⟨rfl, hi, hb, hk⟩; refine ⟨_, rfl, ?_⟩; have n0_ := Aside0.mk (KeepBut.blk hk (g' := gb142) (o := .cells #[.int .i64 0, .int .i64 0, .int .i64 0] 56 (0, 0)) (by (with_reducible repeat (first | refine blk_drewN ?_ _ | refine blk_drew ?_ | refine blk_alloc ?_ _)); exact BK142.out) NB142_0.out (by simp)); have n1_ := Aside0.mk (KeepBut.trans (by repeat (first | (with_reducible first | exact HK.out | apply KeepBut.set_ | apply keep_drewN | apply keep_drew | apply keep_alloc | refine keep_far ?_ GW142.out _) | exact HK.out)) hk (.inl rfl)); have n2_ := Aside0.mk (hb); have n3_ := Aside0.mk (hi); clear BK142; clear HK; clear HB; clear HI0; have BK142 := n0_; have HK := n1_; have HB := n2_; have HI0 := n3_; clear n0_ n1_ n2_ n3_; (try clear hb); (try clear hb2); (try clear hk); (try clear hi)) | ((with_reducible refine gate_dst (N := 9) rfl ?_); refine Kd.R_lit (Kd.int .i64) _ 3 ?hg (N := 9) ?hd (xs := ([2, 3, 4, 6, 8, 12, wrap64 (1 + t143), 5] : List Int)) (inner := [.int .i64 2, .int .i64 3, .int .i64 4, .int .i64 6, .int .i64 8, .int .i64 12, .int .i64 (wrap64 (1 + t143)), .int .i64 5]) (ok := fun _ => True) (okp := fun _ => True) ?hr ?hp (fun _ hk => hk) trivial (Below.refl _ _) (Nat.le_refl _) (by simp) ?_; (case hd => rfl); (case hg => rfl); (case hr => first | (go_simp; done) | (go_simp; rfl)); (case hp => exact (Reps.one (show Kd.M (Kd.int .i64) _ _ _ 2 [.int .i64 2] from rfl) (Reps.one (show Kd.M (Kd.int .i64) _ _ _ 3 [.int .i64 3] from rfl) (Reps.one (show Kd.M (Kd.int .i64) _ _ _ 4 [.int .i64 4] from rfl) (Reps.one (show Kd.M (Kd.int .i64) _ _ _ 6 [.int .i64 6] from rfl) (Reps.one (show Kd.M (Kd.int .i64) _ _ _ 8 [.int .i64 8] from rfl) (Reps.one (show Kd.M (Kd.int .i64) _ _ _ 12 [.int .i64 12] from rfl) (Reps.one (show Kd.M (Kd.int .i64) _ _ _ (wrap64 (1 + t143)) [.int .i64 (wrap64 (1 + t143))] from rfl) (Reps.one (show Kd.M (Kd.int .i64) _ _ _ 5 [.int .i64 5] from rfl) (Reps.none _ _)))))))))); intro v146 w23 ho24 hb hg_ hnew_; clear hg_ hnew_; (first | rw [← Ny145.out] at ho24 | (simp only [Int.reduceToNat] at ho24; rw [← Ny145.out] at ho24)); have n0_ := Aside0.mk (Kd.R_lower ho24 (keep_size (w := w) (g := g) (row := none) (by repeat (first | (with_reducible first | exact HK.out | apply KeepBut.set_ | apply keep_drewN | apply keep_drew | apply keep_alloc | refine keep_far ?_ GW142.out _) | exact HK.out)))); have n1_ := Aside0.mk (IsS94.below (by repeat (first | (with_reducible first | exact HI0.out | apply IsS94.alloc | apply IsS94.drewN | apply IsS94.drew | apply IsS94.set_1 | refine IsS94.far ?_ NB0_142.out _) | exact HI0.out)) hb); have n2_ := Aside0.mk (blk_below (g := gb142) (o := .cells #[.int .i64 0, .int .i64 0, .int .i64 0] 56 (0, 0)) (by (with_reducible repeat (first | refine blk_drewN ?_ _ | refine blk_drew ?_ | refine blk_alloc ?_ _)); exact BK142.out) hb); have n3_ := Aside0.mk (KeepBut.trans (by repeat (first | (with_reducible first | exact HK.out | apply KeepBut.set_ | apply keep_drewN | apply keep_drew | apply keep_alloc | refine keep_far ?_ GW142.out _) | exact HK.out)) (KeepBut.of_below hb g none) (.inl rfl)); have n4_ := Aside0.mk (below_step (by repeat (first | (with_reducible first | exact HB.out | apply below_alloc | apply pw_below_drewN | apply below_drew1 | refine below_set ?_ (IsS94.ge HI0.out) | refine below_set ?_ GE142.out) | exact HB.out)) hb); clear HI0; clear BK142; clear HK; clear HB; have HO147 := n0_; have HI0 := n1_; have BK142 := n2_; have HK := n3_; have HB := n4_; clear n0_ n1_ n2_ n3_ n4_; clear hb ho24) | ((with_reducible refine gate_callee (f := 61) rfl ?_); refine goesL_ (some 11) rfl rfl Try.func61 (by kernel_rfl) rfl #[.pointer (some ⟨g, 0, none⟩), .int .i64 8] rfl (by (try simp only [List.map_toArray, List.map_cons, List.map_nil]); first | done | rfl | (simp only [List.length_drop, List.length_take]; rfl)) ?_; (with_reducible refine (spec_l20Rd_pick.calls k g s0_0 t144 8 t148 t149 w0 _ ?side1 ?side2 A4.out).mono ?_); (case side1 => repeat (first | (with_reducible first | exact HI0.out | apply IsS94.alloc | apply IsS94.drewN | apply IsS94.drew | apply IsS94.set_1 | refine IsS94.far ?_ NB0_142.out _) | exact HI0.out)); (case side2 => repeat (first | (with_reducible first | exact HB.out | apply below_alloc | apply pw_below_drewN | apply below_drew1 | refine below_set ?_ (IsS94.ge HI0.out) | refine below_set ?_ GE142.out) | exact HB.out)); rintro e w25 ⟨rfl, hi, hb, hk⟩; refine ⟨_, rfl, ?_⟩; have n0_ := Aside0.mk (KeepBut.blk hk (g' := gb142) (o := .cells #[.int .i64 0, .int .i64 0, .int .i64 0] 56 (0, 0)) (by (with_reducible repeat (first | refine blk_drewN ?_ _ | refine blk_drew ?_ | refine blk_alloc ?_ _)); exact BK142.out) NB142_0.out (by simp)); have n1_ := Aside0.mk (Kd.R_mono (Kd.R_keep (IsS94.apart (show IsS94 w0 _ g s0_0 t144 from by repeat (first | (with_reducible first | exact HI0.out | apply IsS94.alloc | apply IsS94.drewN | apply IsS94.drew | apply IsS94.set_1 | refine IsS94.far ?_ NB0_142.out _) | exact HI0.out)) (by (with_reducible repeat (first | apply Kd.R_alloc | apply Kd.R_drewN | apply Kd.R_drew)); exact HO147.out) (by decide)) hk (fun _ h => h.2)) (fun _ h => h.1)); have n2_ := Aside0.mk (KeepBut.trans (by repeat (first | (with_reducible first | exact HK.out | apply KeepBut.set_ | apply keep_drewN | apply keep_drew | apply keep_alloc | refine keep_far ?_ GW142.out _) | exact HK.out)) hk (.inl rfl)); have n3_ := Aside0.mk (hb); have n4_ := Aside0.mk (hi); clear BK142; clear HO147; clear HK; clear HB; clear HI0; have BK142 := n0_; have HO147 := n1_; have HK := n2_; have HB := n3_; have HI0 := n4_; clear n0_ n1_ n2_ n3_ n4_; (try clear hb); (try clear hb2); (try clear hk); (try clear hi); obtain ⟨Ao26, co26, eo26⟩ := Kd.R_slice HO147.out; subst eo26; have p150 : 0 ≤ (t148 : Int) := of_decide_eq_true (by first | (with_reducible assumption) | assumption); have q150 : t148 < (y145.length : Int) := of_decide_eq_true (by first | (with_reducible assumption) | assumption); obtain ⟨ad150, e150, hx150_0⟩ := Kd.at_int (Kd.R_reads' HO147.out).2.2 t148 p150 q150; cases e150; replace p150 := eq_true p150; replace q150 := eq_true q150) | ((with_reducible refine gate_dst (N := 5) rfl ?_); refine box_event ?hg (N := 5) ?hd (cs := #[.int .i64 0, .int .i64 0, .int .i64 0]) (t := 56) ?hr ?_; (case hd => rfl); (case hg => rfl); (case hr => first | (go_simp; done) | (go_simp; rfl)); intro gb151 hg w27 hbox hb; have n0_ := Aside0.mk (Kd.R_below (by (with_reducible repeat (first | apply Kd.R_alloc | apply Kd.R_drewN | apply Kd.R_drew)); exact HO147.out) hb); have n1_ := Aside0.mk (IsS94.below (by repeat (first | (with_reducible first | exact HI0.out | apply IsS94.alloc | apply IsS94.drewN | apply IsS94.drew | apply IsS94.set_1 | refine IsS94.far ?_ NB0_142.out _) | exact HI0.out)) hb); have n2_ := Aside0.mk (blk_below (g := gb142) (o := .cells #[.int .i64 0, .int .i64 0, .int .i64 0] 56 (0, 0)) (by (with_reducible repeat (first | refine blk_drewN ?_ _ | refine blk_drew ?_ | refine blk_alloc ?_ _)); exact BK142.out) hb); have n3_ := Aside0.mk (KeepBut.trans (by repeat (first | (with_reducible first | exact HK.out | apply KeepBut.set_ | apply keep_drewN | apply keep_drew | apply keep_alloc | refine keep_far ?_ GW142.out _) | exact HK.out)) (KeepBut.of_below hb g none) (.inl rfl)); have n4_ := Aside0.mk (below_step (by repeat (first | (with_reducible first | exact HB.out | apply below_alloc | apply pw_below_drewN | apply below_drew1 | refine below_set ?_ (IsS94.ge HI0.out) | refine below_set ?_ GE142.out) | exact HB.out)) hb); have n5_ := Aside0.mk (hbox); have n6_ := Aside0.mk ((by rw [hg]; exact (keep_size (w := w) (g := g) (row := none) (by repeat (first | (with_reducible first | exact HK.out | apply KeepBut.set_ | apply keep_drewN | apply keep_drew | apply keep_alloc | refine keep_far ?_ GW142.out _) | exact HK.out))) : w.heap.size ≤ gb151)); have n7_ := Aside0.mk ((Nat.le_trans HW0.out (by rw [hg]; exact (keep_size (w := w) (g := g) (row := none) (by repeat (first | (with_reducible first | exact HK.out | apply KeepBut.set_ | apply keep_drewN | apply keep_drew | apply keep_alloc | refine keep_far ?_ GW142.out _) | exact HK.out))) : w.heap.size ≤ gb151) : w0.heap.size ≤ gb151)); have n8_ := Aside0.mk ((by rw [hg]; exact Nat.ne_of_lt (blk_lt (g := gb142) (o := .cells #[.int .i64 0, .int .i64 0, .int .i64 0] 56 (0, 0)) (by (with_reducible repeat (first | refine blk_drewN ?_ _ | refine blk_drew ?_ | refine blk_alloc ?_ _)); exact BK142.out)) : gb142 ≠ gb151)); have n9_ := Aside0.mk ((by rw [hg]; exact Nat.ne_of_gt (blk_lt (g := gb142) (o := .cells #[.int .i64 0, .int .i64 0, .int .i64 0] 56 (0, 0)) (by (with_reducible repeat (first | refine blk_drewN ?_ _ | refine blk_drew ?_ | refine blk_alloc ?_ _)); exact BK142.out)) : gb151 ≠ gb142)); have n10_ := Aside0.mk ((by rw [hg]; exact Nat.ne_of_lt (IsS94.lt (show IsS94 w0 _ g s0_0 t149 from by repeat (first | (with_reducible first | exact HI0.out | apply IsS94.alloc | apply IsS94.drewN | apply IsS94.drew | apply IsS94.set_1 | refine IsS94.far ?_ NB0_142.out _) | exact HI0.out))) : g ≠ gb151)); have n11_ := Aside0.mk ((by rw [hg]; exact Nat.ne_of_gt (IsS94.lt (show IsS94 w0 _ g s0_0 t149 from by repeat (first | (with_reducible first | exact HI0.out | apply IsS94.alloc | apply IsS94.drewN | apply IsS94.drew | apply IsS94.set_1 | refine IsS94.far ?_ NB0_142.out _) | exact HI0.out))) : gb151 ≠ g)); clear HO147; clear HI0; clear BK142; clear HK; clear HB; have HO147 := n0_; have HI0 := n1_; have BK142 := n2_; have HK := n3_; have HB := n4_; have BK151 := n5_; have GW151 := n6_; have GE151 := n7_; have NB142_151 := n8_; have NB151_142 := n9_; have NB0_151 := n10_; have NB151_0 := n11_; clear n0_ n1_ n2_ n3_ n4_ n5_ n6_ n7_ n8_ n9_ n10_ n11_; clear hb hbox hg; have hnb28 := NB151_142.out; have hnc28 := NB142_151.out; have hnb29 := NB151_0.out; have hnc29 := NB0_151.out; have hcz30_0 : w27.cell? ⟨gb151, 0, none⟩ = some (.int .i64 0) := (blk_cell BK151.out 0).trans rfl; have hcz30_1 : w27.cell? ⟨gb151, 1, none⟩ = some (.int .i64 0) := (blk_cell BK151.out 1).trans rfl; have hcz30_2 : w27.cell? ⟨gb151, 2, none⟩ = some (.int .i64 0) := (blk_cell BK151.out 2).trans rfl; have hfz30_0 := blk_frozen BK151.out 0; have hfz30_1 := blk_frozen BK151.out 1; have hfz30_2 := blk_frozen BK151.out 2))
              have pi159 : (0 ≤ (t157 : Int)) = True := eq_true (of_decide_eq_true (by first | (with_reducible assumption) | assumption))
              have qi159 : (t157 < (y154.length : Int)) = True := eq_true (of_decide_eq_true (by first | (with_reducible assumption) | assumption))
              have n0_ : Aside0 (Kd.R (Kd.int .i64) 3 (((w27.setCell ⟨gb151, 0, none⟩ (.int .i64 0)).setCell ⟨gb151, 1, none⟩ (.int .i64 0)).setCell ⟨gb151, 2, none⟩ (.int .i64 (rd y145 t148))) w.heap.size (fun _ => True) (.slice (some ad150) y145.length co26) y145) := ⟨by (with_reducible repeat (first | apply Kd.R_alloc | apply Kd.R_drewN | apply Kd.R_drew)); exact Kd.R_mono (Kd.R_far (p := ⟨gb151, 2, none⟩) (Kd.R_far (p := ⟨gb151, 1, none⟩) (Kd.R_far (p := ⟨gb151, 0, none⟩) (Kd.R_types HO147.out BK151.out (by decide)) (fun _ hk => hk.2) (.int .i64 0)) (fun _ hk => hk.2) (.int .i64 0)) (fun _ hk => hk.2) (.int .i64 (rd y145 t148))) (fun _ hk => trivial)⟩
              have n1_ : Aside0 ((((w27.setCell ⟨gb151, 0, none⟩ (.int .i64 0)).setCell ⟨gb151, 1, none⟩ (.int .i64 0)).setCell ⟨gb151, 2, none⟩ (.int .i64 (rd y145 t148))).heap[gb142]? = some (.cells #[.int .i64 0, .int .i64 0, .int .i64 0] 56 (0, 0))) := ⟨by (with_reducible repeat (first | refine blk_drewN ?_ _ | refine blk_drew ?_ | refine blk_alloc ?_ _)); refine blk_far ?_ NB142_151.out _; (with_reducible repeat (first | refine blk_drewN ?_ _ | refine blk_drew ?_ | refine blk_alloc ?_ _)); refine blk_far ?_ NB142_151.out _; (with_reducible repeat (first | refine blk_drewN ?_ _ | refine blk_drew ?_ | refine blk_alloc ?_ _)); refine blk_far ?_ NB142_151.out _; (with_reducible repeat (first | refine blk_drewN ?_ _ | refine blk_drew ?_ | refine blk_alloc ?_ _)); exact BK142.out⟩
              have n2_ : Aside0 ((((w27.setCell ⟨gb151, 0, none⟩ (.int .i64 0)).setCell ⟨gb151, 1, none⟩ (.int .i64 0)).setCell ⟨gb151, 2, none⟩ (.int .i64 (rd y145 t148))).heap[gb151]? = some (.cells #[.int .i64 0, .int .i64 0, .int .i64 (rd y145 t148)] 56 (0, 0))) := ⟨by (with_reducible repeat (first | refine blk_drewN ?_ _ | refine blk_drew ?_ | refine blk_alloc ?_ _)); refine blk_put (cs := #[.int .i64 0, .int .i64 0, .int .i64 0]) ?_ 2 _ rfl; (with_reducible repeat (first | refine blk_drewN ?_ _ | refine blk_drew ?_ | refine blk_alloc ?_ _)); refine blk_put (cs := #[.int .i64 0, .int .i64 0, .int .i64 0]) ?_ 1 _ rfl; (with_reducible repeat (first | refine blk_drewN ?_ _ | refine blk_drew ?_ | refine blk_alloc ?_ _)); refine blk_put (cs := #[.int .i64 0, .int .i64 0, .int .i64 0]) ?_ 0 _ rfl; (with_reducible repeat (first | refine blk_drewN ?_ _ | refine blk_drew ?_ | refine blk_alloc ?_ _)); exact BK151.out⟩
              have n3_ : Aside0 (IsS94 w0 (((w27.setCell ⟨gb151, 0, none⟩ (.int .i64 0)).setCell ⟨gb151, 1, none⟩ (.int .i64 0)).setCell ⟨gb151, 2, none⟩ (.int .i64 (rd y145 t148))) g s0_0 t149) := ⟨by repeat (first | (with_reducible first | exact HI0.out | apply IsS94.alloc | apply IsS94.drewN | apply IsS94.drew | apply IsS94.set_1 | refine IsS94.far ?_ NB0_142.out _ | refine IsS94.far ?_ NB0_151.out _) | exact HI0.out)⟩
              have n4_ : Aside0 (KeepBut w (((w27.setCell ⟨gb151, 0, none⟩ (.int .i64 0)).setCell ⟨gb151, 1, none⟩ (.int .i64 0)).setCell ⟨gb151, 2, none⟩ (.int .i64 (rd y145 t148))) g none) := ⟨by repeat (first | (with_reducible first | exact HK.out | apply KeepBut.set_ | apply keep_drewN | apply keep_drew | apply keep_alloc | refine keep_far ?_ GW142.out _ | refine keep_far ?_ GW151.out _) | exact HK.out)⟩
              have n5_ : Aside0 (Below w0.heap.size w0 (((w27.setCell ⟨gb151, 0, none⟩ (.int .i64 0)).setCell ⟨gb151, 1, none⟩ (.int .i64 0)).setCell ⟨gb151, 2, none⟩ (.int .i64 (rd y145 t148)))) := ⟨by repeat (first | (with_reducible first | exact HB.out | apply below_alloc | apply pw_below_drewN | apply below_drew1 | refine below_set ?_ (IsS94.ge HI0.out) | refine below_set ?_ GE142.out | refine below_set ?_ GE151.out) | exact HB.out)⟩
              (try clear HO147)
              (try clear BK142)
              (try clear BK151)
              (try clear HI0)
              (try clear HK)
              (try clear HB)
              generalize (((w27.setCell ⟨gb151, 0, none⟩ (.int .i64 0)).setCell ⟨gb151, 1, none⟩ (.int .i64 0)).setCell ⟨gb151, 2, none⟩ (.int .i64 (rd y145 t148))) = w31 at n0_ n1_ n2_ n3_ n4_ n5_ ⊢
              have HO147 := n0_
              have BK142 := n1_
              have BK151 := n2_
              have HI0 := n3_
              have HK := n4_
              have HB := n5_
              clear n0_ n1_ n2_ n3_ n4_ n5_
              have n0_ := Aside0.mk (Kd.R_drew HO147.out)
              have n1_ := Aside0.mk (blk_drew BK142.out)
              have n2_ := Aside0.mk (blk_drew BK151.out)
              have n3_ := Aside0.mk (IsS94.drew HI0.out)
              have n4_ := Aside0.mk (keep_drew HK.out)
              have n5_ := Aside0.mk (below_drew1 HB.out)
              clear HO147
              clear BK142
              clear BK151
              clear HI0
              clear HK
              clear HB
              have HO147 := n0_
              have BK142 := n1_
              have BK151 := n2_
              have HI0 := n3_
              have HK := n4_
              have HB := n5_
              clear n0_ n1_ n2_ n3_ n4_ n5_
              refine start_ (n := 18) (S := fun w' => w'.cell? ⟨gb151, 0, none⟩ = some (.int .i64 0) ∧ w'.cell? ⟨gb151, 1, none⟩ = some (.int .i64 0) ∧ w'.cell? ⟨gb151, 2, none⟩ = some (.int .i64 (rd y145 t148))) (ds := [17]) #[false, false, false, false, false, false, false, false, false, false, false, false, false, false, false, false, false, false] (by kernel_rfl) rfl rfl ⟨(blk_cell BK151.out 0).trans rfl, (blk_cell BK151.out 1).trans rfl, (blk_cell BK151.out 2).trans rfl⟩ (fun hHeld => ?_); refine with_tabW spec_l20Task.tab2 spec_l20Task.bits2 (fun HT_ HW_ => ?_)
              generalize w31.drew = w32 at HO147 BK142 BK151 HI0 HK HB hHeld ⊢
              refine pure_ (i := 0) (N := some 15) (v := ?_) (a' := ?_) #[true, false, false, false, false, false, false, false, false, false, false, false, false, false, false, false, false, false] rfl rfl (any_of HT_.out (by kernel_rfl)) (fun _ _ _ h => h) (Or.inl ⟨by rfl, ?_⟩) ?_ ?_
              rotate_left
              · intro w'
                go_simp
                with_reducible rfl
              rotate_left
              · simp only [Act.put, List.setIfInBounds_toArray, List.set_cons_zero, List.set_cons_succ, i64_w, i32_w]
                rfl
              refine pure_ (i := 2) (N := some 17) (v := ?_) (a' := ?_) #[true, false, true, false, false, false, false, false, false, false, false, false, false, false, false, false, false, false] rfl rfl (any_of HT_.out (by kernel_rfl)) (fun _ _ _ h => h) (Or.inl ⟨by rfl, ?_⟩) ?_ ?_
              rotate_left
              · intro w'
                go_simp
                with_reducible rfl
              rotate_left
              · simp only [Act.put, List.setIfInBounds_toArray, List.set_cons_zero, List.set_cons_succ, i64_w, i32_w]
                rfl
              refine pure_ (i := 3) (N := some 18) (v := ?_) (a' := ?_) #[true, false, true, true, false, false, false, false, false, false, false, false, false, false, false, false, false, false] rfl rfl (any_of HT_.out (by kernel_rfl)) (fun _ _ _ h => h) (Or.inl ⟨by rfl, ?_⟩) ?_ ?_
              rotate_left
              · intro w'
                go_simp
                with_reducible rfl
              rotate_left
              · simp only [Act.put, List.setIfInBounds_toArray, List.set_cons_zero, List.set_cons_succ, i64_w, i32_w]
                rfl
              refine pure_ (i := 7) (N := some 22) (v := ?_) (a' := ?_) #[true, false, true, true, false, false, false, true, false, false, false, false, false, false, false, false, false, false] rfl rfl (any_of HT_.out (by kernel_rfl)) (fun _ _ _ h => h) (Or.inl ⟨by rfl, ?_⟩) ?_ ?_
              rotate_left
              · intro w'
                go_simp
                with_reducible rfl
              rotate_left
              · simp only [Act.put, List.setIfInBounds_toArray, List.set_cons_zero, List.set_cons_succ, i64_w, i32_w]
                rfl
              refine pure_ (i := 12) (N := some 27) (v := ?_) (a' := ?_) #[true, false, true, true, false, false, false, true, false, false, false, false, true, false, false, false, false, false] rfl rfl (any_of HT_.out (by kernel_rfl)) (fun _ _ _ h => h) (Or.inl ⟨by rfl, ?_⟩) ?_ ?_
              rotate_left
              · intro w'
                go_simp
                with_reducible rfl
              rotate_left
              · simp only [Act.put, List.setIfInBounds_toArray, List.set_cons_zero, List.set_cons_succ, i64_w, i32_w]
                rfl
              refine take_ (i := 1) (N := some 16) (v := ?_) (a' := ?_) #[true, true, true, true, false, false, false, true, false, false, false, false, true, false, false, false, false, false] rfl rfl (take_ofW HT_.out HW_.out (by kernel_rfl)) (fun _ _ _ h => h) (Or.inl ⟨by rfl, ?_⟩) hHeld ?_ ?_
              rotate_left
              · rintro w' ⟨s0, s1, s2⟩
                go_simp
                with_reducible rfl
              rotate_left
              · simp only [Act.put, List.setIfInBounds_toArray, List.set_cons_zero, List.set_cons_succ, i64_w, i32_w]
                rfl
              refine take_ (i := 4) (N := some 19) (v := ?_) (a' := ?_) #[true, true, true, true, true, false, false, true, false, false, false, false, true, false, false, false, false, false] rfl rfl (take_ofW HT_.out HW_.out (by kernel_rfl)) (fun _ _ _ h => h) (Or.inl ⟨by rfl, ?_⟩) hHeld ?_ ?_
              rotate_left
              · rintro w' ⟨s0, s1, s2⟩
                go_simp
                with_reducible rfl
              rotate_left
              · simp only [Act.put, List.setIfInBounds_toArray, List.set_cons_zero, List.set_cons_succ, i64_w, i32_w]
                rfl
              refine take_ (i := 8) (N := some 23) (v := ?_) (a' := ?_) #[true, true, true, true, true, false, false, true, true, false, false, false, true, false, false, false, false, false] rfl rfl (take_ofW HT_.out HW_.out (by kernel_rfl)) (fun _ _ _ h => h) (Or.inl ⟨by rfl, ?_⟩) hHeld ?_ ?_
              rotate_left
              · rintro w' ⟨s0, s1, s2⟩
                go_simp
                with_reducible rfl
              rotate_left
              · simp only [Act.put, List.setIfInBounds_toArray, List.set_cons_zero, List.set_cons_succ, i64_w, i32_w]
                rfl
              refine pure_ (i := 9) (N := some 24) (v := ?_) (a' := ?_) #[true, true, true, true, true, false, false, true, true, true, false, false, true, false, false, false, false, false] rfl rfl (any_of HT_.out (by kernel_rfl)) (fun _ _ _ h => h) (Or.inl ⟨by rfl, ?_⟩) ?_ ?_
              rotate_left
              · intro w'
                go_simp
                with_reducible rfl
              rotate_left
              · simp only [Act.put, List.setIfInBounds_toArray, List.set_cons_zero, List.set_cons_succ, i64_w, i32_w]
                rfl
              refine pure_ (i := 10) (N := some 25) (v := ?_) (a' := ?_) #[true, true, true, true, true, false, false, true, true, true, true, false, true, false, false, false, false, false] rfl rfl (any_of HT_.out (by kernel_rfl)) (fun _ _ _ h => h) (Or.inl ⟨by rfl, ?_⟩) ?_ ?_
              rotate_left
              · intro w'
                go_simp
                with_reducible rfl
              rotate_left
              · simp only [Act.put, List.setIfInBounds_toArray, List.set_cons_zero, List.set_cons_succ, i64_w, i32_w]
                rfl
              refine one_ (i := 5) (N := some 20) #[true, true, true, true, true, true, false, true, true, true, true, false, true, false, false, false, false, false] rfl rfl (one_of HT_.out (by kernel_rfl)) (by decide) (fun K hK => ?_)
              refine goes_ Try.func61 (by kernel_rfl) rfl #[.pointer (some ⟨g, 0, none⟩), .int .i64 (rd y145 t148)] (by rfl) rfl rfl (by (try simp only [List.map_toArray, List.map_cons, List.map_nil]); first | done | rfl | (simp only [List.length_drop, List.length_take]; rfl)) ?_
              with_reducible refine (spec_l20Rd_pick.calls k g s0_0 t149 (rd y145 t148) t152 t153 w0 _ ?side1 ?side2 A7.out).mono ?_
              (case side1 => repeat (first | (with_reducible first | exact HI0.out | apply IsS94.alloc | apply IsS94.drewN | apply IsS94.drew | apply IsS94.set_1 | refine IsS94.far ?_ NB0_142.out _ | refine IsS94.far ?_ NB0_151.out _) | exact HI0.out))
              (case side2 => repeat (first | (with_reducible first | exact HB.out | apply below_alloc | apply pw_below_drewN | apply below_drew1 | refine below_set ?_ (IsS94.ge HI0.out) | refine below_set ?_ GE142.out | refine below_set ?_ GE151.out) | exact HB.out))
              rintro e w33 ⟨rfl, hi, hb, hk⟩
              refine ⟨_, rfl, ?_⟩
              have n0_ := Aside0.mk (KeepBut.blk hk (g' := gb142) (o := .cells #[.int .i64 0, .int .i64 0, .int .i64 0] 56 (0, 0)) (by (with_reducible repeat (first | refine blk_drewN ?_ _ | refine blk_drew ?_ | refine blk_alloc ?_ _)); exact BK142.out) NB142_0.out (by simp))
              have n1_ := Aside0.mk (Kd.R_mono (Kd.R_keep (IsS94.apart (show IsS94 w0 _ g s0_0 t149 from by repeat (first | (with_reducible first | exact HI0.out | apply IsS94.alloc | apply IsS94.drewN | apply IsS94.drew | apply IsS94.set_1 | refine IsS94.far ?_ NB0_142.out _ | refine IsS94.far ?_ NB0_151.out _) | exact HI0.out)) (by (with_reducible repeat (first | apply Kd.R_alloc | apply Kd.R_drewN | apply Kd.R_drew)); exact HO147.out) (by decide)) hk (fun _ h => h.2)) (fun _ h => h.1))
              have n2_ := Aside0.mk (KeepBut.blk hk (g' := gb151) (o := .cells #[.int .i64 0, .int .i64 0, .int .i64 (rd y145 t148)] 56 (0, 0)) (by (with_reducible repeat (first | refine blk_drewN ?_ _ | refine blk_drew ?_ | refine blk_alloc ?_ _)); exact BK151.out) NB151_0.out (by simp))
              have n3_ := Aside0.mk (KeepBut.trans (by repeat (first | (with_reducible first | exact HK.out | apply KeepBut.set_ | apply keep_drewN | apply keep_drew | apply keep_alloc | refine keep_far ?_ GW142.out _ | refine keep_far ?_ GW151.out _) | exact HK.out)) hk (.inl rfl))
              have n4_ := Aside0.mk (hb)
              have n5_ := Aside0.mk (hi)
              clear BK142
              clear HO147
              clear BK151
              clear HK
              clear HB
              clear HI0
              have BK142 := n0_
              have HO147 := n1_
              have BK151 := n2_
              have HK := n3_
              have HB := n4_
              have HI0 := n5_
              clear n0_ n1_ n2_ n3_ n4_ n5_
              (try clear hb)
              (try clear hb2)
              (try clear hk)
              (try clear hi)
              refine hK.out _ _ ⟨(blk_cell BK151.out 0).trans rfl, (blk_cell BK151.out 1).trans rfl, (blk_cell BK151.out 2).trans rfl⟩ (fun hHeld => ?_)
              clear hK K
              refine norm_ (a' := ?_) ?_ ?_
              rotate_left
              · show Act.put _ (some 20) _ = _
                simp only [Act.put, List.setIfInBounds_toArray, List.set_cons_zero, List.set_cons_succ, i64_w, i32_w]
                rfl
              refine pure_ (i := 6) (N := some 21) (v := ?_) (a' := ?_) #[true, true, true, true, true, true, true, true, true, true, true, false, true, false, false, false, false, false] rfl rfl (any_of HT_.out (by kernel_rfl)) (fun _ _ _ h => h) (Or.inl ⟨by rfl, ?_⟩) ?_ ?_
              rotate_left
              · intro w'
                go_simp
                with_reducible rfl
              rotate_left
              · simp only [Act.put, List.setIfInBounds_toArray, List.set_cons_zero, List.set_cons_succ, i64_w, i32_w]
                rfl
              refine join_ (σ := Value × Addr) 4 #[true, true, true, true, true, true, true, true, true, true, true, true, true, true, false, false, false, false] (fun s_ => [(26, s_.1), (28, .int .i64 t157)]) (fun s_ w' => (w'.cell? ⟨gb151, 0, none⟩ = some (.int .i64 0) ∧ w'.cell? ⟨gb151, 1, none⟩ = some (.int .i64 0) ∧ w'.cell? ⟨gb151, 2, none⟩ = some (.int .i64 (rd y145 t148))) ∧ (Kd.R (Kd.int .i64) 3 w' w.heap.size (fun k_ => some k_ ≠ (s_.1 : Value).ownBlock) (.slice (some ad150) y145.length co26) y145) ∧ (Kd.R (Kd.int .i64) 3 w' w.heap.size (fun k_ => some k_ ≠ (.slice (some ad150) y145.length co26 : Value).ownBlock) s_.1 y154) ∧ (∃ c_, (s_.1 : Value) = .slice (some s_.2) y154.length c_) ∧ (w'.heap[gb142]? = some (.cells #[.int .i64 0, .int .i64 0, .int .i64 0] 56 (0, 0))) ∧ (w'.heap[gb151]? = some (.cells #[.int .i64 0, .int .i64 0, .int .i64 (rd y145 t148)] 56 (0, 0))) ∧ (IsS94 w0 w' g s0_0 t158) ∧ (KeepBut w w' g none) ∧ (Below w0.heap.size w0 w')) ?_ ?_
              rotate_left
              · intro hCont
                refine two_ (i := 11) (j := 13) (Ni := some 26) (Nj := some 28) #[true, true, true, true, true, true, true, true, true, true, true, true, true, false, false, false, false, false] #[true, true, true, true, true, true, true, true, true, true, true, false, true, true, false, false, false, false] rfl rfl rfl rfl (two_of HT_.out (by kernel_rfl)) (by decide) (by decide) (fun K hK => ?_) (fun K hK => ?_)
                · skip
                  refine Kd.R_lit_step (Kd.int .i64) _ 3 ?hg (N := 26) ?hd (xs := ([rd y145 t148, wrap64 (1 + t152), ji8] : List Int)) (inner := [.int .i64 (rd y145 t148), .int .i64 (wrap64 (1 + t152)), .int .i64 ji8]) (ok := fun _ => True) (okp := fun _ => True) ?hr ?hp (fun _ hk => hk) trivial (Below.refl _ _) (Nat.le_refl _) (by simp) ?_; (case hd => rfl); (case hg => rfl); (case hr => first | (go_simp; done) | (go_simp; rfl)); (case hp => exact (Reps.one (show Kd.M (Kd.int .i64) _ _ _ (rd y145 t148) [.int .i64 (rd y145 t148)] from rfl) (Reps.one (show Kd.M (Kd.int .i64) _ _ _ (wrap64 (1 + t152)) [.int .i64 (wrap64 (1 + t152))] from rfl) (Reps.one (show Kd.M (Kd.int .i64) _ _ _ ji8 [.int .i64 ji8] from rfl) (Reps.none _ _)))))
                  intro v155 w34 ho35 hb hg_ hnew_
                  clear hg_ hnew_
                  (first | rw [← Ny154.out] at ho35 | (simp only [Int.reduceToNat] at ho35; rw [← Ny154.out] at ho35))
                  have n0_ := Aside0.mk (Kd.R_elder' (by (with_reducible repeat (first | apply Kd.R_alloc | apply Kd.R_drewN | apply Kd.R_drew)); exact HO147.out) (Kd.R_base ho35) hb)
                  have n1_ := Aside0.mk (Kd.R_lower (Kd.R_new' ho35 (Kd.R_lt (by (with_reducible repeat (first | apply Kd.R_alloc | apply Kd.R_drewN | apply Kd.R_drew)); exact HO147.out))) (keep_size (w := w) (g := g) (row := none) (by repeat (first | (with_reducible first | exact HK.out | apply KeepBut.set_ | apply keep_drewN | apply keep_drew | apply keep_alloc | refine keep_far ?_ GW142.out _ | refine keep_far ?_ GW151.out _) | exact HK.out))))
                  have n2_ := Aside0.mk (IsS94.below (by repeat (first | (with_reducible first | exact HI0.out | apply IsS94.alloc | apply IsS94.drewN | apply IsS94.drew | apply IsS94.set_1 | refine IsS94.far ?_ NB0_142.out _ | refine IsS94.far ?_ NB0_151.out _) | exact HI0.out)) hb)
                  have n3_ := Aside0.mk (blk_below (g := gb142) (o := .cells #[.int .i64 0, .int .i64 0, .int .i64 0] 56 (0, 0)) (by (with_reducible repeat (first | refine blk_drewN ?_ _ | refine blk_drew ?_ | refine blk_alloc ?_ _)); exact BK142.out) hb)
                  have n4_ := Aside0.mk (blk_below (g := gb151) (o := .cells #[.int .i64 0, .int .i64 0, .int .i64 (rd y145 t148)] 56 (0, 0)) (by (with_reducible repeat (first | refine blk_drewN ?_ _ | refine blk_drew ?_ | refine blk_alloc ?_ _)); exact BK151.out) hb)
                  have n5_ := Aside0.mk (KeepBut.trans (by repeat (first | (with_reducible first | exact HK.out | apply KeepBut.set_ | apply keep_drewN | apply keep_drew | apply keep_alloc | refine keep_far ?_ GW142.out _ | refine keep_far ?_ GW151.out _) | exact HK.out)) (KeepBut.of_below hb g none) (.inl rfl))
                  have n6_ := Aside0.mk (below_step (by repeat (first | (with_reducible first | exact HB.out | apply below_alloc | apply pw_below_drewN | apply below_drew1 | refine below_set ?_ (IsS94.ge HI0.out) | refine below_set ?_ GE142.out | refine below_set ?_ GE151.out) | exact HB.out)) hb)
                  clear HO147
                  clear HI0
                  clear BK142
                  clear BK151
                  clear HK
                  clear HB
                  have HO147 := n0_
                  have HO156 := n1_
                  have HI0 := n2_
                  have BK142 := n3_
                  have BK151 := n4_
                  have HK := n5_
                  have HB := n6_
                  clear n0_ n1_ n2_ n3_ n4_ n5_ n6_
                  clear hb ho35
                  obtain ⟨Ao36, co36, eo36⟩ := Kd.R_slice HO156.out
                  subst eo36
                  obtain ⟨ado36, fo36, _⟩ := Kd.at_int (Kd.R_reads' HO156.out).2.2 0 (by decide) (by rw [Ny154.out]; simp)
                  cases fo36
                  refine hK.out _ _ ⟨(blk_cell BK151.out 0).trans rfl, (blk_cell BK151.out 1).trans rfl, (blk_cell BK151.out 2).trans rfl⟩ (fun hHeld => ?_)
                  clear hK K
                  refine norm_ (a' := ?_) ?_ ?_
                  rotate_left
                  · show Act.put _ (some 26) _ = _
                    simp only [Act.put, List.setIfInBounds_toArray, List.set_cons_zero, List.set_cons_succ, i64_w, i32_w]
                    rfl
                  refine one_ (i := 13) (N := some 28) #[true, true, true, true, true, true, true, true, true, true, true, true, true, true, false, false, false, false] rfl rfl (one_of HT_.out (by kernel_rfl)) (by decide) (fun K hK => ?_)
                  refine goes_ Try.func61 (by kernel_rfl) rfl #[.pointer (some ⟨g, 0, none⟩), .int .i64 3] (by rfl) rfl rfl (by (try simp only [List.map_toArray, List.map_cons, List.map_nil]); first | done | rfl | (simp only [List.length_drop, List.length_take]; rfl)) ?_
                  with_reducible refine (spec_l20Rd_pick.calls k g s0_0 t153 3 t157 t158 w0 _ ?side1 ?side2 A9.out).mono ?_
                  (case side1 => repeat (first | (with_reducible first | exact HI0.out | apply IsS94.alloc | apply IsS94.drewN | apply IsS94.drew | apply IsS94.set_1 | refine IsS94.far ?_ NB0_142.out _ | refine IsS94.far ?_ NB0_151.out _) | exact HI0.out))
                  (case side2 => repeat (first | (with_reducible first | exact HB.out | apply below_alloc | apply pw_below_drewN | apply below_drew1 | refine below_set ?_ (IsS94.ge HI0.out) | refine below_set ?_ GE142.out | refine below_set ?_ GE151.out) | exact HB.out))
                  rintro e w37 ⟨rfl, hi, hb, hk⟩
                  refine ⟨_, rfl, ?_⟩
                  have n0_ := Aside0.mk (KeepBut.blk hk (g' := gb142) (o := .cells #[.int .i64 0, .int .i64 0, .int .i64 0] 56 (0, 0)) (by (with_reducible repeat (first | refine blk_drewN ?_ _ | refine blk_drew ?_ | refine blk_alloc ?_ _)); exact BK142.out) NB142_0.out (by simp))
                  have n1_ := Aside0.mk (Kd.R_mono (Kd.R_keep (IsS94.apart (show IsS94 w0 _ g s0_0 t153 from by repeat (first | (with_reducible first | exact HI0.out | apply IsS94.alloc | apply IsS94.drewN | apply IsS94.drew | apply IsS94.set_1 | refine IsS94.far ?_ NB0_142.out _ | refine IsS94.far ?_ NB0_151.out _) | exact HI0.out)) (by (with_reducible repeat (first | apply Kd.R_alloc | apply Kd.R_drewN | apply Kd.R_drew)); exact HO147.out) (by decide)) hk (fun _ h => h.2)) (fun _ h => h.1))
                  have n2_ := Aside0.mk (KeepBut.blk hk (g' := gb151) (o := .cells #[.int .i64 0, .int .i64 0, .int .i64 (rd y145 t148)] 56 (0, 0)) (by (with_reducible repeat (first | refine blk_drewN ?_ _ | refine blk_drew ?_ | refine blk_alloc ?_ _)); exact BK151.out) NB151_0.out (by simp))
                  have n3_ := Aside0.mk (Kd.R_mono (Kd.R_keep (IsS94.apart (show IsS94 w0 _ g s0_0 t153 from by repeat (first | (with_reducible first | exact HI0.out | apply IsS94.alloc | apply IsS94.drewN | apply IsS94.drew | apply IsS94.set_1 | refine IsS94.far ?_ NB0_142.out _ | refine IsS94.far ?_ NB0_151.out _) | exact HI0.out)) (by (with_reducible repeat (first | apply Kd.R_alloc | apply Kd.R_drewN | apply Kd.R_drew)); exact HO156.out) (by decide)) hk (fun _ h => h.2)) (fun _ h => h.1))
                  have n4_ := Aside0.mk (KeepBut.trans (by repeat (first | (with_reducible first | exact HK.out | apply KeepBut.set_ | apply keep_drewN | apply keep_drew | apply keep_alloc | refine keep_far ?_ GW142.out _ | refine keep_far ?_ GW151.out _) | exact HK.out)) hk (.inl rfl))
                  have n5_ := Aside0.mk (hb)
                  have n6_ := Aside0.mk (hi)
                  clear BK142
                  clear HO147
                  clear BK151
                  clear HO156
                  clear HK
                  clear HB
                  clear HI0
                  have BK142 := n0_
                  have HO147 := n1_
                  have BK151 := n2_
                  have HO156 := n3_
                  have HK := n4_
                  have HB := n5_
                  have HI0 := n6_
                  clear n0_ n1_ n2_ n3_ n4_ n5_ n6_
                  (try clear hb)
                  (try clear hb2)
                  (try clear hk)
                  (try clear hi)
                  refine hK.out _ _ ⟨(blk_cell BK151.out 0).trans rfl, (blk_cell BK151.out 1).trans rfl, (blk_cell BK151.out 2).trans rfl⟩ (fun hHeld => ?_)
                  clear hK K
                  refine norm_ (a' := ?_) ?_ ?_
                  rotate_left
                  · show Act.put _ (some 28) _ = _
                    simp only [Act.put, List.setIfInBounds_toArray, List.set_cons_zero, List.set_cons_succ, i64_w, i32_w]
                    rfl
                  exact norm_ (by simp only [putAll, Act.put, List.setIfInBounds_toArray, List.set_cons_zero, List.set_cons_succ]) (hCont (.slice (some ado36) y154.length co36, ado36) _ ⟨hHeld, (by (with_reducible repeat (first | apply Kd.R_alloc | apply Kd.R_drewN | apply Kd.R_drew)); exact Kd.R_mono HO147.out (fun _ hk => hk.2)), (by (with_reducible repeat (first | apply Kd.R_alloc | apply Kd.R_drewN | apply Kd.R_drew)); exact Kd.R_mono HO156.out (fun _ hk => hk.2)), ⟨_, rfl⟩, (by (with_reducible repeat (first | refine blk_drewN ?_ _ | refine blk_drew ?_ | refine blk_alloc ?_ _)); exact BK142.out), (by (with_reducible repeat (first | refine blk_drewN ?_ _ | refine blk_drew ?_ | refine blk_alloc ?_ _)); exact BK151.out), (by repeat (first | (with_reducible first | exact HI0.out | apply IsS94.alloc | apply IsS94.drewN | apply IsS94.drew | apply IsS94.set_1 | refine IsS94.far ?_ NB0_142.out _ | refine IsS94.far ?_ NB0_151.out _) | exact HI0.out)), (by repeat (first | (with_reducible first | exact HK.out | apply KeepBut.set_ | apply keep_drewN | apply keep_drew | apply keep_alloc | refine keep_far ?_ GW142.out _ | refine keep_far ?_ GW151.out _) | exact HK.out)), (by repeat (first | (with_reducible first | exact HB.out | apply below_alloc | apply pw_below_drewN | apply below_drew1 | refine below_set ?_ (IsS94.ge HI0.out) | refine below_set ?_ GE142.out | refine below_set ?_ GE151.out) | exact HB.out))⟩)
                · skip
                  refine goes_ Try.func61 (by kernel_rfl) rfl #[.pointer (some ⟨g, 0, none⟩), .int .i64 3] (by rfl) rfl rfl (by (try simp only [List.map_toArray, List.map_cons, List.map_nil]); first | done | rfl | (simp only [List.length_drop, List.length_take]; rfl)) ?_
                  with_reducible refine (spec_l20Rd_pick.calls k g s0_0 t153 3 t157 t158 w0 _ ?side1 ?side2 A9.out).mono ?_
                  (case side1 => repeat (first | (with_reducible first | exact HI0.out | apply IsS94.alloc | apply IsS94.drewN | apply IsS94.drew | apply IsS94.set_1 | refine IsS94.far ?_ NB0_142.out _ | refine IsS94.far ?_ NB0_151.out _) | exact HI0.out))
                  (case side2 => repeat (first | (with_reducible first | exact HB.out | apply below_alloc | apply pw_below_drewN | apply below_drew1 | refine below_set ?_ (IsS94.ge HI0.out) | refine below_set ?_ GE142.out | refine below_set ?_ GE151.out) | exact HB.out))
                  rintro e w34 ⟨rfl, hi, hb, hk⟩
                  refine ⟨_, rfl, ?_⟩
                  have n0_ := Aside0.mk (KeepBut.blk hk (g' := gb142) (o := .cells #[.int .i64 0, .int .i64 0, .int .i64 0] 56 (0, 0)) (by (with_reducible repeat (first | refine blk_drewN ?_ _ | refine blk_drew ?_ | refine blk_alloc ?_ _)); exact BK142.out) NB142_0.out (by simp))
                  have n1_ := Aside0.mk (Kd.R_mono (Kd.R_keep (IsS94.apart (show IsS94 w0 _ g s0_0 t153 from by repeat (first | (with_reducible first | exact HI0.out | apply IsS94.alloc | apply IsS94.drewN | apply IsS94.drew | apply IsS94.set_1 | refine IsS94.far ?_ NB0_142.out _ | refine IsS94.far ?_ NB0_151.out _) | exact HI0.out)) (by (with_reducible repeat (first | apply Kd.R_alloc | apply Kd.R_drewN | apply Kd.R_drew)); exact HO147.out) (by decide)) hk (fun _ h => h.2)) (fun _ h => h.1))
                  have n2_ := Aside0.mk (KeepBut.blk hk (g' := gb151) (o := .cells #[.int .i64 0, .int .i64 0, .int .i64 (rd y145 t148)] 56 (0, 0)) (by (with_reducible repeat (first | refine blk_drewN ?_ _ | refine blk_drew ?_ | refine blk_alloc ?_ _)); exact BK151.out) NB151_0.out (by simp))
                  have n3_ := Aside0.mk (KeepBut.trans (by repeat (first | (with_reducible first | exact HK.out | apply KeepBut.set_ | apply keep_drewN | apply keep_drew | apply keep_alloc | refine keep_far ?_ GW142.out _ | refine keep_far ?_ GW151.out _) | exact HK.out)) hk (.inl rfl))
                  have n4_ := Aside0.mk (hb)
                  have n5_ := Aside0.mk (hi)
                  clear BK142
                  clear HO147
                  clear BK151
                  clear HK
                  clear HB
                  clear HI0
                  have BK142 := n0_
                  have HO147 := n1_
                  have BK151 := n2_
                  have HK := n3_
                  have HB := n4_
                  have HI0 := n5_
                  clear n0_ n1_ n2_ n3_ n4_ n5_
                  (try clear hb)
                  (try clear hb2)
                  (try clear hk)
                  (try clear hi)
                  refine hK.out _ _ ⟨(blk_cell BK151.out 0).trans rfl, (blk_cell BK151.out 1).trans rfl, (blk_cell BK151.out 2).trans rfl⟩ (fun hHeld => ?_)
                  clear hK K
                  refine norm_ (a' := ?_) ?_ ?_
                  rotate_left
                  · show Act.put _ (some 28) _ = _
                    simp only [Act.put, List.setIfInBounds_toArray, List.set_cons_zero, List.set_cons_succ, i64_w, i32_w]
                    rfl
                  refine one_ (i := 11) (N := some 26) #[true, true, true, true, true, true, true, true, true, true, true, true, true, true, false, false, false, false] rfl rfl (one_of HT_.out (by kernel_rfl)) (by decide) (fun K hK => ?_)
                  refine Kd.R_lit_step (Kd.int .i64) _ 3 ?hg (N := 26) ?hd (xs := ([rd y145 t148, wrap64 (1 + t152), ji8] : List Int)) (inner := [.int .i64 (rd y145 t148), .int .i64 (wrap64 (1 + t152)), .int .i64 ji8]) (ok := fun _ => True) (okp := fun _ => True) ?hr ?hp (fun _ hk => hk) trivial (Below.refl _ _) (Nat.le_refl _) (by simp) ?_; (case hd => rfl); (case hg => rfl); (case hr => first | (go_simp; done) | (go_simp; rfl)); (case hp => exact (Reps.one (show Kd.M (Kd.int .i64) _ _ _ (rd y145 t148) [.int .i64 (rd y145 t148)] from rfl) (Reps.one (show Kd.M (Kd.int .i64) _ _ _ (wrap64 (1 + t152)) [.int .i64 (wrap64 (1 + t152))] from rfl) (Reps.one (show Kd.M (Kd.int .i64) _ _ _ ji8 [.int .i64 ji8] from rfl) (Reps.none _ _)))))
                  intro v155 w35 ho36 hb hg_ hnew_
                  clear hg_ hnew_
                  (first | rw [← Ny154.out] at ho36 | (simp only [Int.reduceToNat] at ho36; rw [← Ny154.out] at ho36))
                  have n0_ := Aside0.mk (Kd.R_elder' (by (with_reducible repeat (first | apply Kd.R_alloc | apply Kd.R_drewN | apply Kd.R_drew)); exact HO147.out) (Kd.R_base ho36) hb)
                  have n1_ := Aside0.mk (Kd.R_lower (Kd.R_new' ho36 (Kd.R_lt (by (with_reducible repeat (first | apply Kd.R_alloc | apply Kd.R_drewN | apply Kd.R_drew)); exact HO147.out))) (keep_size (w := w) (g := g) (row := none) (by repeat (first | (with_reducible first | exact HK.out | apply KeepBut.set_ | apply keep_drewN | apply keep_drew | apply keep_alloc | refine keep_far ?_ GW142.out _ | refine keep_far ?_ GW151.out _) | exact HK.out))))
                  have n2_ := Aside0.mk (IsS94.below (by repeat (first | (with_reducible first | exact HI0.out | apply IsS94.alloc | apply IsS94.drewN | apply IsS94.drew | apply IsS94.set_1 | refine IsS94.far ?_ NB0_142.out _ | refine IsS94.far ?_ NB0_151.out _) | exact HI0.out)) hb)
                  have n3_ := Aside0.mk (blk_below (g := gb142) (o := .cells #[.int .i64 0, .int .i64 0, .int .i64 0] 56 (0, 0)) (by (with_reducible repeat (first | refine blk_drewN ?_ _ | refine blk_drew ?_ | refine blk_alloc ?_ _)); exact BK142.out) hb)
                  have n4_ := Aside0.mk (blk_below (g := gb151) (o := .cells #[.int .i64 0, .int .i64 0, .int .i64 (rd y145 t148)] 56 (0, 0)) (by (with_reducible repeat (first | refine blk_drewN ?_ _ | refine blk_drew ?_ | refine blk_alloc ?_ _)); exact BK151.out) hb)
                  have n5_ := Aside0.mk (KeepBut.trans (by repeat (first | (with_reducible first | exact HK.out | apply KeepBut.set_ | apply keep_drewN | apply keep_drew | apply keep_alloc | refine keep_far ?_ GW142.out _ | refine keep_far ?_ GW151.out _) | exact HK.out)) (KeepBut.of_below hb g none) (.inl rfl))
                  have n6_ := Aside0.mk (below_step (by repeat (first | (with_reducible first | exact HB.out | apply below_alloc | apply pw_below_drewN | apply below_drew1 | refine below_set ?_ (IsS94.ge HI0.out) | refine below_set ?_ GE142.out | refine below_set ?_ GE151.out) | exact HB.out)) hb)
                  clear HO147
                  clear HI0
                  clear BK142
                  clear BK151
                  clear HK
                  clear HB
                  have HO147 := n0_
                  have HO156 := n1_
                  have HI0 := n2_
                  have BK142 := n3_
                  have BK151 := n4_
                  have HK := n5_
                  have HB := n6_
                  clear n0_ n1_ n2_ n3_ n4_ n5_ n6_
                  clear hb ho36
                  obtain ⟨Ao37, co37, eo37⟩ := Kd.R_slice HO156.out
                  subst eo37
                  obtain ⟨ado37, fo37, _⟩ := Kd.at_int (Kd.R_reads' HO156.out).2.2 0 (by decide) (by rw [Ny154.out]; simp)
                  cases fo37
                  refine hK.out _ _ ⟨(blk_cell BK151.out 0).trans rfl, (blk_cell BK151.out 1).trans rfl, (blk_cell BK151.out 2).trans rfl⟩ (fun hHeld => ?_)
                  clear hK K
                  refine norm_ (a' := ?_) ?_ ?_
                  rotate_left
                  · show Act.put _ (some 26) _ = _
                    simp only [Act.put, List.setIfInBounds_toArray, List.set_cons_zero, List.set_cons_succ, i64_w, i32_w]
                    rfl
                  exact norm_ (by simp only [putAll, Act.put, List.setIfInBounds_toArray, List.set_cons_zero, List.set_cons_succ]) (hCont (.slice (some ado37) y154.length co37, ado37) _ ⟨hHeld, (by (with_reducible repeat (first | apply Kd.R_alloc | apply Kd.R_drewN | apply Kd.R_drew)); exact Kd.R_mono HO147.out (fun _ hk => hk.2)), (by (with_reducible repeat (first | apply Kd.R_alloc | apply Kd.R_drewN | apply Kd.R_drew)); exact Kd.R_mono HO156.out (fun _ hk => hk.2)), ⟨_, rfl⟩, (by (with_reducible repeat (first | refine blk_drewN ?_ _ | refine blk_drew ?_ | refine blk_alloc ?_ _)); exact BK142.out), (by (with_reducible repeat (first | refine blk_drewN ?_ _ | refine blk_drew ?_ | refine blk_alloc ?_ _)); exact BK151.out), (by repeat (first | (with_reducible first | exact HI0.out | apply IsS94.alloc | apply IsS94.drewN | apply IsS94.drew | apply IsS94.set_1 | refine IsS94.far ?_ NB0_142.out _ | refine IsS94.far ?_ NB0_151.out _) | exact HI0.out)), (by repeat (first | (with_reducible first | exact HK.out | apply KeepBut.set_ | apply keep_drewN | apply keep_drew | apply keep_alloc | refine keep_far ?_ GW142.out _ | refine keep_far ?_ GW151.out _) | exact HK.out)), (by repeat (first | (with_reducible first | exact HB.out | apply below_alloc | apply pw_below_drewN | apply below_drew1 | refine below_set ?_ (IsS94.ge HI0.out) | refine below_set ?_ GE142.out | refine below_set ?_ GE151.out) | exact HB.out))⟩)
              rintro ⟨v155, adz_v155⟩ w38 ⟨hS_, h0_, h1_, h2_, h3_, h4_, h5_, h6_, h7_⟩
              have n0_ : Aside0 (Kd.R (Kd.int .i64) 3 w38 w.heap.size (fun k_ => some k_ ≠ (v155 : Value).ownBlock) (.slice (some ad150) y145.length co26) y145) := ⟨h0_⟩
              have n1_ : Aside0 (Kd.R (Kd.int .i64) 3 w38 w.heap.size (fun k_ => some k_ ≠ (.slice (some ad150) y145.length co26 : Value).ownBlock) v155 y154) := ⟨h1_⟩
              have n2_ : Aside0 (∃ c_, (v155 : Value) = .slice (some adz_v155) y154.length c_) := ⟨h2_⟩
              have n3_ : Aside0 (w38.heap[gb142]? = some (.cells #[.int .i64 0, .int .i64 0, .int .i64 0] 56 (0, 0))) := ⟨h3_⟩
              have n4_ : Aside0 (w38.heap[gb151]? = some (.cells #[.int .i64 0, .int .i64 0, .int .i64 (rd y145 t148)] 56 (0, 0))) := ⟨h4_⟩
              have n5_ : Aside0 (IsS94 w0 w38 g s0_0 t158) := ⟨h5_⟩
              have n6_ : Aside0 (KeepBut w w38 g none) := ⟨h6_⟩
              have n7_ : Aside0 (Below w0.heap.size w0 w38) := ⟨h7_⟩
              clear HO147
              clear BK142
              clear BK151
              clear HI0
              clear HK
              clear HB
              clear h0_ h1_ h2_ h3_ h4_ h5_ h6_ h7_
              have HO147 := n0_
              have HO156 := n1_
              have HA_HO156 := n2_
              have BK142 := n3_
              have BK151 := n4_
              have HI0 := n5_
              have HK := n6_
              have HB := n7_
              clear n0_ n1_ n2_ n3_ n4_ n5_ n6_ n7_
              have hHeld : w38.cell? ⟨gb151, 0, none⟩ = some (.int .i64 0) ∧ w38.cell? ⟨gb151, 1, none⟩ = some (.int .i64 0) ∧ w38.cell? ⟨gb151, 2, none⟩ = some (.int .i64 (rd y145 t148)) := hS_
              obtain ⟨co39, eo39⟩ := HA_HO156.out
              clear HA_HO156
              subst eo39
              refine norm_ (a' := ?_) ?_ ?_
              rotate_left
              · simp only [putAll, Act.put, List.setIfInBounds_toArray, List.set_cons_zero, List.set_cons_succ]
                rfl
              refine pure_ (i := 14) (N := some 29) (v := ?_) (a' := ?_) #[true, true, true, true, true, true, true, true, true, true, true, true, true, true, true, false, false, false] rfl rfl (any_of HT_.out (by kernel_rfl)) (fun _ _ _ h => h) (Or.inl ⟨by rfl, ?_⟩) ?_ ?_
              rotate_left
              · intro w'
                go_simp
                with_reducible rfl
              rotate_left
              · simp only [Act.put, List.setIfInBounds_toArray, List.set_cons_zero, List.set_cons_succ, i64_w, i32_w]
                rfl
              refine one_ (i := 15) (N := some 30) #[true, true, true, true, true, true, true, true, true, true, true, true, true, true, true, true, false, false] rfl rfl (one_of HT_.out (by kernel_rfl)) (by decide) (fun K hK => ?_)
              (have p159 : 0 ≤ (t157 : Int) := of_decide_eq_true (by first | (with_reducible assumption) | assumption); have q159 : t157 < (y154.length : Int) := of_decide_eq_true (by first | (with_reducible assumption) | assumption); obtain ⟨ad159, e159, hx159_0⟩ := Kd.at_int (Kd.R_reads' HO156.out).2.2 t157 p159 q159; obtain rfl : adz_v155 = ad159 := (by injection e159))
              refine value_ (w1 := ?_) (v := ?_) (by rfl) rfl ?_ ?_
              rotate_left 2
              · go_simp
                constructor
                · rfl
                · rfl
              clear hx159_0
              refine hK.out _ _ ⟨(blk_cell BK151.out 0).trans rfl, (blk_cell BK151.out 1).trans rfl, (blk_cell BK151.out 2).trans rfl⟩ (fun hHeld => ?_)
              clear hK K
              refine norm_ (a' := ?_) ?_ ?_
              rotate_left
              · show Act.put _ (some 30) _ = _
                simp only [Act.put, List.setIfInBounds_toArray, List.set_cons_zero, List.set_cons_succ, i64_w, i32_w]
                rfl
              refine pure_ (i := 16) (N := some 31) (v := ?_) (a' := ?_) #[true, true, true, true, true, true, true, true, true, true, true, true, true, true, true, true, true, false] rfl rfl (any_of HT_.out (by kernel_rfl)) (fun _ _ _ h => h) (Or.inl ⟨by rfl, ?_⟩) ?_ ?_
              rotate_left
              · intro w'
                go_simp
                with_reducible rfl
              rotate_left
              · simp only [Act.put, List.setIfInBounds_toArray, List.set_cons_zero, List.set_cons_succ, i64_w, i32_w]
                rfl
              refine last_ (i := 17) (N := none) #[true, true, true, true, true, true, true, true, true, true, true, true, true, true, true, true, true, true] rfl rfl (one_of HT_.out (by kernel_rfl)) (by decide) (fun K hK => ?_)
              have hs40 : w38.cell? ⟨gb151, 1, none⟩ = some (.int .i64 0) := (blk_cell BK151.out 1).trans rfl
              have hfs40 := blk_frozen BK151.out 1
              have hns40_0 := NB142_151.out
              have hms40_0 := NB151_142.out
              refine skip_ (w1 := ?_) (by rfl) rfl ?_ ?_
              rotate_left
              · go_simp
                rfl
              refine hK.out _ _ ?_
              clear hK K
              refine done_ (done_of HT_.out (by kernel_rfl)) ?_
              try go_wp2
              have pi165 : (0 ≤ (t163 : Int)) = True := eq_true (of_decide_eq_true (by first | (with_reducible assumption) | assumption))
              have qi165 : (t163 < (y160.length : Int)) = True := eq_true (of_decide_eq_true (by first | (with_reducible assumption) | assumption))
              have n0_ : Aside0 (Kd.R (Kd.int .i64) 3 (w38.setCell ⟨gb151, 1, none⟩ (.int .i64 (rd y154 t157))) w.heap.size (fun k_ => some k_ ≠ (.slice (some adz_v155) y154.length co39 : Value).ownBlock) (.slice (some ad150) y145.length co26) y145) := ⟨by (with_reducible repeat (first | apply Kd.R_alloc | apply Kd.R_drewN | apply Kd.R_drew)); exact Kd.R_mono (Kd.R_far (p := ⟨gb151, 1, none⟩) (Kd.R_types HO147.out BK151.out (by decide)) (fun _ hk => hk.2) (.int .i64 (rd y154 t157))) (fun _ hk => hk.1)⟩
              have n1_ : Aside0 (Kd.R (Kd.int .i64) 3 (w38.setCell ⟨gb151, 1, none⟩ (.int .i64 (rd y154 t157))) w.heap.size (fun k_ => some k_ ≠ (.slice (some ad150) y145.length co26 : Value).ownBlock) (.slice (some adz_v155) y154.length co39) y154) := ⟨by (with_reducible repeat (first | apply Kd.R_alloc | apply Kd.R_drewN | apply Kd.R_drew)); exact Kd.R_mono (Kd.R_far (p := ⟨gb151, 1, none⟩) (Kd.R_types HO156.out BK151.out (by decide)) (fun _ hk => hk.2) (.int .i64 (rd y154 t157))) (fun _ hk => hk.1)⟩
              have n2_ : Aside0 ((w38.setCell ⟨gb151, 1, none⟩ (.int .i64 (rd y154 t157))).heap[gb142]? = some (.cells #[.int .i64 0, .int .i64 0, .int .i64 0] 56 (0, 0))) := ⟨by (with_reducible repeat (first | refine blk_drewN ?_ _ | refine blk_drew ?_ | refine blk_alloc ?_ _)); refine blk_far ?_ NB142_151.out _; (with_reducible repeat (first | refine blk_drewN ?_ _ | refine blk_drew ?_ | refine blk_alloc ?_ _)); exact BK142.out⟩
              have n3_ : Aside0 ((w38.setCell ⟨gb151, 1, none⟩ (.int .i64 (rd y154 t157))).heap[gb151]? = some (.cells #[.int .i64 0, .int .i64 (rd y154 t157), .int .i64 (rd y145 t148)] 56 (0, 0))) := ⟨by (with_reducible repeat (first | refine blk_drewN ?_ _ | refine blk_drew ?_ | refine blk_alloc ?_ _)); refine blk_put (cs := #[.int .i64 0, .int .i64 0, .int .i64 (rd y145 t148)]) ?_ 1 _ rfl; (with_reducible repeat (first | refine blk_drewN ?_ _ | refine blk_drew ?_ | refine blk_alloc ?_ _)); exact BK151.out⟩
              have n4_ : Aside0 (IsS94 w0 (w38.setCell ⟨gb151, 1, none⟩ (.int .i64 (rd y154 t157))) g s0_0 t158) := ⟨by repeat (first | (with_reducible first | exact HI0.out | apply IsS94.alloc | apply IsS94.drewN | apply IsS94.drew | apply IsS94.set_1 | refine IsS94.far ?_ NB0_142.out _ | refine IsS94.far ?_ NB0_151.out _) | exact HI0.out)⟩
              have n5_ : Aside0 (KeepBut w (w38.setCell ⟨gb151, 1, none⟩ (.int .i64 (rd y154 t157))) g none) := ⟨by repeat (first | (with_reducible first | exact HK.out | apply KeepBut.set_ | apply keep_drewN | apply keep_drew | apply keep_alloc | refine keep_far ?_ GW142.out _ | refine keep_far ?_ GW151.out _) | exact HK.out)⟩
              have n6_ : Aside0 (Below w0.heap.size w0 (w38.setCell ⟨gb151, 1, none⟩ (.int .i64 (rd y154 t157)))) := ⟨by repeat (first | (with_reducible first | exact HB.out | apply below_alloc | apply pw_below_drewN | apply below_drew1 | refine below_set ?_ (IsS94.ge HI0.out) | refine below_set ?_ GE142.out | refine below_set ?_ GE151.out) | exact HB.out)⟩
              (try clear HO147)
              (try clear HO156)
              (try clear BK142)
              (try clear BK151)
              (try clear HI0)
              (try clear HK)
              (try clear HB)
              generalize (w38.setCell ⟨gb151, 1, none⟩ (.int .i64 (rd y154 t157))) = w41 at n0_ n1_ n2_ n3_ n4_ n5_ n6_ ⊢
              have HO147 := n0_
              have HO156 := n1_
              have BK142 := n2_
              have BK151 := n3_
              have HI0 := n4_
              have HK := n5_
              have HB := n6_
              clear n0_ n1_ n2_ n3_ n4_ n5_ n6_
              have n0_ := Aside0.mk (Kd.R_drew HO147.out)
              have n1_ := Aside0.mk (Kd.R_drew HO156.out)
              have n2_ := Aside0.mk (blk_drew BK142.out)
              have n3_ := Aside0.mk (blk_drew BK151.out)
              have n4_ := Aside0.mk (IsS94.drew HI0.out)
              have n5_ := Aside0.mk (keep_drew HK.out)
              have n6_ := Aside0.mk (below_drew1 HB.out)
              clear HO147
              clear HO156
              clear BK142
              clear BK151
              clear HI0
              clear HK
              clear HB
              have HO147 := n0_
              have HO156 := n1_
              have BK142 := n2_
              have BK151 := n3_
              have HI0 := n4_
              have HK := n5_
              have HB := n6_
              clear n0_ n1_ n2_ n3_ n4_ n5_ n6_
              refine start_ (n := 21) (S := fun w' => w'.cell? ⟨gb151, 0, none⟩ = some (.int .i64 0) ∧ w'.cell? ⟨gb151, 1, none⟩ = some (.int .i64 (rd y154 t157)) ∧ w'.cell? ⟨gb151, 2, none⟩ = some (.int .i64 (rd y145 t148))) (ds := [20]) #[false, false, false, false, false, false, false, false, false, false, false, false, false, false, false, false, false, false, false, false, false] (by kernel_rfl) rfl rfl ⟨(blk_cell BK151.out 0).trans rfl, (blk_cell BK151.out 1).trans rfl, (blk_cell BK151.out 2).trans rfl⟩ (fun hHeld => ?_); refine with_tabW spec_l20Task.tab3 spec_l20Task.bits3 (fun HT_ HW_ => ?_)
              generalize w41.drew = w42 at HO147 HO156 BK142 BK151 HI0 HK HB hHeld ⊢
              refine pure_ (i := 0) (N := some 32) (v := ?_) (a' := ?_) #[true, false, false, false, false, false, false, false, false, false, false, false, false, false, false, false, false, false, false, false, false] rfl rfl (any_of HT_.out (by kernel_rfl)) (fun _ _ _ h => h) (Or.inl ⟨by rfl, ?_⟩) ?_ ?_
              rotate_left
              · intro w'
                go_simp
                with_reducible rfl
              rotate_left
              · simp only [Act.put, List.setIfInBounds_toArray, List.set_cons_zero, List.set_cons_succ, i64_w, i32_w]
                rfl
              refine pure_ (i := 1) (N := some 33) (v := ?_) (a' := ?_) #[true, true, false, false, false, false, false, false, false, false, false, false, false, false, false, false, false, false, false, false, false] rfl rfl (any_of HT_.out (by kernel_rfl)) (fun _ _ _ h => h) (Or.inl ⟨by rfl, ?_⟩) ?_ ?_
              rotate_left
              · intro w'
                go_simp
                with_reducible rfl
              rotate_left
              · simp only [Act.put, List.setIfInBounds_toArray, List.set_cons_zero, List.set_cons_succ, i64_w, i32_w]
                rfl
              refine pure_ (i := 3) (N := some 35) (v := ?_) (a' := ?_) #[true, true, false, true, false, false, false, false, false, false, false, false, false, false, false, false, false, false, false, false, false] rfl rfl (any_of HT_.out (by kernel_rfl)) (fun _ _ _ h => h) (Or.inl ⟨by rfl, ?_⟩) ?_ ?_
              rotate_left
              · intro w'
                go_simp
                with_reducible rfl
              rotate_left
              · simp only [Act.put, List.setIfInBounds_toArray, List.set_cons_zero, List.set_cons_succ, i64_w, i32_w]
                rfl
              refine pure_ (i := 7) (N := some 39) (v := ?_) (a' := ?_) #[true, true, false, true, false, false, false, true, false, false, false, false, false, false, false, false, false, false, false, false, false] rfl rfl (any_of HT_.out (by kernel_rfl)) (fun _ _ _ h => h) (Or.inl ⟨by rfl, ?_⟩) ?_ ?_
              rotate_left
              · intro w'
                go_simp
                with_reducible rfl
              rotate_left
              · simp only [Act.put, List.setIfInBounds_toArray, List.set_cons_zero, List.set_cons_succ, i64_w, i32_w]
                rfl
              refine pure_ (i := 12) (N := some 44) (v := ?_) (a' := ?_) #[true, true, false, true, false, false, false, true, false, false, false, false, true, false, false, false, false, false, false, false, false] rfl rfl (any_of HT_.out (by kernel_rfl)) (fun _ _ _ h => h) (Or.inl ⟨by rfl, ?_⟩) ?_ ?_
              rotate_left
              · intro w'
                go_simp
                with_reducible rfl
              rotate_left
              · simp only [Act.put, List.setIfInBounds_toArray, List.set_cons_zero, List.set_cons_succ, i64_w, i32_w]
                rfl
              refine take_ (i := 2) (N := some 34) (v := ?_) (a' := ?_) #[true, true, true, true, false, false, false, true, false, false, false, false, true, false, false, false, false, false, false, false, false] rfl rfl (take_ofW HT_.out HW_.out (by kernel_rfl)) (fun _ _ _ h => h) (Or.inl ⟨by rfl, ?_⟩) hHeld ?_ ?_
              rotate_left
              · rintro w' ⟨s0, s1, s2⟩
                go_simp
                with_reducible rfl
              rotate_left
              · simp only [Act.put, List.setIfInBounds_toArray, List.set_cons_zero, List.set_cons_succ, i64_w, i32_w]
                rfl
              refine take_ (i := 4) (N := some 36) (v := ?_) (a' := ?_) #[true, true, true, true, true, false, false, true, false, false, false, false, true, false, false, false, false, false, false, false, false] rfl rfl (take_ofW HT_.out HW_.out (by kernel_rfl)) (fun _ _ _ h => h) (Or.inl ⟨by rfl, ?_⟩) hHeld ?_ ?_
              rotate_left
              · rintro w' ⟨s0, s1, s2⟩
                go_simp
                with_reducible rfl
              rotate_left
              · simp only [Act.put, List.setIfInBounds_toArray, List.set_cons_zero, List.set_cons_succ, i64_w, i32_w]
                rfl
              refine pure_ (i := 5) (N := some 37) (v := ?_) (a' := ?_) #[true, true, true, true, true, true, false, true, false, false, false, false, true, false, false, false, false, false, false, false, false] rfl rfl (any_of HT_.out (by kernel_rfl)) (fun _ _ _ h => h) (Or.inl ⟨by rfl, ?_⟩) ?_ ?_
              rotate_left
              · intro w'
                go_simp
                with_reducible rfl
              rotate_left
              · simp only [Act.put, List.setIfInBounds_toArray, List.set_cons_zero, List.set_cons_succ, i64_w, i32_w]
                rfl
              refine pure_ (i := 6) (N := some 38) (v := ?_) (a' := ?_) #[true, true, true, true, true, true, true, true, false, false, false, false, true, false, false, false, false, false, false, false, false] rfl rfl (any_of HT_.out (by kernel_rfl)) (fun _ _ _ h => h) (Or.inl ⟨by rfl, ?_⟩) ?_ ?_
              rotate_left
              · intro w'
                go_simp
                with_reducible rfl
              rotate_left
              · simp only [Act.put, List.setIfInBounds_toArray, List.set_cons_zero, List.set_cons_succ, i64_w, i32_w]
                rfl
              refine take_ (i := 8) (N := some 40) (v := ?_) (a' := ?_) #[true, true, true, true, true, true, true, true, true, false, false, false, true, false, false, false, false, false, false, false, false] rfl rfl (take_ofW HT_.out HW_.out (by kernel_rfl)) (fun _ _ _ h => h) (Or.inl ⟨by rfl, ?_⟩) hHeld ?_ ?_
              rotate_left
              · rintro w' ⟨s0, s1, s2⟩
                go_simp
                with_reducible rfl
              rotate_left
              · simp only [Act.put, List.setIfInBounds_toArray, List.set_cons_zero, List.set_cons_succ, i64_w, i32_w]
                rfl
              refine pure_ (i := 9) (N := some 41) (v := ?_) (a' := ?_) #[true, true, true, true, true, true, true, true, true, true, false, false, true, false, false, false, false, false, false, false, false] rfl rfl (any_of HT_.out (by kernel_rfl)) (fun _ _ _ h => h) (Or.inl ⟨by rfl, ?_⟩) ?_ ?_
              rotate_left
              · intro w'
                go_simp
                with_reducible rfl
              rotate_left
              · simp only [Act.put, List.setIfInBounds_toArray, List.set_cons_zero, List.set_cons_succ, i64_w, i32_w]
                rfl
              refine pure_ (i := 10) (N := some 42) (v := ?_) (a' := ?_) #[true, true, true, true, true, true, true, true, true, true, true, false, true, false, false, false, false, false, false, false, false] rfl rfl (any_of HT_.out (by kernel_rfl)) (fun _ _ _ h => h) (Or.inl ⟨by rfl, ?_⟩) ?_ ?_
              rotate_left
              · intro w'
                go_simp
                with_reducible rfl
              rotate_left
              · simp only [Act.put, List.setIfInBounds_toArray, List.set_cons_zero, List.set_cons_succ, i64_w, i32_w]
                rfl
              refine join_ (σ := Value × Addr) 7 #[true, true, true, true, true, true, true, true, true, true, true, true, true, true, false, false, false, false, false, false, false] (fun s_ => [(43, s_.1), (45, .int .i64 t163)]) (fun s_ w' => (w'.cell? ⟨gb151, 0, none⟩ = some (.int .i64 0) ∧ w'.cell? ⟨gb151, 1, none⟩ = some (.int .i64 (rd y154 t157)) ∧ w'.cell? ⟨gb151, 2, none⟩ = some (.int .i64 (rd y145 t148))) ∧ (Kd.R (Kd.int .i64) 3 w' w.heap.size (fun k_ => some k_ ≠ (.slice (some adz_v155) y154.length co39 : Value).ownBlock ∧ some k_ ≠ (s_.1 : Value).ownBlock) (.slice (some ad150) y145.length co26) y145) ∧ (Kd.R (Kd.int .i64) 3 w' w.heap.size (fun k_ => some k_ ≠ (.slice (some ad150) y145.length co26 : Value).ownBlock ∧ some k_ ≠ (s_.1 : Value).ownBlock) (.slice (some adz_v155) y154.length co39) y154) ∧ (Kd.R (Kd.int .i64) 3 w' w.heap.size (fun k_ => some k_ ≠ (.slice (some ad150) y145.length co26 : Value).ownBlock ∧ some k_ ≠ (.slice (some adz_v155) y154.length co39 : Value).ownBlock) s_.1 y160) ∧ (∃ c_, (s_.1 : Value) = .slice (some s_.2) y160.length c_) ∧ (w'.heap[gb142]? = some (.cells #[.int .i64 0, .int .i64 0, .int .i64 0] 56 (0, 0))) ∧ (w'.heap[gb151]? = some (.cells #[.int .i64 0, .int .i64 (rd y154 t157), .int .i64 (rd y145 t148)] 56 (0, 0))) ∧ (IsS94 w0 w' g s0_0 t164) ∧ (KeepBut w w' g none) ∧ (Below w0.heap.size w0 w')) ?_ ?_
              rotate_left
              · intro hCont
                refine two_ (i := 11) (j := 13) (Ni := some 43) (Nj := some 45) #[true, true, true, true, true, true, true, true, true, true, true, true, true, false, false, false, false, false, false, false, false] #[true, true, true, true, true, true, true, true, true, true, true, false, true, true, false, false, false, false, false, false, false] rfl rfl rfl rfl (two_of HT_.out (by kernel_rfl)) (by decide) (by decide) (fun K hK => ?_) (fun K hK => ?_)
                · skip
                  refine Kd.R_lit_step (Kd.int .i64) _ 3 ?hg (N := 43) ?hd (xs := ([rd y154 t157, ji12, ji13] : List Int)) (inner := [.int .i64 (rd y154 t157), .int .i64 ji12, .int .i64 ji13]) (ok := fun _ => True) (okp := fun _ => True) ?hr ?hp (fun _ hk => hk) trivial (Below.refl _ _) (Nat.le_refl _) (by simp) ?_; (case hd => rfl); (case hg => rfl); (case hr => first | (go_simp; done) | (go_simp; rfl)); (case hp => exact (Reps.one (show Kd.M (Kd.int .i64) _ _ _ (rd y154 t157) [.int .i64 (rd y154 t157)] from rfl) (Reps.one (show Kd.M (Kd.int .i64) _ _ _ ji12 [.int .i64 ji12] from rfl) (Reps.one (show Kd.M (Kd.int .i64) _ _ _ ji13 [.int .i64 ji13] from rfl) (Reps.none _ _)))))
                  intro v161 w43 ho44 hb hg_ hnew_
                  clear hg_ hnew_
                  (first | rw [← Ny160.out] at ho44 | (simp only [Int.reduceToNat] at ho44; rw [← Ny160.out] at ho44))
                  have n0_ := Aside0.mk (Kd.R_elder' (by (with_reducible repeat (first | apply Kd.R_alloc | apply Kd.R_drewN | apply Kd.R_drew)); exact HO147.out) (Kd.R_base ho44) hb)
                  have n1_ := Aside0.mk (Kd.R_elder' (by (with_reducible repeat (first | apply Kd.R_alloc | apply Kd.R_drewN | apply Kd.R_drew)); exact HO156.out) (Kd.R_base ho44) hb)
                  have n2_ := Aside0.mk (Kd.R_lower (Kd.R_new' (Kd.R_new' ho44 (Kd.R_lt (by (with_reducible repeat (first | apply Kd.R_alloc | apply Kd.R_drewN | apply Kd.R_drew)); exact HO147.out))) (Kd.R_lt (by (with_reducible repeat (first | apply Kd.R_alloc | apply Kd.R_drewN | apply Kd.R_drew)); exact HO156.out))) (keep_size (w := w) (g := g) (row := none) (by repeat (first | (with_reducible first | exact HK.out | apply KeepBut.set_ | apply keep_drewN | apply keep_drew | apply keep_alloc | refine keep_far ?_ GW142.out _ | refine keep_far ?_ GW151.out _) | exact HK.out))))
                  have n3_ := Aside0.mk (IsS94.below (by repeat (first | (with_reducible first | exact HI0.out | apply IsS94.alloc | apply IsS94.drewN | apply IsS94.drew | apply IsS94.set_1 | refine IsS94.far ?_ NB0_142.out _ | refine IsS94.far ?_ NB0_151.out _) | exact HI0.out)) hb)
                  have n4_ := Aside0.mk (blk_below (g := gb142) (o := .cells #[.int .i64 0, .int .i64 0, .int .i64 0] 56 (0, 0)) (by (with_reducible repeat (first | refine blk_drewN ?_ _ | refine blk_drew ?_ | refine blk_alloc ?_ _)); exact BK142.out) hb)
                  have n5_ := Aside0.mk (blk_below (g := gb151) (o := .cells #[.int .i64 0, .int .i64 (rd y154 t157), .int .i64 (rd y145 t148)] 56 (0, 0)) (by (with_reducible repeat (first | refine blk_drewN ?_ _ | refine blk_drew ?_ | refine blk_alloc ?_ _)); exact BK151.out) hb)
                  have n6_ := Aside0.mk (KeepBut.trans (by repeat (first | (with_reducible first | exact HK.out | apply KeepBut.set_ | apply keep_drewN | apply keep_drew | apply keep_alloc | refine keep_far ?_ GW142.out _ | refine keep_far ?_ GW151.out _) | exact HK.out)) (KeepBut.of_below hb g none) (.inl rfl))
                  have n7_ := Aside0.mk (below_step (by repeat (first | (with_reducible first | exact HB.out | apply below_alloc | apply pw_below_drewN | apply below_drew1 | refine below_set ?_ (IsS94.ge HI0.out) | refine below_set ?_ GE142.out | refine below_set ?_ GE151.out) | exact HB.out)) hb)
                  clear HO147
                  clear HO156
                  clear HI0
                  clear BK142
                  clear BK151
                  clear HK
                  clear HB
                  have HO147 := n0_
                  have HO156 := n1_
                  have HO162 := n2_
                  have HI0 := n3_
                  have BK142 := n4_
                  have BK151 := n5_
                  have HK := n6_
                  have HB := n7_
                  clear n0_ n1_ n2_ n3_ n4_ n5_ n6_ n7_
                  clear hb ho44
                  obtain ⟨Ao45, co45, eo45⟩ := Kd.R_slice HO162.out
                  subst eo45
                  obtain ⟨ado45, fo45, _⟩ := Kd.at_int (Kd.R_reads' HO162.out).2.2 0 (by decide) (by rw [Ny160.out]; simp)
                  cases fo45
                  refine hK.out _ _ ⟨(blk_cell BK151.out 0).trans rfl, (blk_cell BK151.out 1).trans rfl, (blk_cell BK151.out 2).trans rfl⟩ (fun hHeld => ?_)
                  clear hK K
                  refine norm_ (a' := ?_) ?_ ?_
                  rotate_left
                  · show Act.put _ (some 43) _ = _
                    simp only [Act.put, List.setIfInBounds_toArray, List.set_cons_zero, List.set_cons_succ, i64_w, i32_w]
                    rfl
                  refine one_ (i := 13) (N := some 45) #[true, true, true, true, true, true, true, true, true, true, true, true, true, true, false, false, false, false, false, false, false] rfl rfl (one_of HT_.out (by kernel_rfl)) (by decide) (fun K hK => ?_)
                  refine goes_ Try.func61 (by kernel_rfl) rfl #[.pointer (some ⟨g, 0, none⟩), .int .i64 3] (by rfl) rfl rfl (by (try simp only [List.map_toArray, List.map_cons, List.map_nil]); first | done | rfl | (simp only [List.length_drop, List.length_take]; rfl)) ?_
                  with_reducible refine (spec_l20Rd_pick.calls k g s0_0 t158 3 t163 t164 w0 _ ?side1 ?side2 A14.out).mono ?_
                  (case side1 => repeat (first | (with_reducible first | exact HI0.out | apply IsS94.alloc | apply IsS94.drewN | apply IsS94.drew | apply IsS94.set_1 | refine IsS94.far ?_ NB0_142.out _ | refine IsS94.far ?_ NB0_151.out _) | exact HI0.out))
                  (case side2 => repeat (first | (with_reducible first | exact HB.out | apply below_alloc | apply pw_below_drewN | apply below_drew1 | refine below_set ?_ (IsS94.ge HI0.out) | refine below_set ?_ GE142.out | refine below_set ?_ GE151.out) | exact HB.out))
                  rintro e w46 ⟨rfl, hi, hb, hk⟩
                  refine ⟨_, rfl, ?_⟩
                  have n0_ := Aside0.mk (KeepBut.blk hk (g' := gb142) (o := .cells #[.int .i64 0, .int .i64 0, .int .i64 0] 56 (0, 0)) (by (with_reducible repeat (first | refine blk_drewN ?_ _ | refine blk_drew ?_ | refine blk_alloc ?_ _)); exact BK142.out) NB142_0.out (by simp))
                  have n1_ := Aside0.mk (Kd.R_mono (Kd.R_keep (IsS94.apart (show IsS94 w0 _ g s0_0 t158 from by repeat (first | (with_reducible first | exact HI0.out | apply IsS94.alloc | apply IsS94.drewN | apply IsS94.drew | apply IsS94.set_1 | refine IsS94.far ?_ NB0_142.out _ | refine IsS94.far ?_ NB0_151.out _) | exact HI0.out)) (by (with_reducible repeat (first | apply Kd.R_alloc | apply Kd.R_drewN | apply Kd.R_drew)); exact HO147.out) (by decide)) hk (fun _ h => h.2)) (fun _ h => h.1))
                  have n2_ := Aside0.mk (KeepBut.blk hk (g' := gb151) (o := .cells #[.int .i64 0, .int .i64 (rd y154 t157), .int .i64 (rd y145 t148)] 56 (0, 0)) (by (with_reducible repeat (first | refine blk_drewN ?_ _ | refine blk_drew ?_ | refine blk_alloc ?_ _)); exact BK151.out) NB151_0.out (by simp))
                  have n3_ := Aside0.mk (Kd.R_mono (Kd.R_keep (IsS94.apart (show IsS94 w0 _ g s0_0 t158 from by repeat (first | (with_reducible first | exact HI0.out | apply IsS94.alloc | apply IsS94.drewN | apply IsS94.drew | apply IsS94.set_1 | refine IsS94.far ?_ NB0_142.out _ | refine IsS94.far ?_ NB0_151.out _) | exact HI0.out)) (by (with_reducible repeat (first | apply Kd.R_alloc | apply Kd.R_drewN | apply Kd.R_drew)); exact HO156.out) (by decide)) hk (fun _ h => h.2)) (fun _ h => h.1))
                  have n4_ := Aside0.mk (Kd.R_mono (Kd.R_keep (IsS94.apart (show IsS94 w0 _ g s0_0 t158 from by repeat (first | (with_reducible first | exact HI0.out | apply IsS94.alloc | apply IsS94.drewN | apply IsS94.drew | apply IsS94.set_1 | refine IsS94.far ?_ NB0_142.out _ | refine IsS94.far ?_ NB0_151.out _) | exact HI0.out)) (by (with_reducible repeat (first | apply Kd.R_alloc | apply Kd.R_drewN | apply Kd.R_drew)); exact HO162.out) (by decide)) hk (fun _ h => h.2)) (fun _ h => h.1))
                  have n5_ := Aside0.mk (KeepBut.trans (by repeat (first | (with_reducible first | exact HK.out | apply KeepBut.set_ | apply keep_drewN | apply keep_drew | apply keep_alloc | refine keep_far ?_ GW142.out _ | refine keep_far ?_ GW151.out _) | exact HK.out)) hk (.inl rfl))
                  have n6_ := Aside0.mk (hb)
                  have n7_ := Aside0.mk (hi)
                  clear BK142
                  clear HO147
                  clear BK151
                  clear HO156
                  clear HO162
                  clear HK
                  clear HB
                  clear HI0
                  have BK142 := n0_
                  have HO147 := n1_
                  have BK151 := n2_
                  have HO156 := n3_
                  have HO162 := n4_
                  have HK := n5_
                  have HB := n6_
                  have HI0 := n7_
                  clear n0_ n1_ n2_ n3_ n4_ n5_ n6_ n7_
                  (try clear hb)
                  (try clear hb2)
                  (try clear hk)
                  (try clear hi)
                  refine hK.out _ _ ⟨(blk_cell BK151.out 0).trans rfl, (blk_cell BK151.out 1).trans rfl, (blk_cell BK151.out 2).trans rfl⟩ (fun hHeld => ?_)
                  clear hK K
                  refine norm_ (a' := ?_) ?_ ?_
                  rotate_left
                  · show Act.put _ (some 45) _ = _
                    simp only [Act.put, List.setIfInBounds_toArray, List.set_cons_zero, List.set_cons_succ, i64_w, i32_w]
                    rfl
                  exact norm_ (by simp only [putAll, Act.put, List.setIfInBounds_toArray, List.set_cons_zero, List.set_cons_succ]) (hCont (.slice (some ado45) y160.length co45, ado45) _ ⟨hHeld, (by (with_reducible repeat (first | apply Kd.R_alloc | apply Kd.R_drewN | apply Kd.R_drew)); exact HO147.out), (by (with_reducible repeat (first | apply Kd.R_alloc | apply Kd.R_drewN | apply Kd.R_drew)); exact HO156.out), (by (with_reducible repeat (first | apply Kd.R_alloc | apply Kd.R_drewN | apply Kd.R_drew)); exact Kd.R_mono HO162.out (fun _ hk => ⟨hk.1.2, hk.2⟩)), ⟨_, rfl⟩, (by (with_reducible repeat (first | refine blk_drewN ?_ _ | refine blk_drew ?_ | refine blk_alloc ?_ _)); exact BK142.out), (by (with_reducible repeat (first | refine blk_drewN ?_ _ | refine blk_drew ?_ | refine blk_alloc ?_ _)); exact BK151.out), (by repeat (first | (with_reducible first | exact HI0.out | apply IsS94.alloc | apply IsS94.drewN | apply IsS94.drew | apply IsS94.set_1 | refine IsS94.far ?_ NB0_142.out _ | refine IsS94.far ?_ NB0_151.out _) | exact HI0.out)), (by repeat (first | (with_reducible first | exact HK.out | apply KeepBut.set_ | apply keep_drewN | apply keep_drew | apply keep_alloc | refine keep_far ?_ GW142.out _ | refine keep_far ?_ GW151.out _) | exact HK.out)), (by repeat (first | (with_reducible first | exact HB.out | apply below_alloc | apply pw_below_drewN | apply below_drew1 | refine below_set ?_ (IsS94.ge HI0.out) | refine below_set ?_ GE142.out | refine below_set ?_ GE151.out) | exact HB.out))⟩)
                · skip
                  refine goes_ Try.func61 (by kernel_rfl) rfl #[.pointer (some ⟨g, 0, none⟩), .int .i64 3] (by rfl) rfl rfl (by (try simp only [List.map_toArray, List.map_cons, List.map_nil]); first | done | rfl | (simp only [List.length_drop, List.length_take]; rfl)) ?_
                  with_reducible refine (spec_l20Rd_pick.calls k g s0_0 t158 3 t163 t164 w0 _ ?side1 ?side2 A14.out).mono ?_
                  (case side1 => repeat (first | (with_reducible first | exact HI0.out | apply IsS94.alloc | apply IsS94.drewN | apply IsS94.drew | apply IsS94.set_1 | refine IsS94.far ?_ NB0_142.out _ | refine IsS94.far ?_ NB0_151.out _) | exact HI0.out))
                  (case side2 => repeat (first | (with_reducible first | exact HB.out | apply below_alloc | apply pw_below_drewN | apply below_drew1 | refine below_set ?_ (IsS94.ge HI0.out) | refine below_set ?_ GE142.out | refine below_set ?_ GE151.out) | exact HB.out))
                  rintro e w43 ⟨rfl, hi, hb, hk⟩
                  refine ⟨_, rfl, ?_⟩
                  have n0_ := Aside0.mk (KeepBut.blk hk (g' := gb142) (o := .cells #[.int .i64 0, .int .i64 0, .int .i64 0] 56 (0, 0)) (by (with_reducible repeat (first | refine blk_drewN ?_ _ | refine blk_drew ?_ | refine blk_alloc ?_ _)); exact BK142.out) NB142_0.out (by simp))
                  have n1_ := Aside0.mk (Kd.R_mono (Kd.R_keep (IsS94.apart (show IsS94 w0 _ g s0_0 t158 from by repeat (first | (with_reducible first | exact HI0.out | apply IsS94.alloc | apply IsS94.drewN | apply IsS94.drew | apply IsS94.set_1 | refine IsS94.far ?_ NB0_142.out _ | refine IsS94.far ?_ NB0_151.out _) | exact HI0.out)) (by (with_reducible repeat (first | apply Kd.R_alloc | apply Kd.R_drewN | apply Kd.R_drew)); exact HO147.out) (by decide)) hk (fun _ h => h.2)) (fun _ h => h.1))
                  have n2_ := Aside0.mk (KeepBut.blk hk (g' := gb151) (o := .cells #[.int .i64 0, .int .i64 (rd y154 t157), .int .i64 (rd y145 t148)] 56 (0, 0)) (by (with_reducible repeat (first | refine blk_drewN ?_ _ | refine blk_drew ?_ | refine blk_alloc ?_ _)); exact BK151.out) NB151_0.out (by simp))
                  have n3_ := Aside0.mk (Kd.R_mono (Kd.R_keep (IsS94.apart (show IsS94 w0 _ g s0_0 t158 from by repeat (first | (with_reducible first | exact HI0.out | apply IsS94.alloc | apply IsS94.drewN | apply IsS94.drew | apply IsS94.set_1 | refine IsS94.far ?_ NB0_142.out _ | refine IsS94.far ?_ NB0_151.out _) | exact HI0.out)) (by (with_reducible repeat (first | apply Kd.R_alloc | apply Kd.R_drewN | apply Kd.R_drew)); exact HO156.out) (by decide)) hk (fun _ h => h.2)) (fun _ h => h.1))
                  have n4_ := Aside0.mk (KeepBut.trans (by repeat (first | (with_reducible first | exact HK.out | apply KeepBut.set_ | apply keep_drewN | apply keep_drew | apply keep_alloc | refine keep_far ?_ GW142.out _ | refine keep_far ?_ GW151.out _) | exact HK.out)) hk (.inl rfl))
                  have n5_ := Aside0.mk (hb)
                  have n6_ := Aside0.mk (hi)
                  clear BK142
                  clear HO147
                  clear BK151
                  clear HO156
                  clear HK
                  clear HB
                  clear HI0
                  have BK142 := n0_
                  have HO147 := n1_
                  have BK151 := n2_
                  have HO156 := n3_
                  have HK := n4_
                  have HB := n5_
                  have HI0 := n6_
                  clear n0_ n1_ n2_ n3_ n4_ n5_ n6_
                  (try clear hb)
                  (try clear hb2)
                  (try clear hk)
                  (try clear hi)
                  refine hK.out _ _ ⟨(blk_cell BK151.out 0).trans rfl, (blk_cell BK151.out 1).trans rfl, (blk_cell BK151.out 2).trans rfl⟩ (fun hHeld => ?_)
                  clear hK K
                  refine norm_ (a' := ?_) ?_ ?_
                  rotate_left
                  · show Act.put _ (some 45) _ = _
                    simp only [Act.put, List.setIfInBounds_toArray, List.set_cons_zero, List.set_cons_succ, i64_w, i32_w]
                    rfl
                  refine one_ (i := 11) (N := some 43) #[true, true, true, true, true, true, true, true, true, true, true, true, true, true, false, false, false, false, false, false, false] rfl rfl (one_of HT_.out (by kernel_rfl)) (by decide) (fun K hK => ?_)
                  refine Kd.R_lit_step (Kd.int .i64) _ 3 ?hg (N := 43) ?hd (xs := ([rd y154 t157, ji12, ji13] : List Int)) (inner := [.int .i64 (rd y154 t157), .int .i64 ji12, .int .i64 ji13]) (ok := fun _ => True) (okp := fun _ => True) ?hr ?hp (fun _ hk => hk) trivial (Below.refl _ _) (Nat.le_refl _) (by simp) ?_; (case hd => rfl); (case hg => rfl); (case hr => first | (go_simp; done) | (go_simp; rfl)); (case hp => exact (Reps.one (show Kd.M (Kd.int .i64) _ _ _ (rd y154 t157) [.int .i64 (rd y154 t157)] from rfl) (Reps.one (show Kd.M (Kd.int .i64) _ _ _ ji12 [.int .i64 ji12] from rfl) (Reps.one (show Kd.M (Kd.int .i64) _ _ _ ji13 [.int .i64 ji13] from rfl) (Reps.none _ _)))))
                  intro v161 w44 ho45 hb hg_ hnew_
                  clear hg_ hnew_
                  (first | rw [← Ny160.out] at ho45 | (simp only [Int.reduceToNat] at ho45; rw [← Ny160.out] at ho45))
                  have n0_ := Aside0.mk (Kd.R_elder' (by (with_reducible repeat (first | apply Kd.R_alloc | apply Kd.R_drewN | apply Kd.R_drew)); exact HO147.out) (Kd.R_base ho45) hb)
                  have n1_ := Aside0.mk (Kd.R_elder' (by (with_reducible repeat (first | apply Kd.R_alloc | apply Kd.R_drewN | apply Kd.R_drew)); exact HO156.out) (Kd.R_base ho45) hb)
                  have n2_ := Aside0.mk (Kd.R_lower (Kd.R_new' (Kd.R_new' ho45 (Kd.R_lt (by (with_reducible repeat (first | apply Kd.R_alloc | apply Kd.R_drewN | apply Kd.R_drew)); exact HO147.out))) (Kd.R_lt (by (with_reducible repeat (first | apply Kd.R_alloc | apply Kd.R_drewN | apply Kd.R_drew)); exact HO156.out))) (keep_size (w := w) (g := g) (row := none) (by repeat (first | (with_reducible first | exact HK.out | apply KeepBut.set_ | apply keep_drewN | apply keep_drew | apply keep_alloc | refine keep_far ?_ GW142.out _ | refine keep_far ?_ GW151.out _) | exact HK.out))))
                  have n3_ := Aside0.mk (IsS94.below (by repeat (first | (with_reducible first | exact HI0.out | apply IsS94.alloc | apply IsS94.drewN | apply IsS94.drew | apply IsS94.set_1 | refine IsS94.far ?_ NB0_142.out _ | refine IsS94.far ?_ NB0_151.out _) | exact HI0.out)) hb)
                  have n4_ := Aside0.mk (blk_below (g := gb142) (o := .cells #[.int .i64 0, .int .i64 0, .int .i64 0] 56 (0, 0)) (by (with_reducible repeat (first | refine blk_drewN ?_ _ | refine blk_drew ?_ | refine blk_alloc ?_ _)); exact BK142.out) hb)
                  have n5_ := Aside0.mk (blk_below (g := gb151) (o := .cells #[.int .i64 0, .int .i64 (rd y154 t157), .int .i64 (rd y145 t148)] 56 (0, 0)) (by (with_reducible repeat (first | refine blk_drewN ?_ _ | refine blk_drew ?_ | refine blk_alloc ?_ _)); exact BK151.out) hb)
                  have n6_ := Aside0.mk (KeepBut.trans (by repeat (first | (with_reducible first | exact HK.out | apply KeepBut.set_ | apply keep_drewN | apply keep_drew | apply keep_alloc | refine keep_far ?_ GW142.out _ | refine keep_far ?_ GW151.out _) | exact HK.out)) (KeepBut.of_below hb g none) (.inl rfl))
                  have n7_ := Aside0.mk (below_step (by repeat (first | (with_reducible first | exact HB.out | apply below_alloc | apply pw_below_drewN | apply below_drew1 | refine below_set ?_ (IsS94.ge HI0.out) | refine below_set ?_ GE142.out | refine below_set ?_ GE151.out) | exact HB.out)) hb)
                  clear HO147
                  clear HO156
                  clear HI0
                  clear BK142
                  clear BK151
                  clear HK
                  clear HB
                  have HO147 := n0_
                  have HO156 := n1_
                  have HO162 := n2_
                  have HI0 := n3_
                  have BK142 := n4_
                  have BK151 := n5_
                  have HK := n6_
                  have HB := n7_
                  clear n0_ n1_ n2_ n3_ n4_ n5_ n6_ n7_
                  clear hb ho45
                  obtain ⟨Ao46, co46, eo46⟩ := Kd.R_slice HO162.out
                  subst eo46
                  obtain ⟨ado46, fo46, _⟩ := Kd.at_int (Kd.R_reads' HO162.out).2.2 0 (by decide) (by rw [Ny160.out]; simp)
                  cases fo46
                  refine hK.out _ _ ⟨(blk_cell BK151.out 0).trans rfl, (blk_cell BK151.out 1).trans rfl, (blk_cell BK151.out 2).trans rfl⟩ (fun hHeld => ?_)
                  clear hK K
                  refine norm_ (a' := ?_) ?_ ?_
                  rotate_left
                  · show Act.put _ (some 43) _ = _
                    simp only [Act.put, List.setIfInBounds_toArray, List.set_cons_zero, List.set_cons_succ, i64_w, i32_w]
                    rfl
                  exact norm_ (by simp only [putAll, Act.put, List.setIfInBounds_toArray, List.set_cons_zero, List.set_cons_succ]) (hCont (.slice (some ado46) y160.length co46, ado46) _ ⟨hHeld, (by (with_reducible repeat (first | apply Kd.R_alloc | apply Kd.R_drewN | apply Kd.R_drew)); exact HO147.out), (by (with_reducible repeat (first | apply Kd.R_alloc | apply Kd.R_drewN | apply Kd.R_drew)); exact HO156.out), (by (with_reducible repeat (first | apply Kd.R_alloc | apply Kd.R_drewN | apply Kd.R_drew)); exact Kd.R_mono HO162.out (fun _ hk => ⟨hk.1.2, hk.2⟩)), ⟨_, rfl⟩, (by (with_reducible repeat (first | refine blk_drewN ?_ _ | refine blk_drew ?_ | refine blk_alloc ?_ _)); exact BK142.out), (by (with_reducible repeat (first | refine blk_drewN ?_ _ | refine blk_drew ?_ | refine blk_alloc ?_ _)); exact BK151.out), (by repeat (first | (with_reducible first | exact HI0.out | apply IsS94.alloc | apply IsS94.drewN | apply IsS94.drew | apply IsS94.set_1 | refine IsS94.far ?_ NB0_142.out _ | refine IsS94.far ?_ NB0_151.out _) | exact HI0.out)), (by repeat (first | (with_reducible first | exact HK.out | apply KeepBut.set_ | apply keep_drewN | apply keep_drew | apply keep_alloc | refine keep_far ?_ GW142.out _ | refine keep_far ?_ GW151.out _) | exact HK.out)), (by repeat (first | (with_reducible first | exact HB.out | apply below_alloc | apply pw_below_drewN | apply below_drew1 | refine below_set ?_ (IsS94.ge HI0.out) | refine below_set ?_ GE142.out | refine below_set ?_ GE151.out) | exact HB.out))⟩)
              rintro ⟨v161, adz_v161⟩ w47 ⟨hS_, h0_, h1_, h2_, h3_, h4_, h5_, h6_, h7_, h8_⟩
              have n0_ : Aside0 (Kd.R (Kd.int .i64) 3 w47 w.heap.size (fun k_ => some k_ ≠ (.slice (some adz_v155) y154.length co39 : Value).ownBlock ∧ some k_ ≠ (v161 : Value).ownBlock) (.slice (some ad150) y145.length co26) y145) := ⟨h0_⟩
              have n1_ : Aside0 (Kd.R (Kd.int .i64) 3 w47 w.heap.size (fun k_ => some k_ ≠ (.slice (some ad150) y145.length co26 : Value).ownBlock ∧ some k_ ≠ (v161 : Value).ownBlock) (.slice (some adz_v155) y154.length co39) y154) := ⟨h1_⟩
              have n2_ : Aside0 (Kd.R (Kd.int .i64) 3 w47 w.heap.size (fun k_ => some k_ ≠ (.slice (some ad150) y145.length co26 : Value).ownBlock ∧ some k_ ≠ (.slice (some adz_v155) y154.length co39 : Value).ownBlock) v161 y160) := ⟨h2_⟩
              have n3_ : Aside0 (∃ c_, (v161 : Value) = .slice (some adz_v161) y160.length c_) := ⟨h3_⟩
              have n4_ : Aside0 (w47.heap[gb142]? = some (.cells #[.int .i64 0, .int .i64 0, .int .i64 0] 56 (0, 0))) := ⟨h4_⟩
              have n5_ : Aside0 (w47.heap[gb151]? = some (.cells #[.int .i64 0, .int .i64 (rd y154 t157), .int .i64 (rd y145 t148)] 56 (0, 0))) := ⟨h5_⟩
              have n6_ : Aside0 (IsS94 w0 w47 g s0_0 t164) := ⟨h6_⟩
              have n7_ : Aside0 (KeepBut w w47 g none) := ⟨h7_⟩
              have n8_ : Aside0 (Below w0.heap.size w0 w47) := ⟨h8_⟩
              clear HO147
              clear HO156
              clear BK142
              clear BK151
              clear HI0
              clear HK
              clear HB
              clear h0_ h1_ h2_ h3_ h4_ h5_ h6_ h7_ h8_
              have HO147 := n0_
              have HO156 := n1_
              have HO162 := n2_
              have HA_HO162 := n3_
              have BK142 := n4_
              have BK151 := n5_
              have HI0 := n6_
              have HK := n7_
              have HB := n8_
              clear n0_ n1_ n2_ n3_ n4_ n5_ n6_ n7_ n8_
              have hHeld : w47.cell? ⟨gb151, 0, none⟩ = some (.int .i64 0) ∧ w47.cell? ⟨gb151, 1, none⟩ = some (.int .i64 (rd y154 t157)) ∧ w47.cell? ⟨gb151, 2, none⟩ = some (.int .i64 (rd y145 t148)) := hS_
              obtain ⟨co48, eo48⟩ := HA_HO162.out
              clear HA_HO162
              subst eo48
              refine norm_ (a' := ?_) ?_ ?_
              rotate_left
              · simp only [putAll, Act.put, List.setIfInBounds_toArray, List.set_cons_zero, List.set_cons_succ]
                rfl
              refine pure_ (i := 14) (N := some 46) (v := ?_) (a' := ?_) #[true, true, true, true, true, true, true, true, true, true, true, true, true, true, true, false, false, false, false, false, false] rfl rfl (any_of HT_.out (by kernel_rfl)) (fun _ _ _ h => h) (Or.inl ⟨by rfl, ?_⟩) ?_ ?_
              rotate_left
              · intro w'
                go_simp
                with_reducible rfl
              rotate_left
              · simp only [Act.put, List.setIfInBounds_toArray, List.set_cons_zero, List.set_cons_succ, i64_w, i32_w]
                rfl
              refine one_ (i := 15) (N := some 47) #[true, true, true, true, true, true, true, true, true, true, true, true, true, true, true, true, false, false, false, false, false] rfl rfl (one_of HT_.out (by kernel_rfl)) (by decide) (fun K hK => ?_)
              (have p165 : 0 ≤ (t163 : Int) := of_decide_eq_true (by first | (with_reducible assumption) | assumption); have q165 : t163 < (y160.length : Int) := of_decide_eq_true (by first | (with_reducible assumption) | assumption); obtain ⟨ad165, e165, hx165_0⟩ := Kd.at_int (Kd.R_reads' HO162.out).2.2 t163 p165 q165; obtain rfl : adz_v161 = ad165 := (by injection e165))
              refine value_ (w1 := ?_) (v := ?_) (by rfl) rfl ?_ ?_
              rotate_left 2
              · go_simp
                constructor
                · rfl
                · rfl
              clear hx165_0
              refine hK.out _ _ ⟨(blk_cell BK151.out 0).trans rfl, (blk_cell BK151.out 1).trans rfl, (blk_cell BK151.out 2).trans rfl⟩ (fun hHeld => ?_)
              clear hK K
              refine norm_ (a' := ?_) ?_ ?_
              rotate_left
              · show Act.put _ (some 47) _ = _
                simp only [Act.put, List.setIfInBounds_toArray, List.set_cons_zero, List.set_cons_succ, i64_w, i32_w]
                rfl
              refine pure_ (i := 16) (N := some 48) (v := ?_) (a' := ?_) #[true, true, true, true, true, true, true, true, true, true, true, true, true, true, true, true, true, false, false, false, false] rfl rfl (any_of HT_.out (by kernel_rfl)) (fun _ _ _ h => h) (Or.inl ⟨by rfl, ?_⟩) ?_ ?_
              rotate_left
              · intro w'
                go_simp
                with_reducible rfl
              rotate_left
              · simp only [Act.put, List.setIfInBounds_toArray, List.set_cons_zero, List.set_cons_succ, i64_w, i32_w]
                rfl
              refine one_ (i := 17) (N := some 49) #[true, true, true, true, true, true, true, true, true, true, true, true, true, true, true, true, true, true, false, false, false] rfl rfl (one_of HT_.out (by kernel_rfl)) (by decide) (fun K hK => ?_)
              refine goes_ Try.func61 (by kernel_rfl) rfl #[.pointer (some ⟨g, 0, none⟩), .int .i64 ji17] (by rfl) rfl rfl (by (try simp only [List.map_toArray, List.map_cons, List.map_nil]); first | done | (simp only [hji17]; rfl) | rfl | (simp only [List.length_drop, List.length_take]; rfl)) ?_
              with_reducible refine (spec_l20Rd_pick.calls k g s0_0 t164 ji17 t166 t167 w0 _ ?side1 ?side2 A18.out).mono ?_
              (case side1 => repeat (first | (with_reducible first | exact HI0.out | apply IsS94.alloc | apply IsS94.drewN | apply IsS94.drew | apply IsS94.set_1 | refine IsS94.far ?_ NB0_142.out _ | refine IsS94.far ?_ NB0_151.out _) | exact HI0.out))
              (case side2 => repeat (first | (with_reducible first | exact HB.out | apply below_alloc | apply pw_below_drewN | apply below_drew1 | refine below_set ?_ (IsS94.ge HI0.out) | refine below_set ?_ GE142.out | refine below_set ?_ GE151.out) | exact HB.out))
              rintro e w49 ⟨rfl, hi, hb, hk⟩
              refine ⟨_, rfl, ?_⟩
              have n0_ := Aside0.mk (KeepBut.blk hk (g' := gb142) (o := .cells #[.int .i64 0, .int .i64 0, .int .i64 0] 56 (0, 0)) (by (with_reducible repeat (first | refine blk_drewN ?_ _ | refine blk_drew ?_ | refine blk_alloc ?_ _)); exact BK142.out) NB142_0.out (by simp))
              have n1_ := Aside0.mk (Kd.R_mono (Kd.R_keep (IsS94.apart (show IsS94 w0 _ g s0_0 t164 from by repeat (first | (with_reducible first | exact HI0.out | apply IsS94.alloc | apply IsS94.drewN | apply IsS94.drew | apply IsS94.set_1 | refine IsS94.far ?_ NB0_142.out _ | refine IsS94.far ?_ NB0_151.out _) | exact HI0.out)) (by (with_reducible repeat (first | apply Kd.R_alloc | apply Kd.R_drewN | apply Kd.R_drew)); exact HO147.out) (by decide)) hk (fun _ h => h.2)) (fun _ h => h.1))
              have n2_ := Aside0.mk (KeepBut.blk hk (g' := gb151) (o := .cells #[.int .i64 0, .int .i64 (rd y154 t157), .int .i64 (rd y145 t148)] 56 (0, 0)) (by (with_reducible repeat (first | refine blk_drewN ?_ _ | refine blk_drew ?_ | refine blk_alloc ?_ _)); exact BK151.out) NB151_0.out (by simp))
              have n3_ := Aside0.mk (Kd.R_mono (Kd.R_keep (IsS94.apart (show IsS94 w0 _ g s0_0 t164 from by repeat (first | (with_reducible first | exact HI0.out | apply IsS94.alloc | apply IsS94.drewN | apply IsS94.drew | apply IsS94.set_1 | refine IsS94.far ?_ NB0_142.out _ | refine IsS94.far ?_ NB0_151.out _) | exact HI0.out)) (by (with_reducible repeat (first | apply Kd.R_alloc | apply Kd.R_drewN | apply Kd.R_drew)); exact HO156.out) (by decide)) hk (fun _ h => h.2)) (fun _ h => h.1))
              have n4_ := Aside0.mk (Kd.R_mono (Kd.R_keep (IsS94.apart (show IsS94 w0 _ g s0_0 t164 from by repeat (first | (with_reducible first | exact HI0.out | apply IsS94.alloc | apply IsS94.drewN | apply IsS94.drew | apply IsS94.set_1 | refine IsS94.far ?_ NB0_142.out _ | refine IsS94.far ?_ NB0_151.out _) | exact HI0.out)) (by (with_reducible repeat (first | apply Kd.R_alloc | apply Kd.R_drewN | apply Kd.R_drew)); exact HO162.out) (by decide)) hk (fun _ h => h.2)) (fun _ h => h.1))
              have n5_ := Aside0.mk (KeepBut.trans (by repeat (first | (with_reducible first | exact HK.out | apply KeepBut.set_ | apply keep_drewN | apply keep_drew | apply keep_alloc | refine keep_far ?_ GW142.out _ | refine keep_far ?_ GW151.out _) | exact HK.out)) hk (.inl rfl))
              have n6_ := Aside0.mk (hb)
              have n7_ := Aside0.mk (hi)
              clear BK142
              clear HO147
              clear BK151
              clear HO156
              clear HO162
              clear HK
              clear HB
              clear HI0
              have BK142 := n0_
              have HO147 := n1_
              have BK151 := n2_
              have HO156 := n3_
              have HO162 := n4_
              have HK := n5_
              have HB := n6_
              have HI0 := n7_
              clear n0_ n1_ n2_ n3_ n4_ n5_ n6_ n7_
              (try clear hb)
              (try clear hb2)
              (try clear hk)
              (try clear hi)
              refine hK.out _ _ ⟨(blk_cell BK151.out 0).trans rfl, (blk_cell BK151.out 1).trans rfl, (blk_cell BK151.out 2).trans rfl⟩ (fun hHeld => ?_)
              clear hK K
              refine norm_ (a' := ?_) ?_ ?_
              rotate_left
              · show Act.put _ (some 49) _ = _
                simp only [Act.put, List.setIfInBounds_toArray, List.set_cons_zero, List.set_cons_succ, i64_w, i32_w]
                rfl
              refine pure_ (i := 18) (N := some 50) (v := ?_) (a' := ?_) #[true, true, true, true, true, true, true, true, true, true, true, true, true, true, true, true, true, true, true, false, false] rfl rfl (any_of HT_.out (by kernel_rfl)) (fun _ _ _ h => h) (Or.inl ⟨by rfl, ?_⟩) ?_ ?_
              rotate_left
              · intro w'
                go_simp
                with_reducible rfl
              rotate_left
              · simp only [Act.put, List.setIfInBounds_toArray, List.set_cons_zero, List.set_cons_succ, i64_w, i32_w]
                rfl
              refine pure_ (i := 19) (N := some 51) (v := ?_) (a' := ?_) #[true, true, true, true, true, true, true, true, true, true, true, true, true, true, true, true, true, true, true, true, false] rfl rfl (any_of HT_.out (by kernel_rfl)) (fun _ _ _ h => h) (Or.inl ⟨by rfl, ?_⟩) ?_ ?_
              rotate_left
              · intro w'
                go_simp
                with_reducible rfl
              rotate_left
              · simp only [Act.put, List.setIfInBounds_toArray, List.set_cons_zero, List.set_cons_succ, i64_w, i32_w]
                rfl
              refine last_ (i := 20) (N := none) #[true, true, true, true, true, true, true, true, true, true, true, true, true, true, true, true, true, true, true, true, true] rfl rfl (one_of HT_.out (by kernel_rfl)) (by decide) (fun K hK => ?_)
              have hs50 : w49.cell? ⟨gb151, 0, none⟩ = some (.int .i64 0) := (blk_cell BK151.out 0).trans rfl
              have hfs50 := blk_frozen BK151.out 0
              have hns50_0 := NB142_151.out
              have hms50_0 := NB151_142.out
              refine skip_ (w1 := ?_) (by rfl) rfl ?_ ?_
              rotate_left
              · go_simp
                rfl
              refine hK.out _ _ ?_
              clear hK K
              refine done_ (done_of HT_.out (by kernel_rfl)) ?_
              go_upto_if 54 with (first | ((with_reducible refine gate_callee (f := 103) rfl ?_); refine goesL_ (some 54) rfl rfl Try.func103 (by kernel_rfl) rfl #[.pointer (some ⟨g, 0, none⟩), .int .i64 a1] rfl (by (try simp only [List.map_toArray, List.map_cons, List.map_nil]); first | done | rfl | (simp only [List.length_drop, List.length_take]; rfl)) ?_; (with_reducible refine (spec_l20Rd_odd.calls k g s0_0 t167 a1 t168 t169 w0 _ ?side1 ?side2 A19.out).mono ?_); (case side1 => repeat (first | (with_reducible first | exact HI0.out | apply IsS94.alloc | apply IsS94.drewN | apply IsS94.drew | apply IsS94.set_1 | refine IsS94.far ?_ NB0_142.out _ | refine IsS94.far ?_ NB0_151.out _) | exact HI0.out)); (case side2 => repeat (first | (with_reducible first | exact HB.out | apply below_alloc | apply pw_below_drewN | apply below_drew1 | refine below_set ?_ (IsS94.ge HI0.out) | refine below_set ?_ GE142.out | refine below_set ?_ GE151.out) | exact HB.out)); rintro e w51 ⟨rfl, hi, hb, hk⟩; refine ⟨_, rfl, ?_⟩; have n0_ := Aside0.mk (KeepBut.blk hk (g' := gb142) (o := .cells #[.int .i64 0, .int .i64 0, .int .i64 0] 56 (0, 0)) (by (with_reducible repeat (first | refine blk_drewN ?_ _ | refine blk_drew ?_ | refine blk_alloc ?_ _)); refine blk_far ?_ NB142_151.out _; (with_reducible repeat (first | refine blk_drewN ?_ _ | refine blk_drew ?_ | refine blk_alloc ?_ _)); exact BK142.out) NB142_0.out (by simp)); have n1_ := Aside0.mk (Kd.R_mono (Kd.R_keep (IsS94.apart (show IsS94 w0 _ g s0_0 t167 from by repeat (first | (with_reducible first | exact HI0.out | apply IsS94.alloc | apply IsS94.drewN | apply IsS94.drew | apply IsS94.set_1 | refine IsS94.far ?_ NB0_142.out _ | refine IsS94.far ?_ NB0_151.out _) | exact HI0.out)) (by (with_reducible repeat (first | apply Kd.R_alloc | apply Kd.R_drewN | apply Kd.R_drew)); exact (Kd.R_mono (Kd.R_far (p := ⟨gb151, 0, none⟩) (Kd.R_types HO147.out BK151.out (by decide)) (fun _ hk => hk.2) (.int .i64 (wrap64 (1 + t166)))) (fun _ h_ => h_.1))) (by decide)) hk (fun _ h => h.2)) (fun _ h => h.1)); have n2_ := Aside0.mk (KeepBut.blk hk (g' := gb151) (o := .cells #[.int .i64 (wrap64 (1 + t166)), .int .i64 (rd y154 t157), .int .i64 (rd y145 t148)] 56 (0, 0)) (by (with_reducible repeat (first | refine blk_drewN ?_ _ | refine blk_drew ?_ | refine blk_alloc ?_ _)); refine blk_put (cs := #[.int .i64 0, .int .i64 (rd y154 t157), .int .i64 (rd y145 t148)]) ?_ 0 _ rfl; (with_reducible repeat (first | refine blk_drewN ?_ _ | refine blk_drew ?_ | refine blk_alloc ?_ _)); exact BK151.out) NB151_0.out (by simp)); have n3_ := Aside0.mk (Kd.R_mono (Kd.R_keep (IsS94.apart (show IsS94 w0 _ g s0_0 t167 from by repeat (first | (with_reducible first | exact HI0.out | apply IsS94.alloc | apply IsS94.drewN | apply IsS94.drew | apply IsS94.set_1 | refine IsS94.far ?_ NB0_142.out _ | refine IsS94.far ?_ NB0_151.out _) | exact HI0.out)) (by (with_reducible repeat (first | apply Kd.R_alloc | apply Kd.R_drewN | apply Kd.R_drew)); exact (Kd.R_mono (Kd.R_far (p := ⟨gb151, 0, none⟩) (Kd.R_types HO156.out BK151.out (by decide)) (fun _ hk => hk.2) (.int .i64 (wrap64 (1 + t166)))) (fun _ h_ => h_.1))) (by decide)) hk (fun _ h => h.2)) (fun _ h => h.1)); have n4_ := Aside0.mk (Kd.R_mono (Kd.R_keep (IsS94.apart (show IsS94 w0 _ g s0_0 t167 from by repeat (first | (with_reducible first | exact HI0.out | apply IsS94.alloc | apply IsS94.drewN | apply IsS94.drew | apply IsS94.set_1 | refine IsS94.far ?_ NB0_142.out _ | refine IsS94.far ?_ NB0_151.out _) | exact HI0.out)) (by (with_reducible repeat (first | apply Kd.R_alloc | apply Kd.R_drewN | apply Kd.R_drew)); exact (Kd.R_mono (Kd.R_far (p := ⟨gb151, 0, none⟩) (Kd.R_types HO162.out BK151.out (by decide)) (fun _ hk => hk.2) (.int .i64 (wrap64 (1 + t166)))) (fun _ h_ => h_.1))) (by decide)) hk (fun _ h => h.2)) (fun _ h => h.1)); have n5_ := Aside0.mk (KeepBut.trans (by repeat (first | (with_reducible first | exact HK.out | apply KeepBut.set_ | apply keep_drewN | apply keep_drew | apply keep_alloc | refine keep_far ?_ GW142.out _ | refine keep_far ?_ GW151.out _) | exact HK.out)) hk (.inl rfl)); have n6_ := Aside0.mk (hb); have n7_ := Aside0.mk (hi); clear BK142; clear HO147; clear BK151; clear HO156; clear HO162; clear HK; clear HB; clear HI0; have BK142 := n0_; have HO147 := n1_; have BK151 := n2_; have HO156 := n3_; have HO162 := n4_; have HK := n5_; have HB := n6_; have HI0 := n7_; clear n0_ n1_ n2_ n3_ n4_ n5_ n6_ n7_; (try clear hb); (try clear hb2); (try clear hk); (try clear hi)))
              (try simp only [Act.put, List.setIfInBounds_toArray, List.set_cons_zero, List.set_cons_succ])
              go_cut [] (fun wc => ∃ (kq : Nat) (x1001_19 : Int) (x152000_19 : Int) (x152001_19 : Int) (x152002_19 : Int), Aside0 (spec_l20Task.j0 kq s0_0 x1001_19 x152000_19 x152001_19 x152002_19 = some (r1, r2, r3, r4)) ∧ Aside0 (kq ≤ k) ∧ Aside0 (wc.heap[gb142]? = some (.cells #[.int .i64 0, .int .i64 0, .int .i64 0] 56 (0, 0))) ∧ Aside0 (wc.heap[gb151]? = some (.cells #[.int .i64 x152000_19, .int .i64 x152001_19, .int .i64 x152002_19] 56 (0, 0))) ∧ Aside0 (IsS94 w0 wc g s0_0 x1001_19) ∧ Aside0 (KeepBut w wc g none) ∧ Aside0 (Below w0.heap.size w0 wc))
              case first =>
                have H := HC20.out
                clear HC20
                by_cases c52 : t168 = true
                · subst c52
                  have H1 : ((spec_l20Rd_pick.f k s0_0 t169 3).bind fun bt170 => (if bt170.1 = 0 then ((some (([0, (-1), 9, wrap64 ((rd y154 t157) + 1)] : List Int) : List Int)).bind fun y172 => ((spec_l20Rd_pick.f k s0_0 bt170.2 4).bind fun bt175 => (if 0 ≤ bt175.1 then (if bt175.1 < (y172.length : Int) then (spec_l20Task.j0 k s0_0 bt175.2 (rd y172 bt175.1) (rd y154 t157) (rd y145 t148)) else (none)) else (none)))) else (if bt170.1 = 1 then ((some (([0, wrap64 ((rd y145 t148) + 1), (-1)] : List Int) : List Int)).bind fun y178 => ((spec_l20Rd_pick.f k s0_0 bt170.2 3).bind fun bt181 => (if 0 ≤ bt181.1 then (if bt181.1 < (y178.length : Int) then (spec_l20Task.j0 k s0_0 bt181.2 (wrap64 (1 + t166)) (rd y178 bt181.1) (rd y145 t148)) else (none)) else (none)))) else ((some (([0, 13, (-1)] : List Int) : List Int)).bind fun y184 => ((spec_l20Rd_pick.f k s0_0 bt170.2 3).bind fun bt187 => (if 0 ≤ bt187.1 then (if bt187.1 < (y184.length : Int) then (spec_l20Task.j0 k s0_0 bt187.2 (wrap64 (1 + t166)) (rd y154 t157) (rd y184 bt187.1)) else (none)) else (none))))))) = some (r1, r2, r3, r4) := by rw [if_pos rfl] at H; exact H
                  clear H
                  have H := H1
                  clear H1
                  replace H := Option.bind_eq_some_iff.mp H
                  obtain ⟨⟨t170, t171⟩, A530, H⟩ := H
                  replace H : (if t170 = 0 then ((some (([0, (-1), 9, wrap64 ((rd y154 t157) + 1)] : List Int) : List Int)).bind fun y172 => ((spec_l20Rd_pick.f k s0_0 t171 4).bind fun bt175 => (if 0 ≤ bt175.1 then (if bt175.1 < (y172.length : Int) then (spec_l20Task.j0 k s0_0 bt175.2 (rd y172 bt175.1) (rd y154 t157) (rd y145 t148)) else (none)) else (none)))) else (if t170 = 1 then ((some (([0, wrap64 ((rd y145 t148) + 1), (-1)] : List Int) : List Int)).bind fun y178 => ((spec_l20Rd_pick.f k s0_0 t171 3).bind fun bt181 => (if 0 ≤ bt181.1 then (if bt181.1 < (y178.length : Int) then (spec_l20Task.j0 k s0_0 bt181.2 (wrap64 (1 + t166)) (rd y178 bt181.1) (rd y145 t148)) else (none)) else (none)))) else ((some (([0, 13, (-1)] : List Int) : List Int)).bind fun y184 => ((spec_l20Rd_pick.f k s0_0 t171 3).bind fun bt187 => (if 0 ≤ bt187.1 then (if bt187.1 < (y184.length : Int) then (spec_l20Task.j0 k s0_0 bt187.2 (wrap64 (1 + t166)) (rd y154 t157) (rd y184 bt187.1)) else (none)) else (none)))))) = some (r1, r2, r3, r4) := H
                  have A53 := Aside0.mk A530
                  clear A530
                  by_cases c54 : t170 = 0
                  · rw [if_pos c54] at H
                    have c54b0 : (t170 == 0) = true := beq_iff_eq.mpr c54
                    have c54b1 : (t170 != 0) = false := bne_eq_false_iff_eq.mpr c54
                    clear c54
                    (first | rw [c54b0] | (simp only [i64_w, i32_w]; rw [c54b0]) | skip)
                    obtain ⟨y172, hy172⟩ : ∃ y_ : List Int, y_ = (([0, (-1), 9, wrap64 ((rd y154 t157) + 1)] : List Int)) := ⟨_, rfl⟩
                    replace H : ((spec_l20Rd_pick.f k s0_0 t171 4).bind fun bt175 => (if 0 ≤ bt175.1 then (if bt175.1 < (y172.length : Int) then (spec_l20Task.j0 k s0_0 bt175.2 (rd y172 bt175.1) (rd y154 t157) (rd y145 t148)) else (none)) else (none))) = some (r1, r2, r3, r4) := by first | (rw [hy172]; with_reducible exact H) | (have H2_ := (Option.bind_some _ _).symm.trans H; rw [hy172]; with_reducible exact H2_) | (have H2_ := (Option.bind_some _ _).symm.trans H; with_reducible exact H2_) | with_reducible exact H | (rw [hy172]; exact H) | exact H
                    have Ny172 := Aside0.mk hy172
                    clear hy172
                    replace H := Option.bind_eq_some_iff.mp H
                    obtain ⟨⟨t175, t176⟩, A550, H⟩ := H
                    replace H : (if 0 ≤ t175 then (if t175 < (y172.length : Int) then (spec_l20Task.j0 k s0_0 t176 (rd y172 t175) (rd y154 t157) (rd y145 t148)) else (none)) else (none)) = some (r1, r2, r3, r4) := H
                    have A55 := Aside0.mk A550
                    clear A550
                    by_cases c56 : 0 ≤ t175
                    · rw [if_pos c56] at H
                      have c56b0 : decide (0 ≤ t175) = true := decide_eq_true c56
                      clear c56
                      by_cases c57 : t175 < (y172.length : Int)
                      · rw [if_pos c57] at H
                        have c57b0 : decide (t175 < (y172.length : Int)) = true := decide_eq_true c57
                        clear c57
                        have H' := Aside0.mk H
                        clear H
                        try go_wp2_with (first | ((with_reducible refine gate_callee (f := 61) rfl ?_); refine goesL_ (some 56) rfl rfl Try.func61 (by kernel_rfl) rfl #[.pointer (some ⟨g, 0, none⟩), .int .i64 3] rfl (by (try simp only [List.map_toArray, List.map_cons, List.map_nil]); first | done | rfl | (simp only [List.length_drop, List.length_take]; rfl)) ?_; (with_reducible refine (spec_l20Rd_pick.calls k g s0_0 t169 3 t170 t171 w0 _ ?side1 ?side2 A53.out).mono ?_); (case side1 => repeat (first | (with_reducible first | exact HI0.out | apply IsS94.alloc | apply IsS94.drewN | apply IsS94.drew | apply IsS94.set_1 | refine IsS94.far ?_ NB0_142.out _ | refine IsS94.far ?_ NB0_151.out _) | exact HI0.out)); (case side2 => repeat (first | (with_reducible first | exact HB.out | apply below_alloc | apply pw_below_drewN | apply below_drew1 | refine below_set ?_ (IsS94.ge HI0.out) | refine below_set ?_ GE142.out | refine below_set ?_ GE151.out) | exact HB.out)); rintro e w58 ⟨rfl, hi, hb, hk⟩; refine ⟨_, rfl, ?_⟩; have n0_ := Aside0.mk (KeepBut.blk hk (g' := gb142) (o := .cells #[.int .i64 0, .int .i64 0, .int .i64 0] 56 (0, 0)) (by (with_reducible repeat (first | refine blk_drewN ?_ _ | refine blk_drew ?_ | refine blk_alloc ?_ _)); exact BK142.out) NB142_0.out (by simp)); have n1_ := Aside0.mk (Kd.R_mono (Kd.R_keep (IsS94.apart (show IsS94 w0 _ g s0_0 t169 from by repeat (first | (with_reducible first | exact HI0.out | apply IsS94.alloc | apply IsS94.drewN | apply IsS94.drew | apply IsS94.set_1 | refine IsS94.far ?_ NB0_142.out _ | refine IsS94.far ?_ NB0_151.out _) | exact HI0.out)) (by (with_reducible repeat (first | apply Kd.R_alloc | apply Kd.R_drewN | apply Kd.R_drew)); exact HO147.out) (by decide)) hk (fun _ h => h.2)) (fun _ h => h.1)); have n2_ := Aside0.mk (KeepBut.blk hk (g' := gb151) (o := .cells #[.int .i64 (wrap64 (1 + t166)), .int .i64 (rd y154 t157), .int .i64 (rd y145 t148)] 56 (0, 0)) (by (with_reducible repeat (first | refine blk_drewN ?_ _ | refine blk_drew ?_ | refine blk_alloc ?_ _)); exact BK151.out) NB151_0.out (by simp)); have n3_ := Aside0.mk (Kd.R_mono (Kd.R_keep (IsS94.apart (show IsS94 w0 _ g s0_0 t169 from by repeat (first | (with_reducible first | exact HI0.out | apply IsS94.alloc | apply IsS94.drewN | apply IsS94.drew | apply IsS94.set_1 | refine IsS94.far ?_ NB0_142.out _ | refine IsS94.far ?_ NB0_151.out _) | exact HI0.out)) (by (with_reducible repeat (first | apply Kd.R_alloc | apply Kd.R_drewN | apply Kd.R_drew)); exact HO156.out) (by decide)) hk (fun _ h => h.2)) (fun _ h => h.1)); have n4_ := Aside0.mk (Kd.R_mono (Kd.R_keep (IsS94.apart (show IsS94 w0 _ g s0_0 t169 from by repeat (first | (with_reducible first | exact HI0.out | apply IsS94.alloc | apply IsS94.drewN | apply IsS94.drew | apply IsS94.set_1 | refine IsS94.far ?_ NB0_142.out _ | refine IsS94.far ?_ NB0_151.out _) | exact HI0.out)) (by (with_reducible repeat (first | apply Kd.R_alloc | apply Kd.R_drewN | apply Kd.R_drew)); exact HO162.out) (by decide)) hk (fun _ h => h.2)) (fun _ h => h.1)); have n5_ := Aside0.mk (KeepBut.trans (by repeat (first | (with_reducible first | exact HK.out | apply KeepBut.set_ | apply keep_drewN | apply keep_drew | apply keep_alloc | refine keep_far ?_ GW142.out _ | refine keep_far ?_ GW151.out _) | exact HK.out)) hk (.inl rfl)); have n6_ := Aside0.mk (hb); have n7_ := Aside0.mk (hi); clear BK142; clear HO147; clear BK151; clear HO156; clear HO162; clear HK; clear HB; clear HI0; have BK142 := n0_; have HO147 := n1_; have BK151 := n2_; have HO156 := n3_; have HO162 := n4_; have HK := n5_; have HB := n6_; have HI0 := n7_; clear n0_ n1_ n2_ n3_ n4_ n5_ n6_ n7_; (try clear hb); (try clear hb2); (try clear hk); (try clear hi)))
                        have pi177 : (0 ≤ (t175 : Int)) = True := eq_true (of_decide_eq_true (by first | (with_reducible assumption) | assumption))
                        have qi177 : (t175 < (y172.length : Int)) = True := eq_true (of_decide_eq_true (by first | (with_reducible assumption) | assumption))
                        have n0_ := Aside0.mk (Kd.R_drew HO147.out)
                        have n1_ := Aside0.mk (Kd.R_drew HO156.out)
                        have n2_ := Aside0.mk (Kd.R_drew HO162.out)
                        have n3_ := Aside0.mk (blk_drew BK142.out)
                        have n4_ := Aside0.mk (blk_drew BK151.out)
                        have n5_ := Aside0.mk (IsS94.drew HI0.out)
                        have n6_ := Aside0.mk (keep_drew HK.out)
                        have n7_ := Aside0.mk (below_drew1 HB.out)
                        clear HO147
                        clear HO156
                        clear HO162
                        clear BK142
                        clear BK151
                        clear HI0
                        clear HK
                        clear HB
                        have HO147 := n0_
                        have HO156 := n1_
                        have HO162 := n2_
                        have BK142 := n3_
                        have BK151 := n4_
                        have HI0 := n5_
                        have HK := n6_
                        have HB := n7_
                        clear n0_ n1_ n2_ n3_ n4_ n5_ n6_ n7_
                        refine start_ (n := 10) (S := fun w' => w'.cell? ⟨gb151, 0, none⟩ = some (.int .i64 (wrap64 (1 + t166))) ∧ w'.cell? ⟨gb151, 1, none⟩ = some (.int .i64 (rd y154 t157)) ∧ w'.cell? ⟨gb151, 2, none⟩ = some (.int .i64 (rd y145 t148))) (ds := [9]) #[false, false, false, false, false, false, false, false, false, false] (by kernel_rfl) rfl rfl ⟨(blk_cell BK151.out 0).trans rfl, (blk_cell BK151.out 1).trans rfl, (blk_cell BK151.out 2).trans rfl⟩ (fun hHeld => ?_); refine with_tabW spec_l20Task.tab8 spec_l20Task.bits8 (fun HT_ HW_ => ?_)
                        generalize w58.drew = w59 at HO147 HO156 HO162 BK142 BK151 HI0 HK HB hHeld ⊢
                        refine pure_ (i := 0) (N := some 65) (v := ?_) (a' := ?_) #[true, false, false, false, false, false, false, false, false, false] rfl rfl (any_of HT_.out (by kernel_rfl)) (fun _ _ _ h => h) (Or.inl ⟨by rfl, ?_⟩) ?_ ?_
                        rotate_left
                        · intro w'
                          go_simp
                          with_reducible rfl
                        rotate_left
                        · simp only [Act.put, List.setIfInBounds_toArray, List.set_cons_zero, List.set_cons_succ, i64_w, i32_w]
                          rfl
                        refine pure_ (i := 4) (N := some 69) (v := ?_) (a' := ?_) #[true, false, false, false, true, false, false, false, false, false] rfl rfl (any_of HT_.out (by kernel_rfl)) (fun _ _ _ h => h) (Or.inl ⟨by rfl, ?_⟩) ?_ ?_
                        rotate_left
                        · intro w'
                          go_simp
                          with_reducible rfl
                        rotate_left
                        · simp only [Act.put, List.setIfInBounds_toArray, List.set_cons_zero, List.set_cons_succ, i64_w, i32_w]
                          rfl
                        refine take_ (i := 1) (N := some 66) (v := ?_) (a' := ?_) #[true, true, false, false, true, false, false, false, false, false] rfl rfl (take_ofW HT_.out HW_.out (by kernel_rfl)) (fun _ _ _ h => h) (Or.inl ⟨by rfl, ?_⟩) hHeld ?_ ?_
                        rotate_left
                        · rintro w' ⟨s0, s1, s2⟩
                          go_simp
                          with_reducible rfl
                        rotate_left
                        · simp only [Act.put, List.setIfInBounds_toArray, List.set_cons_zero, List.set_cons_succ, i64_w, i32_w]
                          rfl
                        refine pure_ (i := 2) (N := some 67) (v := ?_) (a' := ?_) #[true, true, true, false, true, false, false, false, false, false] rfl rfl (any_of HT_.out (by kernel_rfl)) (fun _ _ _ h => h) (Or.inl ⟨by rfl, ?_⟩) ?_ ?_
                        rotate_left
                        · intro w'
                          go_simp
                          with_reducible rfl
                        rotate_left
                        · simp only [Act.put, List.setIfInBounds_toArray, List.set_cons_zero, List.set_cons_succ, i64_w, i32_w]
                          rfl
                        refine join_ (σ := Value × Addr) 4 #[true, true, true, true, true, true, false, false, false, false] (fun s_ => [(68, s_.1), (70, .int .i64 t175)]) (fun s_ w' => (w'.cell? ⟨gb151, 0, none⟩ = some (.int .i64 (wrap64 (1 + t166))) ∧ w'.cell? ⟨gb151, 1, none⟩ = some (.int .i64 (rd y154 t157)) ∧ w'.cell? ⟨gb151, 2, none⟩ = some (.int .i64 (rd y145 t148))) ∧ (Kd.R (Kd.int .i64) 3 w' w.heap.size (fun k_ => some k_ ≠ (.slice (some adz_v155) y154.length co39 : Value).ownBlock ∧ some k_ ≠ (.slice (some adz_v161) y160.length co48 : Value).ownBlock ∧ some k_ ≠ (s_.1 : Value).ownBlock) (.slice (some ad150) y145.length co26) y145) ∧ (Kd.R (Kd.int .i64) 3 w' w.heap.size (fun k_ => some k_ ≠ (.slice (some ad150) y145.length co26 : Value).ownBlock ∧ some k_ ≠ (.slice (some adz_v161) y160.length co48 : Value).ownBlock ∧ some k_ ≠ (s_.1 : Value).ownBlock) (.slice (some adz_v155) y154.length co39) y154) ∧ (Kd.R (Kd.int .i64) 3 w' w.heap.size (fun k_ => some k_ ≠ (.slice (some ad150) y145.length co26 : Value).ownBlock ∧ some k_ ≠ (.slice (some adz_v155) y154.length co39 : Value).ownBlock ∧ some k_ ≠ (s_.1 : Value).ownBlock) (.slice (some adz_v161) y160.length co48) y160) ∧ (Kd.R (Kd.int .i64) 3 w' w.heap.size (fun k_ => some k_ ≠ (.slice (some ad150) y145.length co26 : Value).ownBlock ∧ some k_ ≠ (.slice (some adz_v155) y154.length co39 : Value).ownBlock ∧ some k_ ≠ (.slice (some adz_v161) y160.length co48 : Value).ownBlock) s_.1 y172) ∧ (∃ c_, (s_.1 : Value) = .slice (some s_.2) y172.length c_) ∧ (w'.heap[gb142]? = some (.cells #[.int .i64 0, .int .i64 0, .int .i64 0] 56 (0, 0))) ∧ (w'.heap[gb151]? = some (.cells #[.int .i64 (wrap64 (1 + t166)), .int .i64 (rd y154 t157), .int .i64 (rd y145 t148)] 56 (0, 0))) ∧ (IsS94 w0 w' g s0_0 t176) ∧ (KeepBut w w' g none) ∧ (Below w0.heap.size w0 w')) ?_ ?_
                        rotate_left
                        · intro hCont
                          refine two_ (i := 3) (j := 5) (Ni := some 68) (Nj := some 70) #[true, true, true, true, true, false, false, false, false, false] #[true, true, true, false, true, true, false, false, false, false] rfl rfl rfl rfl (two_of HT_.out (by kernel_rfl)) (by decide) (by decide) (fun K hK => ?_) (fun K hK => ?_)
                          · skip
                            refine Kd.R_lit_step (Kd.int .i64) _ 3 ?hg (N := 68) ?hd (xs := ([0, (-1), 9, wrap64 ((rd y154 t157) + 1)] : List Int)) (inner := [.int .i64 0, .int .i64 (-1), .int .i64 9, .int .i64 (wrap64 ((rd y154 t157) + 1))]) (ok := fun _ => True) (okp := fun _ => True) ?hr ?hp (fun _ hk => hk) trivial (Below.refl _ _) (Nat.le_refl _) (by simp) ?_; (case hd => rfl); (case hg => rfl); (case hr => first | (go_simp; done) | (go_simp; rfl)); (case hp => exact (Reps.one (show Kd.M (Kd.int .i64) _ _ _ 0 [.int .i64 0] from rfl) (Reps.one (show Kd.M (Kd.int .i64) _ _ _ (-1) [.int .i64 (-1)] from rfl) (Reps.one (show Kd.M (Kd.int .i64) _ _ _ 9 [.int .i64 9] from rfl) (Reps.one (show Kd.M (Kd.int .i64) _ _ _ (wrap64 ((rd y154 t157) + 1)) [.int .i64 (wrap64 ((rd y154 t157) + 1))] from rfl) (Reps.none _ _))))))
                            intro v173 w60 ho61 hb hg_ hnew_
                            clear hg_ hnew_
                            (first | rw [← Ny172.out] at ho61 | (simp only [Int.reduceToNat] at ho61; rw [← Ny172.out] at ho61))
                            have n0_ := Aside0.mk (Kd.R_elder' (by (with_reducible repeat (first | apply Kd.R_alloc | apply Kd.R_drewN | apply Kd.R_drew)); exact HO147.out) (Kd.R_base ho61) hb)
                            have n1_ := Aside0.mk (Kd.R_elder' (by (with_reducible repeat (first | apply Kd.R_alloc | apply Kd.R_drewN | apply Kd.R_drew)); exact HO156.out) (Kd.R_base ho61) hb)
                            have n2_ := Aside0.mk (Kd.R_elder' (by (with_reducible repeat (first | apply Kd.R_alloc | apply Kd.R_drewN | apply Kd.R_drew)); exact HO162.out) (Kd.R_base ho61) hb)
                            have n3_ := Aside0.mk (Kd.R_lower (Kd.R_new' (Kd.R_new' (Kd.R_new' ho61 (Kd.R_lt (by (with_reducible repeat (first | apply Kd.R_alloc | apply Kd.R_drewN | apply Kd.R_drew)); exact HO147.out))) (Kd.R_lt (by (with_reducible repeat (first | apply Kd.R_alloc | apply Kd.R_drewN | apply Kd.R_drew)); exact HO156.out))) (Kd.R_lt (by (with_reducible repeat (first | apply Kd.R_alloc | apply Kd.R_drewN | apply Kd.R_drew)); exact HO162.out))) (keep_size (w := w) (g := g) (row := none) (by repeat (first | (with_reducible first | exact HK.out | apply KeepBut.set_ | apply keep_drewN | apply keep_drew | apply keep_alloc | refine keep_far ?_ GW142.out _ | refine keep_far ?_ GW151.out _) | exact HK.out))))
                            have n4_ := Aside0.mk (IsS94.below (by repeat (first | (with_reducible first | exact HI0.out | apply IsS94.alloc | apply IsS94.drewN | apply IsS94.drew | apply IsS94.set_1 | refine IsS94.far ?_ NB0_142.out _ | refine IsS94.far ?_ NB0_151.out _) | exact HI0.out)) hb)
                            have n5_ := Aside0.mk (blk_below (g := gb142) (o := .cells #[.int .i64 0, .int .i64 0, .int .i64 0] 56 (0, 0)) (by (with_reducible repeat (first | refine blk_drewN ?_ _ | refine blk_drew ?_ | refine blk_alloc ?_ _)); exact BK142.out) hb)
                            have n6_ := Aside0.mk (blk_below (g := gb151) (o := .cells #[.int .i64 (wrap64 (1 + t166)), .int .i64 (rd y154 t157), .int .i64 (rd y145 t148)] 56 (0, 0)) (by (with_reducible repeat (first | refine blk_drewN ?_ _ | refine blk_drew ?_ | refine blk_alloc ?_ _)); exact BK151.out) hb)
                            have n7_ := Aside0.mk (KeepBut.trans (by repeat (first | (with_reducible first | exact HK.out | apply KeepBut.set_ | apply keep_drewN | apply keep_drew | apply keep_alloc | refine keep_far ?_ GW142.out _ | refine keep_far ?_ GW151.out _) | exact HK.out)) (KeepBut.of_below hb g none) (.inl rfl))
                            have n8_ := Aside0.mk (below_step (by repeat (first | (with_reducible first | exact HB.out | apply below_alloc | apply pw_below_drewN | apply below_drew1 | refine below_set ?_ (IsS94.ge HI0.out) | refine below_set ?_ GE142.out | refine below_set ?_ GE151.out) | exact HB.out)) hb)
                            clear HO147
                            clear HO156
                            clear HO162
                            clear HI0
                            clear BK142
                            clear BK151
                            clear HK
                            clear HB
                            have HO147 := n0_
                            have HO156 := n1_
                            have HO162 := n2_
                            have HO174 := n3_
                            have HI0 := n4_
                            have BK142 := n5_
                            have BK151 := n6_
                            have HK := n7_
                            have HB := n8_
                            clear n0_ n1_ n2_ n3_ n4_ n5_ n6_ n7_ n8_
                            clear hb ho61
                            obtain ⟨Ao62, co62, eo62⟩ := Kd.R_slice HO174.out
                            subst eo62
                            obtain ⟨ado62, fo62, _⟩ := Kd.at_int (Kd.R_reads' HO174.out).2.2 0 (by decide) (by rw [Ny172.out]; simp)
                            cases fo62
                            refine hK.out _ _ ⟨(blk_cell BK151.out 0).trans rfl, (blk_cell BK151.out 1).trans rfl, (blk_cell BK151.out 2).trans rfl⟩ (fun hHeld => ?_)
                            clear hK K
                            refine norm_ (a' := ?_) ?_ ?_
                            rotate_left
                            · show Act.put _ (some 68) _ = _
                              simp only [Act.put, List.setIfInBounds_toArray, List.set_cons_zero, List.set_cons_succ, i64_w, i32_w]
                              rfl
                            refine one_ (i := 5) (N := some 70) #[true, true, true, true, true, true, false, false, false, false] rfl rfl (one_of HT_.out (by kernel_rfl)) (by decide) (fun K hK => ?_)
                            refine goes_ Try.func61 (by kernel_rfl) rfl #[.pointer (some ⟨g, 0, none⟩), .int .i64 4] (by rfl) rfl rfl (by (try simp only [List.map_toArray, List.map_cons, List.map_nil]); first | done | rfl | (simp only [List.length_drop, List.length_take]; rfl)) ?_
                            with_reducible refine (spec_l20Rd_pick.calls k g s0_0 t171 4 t175 t176 w0 _ ?side1 ?side2 A55.out).mono ?_
                            (case side1 => repeat (first | (with_reducible first | exact HI0.out | apply IsS94.alloc | apply IsS94.drewN | apply IsS94.drew | apply IsS94.set_1 | refine IsS94.far ?_ NB0_142.out _ | refine IsS94.far ?_ NB0_151.out _) | exact HI0.out))
                            (case side2 => repeat (first | (with_reducible first | exact HB.out | apply below_alloc | apply pw_below_drewN | apply below_drew1 | refine below_set ?_ (IsS94.ge HI0.out) | refine below_set ?_ GE142.out | refine below_set ?_ GE151.out) | exact HB.out))
                            rintro e w63 ⟨rfl, hi, hb, hk⟩
                            refine ⟨_, rfl, ?_⟩
                            have n0_ := Aside0.mk (KeepBut.blk hk (g' := gb142) (o := .cells #[.int .i64 0, .int .i64 0, .int .i64 0] 56 (0, 0)) (by (with_reducible repeat (first | refine blk_drewN ?_ _ | refine blk_drew ?_ | refine blk_alloc ?_ _)); exact BK142.out) NB142_0.out (by simp))
                            have n1_ := Aside0.mk (Kd.R_mono (Kd.R_keep (IsS94.apart (show IsS94 w0 _ g s0_0 t171 from by repeat (first | (with_reducible first | exact HI0.out | apply IsS94.alloc | apply IsS94.drewN | apply IsS94.drew | apply IsS94.set_1 | refine IsS94.far ?_ NB0_142.out _ | refine IsS94.far ?_ NB0_151.out _) | exact HI0.out)) (by (with_reducible repeat (first | apply Kd.R_alloc | apply Kd.R_drewN | apply Kd.R_drew)); exact HO147.out) (by decide)) hk (fun _ h => h.2)) (fun _ h => h.1))
                            have n2_ := Aside0.mk (KeepBut.blk hk (g' := gb151) (o := .cells #[.int .i64 (wrap64 (1 + t166)), .int .i64 (rd y154 t157), .int .i64 (rd y145 t148)] 56 (0, 0)) (by (with_reducible repeat (first | refine blk_drewN ?_ _ | refine blk_drew ?_ | refine blk_alloc ?_ _)); exact BK151.out) NB151_0.out (by simp))
                            have n3_ := Aside0.mk (Kd.R_mono (Kd.R_keep (IsS94.apart (show IsS94 w0 _ g s0_0 t171 from by repeat (first | (with_reducible first | exact HI0.out | apply IsS94.alloc | apply IsS94.drewN | apply IsS94.drew | apply IsS94.set_1 | refine IsS94.far ?_ NB0_142.out _ | refine IsS94.far ?_ NB0_151.out _) | exact HI0.out)) (by (with_reducible repeat (first | apply Kd.R_alloc | apply Kd.R_drewN | apply Kd.R_drew)); exact HO156.out) (by decide)) hk (fun _ h => h.2)) (fun _ h => h.1))
                            have n4_ := Aside0.mk (Kd.R_mono (Kd.R_keep (IsS94.apart (show IsS94 w0 _ g s0_0 t171 from by repeat (first | (with_reducible first | exact HI0.out | apply IsS94.alloc | apply IsS94.drewN | apply IsS94.drew | apply IsS94.set_1 | refine IsS94.far ?_ NB0_142.out _ | refine IsS94.far ?_ NB0_151.out _) | exact HI0.out)) (by (with_reducible repeat (first | apply Kd.R_alloc | apply Kd.R_drewN | apply Kd.R_drew)); exact HO162.out) (by decide)) hk (fun _ h => h.2)) (fun _ h => h.1))
                            have n5_ := Aside0.mk (Kd.R_mono (Kd.R_keep (IsS94.apart (show IsS94 w0 _ g s0_0 t171 from by repeat (first | (with_reducible first | exact HI0.out | apply IsS94.alloc | apply IsS94.drewN | apply IsS94.drew | apply IsS94.set_1 | refine IsS94.far ?_ NB0_142.out _ | refine IsS94.far ?_ NB0_151.out _) | exact HI0.out)) (by (with_reducible repeat (first | apply Kd.R_alloc | apply Kd.R_drewN | apply Kd.R_drew)); exact HO174.out) (by decide)) hk (fun _ h => h.2)) (fun _ h => h.1))
                            have n6_ := Aside0.mk (KeepBut.trans (by repeat (first | (with_reducible first | exact HK.out | apply KeepBut.set_ | apply keep_drewN | apply keep_drew | apply keep_alloc | refine keep_far ?_ GW142.out _ | refine keep_far ?_ GW151.out _) | exact HK.out)) hk (.inl rfl))
                            have n7_ := Aside0.mk (hb)
                            have n8_ := Aside0.mk (hi)
                            clear BK142
                            clear HO147
                            clear BK151
                            clear HO156
                            clear HO162
                            clear HO174
                            clear HK
                            clear HB
                            clear HI0
                            have BK142 := n0_
                            have HO147 := n1_
                            have BK151 := n2_
                            have HO156 := n3_
                            have HO162 := n4_
                            have HO174 := n5_
                            have HK := n6_
                            have HB := n7_
                            have HI0 := n8_
                            clear n0_ n1_ n2_ n3_ n4_ n5_ n6_ n7_ n8_
                            (try clear hb)
                            (try clear hb2)
                            (try clear hk)
                            (try clear hi)
                            refine hK.out _ _ ⟨(blk_cell BK151.out 0).trans rfl, (blk_cell BK151.out 1).trans rfl, (blk_cell BK151.out 2).trans rfl⟩ (fun hHeld => ?_)
                            clear hK K
                            refine norm_ (a' := ?_) ?_ ?_
                            rotate_left
                            · show Act.put _ (some 70) _ = _
                              simp only [Act.put, List.setIfInBounds_toArray, List.set_cons_zero, List.set_cons_succ, i64_w, i32_w]
                              rfl
                            exact norm_ (by simp only [putAll, Act.put, List.setIfInBounds_toArray, List.set_cons_zero, List.set_cons_succ]) (hCont (.slice (some ado62) y172.length co62, ado62) _ ⟨hHeld, (by (with_reducible repeat (first | apply Kd.R_alloc | apply Kd.R_drewN | apply Kd.R_drew)); exact Kd.R_mono HO147.out (fun _ hk => ⟨hk.1.1, ⟨hk.1.2, hk.2⟩⟩)), (by (with_reducible repeat (first | apply Kd.R_alloc | apply Kd.R_drewN | apply Kd.R_drew)); exact Kd.R_mono HO156.out (fun _ hk => ⟨hk.1.1, ⟨hk.1.2, hk.2⟩⟩)), (by (with_reducible repeat (first | apply Kd.R_alloc | apply Kd.R_drewN | apply Kd.R_drew)); exact Kd.R_mono HO162.out (fun _ hk => ⟨hk.1.1, ⟨hk.1.2, hk.2⟩⟩)), (by (with_reducible repeat (first | apply Kd.R_alloc | apply Kd.R_drewN | apply Kd.R_drew)); exact Kd.R_mono HO174.out (fun _ hk => ⟨hk.1.1.2, ⟨hk.1.2, hk.2⟩⟩)), ⟨_, rfl⟩, (by (with_reducible repeat (first | refine blk_drewN ?_ _ | refine blk_drew ?_ | refine blk_alloc ?_ _)); exact BK142.out), (by (with_reducible repeat (first | refine blk_drewN ?_ _ | refine blk_drew ?_ | refine blk_alloc ?_ _)); exact BK151.out), (by repeat (first | (with_reducible first | exact HI0.out | apply IsS94.alloc | apply IsS94.drewN | apply IsS94.drew | apply IsS94.set_1 | refine IsS94.far ?_ NB0_142.out _ | refine IsS94.far ?_ NB0_151.out _) | exact HI0.out)), (by repeat (first | (with_reducible first | exact HK.out | apply KeepBut.set_ | apply keep_drewN | apply keep_drew | apply keep_alloc | refine keep_far ?_ GW142.out _ | refine keep_far ?_ GW151.out _) | exact HK.out)), (by repeat (first | (with_reducible first | exact HB.out | apply below_alloc | apply pw_below_drewN | apply below_drew1 | refine below_set ?_ (IsS94.ge HI0.out) | refine below_set ?_ GE142.out | refine below_set ?_ GE151.out) | exact HB.out))⟩)
                          · skip
                            refine goes_ Try.func61 (by kernel_rfl) rfl #[.pointer (some ⟨g, 0, none⟩), .int .i64 4] (by rfl) rfl rfl (by (try simp only [List.map_toArray, List.map_cons, List.map_nil]); first | done | rfl | (simp only [List.length_drop, List.length_take]; rfl)) ?_
                            with_reducible refine (spec_l20Rd_pick.calls k g s0_0 t171 4 t175 t176 w0 _ ?side1 ?side2 A55.out).mono ?_
                            (case side1 => repeat (first | (with_reducible first | exact HI0.out | apply IsS94.alloc | apply IsS94.drewN | apply IsS94.drew | apply IsS94.set_1 | refine IsS94.far ?_ NB0_142.out _ | refine IsS94.far ?_ NB0_151.out _) | exact HI0.out))
                            (case side2 => repeat (first | (with_reducible first | exact HB.out | apply below_alloc | apply pw_below_drewN | apply below_drew1 | refine below_set ?_ (IsS94.ge HI0.out) | refine below_set ?_ GE142.out | refine below_set ?_ GE151.out) | exact HB.out))
                            rintro e w60 ⟨rfl, hi, hb, hk⟩
                            refine ⟨_, rfl, ?_⟩
                            have n0_ := Aside0.mk (KeepBut.blk hk (g' := gb142) (o := .cells #[.int .i64 0, .int .i64 0, .int .i64 0] 56 (0, 0)) (by (with_reducible repeat (first | refine blk_drewN ?_ _ | refine blk_drew ?_ | refine blk_alloc ?_ _)); exact BK142.out) NB142_0.out (by simp))
                            have n1_ := Aside0.mk (Kd.R_mono (Kd.R_keep (IsS94.apart (show IsS94 w0 _ g s0_0 t171 from by repeat (first | (with_reducible first | exact HI0.out | apply IsS94.alloc | apply IsS94.drewN | apply IsS94.drew | apply IsS94.set_1 | refine IsS94.far ?_ NB0_142.out _ | refine IsS94.far ?_ NB0_151.out _) | exact HI0.out)) (by (with_reducible repeat (first | apply Kd.R_alloc | apply Kd.R_drewN | apply Kd.R_drew)); exact HO147.out) (by decide)) hk (fun _ h => h.2)) (fun _ h => h.1))
                            have n2_ := Aside0.mk (KeepBut.blk hk (g' := gb151) (o := .cells #[.int .i64 (wrap64 (1 + t166)), .int .i64 (rd y154 t157), .int .i64 (rd y145 t148)] 56 (0, 0)) (by (with_reducible repeat (first | refine blk_drewN ?_ _ | refine blk_drew ?_ | refine blk_alloc ?_ _)); exact BK151.out) NB151_0.out (by simp))
                            have n3_ := Aside0.mk (Kd.R_mono (Kd.R_keep (IsS94.apart (show IsS94 w0 _ g s0_0 t171 from by repeat (first | (with_reducible first | exact HI0.out | apply IsS94.alloc | apply IsS94.drewN | apply IsS94.drew | apply IsS94.set_1 | refine IsS94.far ?_ NB0_142.out _ | refine IsS94.far ?_ NB0_151.out _) | exact HI0.out)) (by (with_reducible repeat (first | apply Kd.R_alloc | apply Kd.R_drewN | apply Kd.R_drew)); exact HO156.out) (by decide)) hk (fun _ h => h.2)) (fun _ h => h.1))
                            have n4_ := Aside0.mk (Kd.R_mono (Kd.R_keep (IsS94.apart (show IsS94 w0 _ g s0_0 t171 from by repeat (first | (with_reducible first | exact HI0.out | apply IsS94.alloc | apply IsS94.drewN | apply IsS94.drew | apply IsS94.set_1 | refine IsS94.far ?_ NB0_142.out _ | refine IsS94.far ?_ NB0_151.out _) | exact HI0.out)) (by (with_reducible repeat (first | apply Kd.R_alloc | apply Kd.R_drewN | apply Kd.R_drew)); exact HO162.out) (by decide)) hk (fun _ h => h.2)) (fun _ h => h.1))
                            have n5_ := Aside0.mk (KeepBut.trans (by repeat (first | (with_reducible first | exact HK.out | apply KeepBut.set_ | apply keep_drewN | apply keep_drew | apply keep_alloc | refine keep_far ?_ GW142.out _ | refine keep_far ?_ GW151.out _) | exact HK.out)) hk (.inl rfl))
                            have n6_ := Aside0.mk (hb)
                            have n7_ := Aside0.mk (hi)
                            clear BK142
                            clear HO147
                            clear BK151
                            clear HO156
                            clear HO162
                            clear HK
                            clear HB
                            clear HI0
                            have BK142 := n0_
                            have HO147 := n1_
                            have BK151 := n2_
                            have HO156 := n3_
                            have HO162 := n4_
                            have HK := n5_
                            have HB := n6_
                            have HI0 := n7_
                            clear n0_ n1_ n2_ n3_ n4_ n5_ n6_ n7_
                            (try clear hb)
                            (try clear hb2)
                            (try clear hk)
                            (try clear hi)
                            refine hK.out _ _ ⟨(blk_cell BK151.out 0).trans rfl, (blk_cell BK151.out 1).trans rfl, (blk_cell BK151.out 2).trans rfl⟩ (fun hHeld => ?_)
                            clear hK K
                            refine norm_ (a' := ?_) ?_ ?_
                            rotate_left
                            · show Act.put _ (some 70) _ = _
                              simp only [Act.put, List.setIfInBounds_toArray, List.set_cons_zero, List.set_cons_succ, i64_w, i32_w]
                              rfl
                            refine one_ (i := 3) (N := some 68) #[true, true, true, true, true, true, false, false, false, false] rfl rfl (one_of HT_.out (by kernel_rfl)) (by decide) (fun K hK => ?_)
                            refine Kd.R_lit_step (Kd.int .i64) _ 3 ?hg (N := 68) ?hd (xs := ([0, (-1), 9, wrap64 ((rd y154 t157) + 1)] : List Int)) (inner := [.int .i64 0, .int .i64 (-1), .int .i64 9, .int .i64 (wrap64 ((rd y154 t157) + 1))]) (ok := fun _ => True) (okp := fun _ => True) ?hr ?hp (fun _ hk => hk) trivial (Below.refl _ _) (Nat.le_refl _) (by simp) ?_; (case hd => rfl); (case hg => rfl); (case hr => first | (go_simp; done) | (go_simp; rfl)); (case hp => exact (Reps.one (show Kd.M (Kd.int .i64) _ _ _ 0 [.int .i64 0] from rfl) (Reps.one (show Kd.M (Kd.int .i64) _ _ _ (-1) [.int .i64 (-1)] from rfl) (Reps.one (show Kd.M (Kd.int .i64) _ _ _ 9 [.int .i64 9] from rfl) (Reps.one (show Kd.M (Kd.int .i64) _ _ _ (wrap64 ((rd y154 t157) + 1)) [.int .i64 (wrap64 ((rd y154 t157) + 1))] from rfl) (Reps.none _ _))))))
                            intro v173 w61 ho62 hb hg_ hnew_
                            clear hg_ hnew_
                            (first | rw [← Ny172.out] at ho62 | (simp only [Int.reduceToNat] at ho62; rw [← Ny172.out] at ho62))
                            have n0_ := Aside0.mk (Kd.R_elder' (by (with_reducible repeat (first | apply Kd.R_alloc | apply Kd.R_drewN | apply Kd.R_drew)); exact HO147.out) (Kd.R_base ho62) hb)
                            have n1_ := Aside0.mk (Kd.R_elder' (by (with_reducible repeat (first | apply Kd.R_alloc | apply Kd.R_drewN | apply Kd.R_drew)); exact HO156.out) (Kd.R_base ho62) hb)
                            have n2_ := Aside0.mk (Kd.R_elder' (by (with_reducible repeat (first | apply Kd.R_alloc | apply Kd.R_drewN | apply Kd.R_drew)); exact HO162.out) (Kd.R_base ho62) hb)
                            have n3_ := Aside0.mk (Kd.R_lower (Kd.R_new' (Kd.R_new' (Kd.R_new' ho62 (Kd.R_lt (by (with_reducible repeat (first | apply Kd.R_alloc | apply Kd.R_drewN | apply Kd.R_drew)); exact HO147.out))) (Kd.R_lt (by (with_reducible repeat (first | apply Kd.R_alloc | apply Kd.R_drewN | apply Kd.R_drew)); exact HO156.out))) (Kd.R_lt (by (with_reducible repeat (first | apply Kd.R_alloc | apply Kd.R_drewN | apply Kd.R_drew)); exact HO162.out))) (keep_size (w := w) (g := g) (row := none) (by repeat (first | (with_reducible first | exact HK.out | apply KeepBut.set_ | apply keep_drewN | apply keep_drew | apply keep_alloc | refine keep_far ?_ GW142.out _ | refine keep_far ?_ GW151.out _) | exact HK.out))))
                            have n4_ := Aside0.mk (IsS94.below (by repeat (first | (with_reducible first | exact HI0.out | apply IsS94.alloc | apply IsS94.drewN | apply IsS94.drew | apply IsS94.set_1 | refine IsS94.far ?_ NB0_142.out _ | refine IsS94.far ?_ NB0_151.out _) | exact HI0.out)) hb)
                            have n5_ := Aside0.mk (blk_below (g := gb142) (o := .cells #[.int .i64 0, .int .i64 0, .int .i64 0] 56 (0, 0)) (by (with_reducible repeat (first | refine blk_drewN ?_ _ | refine blk_drew ?_ | refine blk_alloc ?_ _)); exact BK142.out) hb)
                            have n6_ := Aside0.mk (blk_below (g := gb151) (o := .cells #[.int .i64 (wrap64 (1 + t166)), .int .i64 (rd y154 t157), .int .i64 (rd y145 t148)] 56 (0, 0)) (by (with_reducible repeat (first | refine blk_drewN ?_ _ | refine blk_drew ?_ | refine blk_alloc ?_ _)); exact BK151.out) hb)
                            have n7_ := Aside0.mk (KeepBut.trans (by repeat (first | (with_reducible first | exact HK.out | apply KeepBut.set_ | apply keep_drewN | apply keep_drew | apply keep_alloc | refine keep_far ?_ GW142.out _ | refine keep_far ?_ GW151.out _) | exact HK.out)) (KeepBut.of_below hb g none) (.inl rfl))
                            have n8_ := Aside0.mk (below_step (by repeat (first | (with_reducible first | exact HB.out | apply below_alloc | apply pw_below_drewN | apply below_drew1 | refine below_set ?_ (IsS94.ge HI0.out) | refine below_set ?_ GE142.out | refine below_set ?_ GE151.out) | exact HB.out)) hb)
                            clear HO147
                            clear HO156
                            clear HO162
                            clear HI0
                            clear BK142
                            clear BK151
                            clear HK
                            clear HB
                            have HO147 := n0_
                            have HO156 := n1_
                            have HO162 := n2_
                            have HO174 := n3_
                            have HI0 := n4_
                            have BK142 := n5_
                            have BK151 := n6_
                            have HK := n7_
                            have HB := n8_
                            clear n0_ n1_ n2_ n3_ n4_ n5_ n6_ n7_ n8_
                            clear hb ho62
                            obtain ⟨Ao63, co63, eo63⟩ := Kd.R_slice HO174.out
                            subst eo63
                            obtain ⟨ado63, fo63, _⟩ := Kd.at_int (Kd.R_reads' HO174.out).2.2 0 (by decide) (by rw [Ny172.out]; simp)
                            cases fo63
                            refine hK.out _ _ ⟨(blk_cell BK151.out 0).trans rfl, (blk_cell BK151.out 1).trans rfl, (blk_cell BK151.out 2).trans rfl⟩ (fun hHeld => ?_)
                            clear hK K
                            refine norm_ (a' := ?_) ?_ ?_
                            rotate_left
                            · show Act.put _ (some 68) _ = _
                              simp only [Act.put, List.setIfInBounds_toArray, List.set_cons_zero, List.set_cons_succ, i64_w, i32_w]
                              rfl
                            exact norm_ (by simp only [putAll, Act.put, List.setIfInBounds_toArray, List.set_cons_zero, List.set_cons_succ]) (hCont (.slice (some ado63) y172.length co63, ado63) _ ⟨hHeld, (by (with_reducible repeat (first | apply Kd.R_alloc | apply Kd.R_drewN | apply Kd.R_drew)); exact Kd.R_mono HO147.out (fun _ hk => ⟨hk.1.1, ⟨hk.1.2, hk.2⟩⟩)), (by (with_reducible repeat (first | apply Kd.R_alloc | apply Kd.R_drewN | apply Kd.R_drew)); exact Kd.R_mono HO156.out (fun _ hk => ⟨hk.1.1, ⟨hk.1.2, hk.2⟩⟩)), (by (with_reducible repeat (first | apply Kd.R_alloc | apply Kd.R_drewN | apply Kd.R_drew)); exact Kd.R_mono HO162.out (fun _ hk => ⟨hk.1.1, ⟨hk.1.2, hk.2⟩⟩)), (by (with_reducible repeat (first | apply Kd.R_alloc | apply Kd.R_drewN | apply Kd.R_drew)); exact Kd.R_mono HO174.out (fun _ hk => ⟨hk.1.1.2, ⟨hk.1.2, hk.2⟩⟩)), ⟨_, rfl⟩, (by (with_reducible repeat (first | refine blk_drewN ?_ _ | refine blk_drew ?_ | refine blk_alloc ?_ _)); exact BK142.out), (by (with_reducible repeat (first | refine blk_drewN ?_ _ | refine blk_drew ?_ | refine blk_alloc ?_ _)); exact BK151.out), (by repeat (first | (with_reducible first | exact HI0.out | apply IsS94.alloc | apply IsS94.drewN | apply IsS94.drew | apply IsS94.set_1 | refine IsS94.far ?_ NB0_142.out _ | refine IsS94.far ?_ NB0_151.out _) | exact HI0.out)), (by repeat (first | (with_reducible first | exact HK.out | apply KeepBut.set_ | apply keep_drewN | apply keep_drew | apply keep_alloc | refine keep_far ?_ GW142.out _ | refine keep_far ?_ GW151.out _) | exact HK.out)), (by repeat (first | (with_reducible first | exact HB.out | apply below_alloc | apply pw_below_drewN | apply below_drew1 | refine below_set ?_ (IsS94.ge HI0.out) | refine below_set ?_ GE142.out | refine below_set ?_ GE151.out) | exact HB.out))⟩)
                        rintro ⟨v173, adz_v173⟩ w64 ⟨hS_, h0_, h1_, h2_, h3_, h4_, h5_, h6_, h7_, h8_, h9_⟩
                        have n0_ : Aside0 (Kd.R (Kd.int .i64) 3 w64 w.heap.size (fun k_ => some k_ ≠ (.slice (some adz_v155) y154.length co39 : Value).ownBlock ∧ some k_ ≠ (.slice (some adz_v161) y160.length co48 : Value).ownBlock ∧ some k_ ≠ (v173 : Value).ownBlock) (.slice (some ad150) y145.length co26) y145) := ⟨h0_⟩
                        have n1_ : Aside0 (Kd.R (Kd.int .i64) 3 w64 w.heap.size (fun k_ => some k_ ≠ (.slice (some ad150) y145.length co26 : Value).ownBlock ∧ some k_ ≠ (.slice (some adz_v161) y160.length co48 : Value).ownBlock ∧ some k_ ≠ (v173 : Value).ownBlock) (.slice (some adz_v155) y154.length co39) y154) := ⟨h1_⟩
                        have n2_ : Aside0 (Kd.R (Kd.int .i64) 3 w64 w.heap.size (fun k_ => some k_ ≠ (.slice (some ad150) y145.length co26 : Value).ownBlock ∧ some k_ ≠ (.slice (some adz_v155) y154.length co39 : Value).ownBlock ∧ some k_ ≠ (v173 : Value).ownBlock) (.slice (some adz_v161) y160.length co48) y160) := ⟨h2_⟩
                        have n3_ : Aside0 (Kd.R (Kd.int .i64) 3 w64 w.heap.size (fun k_ => some k_ ≠ (.slice (some ad150) y145.length co26 : Value).ownBlock ∧ some k_ ≠ (.slice (some adz_v155) y154.length co39 : Value).ownBlock ∧ some k_ ≠ (.slice (some adz_v161) y160.length co48 : Value).ownBlock) v173 y172) := ⟨h3_⟩
                        have n4_ : Aside0 (∃ c_, (v173 : Value) = .slice (some adz_v173) y172.length c_) := ⟨h4_⟩
                        have n5_ : Aside0 (w64.heap[gb142]? = some (.cells #[.int .i64 0, .int .i64 0, .int .i64 0] 56 (0, 0))) := ⟨h5_⟩
                        have n6_ : Aside0 (w64.heap[gb151]? = some (.cells #[.int .i64 (wrap64 (1 + t166)), .int .i64 (rd y154 t157), .int .i64 (rd y145 t148)] 56 (0, 0))) := ⟨h6_⟩
                        have n7_ : Aside0 (IsS94 w0 w64 g s0_0 t176) := ⟨h7_⟩
                        have n8_ : Aside0 (KeepBut w w64 g none) := ⟨h8_⟩
                        have n9_ : Aside0 (Below w0.heap.size w0 w64) := ⟨h9_⟩
                        clear HO147
                        clear HO156
                        clear HO162
                        clear BK142
                        clear BK151
                        clear HI0
                        clear HK
                        clear HB
                        clear h0_ h1_ h2_ h3_ h4_ h5_ h6_ h7_ h8_ h9_
                        have HO147 := n0_
                        have HO156 := n1_
                        have HO162 := n2_
                        have HO174 := n3_
                        have HA_HO174 := n4_
                        have BK142 := n5_
                        have BK151 := n6_
                        have HI0 := n7_
                        have HK := n8_
                        have HB := n9_
                        clear n0_ n1_ n2_ n3_ n4_ n5_ n6_ n7_ n8_ n9_
                        have hHeld : w64.cell? ⟨gb151, 0, none⟩ = some (.int .i64 (wrap64 (1 + t166))) ∧ w64.cell? ⟨gb151, 1, none⟩ = some (.int .i64 (rd y154 t157)) ∧ w64.cell? ⟨gb151, 2, none⟩ = some (.int .i64 (rd y145 t148)) := hS_
                        obtain ⟨co65, eo65⟩ := HA_HO174.out
                        clear HA_HO174
                        subst eo65
                        refine norm_ (a' := ?_) ?_ ?_
                        rotate_left
                        · simp only [putAll, Act.put, List.setIfInBounds_toArray, List.set_cons_zero, List.set_cons_succ]
                          rfl
                        refine pure_ (i := 6) (N := some 71) (v := ?_) (a' := ?_) #[true, true, true, true, true, true, true, false, false, false] rfl rfl (any_of HT_.out (by kernel_rfl)) (fun _ _ _ h => h) (Or.inl ⟨by rfl, ?_⟩) ?_ ?_
                        rotate_left
                        · intro w'
                          go_simp
                          with_reducible rfl
                        rotate_left
                        · simp only [Act.put, List.setIfInBounds_toArray, List.set_cons_zero, List.set_cons_succ, i64_w, i32_w]
                          rfl
                        refine one_ (i := 7) (N := some 72) #[true, true, true, true, true, true, true, true, false, false] rfl rfl (one_of HT_.out (by kernel_rfl)) (by decide) (fun K hK => ?_)
                        (have p177 : 0 ≤ (t175 : Int) := of_decide_eq_true (by first | (with_reducible assumption) | assumption); have q177 : t175 < (y172.length : Int) := of_decide_eq_true (by first | (with_reducible assumption) | assumption); obtain ⟨ad177, e177, hx177_0⟩ := Kd.at_int (Kd.R_reads' HO174.out).2.2 t175 p177 q177; obtain rfl : adz_v173 = ad177 := (by injection e177))
                        refine value_ (w1 := ?_) (v := ?_) (by rfl) rfl ?_ ?_
                        rotate_left 2
                        · go_simp
                          constructor
                          · rfl
                          · rfl
                        clear hx177_0
                        refine hK.out _ _ ⟨(blk_cell BK151.out 0).trans rfl, (blk_cell BK151.out 1).trans rfl, (blk_cell BK151.out 2).trans rfl⟩ (fun hHeld => ?_)
                        clear hK K
                        refine norm_ (a' := ?_) ?_ ?_
                        rotate_left
                        · show Act.put _ (some 72) _ = _
                          simp only [Act.put, List.setIfInBounds_toArray, List.set_cons_zero, List.set_cons_succ, i64_w, i32_w]
                          rfl
                        refine pure_ (i := 8) (N := some 73) (v := ?_) (a' := ?_) #[true, true, true, true, true, true, true, true, true, false] rfl rfl (any_of HT_.out (by kernel_rfl)) (fun _ _ _ h => h) (Or.inl ⟨by rfl, ?_⟩) ?_ ?_
                        rotate_left
                        · intro w'
                          go_simp
                          with_reducible rfl
                        rotate_left
                        · simp only [Act.put, List.setIfInBounds_toArray, List.set_cons_zero, List.set_cons_succ, i64_w, i32_w]
                          rfl
                        refine last_ (i := 9) (N := none) #[true, true, true, true, true, true, true, true, true, true] rfl rfl (one_of HT_.out (by kernel_rfl)) (by decide) (fun K hK => ?_)
                        have hs66 : w64.cell? ⟨gb151, 0, none⟩ = some (.int .i64 (wrap64 (1 + t166))) := (blk_cell BK151.out 0).trans rfl
                        have hfs66 := blk_frozen BK151.out 0
                        have hns66_0 := NB142_151.out
                        have hms66_0 := NB151_142.out
                        refine skip_ (w1 := ?_) (by rfl) rfl ?_ ?_
                        rotate_left
                        · go_simp
                          rfl
                        refine hK.out _ _ ?_
                        clear hK K
                        refine done_ (done_of HT_.out (by kernel_rfl)) ?_
                        try go_wp2
                        go_meet
                        case rel => exact ⟨_, (t176), (rd y172 t175), (rd y154 t157), (rd y145 t148), H', ⟨by first | omega | exact Nat.le_refl _⟩, ⟨by (with_reducible repeat (first | refine blk_drewN ?_ _ | refine blk_drew ?_ | refine blk_alloc ?_ _)); refine blk_far ?_ NB142_151.out _; (with_reducible repeat (first | refine blk_drewN ?_ _ | refine blk_drew ?_ | refine blk_alloc ?_ _)); exact BK142.out⟩, ⟨by (with_reducible repeat (first | refine blk_drewN ?_ _ | refine blk_drew ?_ | refine blk_alloc ?_ _)); refine blk_put (cs := #[.int .i64 (wrap64 (1 + t166)), .int .i64 (rd y154 t157), .int .i64 (rd y145 t148)]) ?_ 0 _ rfl; (with_reducible repeat (first | refine blk_drewN ?_ _ | refine blk_drew ?_ | refine blk_alloc ?_ _)); exact BK151.out⟩, ⟨by repeat (first | (with_reducible first | exact HI0.out | apply IsS94.alloc | apply IsS94.drewN | apply IsS94.drew | apply IsS94.set_1 | refine IsS94.far ?_ NB0_142.out _ | refine IsS94.far ?_ NB0_151.out _) | exact HI0.out)⟩, ⟨by repeat (first | (with_reducible first | exact HK.out | apply KeepBut.set_ | apply keep_drewN | apply keep_drew | apply keep_alloc | refine keep_far ?_ GW142.out _ | refine keep_far ?_ GW151.out _) | exact HK.out)⟩, ⟨by repeat (first | (with_reducible first | exact HB.out | apply below_alloc | apply pw_below_drewN | apply below_drew1 | refine below_set ?_ (IsS94.ge HI0.out) | refine below_set ?_ GE142.out | refine below_set ?_ GE151.out) | exact HB.out)⟩⟩
                      · rw [if_neg c57] at H
                        exact absurd H (by simp)
                    · rw [if_neg c56] at H
                      exact absurd H (by simp)
                  · rw [if_neg c54] at H
                    have c54b0 : (t170 == 0) = false := beq_eq_false_iff_ne.mpr c54
                    have c54b1 : (t170 != 0) = true := bne_iff_ne.mpr c54
                    (first | rw [c54b0] | (simp only [i64_w, i32_w]; rw [c54b0]) | skip)
                    by_cases c67 : t170 = 1
                    · rw [if_pos c67] at H
                      have c67b0 : (t170 == 1) = true := beq_iff_eq.mpr c67
                      have c67b1 : (t170 != 1) = false := bne_eq_false_iff_eq.mpr c67
                      clear c67
                      obtain ⟨y178, hy178⟩ : ∃ y_ : List Int, y_ = (([0, wrap64 ((rd y145 t148) + 1), (-1)] : List Int)) := ⟨_, rfl⟩
                      replace H : ((spec_l20Rd_pick.f k s0_0 t171 3).bind fun bt181 => (if 0 ≤ bt181.1 then (if bt181.1 < (y178.length : Int) then (spec_l20Task.j0 k s0_0 bt181.2 (wrap64 (1 + t166)) (rd y178 bt181.1) (rd y145 t148)) else (none)) else (none))) = some (r1, r2, r3, r4) := by first | (rw [hy178]; with_reducible exact H) | (have H2_ := (Option.bind_some _ _).symm.trans H; rw [hy178]; with_reducible exact H2_) | (have H2_ := (Option.bind_some _ _).symm.trans H; with_reducible exact H2_) | with_reducible exact H | (rw [hy178]; exact H) | exact H
                      have Ny178 := Aside0.mk hy178
                      clear hy178
                      replace H := Option.bind_eq_some_iff.mp H
                      obtain ⟨⟨t181, t182⟩, A680, H⟩ := H
                      replace H : (if 0 ≤ t181 then (if t181 < (y178.length : Int) then (spec_l20Task.j0 k s0_0 t182 (wrap64 (1 + t166)) (rd y178 t181) (rd y145 t148)) else (none)) else (none)) = some (r1, r2, r3, r4) := H
                      have A68 := Aside0.mk A680
                      clear A680
                      by_cases c69 : 0 ≤ t181
                      · rw [if_pos c69] at H
                        have c69b0 : decide (0 ≤ t181) = true := decide_eq_true c69
                        clear c69
                        by_cases c70 : t181 < (y178.length : Int)
                        · rw [if_pos c70] at H
                          have c70b0 : decide (t181 < (y178.length : Int)) = true := decide_eq_true c70
                          clear c70
                          have H' := Aside0.mk H
                          clear H
                          try go_wp2_with (first | ((with_reducible refine gate_callee (f := 61) rfl ?_); refine goesL_ (some 56) rfl rfl Try.func61 (by kernel_rfl) rfl #[.pointer (some ⟨g, 0, none⟩), .int .i64 3] rfl (by (try simp only [List.map_toArray, List.map_cons, List.map_nil]); first | done | rfl | (simp only [List.length_drop, List.length_take]; rfl)) ?_; (with_reducible refine (spec_l20Rd_pick.calls k g s0_0 t169 3 t170 t171 w0 _ ?side1 ?side2 A53.out).mono ?_); (case side1 => repeat (first | (with_reducible first | exact HI0.out | apply IsS94.alloc | apply IsS94.drewN | apply IsS94.drew | apply IsS94.set_1 | refine IsS94.far ?_ NB0_142.out _ | refine IsS94.far ?_ NB0_151.out _) | exact HI0.out)); (case side2 => repeat (first | (with_reducible first | exact HB.out | apply below_alloc | apply pw_below_drewN | apply below_drew1 | refine below_set ?_ (IsS94.ge HI0.out) | refine below_set ?_ GE142.out | refine below_set ?_ GE151.out) | exact HB.out)); rintro e w71 ⟨rfl, hi, hb, hk⟩; refine ⟨_, rfl, ?_⟩; have n0_ := Aside0.mk (KeepBut.blk hk (g' := gb142) (o := .cells #[.int .i64 0, .int .i64 0, .int .i64 0] 56 (0, 0)) (by (with_reducible repeat (first | refine blk_drewN ?_ _ | refine blk_drew ?_ | refine blk_alloc ?_ _)); exact BK142.out) NB142_0.out (by simp)); have n1_ := Aside0.mk (Kd.R_mono (Kd.R_keep (IsS94.apart (show IsS94 w0 _ g s0_0 t169 from by repeat (first | (with_reducible first | exact HI0.out | apply IsS94.alloc | apply IsS94.drewN | apply IsS94.drew | apply IsS94.set_1 | refine IsS94.far ?_ NB0_142.out _ | refine IsS94.far ?_ NB0_151.out _) | exact HI0.out)) (by (with_reducible repeat (first | apply Kd.R_alloc | apply Kd.R_drewN | apply Kd.R_drew)); exact HO147.out) (by decide)) hk (fun _ h => h.2)) (fun _ h => h.1)); have n2_ := Aside0.mk (KeepBut.blk hk (g' := gb151) (o := .cells #[.int .i64 (wrap64 (1 + t166)), .int .i64 (rd y154 t157), .int .i64 (rd y145 t148)] 56 (0, 0)) (by (with_reducible repeat (first | refine blk_drewN ?_ _ | refine blk_drew ?_ | refine blk_alloc ?_ _)); exact BK151.out) NB151_0.out (by simp)); have n3_ := Aside0.mk (Kd.R_mono (Kd.R_keep (IsS94.apart (show IsS94 w0 _ g s0_0 t169 from by repeat (first | (with_reducible first | exact HI0.out | apply IsS94.alloc | apply IsS94.drewN | apply IsS94.drew | apply IsS94.set_1 | refine IsS94.far ?_ NB0_142.out _ | refine IsS94.far ?_ NB0_151.out _) | exact HI0.out)) (by (with_reducible repeat (first | apply Kd.R_alloc | apply Kd.R_drewN | apply Kd.R_drew)); exact HO156.out) (by decide)) hk (fun _ h => h.2)) (fun _ h => h.1)); have n4_ := Aside0.mk (Kd.R_mono (Kd.R_keep (IsS94.apart (show IsS94 w0 _ g s0_0 t169 from by repeat (first | (with_reducible first | exact HI0.out | apply IsS94.alloc | apply IsS94.drewN | apply IsS94.drew | apply IsS94.set_1 | refine IsS94.far ?_ NB0_142.out _ | refine IsS94.far ?_ NB0_151.out _) | exact HI0.out)) (by (with_reducible repeat (first | apply Kd.R_alloc | apply Kd.R_drewN | apply Kd.R_drew)); exact HO162.out) (by decide)) hk (fun _ h => h.2)) (fun _ h => h.1)); have n5_ := Aside0.mk (KeepBut.trans (by repeat (first | (with_reducible first | exact HK.out | apply KeepBut.set_ | apply keep_drewN | apply keep_drew | apply keep_alloc | refine keep_far ?_ GW142.out _ | refine keep_far ?_ GW151.out _) | exact HK.out)) hk (.inl rfl)); have n6_ := Aside0.mk (hb); have n7_ := Aside0.mk (hi); clear BK142; clear HO147; clear BK151; clear HO156; clear HO162; clear HK; clear HB; clear HI0; have BK142 := n0_; have HO147 := n1_; have BK151 := n2_; have HO156 := n3_; have HO162 := n4_; have HK := n5_; have HB := n6_; have HI0 := n7_; clear n0_ n1_ n2_ n3_ n4_ n5_ n6_ n7_; (try clear hb); (try clear hb2); (try clear hk); (try clear hi)))
                          have pi183 : (0 ≤ (t181 : Int)) = True := eq_true (of_decide_eq_true (by first | (with_reducible assumption) | assumption))
                          have qi183 : (t181 < (y178.length : Int)) = True := eq_true (of_decide_eq_true (by first | (with_reducible assumption) | assumption))
                          have n0_ := Aside0.mk (Kd.R_drew HO147.out)
                          have n1_ := Aside0.mk (Kd.R_drew HO156.out)
                          have n2_ := Aside0.mk (Kd.R_drew HO162.out)
                          have n3_ := Aside0.mk (blk_drew BK142.out)
                          have n4_ := Aside0.mk (blk_drew BK151.out)
                          have n5_ := Aside0.mk (IsS94.drew HI0.out)
                          have n6_ := Aside0.mk (keep_drew HK.out)
                          have n7_ := Aside0.mk (below_drew1 HB.out)
                          clear HO147
                          clear HO156
                          clear HO162
                          clear BK142
                          clear BK151
                          clear HI0
                          clear HK
                          clear HB
                          have HO147 := n0_
                          have HO156 := n1_
                          have HO162 := n2_
                          have BK142 := n3_
                          have BK151 := n4_
                          have HI0 := n5_
                          have HK := n6_
                          have HB := n7_
                          clear n0_ n1_ n2_ n3_ n4_ n5_ n6_ n7_
                          refine start_ (n := 10) (S := fun w' => w'.cell? ⟨gb151, 0, none⟩ = some (.int .i64 (wrap64 (1 + t166))) ∧ w'.cell? ⟨gb151, 1, none⟩ = some (.int .i64 (rd y154 t157)) ∧ w'.cell? ⟨gb151, 2, none⟩ = some (.int .i64 (rd y145 t148))) (ds := [9]) #[false, false, false, false, false, false, false, false, false, false] (by kernel_rfl) rfl rfl ⟨(blk_cell BK151.out 0).trans rfl, (blk_cell BK151.out 1).trans rfl, (blk_cell BK151.out 2).trans rfl⟩ (fun hHeld => ?_); refine with_tabW spec_l20Task.tab10 spec_l20Task.bits10 (fun HT_ HW_ => ?_)
                          generalize w71.drew = w72 at HO147 HO156 HO162 BK142 BK151 HI0 HK HB hHeld ⊢
                          refine pure_ (i := 0) (N := some 76) (v := ?_) (a' := ?_) #[true, false, false, false, false, false, false, false, false, false] rfl rfl (any_of HT_.out (by kernel_rfl)) (fun _ _ _ h => h) (Or.inl ⟨by rfl, ?_⟩) ?_ ?_
                          rotate_left
                          · intro w'
                            go_simp
                            with_reducible rfl
                          rotate_left
                          · simp only [Act.put, List.setIfInBounds_toArray, List.set_cons_zero, List.set_cons_succ, i64_w, i32_w]
                            rfl
                          refine pure_ (i := 4) (N := some 80) (v := ?_) (a' := ?_) #[true, false, false, false, true, false, false, false, false, false] rfl rfl (any_of HT_.out (by kernel_rfl)) (fun _ _ _ h => h) (Or.inl ⟨by rfl, ?_⟩) ?_ ?_
                          rotate_left
                          · intro w'
                            go_simp
                            with_reducible rfl
                          rotate_left
                          · simp only [Act.put, List.setIfInBounds_toArray, List.set_cons_zero, List.set_cons_succ, i64_w, i32_w]
                            rfl
                          refine take_ (i := 1) (N := some 77) (v := ?_) (a' := ?_) #[true, true, false, false, true, false, false, false, false, false] rfl rfl (take_ofW HT_.out HW_.out (by kernel_rfl)) (fun _ _ _ h => h) (Or.inl ⟨by rfl, ?_⟩) hHeld ?_ ?_
                          rotate_left
                          · rintro w' ⟨s0, s1, s2⟩
                            go_simp
                            with_reducible rfl
                          rotate_left
                          · simp only [Act.put, List.setIfInBounds_toArray, List.set_cons_zero, List.set_cons_succ, i64_w, i32_w]
                            rfl
                          refine pure_ (i := 2) (N := some 78) (v := ?_) (a' := ?_) #[true, true, true, false, true, false, false, false, false, false] rfl rfl (any_of HT_.out (by kernel_rfl)) (fun _ _ _ h => h) (Or.inl ⟨by rfl, ?_⟩) ?_ ?_
                          rotate_left
                          · intro w'
                            go_simp
                            with_reducible rfl
                          rotate_left
                          · simp only [Act.put, List.setIfInBounds_toArray, List.set_cons_zero, List.set_cons_succ, i64_w, i32_w]
                            rfl
                          refine join_ (σ := Value × Addr) 4 #[true, true, true, true, true, true, false, false, false, false] (fun s_ => [(79, s_.1), (81, .int .i64 t181)]) (fun s_ w' => (w'.cell? ⟨gb151, 0, none⟩ = some (.int .i64 (wrap64 (1 + t166))) ∧ w'.cell? ⟨gb151, 1, none⟩ = some (.int .i64 (rd y154 t157)) ∧ w'.cell? ⟨gb151, 2, none⟩ = some (.int .i64 (rd y145 t148))) ∧ (Kd.R (Kd.int .i64) 3 w' w.heap.size (fun k_ => some k_ ≠ (.slice (some adz_v155) y154.length co39 : Value).ownBlock ∧ some k_ ≠ (.slice (some adz_v161) y160.length co48 : Value).ownBlock ∧ some k_ ≠ (s_.1 : Value).ownBlock) (.slice (some ad150) y145.length co26) y145) ∧ (Kd.R (Kd.int .i64) 3 w' w.heap.size (fun k_ => some k_ ≠ (.slice (some ad150) y145.length co26 : Value).ownBlock ∧ some k_ ≠ (.slice (some adz_v161) y160.length co48 : Value).ownBlock ∧ some k_ ≠ (s_.1 : Value).ownBlock) (.slice (some adz_v155) y154.length co39) y154) ∧ (Kd.R (Kd.int .i64) 3 w' w.heap.size (fun k_ => some k_ ≠ (.slice (some ad150) y145.length co26 : Value).ownBlock ∧ some k_ ≠ (.slice (some adz_v155) y154.length co39 : Value).ownBlock ∧ some k_ ≠ (s_.1 : Value).ownBlock) (.slice (some adz_v161) y160.length co48) y160) ∧ (Kd.R (Kd.int .i64) 3 w' w.heap.size (fun k_ => some k_ ≠ (.slice (some ad150) y145.length co26 : Value).ownBlock ∧ some k_ ≠ (.slice (some adz_v155) y154.length co39 : Value).ownBlock ∧ some k_ ≠ (.slice (some adz_v161) y160.length co48 : Value).ownBlock) s_.1 y178) ∧ (∃ c_, (s_.1 : Value) = .slice (some s_.2) y178.length c_) ∧ (w'.heap[gb142]? = some (.cells #[.int .i64 0, .int .i64 0, .int .i64 0] 56 (0, 0))) ∧ (w'.heap[gb151]? = some (.cells #[.int .i64 (wrap64 (1 + t166)), .int .i64 (rd y154 t157), .int .i64 (rd y145 t148)] 56 (0, 0))) ∧ (IsS94 w0 w' g s0_0 t182) ∧ (KeepBut w w' g none) ∧ (Below w0.heap.size w0 w')) ?_ ?_
                          rotate_left
                          · intro hCont
                            refine two_ (i := 3) (j := 5) (Ni := some 79) (Nj := some 81) #[true, true, true, true, true, false, false, false, false, false] #[true, true, true, false, true, true, false, false, false, false] rfl rfl rfl rfl (two_of HT_.out (by kernel_rfl)) (by decide) (by decide) (fun K hK => ?_) (fun K hK => ?_)
                            · skip
                              refine Kd.R_lit_step (Kd.int .i64) _ 3 ?hg (N := 79) ?hd (xs := ([0, wrap64 ((rd y145 t148) + 1), (-1)] : List Int)) (inner := [.int .i64 0, .int .i64 (wrap64 ((rd y145 t148) + 1)), .int .i64 (-1)]) (ok := fun _ => True) (okp := fun _ => True) ?hr ?hp (fun _ hk => hk) trivial (Below.refl _ _) (Nat.le_refl _) (by simp) ?_; (case hd => rfl); (case hg => rfl); (case hr => first | (go_simp; done) | (go_simp; rfl)); (case hp => exact (Reps.one (show Kd.M (Kd.int .i64) _ _ _ 0 [.int .i64 0] from rfl) (Reps.one (show Kd.M (Kd.int .i64) _ _ _ (wrap64 ((rd y145 t148) + 1)) [.int .i64 (wrap64 ((rd y145 t148) + 1))] from rfl) (Reps.one (show Kd.M (Kd.int .i64) _ _ _ (-1) [.int .i64 (-1)] from rfl) (Reps.none _ _)))))
                              intro v179 w73 ho74 hb hg_ hnew_
                              clear hg_ hnew_
                              (first | rw [← Ny178.out] at ho74 | (simp only [Int.reduceToNat] at ho74; rw [← Ny178.out] at ho74))
                              have n0_ := Aside0.mk (Kd.R_elder' (by (with_reducible repeat (first | apply Kd.R_alloc | apply Kd.R_drewN | apply Kd.R_drew)); exact HO147.out) (Kd.R_base ho74) hb)
                              have n1_ := Aside0.mk (Kd.R_elder' (by (with_reducible repeat (first | apply Kd.R_alloc | apply Kd.R_drewN | apply Kd.R_drew)); exact HO156.out) (Kd.R_base ho74) hb)
                              have n2_ := Aside0.mk (Kd.R_elder' (by (with_reducible repeat (first | apply Kd.R_alloc | apply Kd.R_drewN | apply Kd.R_drew)); exact HO162.out) (Kd.R_base ho74) hb)
                              have n3_ := Aside0.mk (Kd.R_lower (Kd.R_new' (Kd.R_new' (Kd.R_new' ho74 (Kd.R_lt (by (with_reducible repeat (first | apply Kd.R_alloc | apply Kd.R_drewN | apply Kd.R_drew)); exact HO147.out))) (Kd.R_lt (by (with_reducible repeat (first | apply Kd.R_alloc | apply Kd.R_drewN | apply Kd.R_drew)); exact HO156.out))) (Kd.R_lt (by (with_reducible repeat (first | apply Kd.R_alloc | apply Kd.R_drewN | apply Kd.R_drew)); exact HO162.out))) (keep_size (w := w) (g := g) (row := none) (by repeat (first | (with_reducible first | exact HK.out | apply KeepBut.set_ | apply keep_drewN | apply keep_drew | apply keep_alloc | refine keep_far ?_ GW142.out _ | refine keep_far ?_ GW151.out _) | exact HK.out))))
                              have n4_ := Aside0.mk (IsS94.below (by repeat (first | (with_reducible first | exact HI0.out | apply IsS94.alloc | apply IsS94.drewN | apply IsS94.drew | apply IsS94.set_1 | refine IsS94.far ?_ NB0_142.out _ | refine IsS94.far ?_ NB0_151.out _) | exact HI0.out)) hb)
                              have n5_ := Aside0.mk (blk_below (g := gb142) (o := .cells #[.int .i64 0, .int .i64 0, .int .i64 0] 56 (0, 0)) (by (with_reducible repeat (first | refine blk_drewN ?_ _ | refine blk_drew ?_ | refine blk_alloc ?_ _)); exact BK142.out) hb)
                              have n6_ := Aside0.mk (blk_below (g := gb151) (o := .cells #[.int .i64 (wrap64 (1 + t166)), .int .i64 (rd y154 t157), .int .i64 (rd y145 t148)] 56 (0, 0)) (by (with_reducible repeat (first | refine blk_drewN ?_ _ | refine blk_drew ?_ | refine blk_alloc ?_ _)); exact BK151.out) hb)
                              have n7_ := Aside0.mk (KeepBut.trans (by repeat (first | (with_reducible first | exact HK.out | apply KeepBut.set_ | apply keep_drewN | apply keep_drew | apply keep_alloc | refine keep_far ?_ GW142.out _ | refine keep_far ?_ GW151.out _) | exact HK.out)) (KeepBut.of_below hb g none) (.inl rfl))
                              have n8_ := Aside0.mk (below_step (by repeat (first | (with_reducible first | exact HB.out | apply below_alloc | apply pw_below_drewN | apply below_drew1 | refine below_set ?_ (IsS94.ge HI0.out) | refine below_set ?_ GE142.out | refine below_set ?_ GE151.out) | exact HB.out)) hb)
                              clear HO147
                              clear HO156
                              clear HO162
                              clear HI0
                              clear BK142
                              clear BK151
                              clear HK
                              clear HB
                              have HO147 := n0_
                              have HO156 := n1_
                              have HO162 := n2_
                              have HO180 := n3_
                              have HI0 := n4_
                              have BK142 := n5_
                              have BK151 := n6_
                              have HK := n7_
                              have HB := n8_
                              clear n0_ n1_ n2_ n3_ n4_ n5_ n6_ n7_ n8_
                              clear hb ho74
                              obtain ⟨Ao75, co75, eo75⟩ := Kd.R_slice HO180.out
                              subst eo75
                              obtain ⟨ado75, fo75, _⟩ := Kd.at_int (Kd.R_reads' HO180.out).2.2 0 (by decide) (by rw [Ny178.out]; simp)
                              cases fo75
                              refine hK.out _ _ ⟨(blk_cell BK151.out 0).trans rfl, (blk_cell BK151.out 1).trans rfl, (blk_cell BK151.out 2).trans rfl⟩ (fun hHeld => ?_)
                              clear hK K
                              refine norm_ (a' := ?_) ?_ ?_
                              rotate_left
                              · show Act.put _ (some 79) _ = _
                                simp only [Act.put, List.setIfInBounds_toArray, List.set_cons_zero, List.set_cons_succ, i64_w, i32_w]
                                rfl
                              refine one_ (i := 5) (N := some 81) #[true, true, true, true, true, true, false, false, false, false] rfl rfl (one_of HT_.out (by kernel_rfl)) (by decide) (fun K hK => ?_)
                              refine goes_ Try.func61 (by kernel_rfl) rfl #[.pointer (some ⟨g, 0, none⟩), .int .i64 3] (by rfl) rfl rfl (by (try simp only [List.map_toArray, List.map_cons, List.map_nil]); first | done | rfl | (simp only [List.length_drop, List.length_take]; rfl)) ?_
                              with_reducible refine (spec_l20Rd_pick.calls k g s0_0 t171 3 t181 t182 w0 _ ?side1 ?side2 A68.out).mono ?_
                              (case side1 => repeat (first | (with_reducible first | exact HI0.out | apply IsS94.alloc | apply IsS94.drewN | apply IsS94.drew | apply IsS94.set_1 | refine IsS94.far ?_ NB0_142.out _ | refine IsS94.far ?_ NB0_151.out _) | exact HI0.out))
                              (case side2 => repeat (first | (with_reducible first | exact HB.out | apply below_alloc | apply pw_below_drewN | apply below_drew1 | refine below_set ?_ (IsS94.ge HI0.out) | refine below_set ?_ GE142.out | refine below_set ?_ GE151.out) | exact HB.out))
                              rintro e w76 ⟨rfl, hi, hb, hk⟩
                              refine ⟨_, rfl, ?_⟩
                              have n0_ := Aside0.mk (KeepBut.blk hk (g' := gb142) (o := .cells #[.int .i64 0, .int .i64 0, .int .i64 0] 56 (0, 0)) (by (with_reducible repeat (first | refine blk_drewN ?_ _ | refine blk_drew ?_ | refine blk_alloc ?_ _)); exact BK142.out) NB142_0.out (by simp))
                              have n1_ := Aside0.mk (Kd.R_mono (Kd.R_keep (IsS94.apart (show IsS94 w0 _ g s0_0 t171 from by repeat (first | (with_reducible first | exact HI0.out | apply IsS94.alloc | apply IsS94.drewN | apply IsS94.drew | apply IsS94.set_1 | refine IsS94.far ?_ NB0_142.out _ | refine IsS94.far ?_ NB0_151.out _) | exact HI0.out)) (by (with_reducible repeat (first | apply Kd.R_alloc | apply Kd.R_drewN | apply Kd.R_drew)); exact HO147.out) (by decide)) hk (fun _ h => h.2)) (fun _ h => h.1))
                              have n2_ := Aside0.mk (KeepBut.blk hk (g' := gb151) (o := .cells #[.int .i64 (wrap64 (1 + t166)), .int .i64 (rd y154 t157), .int .i64 (rd y145 t148)] 56 (0, 0)) (by (with_reducible repeat (first | refine blk_drewN ?_ _ | refine blk_drew ?_ | refine blk_alloc ?_ _)); exact BK151.out) NB151_0.out (by simp))
                              have n3_ := Aside0.mk (Kd.R_mono (Kd.R_keep (IsS94.apart (show IsS94 w0 _ g s0_0 t171 from by repeat (first | (with_reducible first | exact HI0.out | apply IsS94.alloc | apply IsS94.drewN | apply IsS94.drew | apply IsS94.set_1 | refine IsS94.far ?_ NB0_142.out _ | refine IsS94.far ?_ NB0_151.out _) | exact HI0.out)) (by (with_reducible repeat (first | apply Kd.R_alloc | apply Kd.R_drewN | apply Kd.R_drew)); exact HO156.out) (by decide)) hk (fun _ h => h.2)) (fun _ h => h.1))
                              have n4_ := Aside0.mk (Kd.R_mono (Kd.R_keep (IsS94.apart (show IsS94 w0 _ g s0_0 t171 from by repeat (first | (with_reducible first | exact HI0.out | apply IsS94.alloc | apply IsS94.drewN | apply IsS94.drew | apply IsS94.set_1 | refine IsS94.far ?_ NB0_142.out _ | refine IsS94.far ?_ NB0_151.out _) | exact HI0.out)) (by (with_reducible repeat (first | apply Kd.R_alloc | apply Kd.R_drewN | apply Kd.R_drew)); exact HO162.out) (by decide)) hk (fun _ h => h.2)) (fun _ h => h.1))
                              have n5_ := Aside0.mk (Kd.R_mono (Kd.R_keep (IsS94.apart (show IsS94 w0 _ g s0_0 t171 from by repeat (first | (with_reducible first | exact HI0.out | apply IsS94.alloc | apply IsS94.drewN | apply IsS94.drew | apply IsS94.set_1 | refine IsS94.far ?_ NB0_142.out _ | refine IsS94.far ?_ NB0_151.out _) | exact HI0.out)) (by (with_reducible repeat (first | apply Kd.R_alloc | apply Kd.R_drewN | apply Kd.R_drew)); exact HO180.out) (by decide)) hk (fun _ h => h.2)) (fun _ h => h.1))
                              have n6_ := Aside0.mk (KeepBut.trans (by repeat (first | (with_reducible first | exact HK.out | apply KeepBut.set_ | apply keep_drewN | apply keep_drew | apply keep_alloc | refine keep_far ?_ GW142.out _ | refine keep_far ?_ GW151.out _) | exact HK.out)) hk (.inl rfl))
                              have n7_ := Aside0.mk (hb)
                              have n8_ := Aside0.mk (hi)
                              clear BK142
                              clear HO147
                              clear BK151
                              clear HO156
                              clear HO162
                              clear HO180
                              clear HK
                              clear HB
                              clear HI0
                              have BK142 := n0_
                              have HO147 := n1_
                              have BK151 := n2_
                              have HO156 := n3_
                              have HO162 := n4_
                              have HO180 := n5_
                              have HK := n6_
                              have HB := n7_
                              have HI0 := n8_
                              clear n0_ n1_ n2_ n3_ n4_ n5_ n6_ n7_ n8_
                              (try clear hb)
                              (try clear hb2)
                              (try clear hk)
                              (try clear hi)
                              refine hK.out _ _ ⟨(blk_cell BK151.out 0).trans rfl, (blk_cell BK151.out 1).trans rfl, (blk_cell BK151.out 2).trans rfl⟩ (fun hHeld => ?_)
                              clear hK K
                              refine norm_ (a' := ?_) ?_ ?_
                              rotate_left
                              · show Act.put _ (some 81) _ = _
                                simp only [Act.put, List.setIfInBounds_toArray, List.set_cons_zero, List.set_cons_succ, i64_w, i32_w]
                                rfl
                              exact norm_ (by simp only [putAll, Act.put, List.setIfInBounds_toArray, List.set_cons_zero, List.set_cons_succ]) (hCont (.slice (some ado75) y178.length co75, ado75) _ ⟨hHeld, (by (with_reducible repeat (first | apply Kd.R_alloc | apply Kd.R_drewN | apply Kd.R_drew)); exact Kd.R_mono HO147.out (fun _ hk => ⟨hk.1.1, ⟨hk.1.2, hk.2⟩⟩)), (by (with_reducible repeat (first | apply Kd.R_alloc | apply Kd.R_drewN | apply Kd.R_drew)); exact Kd.R_mono HO156.out (fun _ hk => ⟨hk.1.1, ⟨hk.1.2, hk.2⟩⟩)), (by (with_reducible repeat (first | apply Kd.R_alloc | apply Kd.R_drewN | apply Kd.R_drew)); exact Kd.R_mono HO162.out (fun _ hk => ⟨hk.1.1, ⟨hk.1.2, hk.2⟩⟩)), (by (with_reducible repeat (first | apply Kd.R_alloc | apply Kd.R_drewN | apply Kd.R_drew)); exact Kd.R_mono HO180.out (fun _ hk => ⟨hk.1.1.2, ⟨hk.1.2, hk.2⟩⟩)), ⟨_, rfl⟩, (by (with_reducible repeat (first | refine blk_drewN ?_ _ | refine blk_drew ?_ | refine blk_alloc ?_ _)); exact BK142.out), (by (with_reducible repeat (first | refine blk_drewN ?_ _ | refine blk_drew ?_ | refine blk_alloc ?_ _)); exact BK151.out), (by repeat (first | (with_reducible first | exact HI0.out | apply IsS94.alloc | apply IsS94.drewN | apply IsS94.drew | apply IsS94.set_1 | refine IsS94.far ?_ NB0_142.out _ | refine IsS94.far ?_ NB0_151.out _) | exact HI0.out)), (by repeat (first | (with_reducible first | exact HK.out | apply KeepBut.set_ | apply keep_drewN | apply keep_drew | apply keep_alloc | refine keep_far ?_ GW142.out _ | refine keep_far ?_ GW151.out _) | exact HK.out)), (by repeat (first | (with_reducible first | exact HB.out | apply below_alloc | apply pw_below_drewN | apply below_drew1 | refine below_set ?_ (IsS94.ge HI0.out) | refine below_set ?_ GE142.out | refine below_set ?_ GE151.out) | exact HB.out))⟩)
                            · skip
                              refine goes_ Try.func61 (by kernel_rfl) rfl #[.pointer (some ⟨g, 0, none⟩), .int .i64 3] (by rfl) rfl rfl (by (try simp only [List.map_toArray, List.map_cons, List.map_nil]); first | done | rfl | (simp only [List.length_drop, List.length_take]; rfl)) ?_
                              with_reducible refine (spec_l20Rd_pick.calls k g s0_0 t171 3 t181 t182 w0 _ ?side1 ?side2 A68.out).mono ?_
                              (case side1 => repeat (first | (with_reducible first | exact HI0.out | apply IsS94.alloc | apply IsS94.drewN | apply IsS94.drew | apply IsS94.set_1 | refine IsS94.far ?_ NB0_142.out _ | refine IsS94.far ?_ NB0_151.out _) | exact HI0.out))
                              (case side2 => repeat (first | (with_reducible first | exact HB.out | apply below_alloc | apply pw_below_drewN | apply below_drew1 | refine below_set ?_ (IsS94.ge HI0.out) | refine below_set ?_ GE142.out | refine below_set ?_ GE151.out) | exact HB.out))
                              rintro e w73 ⟨rfl, hi, hb, hk⟩
                              refine ⟨_, rfl, ?_⟩
                              have n0_ := Aside0.mk (KeepBut.blk hk (g' := gb142) (o := .cells #[.int .i64 0, .int .i64 0, .int .i64 0] 56 (0, 0)) (by (with_reducible repeat (first | refine blk_drewN ?_ _ | refine blk_drew ?_ | refine blk_alloc ?_ _)); exact BK142.out) NB142_0.out (by simp))
                              have n1_ := Aside0.mk (Kd.R_mono (Kd.R_keep (IsS94.apart (show IsS94 w0 _ g s0_0 t171 from by repeat (first | (with_reducible first | exact HI0.out | apply IsS94.alloc | apply IsS94.drewN | apply IsS94.drew | apply IsS94.set_1 | refine IsS94.far ?_ NB0_142.out _ | refine IsS94.far ?_ NB0_151.out _) | exact HI0.out)) (by (with_reducible repeat (first | apply Kd.R_alloc | apply Kd.R_drewN | apply Kd.R_drew)); exact HO147.out) (by decide)) hk (fun _ h => h.2)) (fun _ h => h.1))
                              have n2_ := Aside0.mk (KeepBut.blk hk (g' := gb151) (o := .cells #[.int .i64 (wrap64 (1 + t166)), .int .i64 (rd y154 t157), .int .i64 (rd y145 t148)] 56 (0, 0)) (by (with_reducible repeat (first | refine blk_drewN ?_ _ | refine blk_drew ?_ | refine blk_alloc ?_ _)); exact BK151.out) NB151_0.out (by simp))
                              have n3_ := Aside0.mk (Kd.R_mono (Kd.R_keep (IsS94.apart (show IsS94 w0 _ g s0_0 t171 from by repeat (first | (with_reducible first | exact HI0.out | apply IsS94.alloc | apply IsS94.drewN | apply IsS94.drew | apply IsS94.set_1 | refine IsS94.far ?_ NB0_142.out _ | refine IsS94.far ?_ NB0_151.out _) | exact HI0.out)) (by (with_reducible repeat (first | apply Kd.R_alloc | apply Kd.R_drewN | apply Kd.R_drew)); exact HO156.out) (by decide)) hk (fun _ h => h.2)) (fun _ h => h.1))
                              have n4_ := Aside0.mk (Kd.R_mono (Kd.R_keep (IsS94.apart (show IsS94 w0 _ g s0_0 t171 from by repeat (first | (with_reducible first | exact HI0.out | apply IsS94.alloc | apply IsS94.drewN | apply IsS94.drew | apply IsS94.set_1 | refine IsS94.far ?_ NB0_142.out _ | refine IsS94.far ?_ NB0_151.out _) | exact HI0.out)) (by (with_reducible repeat (first | apply Kd.R_alloc | apply Kd.R_drewN | apply Kd.R_drew)); exact HO162.out) (by decide)) hk (fun _ h => h.2)) (fun _ h => h.1))
                              have n5_ := Aside0.mk (KeepBut.trans (by repeat (first | (with_reducible first | exact HK.out | apply KeepBut.set_ | apply keep_drewN | apply keep_drew | apply keep_alloc | refine keep_far ?_ GW142.out _ | refine keep_far ?_ GW151.out _) | exact HK.out)) hk (.inl rfl))
                              have n6_ := Aside0.mk (hb)
                              have n7_ := Aside0.mk (hi)
                              clear BK142
                              clear HO147
                              clear BK151
                              clear HO156
                              clear HO162
                              clear HK
                              clear HB
                              clear HI0
                              have BK142 := n0_
                              have HO147 := n1_
                              have BK151 := n2_
                              have HO156 := n3_
                              have HO162 := n4_
                              have HK := n5_
                              have HB := n6_
                              have HI0 := n7_
                              clear n0_ n1_ n2_ n3_ n4_ n5_ n6_ n7_
                              (try clear hb)
                              (try clear hb2)
                              (try clear hk)
                              (try clear hi)
                              refine hK.out _ _ ⟨(blk_cell BK151.out 0).trans rfl, (blk_cell BK151.out 1).trans rfl, (blk_cell BK151.out 2).trans rfl⟩ (fun hHeld => ?_)
                              clear hK K
                              refine norm_ (a' := ?_) ?_ ?_
                              rotate_left
                              · show Act.put _ (some 81) _ = _
                                simp only [Act.put, List.setIfInBounds_toArray, List.set_cons_zero, List.set_cons_succ, i64_w, i32_w]
                                rfl
                              refine one_ (i := 3) (N := some 79) #[true, true, true, true, true, true, false, false, false, false] rfl rfl (one_of HT_.out (by kernel_rfl)) (by decide) (fun K hK => ?_)
                              refine Kd.R_lit_step (Kd.int .i64) _ 3 ?hg (N := 79) ?hd (xs := ([0, wrap64 ((rd y145 t148) + 1), (-1)] : List Int)) (inner := [.int .i64 0, .int .i64 (wrap64 ((rd y145 t148) + 1)), .int .i64 (-1)]) (ok := fun _ => True) (okp := fun _ => True) ?hr ?hp (fun _ hk => hk) trivial (Below.refl _ _) (Nat.le_refl _) (by simp) ?_; (case hd => rfl); (case hg => rfl); (case hr => first | (go_simp; done) | (go_simp; rfl)); (case hp => exact (Reps.one (show Kd.M (Kd.int .i64) _ _ _ 0 [.int .i64 0] from rfl) (Reps.one (show Kd.M (Kd.int .i64) _ _ _ (wrap64 ((rd y145 t148) + 1)) [.int .i64 (wrap64 ((rd y145 t148) + 1))] from rfl) (Reps.one (show Kd.M (Kd.int .i64) _ _ _ (-1) [.int .i64 (-1)] from rfl) (Reps.none _ _)))))
                              intro v179 w74 ho75 hb hg_ hnew_
                              clear hg_ hnew_
                              (first | rw [← Ny178.out] at ho75 | (simp only [Int.reduceToNat] at ho75; rw [← Ny178.out] at ho75))
                              have n0_ := Aside0.mk (Kd.R_elder' (by (with_reducible repeat (first | apply Kd.R_alloc | apply Kd.R_drewN | apply Kd.R_drew)); exact HO147.out) (Kd.R_base ho75) hb)
                              have n1_ := Aside0.mk (Kd.R_elder' (by (with_reducible repeat (first | apply Kd.R_alloc | apply Kd.R_drewN | apply Kd.R_drew)); exact HO156.out) (Kd.R_base ho75) hb)
                              have n2_ := Aside0.mk (Kd.R_elder' (by (with_reducible repeat (first | apply Kd.R_alloc | apply Kd.R_drewN | apply Kd.R_drew)); exact HO162.out) (Kd.R_base ho75) hb)
                              have n3_ := Aside0.mk (Kd.R_lower (Kd.R_new' (Kd.R_new' (Kd.R_new' ho75 (Kd.R_lt (by (with_reducible repeat (first | apply Kd.R_alloc | apply Kd.R_drewN | apply Kd.R_drew)); exact HO147.out))) (Kd.R_lt (by (with_reducible repeat (first | apply Kd.R_alloc | apply Kd.R_drewN | apply Kd.R_drew)); exact HO156.out))) (Kd.R_lt (by (with_reducible repeat (first | apply Kd.R_alloc | apply Kd.R_drewN | apply Kd.R_drew)); exact HO162.out))) (keep_size (w := w) (g := g) (row := none) (by repeat (first | (with_reducible first | exact HK.out | apply KeepBut.set_ | apply keep_drewN | apply keep_drew | apply keep_alloc | refine keep_far ?_ GW142.out _ | refine keep_far ?_ GW151.out _) | exact HK.out))))
                              have n4_ := Aside0.mk (IsS94.below (by repeat (first | (with_reducible first | exact HI0.out | apply IsS94.alloc | apply IsS94.drewN | apply IsS94.drew | apply IsS94.set_1 | refine IsS94.far ?_ NB0_142.out _ | refine IsS94.far ?_ NB0_151.out _) | exact HI0.out)) hb)
                              have n5_ := Aside0.mk (blk_below (g := gb142) (o := .cells #[.int .i64 0, .int .i64 0, .int .i64 0] 56 (0, 0)) (by (with_reducible repeat (first | refine blk_drewN ?_ _ | refine blk_drew ?_ | refine blk_alloc ?_ _)); exact BK142.out) hb)
                              have n6_ := Aside0.mk (blk_below (g := gb151) (o := .cells #[.int .i64 (wrap64 (1 + t166)), .int .i64 (rd y154 t157), .int .i64 (rd y145 t148)] 56 (0, 0)) (by (with_reducible repeat (first | refine blk_drewN ?_ _ | refine blk_drew ?_ | refine blk_alloc ?_ _)); exact BK151.out) hb)
                              have n7_ := Aside0.mk (KeepBut.trans (by repeat (first | (with_reducible first | exact HK.out | apply KeepBut.set_ | apply keep_drewN | apply keep_drew | apply keep_alloc | refine keep_far ?_ GW142.out _ | refine keep_far ?_ GW151.out _) | exact HK.out)) (KeepBut.of_below hb g none) (.inl rfl))
                              have n8_ := Aside0.mk (below_step (by repeat (first | (with_reducible first | exact HB.out | apply below_alloc | apply pw_below_drewN | apply below_drew1 | refine below_set ?_ (IsS94.ge HI0.out) | refine below_set ?_ GE142.out | refine below_set ?_ GE151.out) | exact HB.out)) hb)
                              clear HO147
                              clear HO156
                              clear HO162
                              clear HI0
                              clear BK142
                              clear BK151
                              clear HK
                              clear HB
                              have HO147 := n0_
                              have HO156 := n1_
                              have HO162 := n2_
                              have HO180 := n3_
                              have HI0 := n4_
                              have BK142 := n5_
                              have BK151 := n6_
                              have HK := n7_
                              have HB := n8_
                              clear n0_ n1_ n2_ n3_ n4_ n5_ n6_ n7_ n8_
                              clear hb ho75
                              obtain ⟨Ao76, co76, eo76⟩ := Kd.R_slice HO180.out
                              subst eo76
                              obtain ⟨ado76, fo76, _⟩ := Kd.at_int (Kd.R_reads' HO180.out).2.2 0 (by decide) (by rw [Ny178.out]; simp)
                              cases fo76
                              refine hK.out _ _ ⟨(blk_cell BK151.out 0).trans rfl, (blk_cell BK151.out 1).trans rfl, (blk_cell BK151.out 2).trans rfl⟩ (fun hHeld => ?_)
                              clear hK K
                              refine norm_ (a' := ?_) ?_ ?_
                              rotate_left
                              · show Act.put _ (some 79) _ = _
                                simp only [Act.put, List.setIfInBounds_toArray, List.set_cons_zero, List.set_cons_succ, i64_w, i32_w]
                                rfl
                              exact norm_ (by simp only [putAll, Act.put, List.setIfInBounds_toArray, List.set_cons_zero, List.set_cons_succ]) (hCont (.slice (some ado76) y178.length co76, ado76) _ ⟨hHeld, (by (with_reducible repeat (first | apply Kd.R_alloc | apply Kd.R_drewN | apply Kd.R_drew)); exact Kd.R_mono HO147.out (fun _ hk => ⟨hk.1.1, ⟨hk.1.2, hk.2⟩⟩)), (by (with_reducible repeat (first | apply Kd.R_alloc | apply Kd.R_drewN | apply Kd.R_drew)); exact Kd.R_mono HO156.out (fun _ hk => ⟨hk.1.1, ⟨hk.1.2, hk.2⟩⟩)), (by (with_reducible repeat (first | apply Kd.R_alloc | apply Kd.R_drewN | apply Kd.R_drew)); exact Kd.R_mono HO162.out (fun _ hk => ⟨hk.1.1, ⟨hk.1.2, hk.2⟩⟩)), (by (with_reducible repeat (first | apply Kd.R_alloc | apply Kd.R_drewN | apply Kd.R_drew)); exact Kd.R_mono HO180.out (fun _ hk => ⟨hk.1.1.2, ⟨hk.1.2, hk.2⟩⟩)), ⟨_, rfl⟩, (by (with_reducible repeat (first | refine blk_drewN ?_ _ | refine blk_drew ?_ | refine blk_alloc ?_ _)); exact BK142.out), (by (with_reducible repeat (first | refine blk_drewN ?_ _ | refine blk_drew ?_ | refine blk_alloc ?_ _)); exact BK151.out), (by repeat (first | (with_reducible first | exact HI0.out | apply IsS94.alloc | apply IsS94.drewN | apply IsS94.drew | apply IsS94.set_1 | refine IsS94.far ?_ NB0_142.out _ | refine IsS94.far ?_ NB0_151.out _) | exact HI0.out)), (by repeat (first | (with_reducible first | exact HK.out | apply KeepBut.set_ | apply keep_drewN | apply keep_drew | apply keep_alloc | refine keep_far ?_ GW142.out _ | refine keep_far ?_ GW151.out _) | exact HK.out)), (by repeat (first | (with_reducible first | exact HB.out | apply below_alloc | apply pw_below_drewN | apply below_drew1 | refine below_set ?_ (IsS94.ge HI0.out) | refine below_set ?_ GE142.out | refine below_set ?_ GE151.out) | exact HB.out))⟩)
                          rintro ⟨v179, adz_v179⟩ w77 ⟨hS_, h0_, h1_, h2_, h3_, h4_, h5_, h6_, h7_, h8_, h9_⟩
                          have n0_ : Aside0 (Kd.R (Kd.int .i64) 3 w77 w.heap.size (fun k_ => some k_ ≠ (.slice (some adz_v155) y154.length co39 : Value).ownBlock ∧ some k_ ≠ (.slice (some adz_v161) y160.length co48 : Value).ownBlock ∧ some k_ ≠ (v179 : Value).ownBlock) (.slice (some ad150) y145.length co26) y145) := ⟨h0_⟩
                          have n1_ : Aside0 (Kd.R (Kd.int .i64) 3 w77 w.heap.size (fun k_ => some k_ ≠ (.slice (some ad150) y145.length co26 : Value).ownBlock ∧ some k_ ≠ (.slice (some adz_v161) y160.length co48 : Value).ownBlock ∧ some k_ ≠ (v179 : Value).ownBlock) (.slice (some adz_v155) y154.length co39) y154) := ⟨h1_⟩
                          have n2_ : Aside0 (Kd.R (Kd.int .i64) 3 w77 w.heap.size (fun k_ => some k_ ≠ (.slice (some ad150) y145.length co26 : Value).ownBlock ∧ some k_ ≠ (.slice (some adz_v155) y154.length co39 : Value).ownBlock ∧ some k_ ≠ (v179 : Value).ownBlock) (.slice (some adz_v161) y160.length co48) y160) := ⟨h2_⟩
                          have n3_ : Aside0 (Kd.R (Kd.int .i64) 3 w77 w.heap.size (fun k_ => some k_ ≠ (.slice (some ad150) y145.length co26 : Value).ownBlock ∧ some k_ ≠ (.slice (some adz_v155) y154.length co39 : Value).ownBlock ∧ some k_ ≠ (.slice (some adz_v161) y160.length co48 : Value).ownBlock) v179 y178) := ⟨h3_⟩
                          have n4_ : Aside0 (∃ c_, (v179 : Value) = .slice (some adz_v179) y178.length c_) := ⟨h4_⟩
                          have n5_ : Aside0 (w77.heap[gb142]? = some (.cells #[.int .i64 0, .int .i64 0, .int .i64 0] 56 (0, 0))) := ⟨h5_⟩
                          have n6_ : Aside0 (w77.heap[gb151]? = some (.cells #[.int .i64 (wrap64 (1 + t166)), .int .i64 (rd y154 t157), .int .i64 (rd y145 t148)] 56 (0, 0))) := ⟨h6_⟩
                          have n7_ : Aside0 (IsS94 w0 w77 g s0_0 t182) := ⟨h7_⟩
                          have n8_ : Aside0 (KeepBut w w77 g none) := ⟨h8_⟩
                          have n9_ : Aside0 (Below w0.heap.size w0 w77) := ⟨h9_⟩
                          clear HO147
                          clear HO156
                          clear HO162
                          clear BK142
                          clear BK151
                          clear HI0
                          clear HK
                          clear HB
                          clear h0_ h1_ h2_ h3_ h4_ h5_ h6_ h7_ h8_ h9_
                          have HO147 := n0_
                          have HO156 := n1_
                          have HO162 := n2_
                          have HO180 := n3_
                          have HA_HO180 := n4_
                          have BK142 := n5_
                          have BK151 := n6_
                          have HI0 := n7_
                          have HK := n8_
                          have HB := n9_
                          clear n0_ n1_ n2_ n3_ n4_ n5_ n6_ n7_ n8_ n9_
                          have hHeld : w77.cell? ⟨gb151, 0, none⟩ = some (.int .i64 (wrap64 (1 + t166))) ∧ w77.cell? ⟨gb151, 1, none⟩ = some (.int .i64 (rd y154 t157)) ∧ w77.cell? ⟨gb151, 2, none⟩ = some (.int .i64 (rd y145 t148)) := hS_
                          obtain ⟨co78, eo78⟩ := HA_HO180.out
                          clear HA_HO180
                          subst eo78
                          refine norm_ (a' := ?_) ?_ ?_
                          rotate_left
                          · simp only [putAll, Act.put, List.setIfInBounds_toArray, List.set_cons_zero, List.set_cons_succ]
                            rfl
                          refine pure_ (i := 6) (N := some 82) (v := ?_) (a' := ?_) #[true, true, true, true, true, true, true, false, false, false] rfl rfl (any_of HT_.out (by kernel_rfl)) (fun _ _ _ h => h) (Or.inl ⟨by rfl, ?_⟩) ?_ ?_
                          rotate_left
                          · intro w'
                            go_simp
                            with_reducible rfl
                          rotate_left
                          · simp only [Act.put, List.setIfInBounds_toArray, List.set_cons_zero, List.set_cons_succ, i64_w, i32_w]
                            rfl
                          refine one_ (i := 7) (N := some 83) #[true, true, true, true, true, true, true, true, false, false] rfl rfl (one_of HT_.out (by kernel_rfl)) (by decide) (fun K hK => ?_)
                          (have p183 : 0 ≤ (t181 : Int) := of_decide_eq_true (by first | (with_reducible assumption) | assumption); have q183 : t181 < (y178.length : Int) := of_decide_eq_true (by first | (with_reducible assumption) | assumption); obtain ⟨ad183, e183, hx183_0⟩ := Kd.at_int (Kd.R_reads' HO180.out).2.2 t181 p183 q183; obtain rfl : adz_v179 = ad183 := (by injection e183))
                          refine value_ (w1 := ?_) (v := ?_) (by rfl) rfl ?_ ?_
                          rotate_left 2
                          · go_simp
                            constructor
                            · rfl
                            · rfl
                          clear hx183_0
                          refine hK.out _ _ ⟨(blk_cell BK151.out 0).trans rfl, (blk_cell BK151.out 1).trans rfl, (blk_cell BK151.out 2).trans rfl⟩ (fun hHeld => ?_)
                          clear hK K
                          refine norm_ (a' := ?_) ?_ ?_
                          rotate_left
                          · show Act.put _ (some 83) _ = _
                            simp only [Act.put, List.setIfInBounds_toArray, List.set_cons_zero, List.set_cons_succ, i64_w, i32_w]
                            rfl
                          refine pure_ (i := 8) (N := some 84) (v := ?_) (a' := ?_) #[true, true, true, true, true, true, true, true, true, false] rfl rfl (any_of HT_.out (by kernel_rfl)) (fun _ _ _ h => h) (Or.inl ⟨by rfl, ?_⟩) ?_ ?_
                          rotate_left
                          · intro w'
                            go_simp
                            with_reducible rfl
                          rotate_left
                          · simp only [Act.put, List.setIfInBounds_toArray, List.set_cons_zero, List.set_cons_succ, i64_w, i32_w]
                            rfl
                          refine last_ (i := 9) (N := none) #[true, true, true, true, true, true, true, true, true, true] rfl rfl (one_of HT_.out (by kernel_rfl)) (by decide) (fun K hK => ?_)
                          have hs79 : w77.cell? ⟨gb151, 1, none⟩ = some (.int .i64 (rd y154 t157)) := (blk_cell BK151.out 1).trans rfl
                          have hfs79 := blk_frozen BK151.out 1
                          have hns79_0 := NB142_151.out
                          have hms79_0 := NB151_142.out
                          refine skip_ (w1 := ?_) (by rfl) rfl ?_ ?_
                          rotate_left
                          · go_simp
                            rfl
                          refine hK.out _ _ ?_
                          clear hK K
                          refine done_ (done_of HT_.out (by kernel_rfl)) ?_
                          try go_wp2
                          go_meet
                          case rel => exact ⟨_, (t182), (wrap64 (1 + t166)), (rd y178 t181), (rd y145 t148), H', ⟨by first | omega | exact Nat.le_refl _⟩, ⟨by (with_reducible repeat (first | refine blk_drewN ?_ _ | refine blk_drew ?_ | refine blk_alloc ?_ _)); refine blk_far ?_ NB142_151.out _; (with_reducible repeat (first | refine blk_drewN ?_ _ | refine blk_drew ?_ | refine blk_alloc ?_ _)); exact BK142.out⟩, ⟨by (with_reducible repeat (first | refine blk_drewN ?_ _ | refine blk_drew ?_ | refine blk_alloc ?_ _)); refine blk_put (cs := #[.int .i64 (wrap64 (1 + t166)), .int .i64 (rd y154 t157), .int .i64 (rd y145 t148)]) ?_ 1 _ rfl; (with_reducible repeat (first | refine blk_drewN ?_ _ | refine blk_drew ?_ | refine blk_alloc ?_ _)); exact BK151.out⟩, ⟨by repeat (first | (with_reducible first | exact HI0.out | apply IsS94.alloc | apply IsS94.drewN | apply IsS94.drew | apply IsS94.set_1 | refine IsS94.far ?_ NB0_142.out _ | refine IsS94.far ?_ NB0_151.out _) | exact HI0.out)⟩, ⟨by repeat (first | (with_reducible first | exact HK.out | apply KeepBut.set_ | apply keep_drewN | apply keep_drew | apply keep_alloc | refine keep_far ?_ GW142.out _ | refine keep_far ?_ GW151.out _) | exact HK.out)⟩, ⟨by repeat (first | (with_reducible first | exact HB.out | apply below_alloc | apply pw_below_drewN | apply below_drew1 | refine below_set ?_ (IsS94.ge HI0.out) | refine below_set ?_ GE142.out | refine below_set ?_ GE151.out) | exact HB.out)⟩⟩
                        · rw [if_neg c70] at H
                          exact absurd H (by simp)
                      · rw [if_neg c69] at H
                        exact absurd H (by simp)
                    · rw [if_neg c67] at H
                      have c67b0 : (t170 == 1) = false := beq_eq_false_iff_ne.mpr c67
                      have c67b1 : (t170 != 1) = true := bne_iff_ne.mpr c67
                      obtain ⟨y184, hy184⟩ : ∃ y_ : List Int, y_ = (([0, 13, (-1)] : List Int)) := ⟨_, rfl⟩
                      replace H : ((spec_l20Rd_pick.f k s0_0 t171 3).bind fun bt187 => (if 0 ≤ bt187.1 then (if bt187.1 < (y184.length : Int) then (spec_l20Task.j0 k s0_0 bt187.2 (wrap64 (1 + t166)) (rd y154 t157) (rd y184 bt187.1)) else (none)) else (none))) = some (r1, r2, r3, r4) := by first | (rw [hy184]; with_reducible exact H) | (have H2_ := (Option.bind_some _ _).symm.trans H; rw [hy184]; with_reducible exact H2_) | (have H2_ := (Option.bind_some _ _).symm.trans H; with_reducible exact H2_) | with_reducible exact H | (rw [hy184]; exact H) | exact H
                      have Ny184 := Aside0.mk hy184
                      clear hy184
                      replace H := Option.bind_eq_some_iff.mp H
                      obtain ⟨⟨t187, t188⟩, A800, H⟩ := H
                      replace H : (if 0 ≤ t187 then (if t187 < (y184.length : Int) then (spec_l20Task.j0 k s0_0 t188 (wrap64 (1 + t166)) (rd y154 t157) (rd y184 t187)) else (none)) else (none)) = some (r1, r2, r3, r4) := H
                      have A80 := Aside0.mk A800
                      clear A800
                      by_cases c81 : 0 ≤ t187
                      · rw [if_pos c81] at H
                        have c81b0 : decide (0 ≤ t187) = true := decide_eq_true c81
                        clear c81
                        by_cases c82 : t187 < (y184.length : Int)
                        · rw [if_pos c82] at H
                          have c82b0 : decide (t187 < (y184.length : Int)) = true := decide_eq_true c82
                          clear c82
                          have H' := Aside0.mk H
                          clear H
                          go_wp2_with (first | ((with_reducible refine gate_callee (f := 61) rfl ?_); refine goesL_ (some 56) rfl rfl Try.func61 (by kernel_rfl) rfl #[.pointer (some ⟨g, 0, none⟩), .int .i64 3] rfl (by (try simp only [List.map_toArray, List.map_cons, List.map_nil]); first | done | rfl | (simp only [List.length_drop, List.length_take]; rfl)) ?_; (with_reducible refine (spec_l20Rd_pick.calls k g s0_0 t169 3 t170 t171 w0 _ ?side1 ?side2 A53.out).mono ?_); (case side1 => repeat (first | (with_reducible first | exact HI0.out | apply IsS94.alloc | apply IsS94.drewN | apply IsS94.drew | apply IsS94.set_1 | refine IsS94.far ?_ NB0_142.out _ | refine IsS94.far ?_ NB0_151.out _) | exact HI0.out)); (case side2 => repeat (first | (with_reducible first | exact HB.out | apply below_alloc | apply pw_below_drewN | apply below_drew1 | refine below_set ?_ (IsS94.ge HI0.out) | refine below_set ?_ GE142.out | refine below_set ?_ GE151.out) | exact HB.out)); rintro e w83 ⟨rfl, hi, hb, hk⟩; refine ⟨_, rfl, ?_⟩; have n0_ := Aside0.mk (KeepBut.blk hk (g' := gb142) (o := .cells #[.int .i64 0, .int .i64 0, .int .i64 0] 56 (0, 0)) (by (with_reducible repeat (first | refine blk_drewN ?_ _ | refine blk_drew ?_ | refine blk_alloc ?_ _)); exact BK142.out) NB142_0.out (by simp)); have n1_ := Aside0.mk (Kd.R_mono (Kd.R_keep (IsS94.apart (show IsS94 w0 _ g s0_0 t169 from by repeat (first | (with_reducible first | exact HI0.out | apply IsS94.alloc | apply IsS94.drewN | apply IsS94.drew | apply IsS94.set_1 | refine IsS94.far ?_ NB0_142.out _ | refine IsS94.far ?_ NB0_151.out _) | exact HI0.out)) (by (with_reducible repeat (first | apply Kd.R_alloc | apply Kd.R_drewN | apply Kd.R_drew)); exact HO147.out) (by decide)) hk (fun _ h => h.2)) (fun _ h => h.1)); have n2_ := Aside0.mk (KeepBut.blk hk (g' := gb151) (o := .cells #[.int .i64 (wrap64 (1 + t166)), .int .i64 (rd y154 t157), .int .i64 (rd y145 t148)] 56 (0, 0)) (by (with_reducible repeat (first | refine blk_drewN ?_ _ | refine blk_drew ?_ | refine blk_alloc ?_ _)); exact BK151.out) NB151_0.out (by simp)); have n3_ := Aside0.mk (Kd.R_mono (Kd.R_keep (IsS94.apart (show IsS94 w0 _ g s0_0 t169 from by repeat (first | (with_reducible first | exact HI0.out | apply IsS94.alloc | apply IsS94.drewN | apply IsS94.drew | apply IsS94.set_1 | refine IsS94.far ?_ NB0_142.out _ | refine IsS94.far ?_ NB0_151.out _) | exact HI0.out)) (by (with_reducible repeat (first | apply Kd.R_alloc | apply Kd.R_drewN | apply Kd.R_drew)); exact HO156.out) (by decide)) hk (fun _ h => h.2)) (fun _ h => h.1)); have n4_ := Aside0.mk (Kd.R_mono (Kd.R_keep (IsS94.apart (show IsS94 w0 _ g s0_0 t169 from by repeat (first | (with_reducible first | exact HI0.out | apply IsS94.alloc | apply IsS94.drewN | apply IsS94.drew | apply IsS94.set_1 | refine IsS94.far ?_ NB0_142.out _ | refine IsS94.far ?_ NB0_151.out _) | exact HI0.out)) (by (with_reducible repeat (first | apply Kd.R_alloc | apply Kd.R_drewN | apply Kd.R_drew)); exact HO162.out) (by decide)) hk (fun _ h => h.2)) (fun _ h => h.1)); have n5_ := Aside0.mk (KeepBut.trans (by repeat (first | (with_reducible first | exact HK.out | apply KeepBut.set_ | apply keep_drewN | apply keep_drew | apply keep_alloc | refine keep_far ?_ GW142.out _ | refine keep_far ?_ GW151.out _) | exact HK.out)) hk (.inl rfl)); have n6_ := Aside0.mk (hb); have n7_ := Aside0.mk (hi); clear BK142; clear HO147; clear BK151; clear HO156; clear HO162; clear HK; clear HB; clear HI0; have BK142 := n0_; have HO147 := n1_; have BK151 := n2_; have HO156 := n3_; have HO162 := n4_; have HK := n5_; have HB := n6_; have HI0 := n7_; clear n0_ n1_ n2_ n3_ n4_ n5_ n6_ n7_; (try clear hb); (try clear hb2); (try clear hk); (try clear hi)) | ((with_reducible refine gate_dst (N := 57) rfl ?_); refine Kd.R_lit (Kd.int .i64) _ 3 ?hg (N := 57) ?hd (xs := ([0, 13, (-1)] : List Int)) (inner := [.int .i64 0, .int .i64 13, .int .i64 (-1)]) (ok := fun _ => True) (okp := fun _ => True) ?hr ?hp (fun _ hk => hk) trivial (Below.refl _ _) (Nat.le_refl _) (by simp) ?_; (case hd => rfl); (case hg => rfl); (case hr => first | (go_simp; done) | (go_simp; rfl)); (case hp => exact (Reps.one (show Kd.M (Kd.int .i64) _ _ _ 0 [.int .i64 0] from rfl) (Reps.one (show Kd.M (Kd.int .i64) _ _ _ 13 [.int .i64 13] from rfl) (Reps.one (show Kd.M (Kd.int .i64) _ _ _ (-1) [.int .i64 (-1)] from rfl) (Reps.none _ _))))); intro v185 w84 ho85 hb hg_ hnew_; clear hg_ hnew_; (first | rw [← Ny184.out] at ho85 | (simp only [Int.reduceToNat] at ho85; rw [← Ny184.out] at ho85)); have n0_ := Aside0.mk (Kd.R_elder' (by (with_reducible repeat (first | apply Kd.R_alloc | apply Kd.R_drewN | apply Kd.R_drew)); exact HO147.out) (Kd.R_base ho85) hb); have n1_ := Aside0.mk (Kd.R_elder' (by (with_reducible repeat (first | apply Kd.R_alloc | apply Kd.R_drewN | apply Kd.R_drew)); exact HO156.out) (Kd.R_base ho85) hb); have n2_ := Aside0.mk (Kd.R_elder' (by (with_reducible repeat (first | apply Kd.R_alloc | apply Kd.R_drewN | apply Kd.R_drew)); exact HO162.out) (Kd.R_base ho85) hb); have n3_ := Aside0.mk (Kd.R_lower (Kd.R_new' (Kd.R_new' (Kd.R_new' ho85 (Kd.R_lt (by (with_reducible repeat (first | apply Kd.R_alloc | apply Kd.R_drewN | apply Kd.R_drew)); exact HO147.out))) (Kd.R_lt (by (with_reducible repeat (first | apply Kd.R_alloc | apply Kd.R_drewN | apply Kd.R_drew)); exact HO156.out))) (Kd.R_lt (by (with_reducible repeat (first | apply Kd.R_alloc | apply Kd.R_drewN | apply Kd.R_drew)); exact HO162.out))) (keep_size (w := w) (g := g) (row := none) (by repeat (first | (with_reducible first | exact HK.out | apply KeepBut.set_ | apply keep_drewN | apply keep_drew | apply keep_alloc | refine keep_far ?_ GW142.out _ | refine keep_far ?_ GW151.out _) | exact HK.out)))); have n4_ := Aside0.mk (IsS94.below (by repeat (first | (with_reducible first | exact HI0.out | apply IsS94.alloc | apply IsS94.drewN | apply IsS94.drew | apply IsS94.set_1 | refine IsS94.far ?_ NB0_142.out _ | refine IsS94.far ?_ NB0_151.out _) | exact HI0.out)) hb); have n5_ := Aside0.mk (blk_below (g := gb142) (o := .cells #[.int .i64 0, .int .i64 0, .int .i64 0] 56 (0, 0)) (by (with_reducible repeat (first | refine blk_drewN ?_ _ | refine blk_drew ?_ | refine blk_alloc ?_ _)); exact BK142.out) hb); have n6_ := Aside0.mk (blk_below (g := gb151) (o := .cells #[.int .i64 (wrap64 (1 + t166)), .int .i64 (rd y154 t157), .int .i64 (rd y145 t148)] 56 (0, 0)) (by (with_reducible repeat (first | refine blk_drewN ?_ _ | refine blk_drew ?_ | refine blk_alloc ?_ _)); exact BK151.out) hb); have n7_ := Aside0.mk (KeepBut.trans (by repeat (first | (with_reducible first | exact HK.out | apply KeepBut.set_ | apply keep_drewN | apply keep_drew | apply keep_alloc | refine keep_far ?_ GW142.out _ | refine keep_far ?_ GW151.out _) | exact HK.out)) (KeepBut.of_below hb g none) (.inl rfl)); have n8_ := Aside0.mk (below_step (by repeat (first | (with_reducible first | exact HB.out | apply below_alloc | apply pw_below_drewN | apply below_drew1 | refine below_set ?_ (IsS94.ge HI0.out) | refine below_set ?_ GE142.out | refine below_set ?_ GE151.out) | exact HB.out)) hb); clear HO147; clear HO156; clear HO162; clear HI0; clear BK142; clear BK151; clear HK; clear HB; have HO147 := n0_; have HO156 := n1_; have HO162 := n2_; have HO186 := n3_; have HI0 := n4_; have BK142 := n5_; have BK151 := n6_; have HK := n7_; have HB := n8_; clear n0_ n1_ n2_ n3_ n4_ n5_ n6_ n7_ n8_; clear hb ho85) | ((with_reducible refine gate_callee (f := 61) rfl ?_); refine goesL_ (some 59) rfl rfl Try.func61 (by kernel_rfl) rfl #[.pointer (some ⟨g, 0, none⟩), .int .i64 3] rfl (by (try simp only [List.map_toArray, List.map_cons, List.map_nil]); first | done | rfl | (simp only [List.length_drop, List.length_take]; rfl)) ?_; (with_reducible refine (spec_l20Rd_pick.calls k g s0_0 t171 3 t187 t188 w0 _ ?side1 ?side2 A80.out).mono ?_); (case side1 => repeat (first | (with_reducible first | exact HI0.out | apply IsS94.alloc | apply IsS94.drewN | apply IsS94.drew | apply IsS94.set_1 | refine IsS94.far ?_ NB0_142.out _ | refine IsS94.far ?_ NB0_151.out _) | exact HI0.out)); (case side2 => repeat (first | (with_reducible first | exact HB.out | apply below_alloc | apply pw_below_drewN | apply below_drew1 | refine below_set ?_ (IsS94.ge HI0.out) | refine below_set ?_ GE142.out | refine below_set ?_ GE151.out) | exact HB.out)); rintro e w86 ⟨rfl, hi, hb, hk⟩; refine ⟨_, rfl, ?_⟩; have n0_ := Aside0.mk (KeepBut.blk hk (g' := gb142) (o := .cells #[.int .i64 0, .int .i64 0, .int .i64 0] 56 (0, 0)) (by (with_reducible repeat (first | refine blk_drewN ?_ _ | refine blk_drew ?_ | refine blk_alloc ?_ _)); exact BK142.out) NB142_0.out (by simp)); have n1_ := Aside0.mk (Kd.R_mono (Kd.R_keep (IsS94.apart (show IsS94 w0 _ g s0_0 t171 from by repeat (first | (with_reducible first | exact HI0.out | apply IsS94.alloc | apply IsS94.drewN | apply IsS94.drew | apply IsS94.set_1 | refine IsS94.far ?_ NB0_142.out _ | refine IsS94.far ?_ NB0_151.out _) | exact HI0.out)) (by (with_reducible repeat (first | apply Kd.R_alloc | apply Kd.R_drewN | apply Kd.R_drew)); exact HO147.out) (by decide)) hk (fun _ h => h.2)) (fun _ h => h.1)); have n2_ := Aside0.mk (KeepBut.blk hk (g' := gb151) (o := .cells #[.int .i64 (wrap64 (1 + t166)), .int .i64 (rd y154 t157), .int .i64 (rd y145 t148)] 56 (0, 0)) (by (with_reducible repeat (first | refine blk_drewN ?_ _ | refine blk_drew ?_ | refine blk_alloc ?_ _)); exact BK151.out) NB151_0.out (by simp)); have n3_ := Aside0.mk (Kd.R_mono (Kd.R_keep (IsS94.apart (show IsS94 w0 _ g s0_0 t171 from by repeat (first | (with_reducible first | exact HI0.out | apply IsS94.alloc | apply IsS94.drewN | apply IsS94.drew | apply IsS94.set_1 | refine IsS94.far ?_ NB0_142.out _ | refine IsS94.far ?_ NB0_151.out _) | exact HI0.out)) (by (with_reducible repeat (first | apply Kd.R_alloc | apply Kd.R_drewN | apply Kd.R_drew)); exact HO156.out) (by decide)) hk (fun _ h => h.2)) (fun _ h => h.1)); have n4_ := Aside0.mk (Kd.R_mono (Kd.R_keep (IsS94.apart (show IsS94 w0 _ g s0_0 t171 from by repeat (first | (with_reducible first | exact HI0.out | apply IsS94.alloc | apply IsS94.drewN | apply IsS94.drew | apply IsS94.set_1 | refine IsS94.far ?_ NB0_142.out _ | refine IsS94.far ?_ NB0_151.out _) | exact HI0.out)) (by (with_reducible repeat (first | apply Kd.R_alloc | apply Kd.R_drewN | apply Kd.R_drew)); exact HO162.out) (by decide)) hk (fun _ h => h.2)) (fun _ h => h.1)); have n5_ := Aside0.mk (Kd.R_mono (Kd.R_keep (IsS94.apart (show IsS94 w0 _ g s0_0 t171 from by repeat (first | (with_reducible first | exact HI0.out | apply IsS94.alloc | apply IsS94.drewN | apply IsS94.drew | apply IsS94.set_1 | refine IsS94.far ?_ NB0_142.out _ | refine IsS94.far ?_ NB0_151.out _) | exact HI0.out)) (by (with_reducible repeat (first | apply Kd.R_alloc | apply Kd.R_drewN | apply Kd.R_drew)); exact HO186.out) (by decide)) hk (fun _ h => h.2)) (fun _ h => h.1)); have n6_ := Aside0.mk (KeepBut.trans (by repeat (first | (with_reducible first | exact HK.out | apply KeepBut.set_ | apply keep_drewN | apply keep_drew | apply keep_alloc | refine keep_far ?_ GW142.out _ | refine keep_far ?_ GW151.out _) | exact HK.out)) hk (.inl rfl)); have n7_ := Aside0.mk (hb); have n8_ := Aside0.mk (hi); clear BK142; clear HO147; clear BK151; clear HO156; clear HO162; clear HO186; clear HK; clear HB; clear HI0; have BK142 := n0_; have HO147 := n1_; have BK151 := n2_; have HO156 := n3_; have HO162 := n4_; have HO186 := n5_; have HK := n6_; have HB := n7_; have HI0 := n8_; clear n0_ n1_ n2_ n3_ n4_ n5_ n6_ n7_ n8_; (try clear hb); (try clear hb2); (try clear hk); (try clear hi); obtain ⟨Ao87, co87, eo87⟩ := Kd.R_slice HO186.out; subst eo87; have p189 : 0 ≤ (t187 : Int) := of_decide_eq_true (by first | (with_reducible assumption) | assumption); have q189 : t187 < (y184.length : Int) := of_decide_eq_true (by first | (with_reducible assumption) | assumption); obtain ⟨ad189, e189, hx189_0⟩ := Kd.at_int (Kd.R_reads' HO186.out).2.2 t187 p189 q189; cases e189; replace p189 := eq_true p189; replace q189 := eq_true q189; have hnb88 := NB151_142.out; have hnc88 := NB142_151.out; have hnb89 := NB151_0.out; have hnc89 := NB0_151.out; have hcz90_0 : w86.cell? ⟨gb151, 0, none⟩ = some (.int .i64 (wrap64 (1 + t166))) := (blk_cell BK151.out 0).trans rfl; have hcz90_1 : w86.cell? ⟨gb151, 1, none⟩ = some (.int .i64 (rd y154 t157)) := (blk_cell BK151.out 1).trans rfl; have hcz90_2 : w86.cell? ⟨gb151, 2, none⟩ = some (.int .i64 (rd y145 t148)) := (blk_cell BK151.out 2).trans rfl; have hfz90_0 := blk_frozen BK151.out 0; have hfz90_1 := blk_frozen BK151.out 1; have hfz90_2 := blk_frozen BK151.out 2))
                          go_meet
                          case rel => exact ⟨_, (t188), (wrap64 (1 + t166)), (rd y154 t157), (rd y184 t187), H', ⟨by first | omega | exact Nat.le_refl _⟩, ⟨by (with_reducible repeat (first | refine blk_drewN ?_ _ | refine blk_drew ?_ | refine blk_alloc ?_ _)); refine blk_far ?_ NB142_151.out _; (with_reducible repeat (first | refine blk_drewN ?_ _ | refine blk_drew ?_ | refine blk_alloc ?_ _)); exact BK142.out⟩, ⟨by (with_reducible repeat (first | refine blk_drewN ?_ _ | refine blk_drew ?_ | refine blk_alloc ?_ _)); refine blk_put (cs := #[.int .i64 (wrap64 (1 + t166)), .int .i64 (rd y154 t157), .int .i64 (rd y145 t148)]) ?_ 2 _ rfl; (with_reducible repeat (first | refine blk_drewN ?_ _ | refine blk_drew ?_ | refine blk_alloc ?_ _)); exact BK151.out⟩, ⟨by repeat (first | (with_reducible first | exact HI0.out | apply IsS94.alloc | apply IsS94.drewN | apply IsS94.drew | apply IsS94.set_1 | refine IsS94.far ?_ NB0_142.out _ | refine IsS94.far ?_ NB0_151.out _) | exact HI0.out)⟩, ⟨by repeat (first | (with_reducible first | exact HK.out | apply KeepBut.set_ | apply keep_drewN | apply keep_drew | apply keep_alloc | refine keep_far ?_ GW142.out _ | refine keep_far ?_ GW151.out _) | exact HK.out)⟩, ⟨by repeat (first | (with_reducible first | exact HB.out | apply below_alloc | apply pw_below_drewN | apply below_drew1 | refine below_set ?_ (IsS94.ge HI0.out) | refine below_set ?_ GE142.out | refine below_set ?_ GE151.out) | exact HB.out)⟩⟩
                        · rw [if_neg c82] at H
                          exact absurd H (by simp)
                      · rw [if_neg c81] at H
                        exact absurd H (by simp)
                · replace c52 := Bool.eq_false_iff.mpr c52
                  subst c52
                  have H1 : (spec_l20Task.j0 k s0_0 t169 (wrap64 (1 + t166)) (rd y154 t157) (rd y145 t148)) = some (r1, r2, r3, r4) := by rw [if_neg (show ¬ (false = true) by decide)] at H; exact H
                  clear H
                  have H := H1
                  clear H1
                  have H' := Aside0.mk H
                  clear H
                  go_wp2
                  go_meet
                  case rel => exact ⟨_, (t169), (wrap64 (1 + t166)), (rd y154 t157), (rd y145 t148), H', ⟨by first | omega | exact Nat.le_refl _⟩, ⟨by (with_reducible repeat (first | refine blk_drewN ?_ _ | refine blk_drew ?_ | refine blk_alloc ?_ _)); exact BK142.out⟩, ⟨by (with_reducible repeat (first | refine blk_drewN ?_ _ | refine blk_drew ?_ | refine blk_alloc ?_ _)); exact BK151.out⟩, ⟨by repeat (first | (with_reducible first | exact HI0.out | apply IsS94.alloc | apply IsS94.drewN | apply IsS94.drew | apply IsS94.set_1 | refine IsS94.far ?_ NB0_142.out _ | refine IsS94.far ?_ NB0_151.out _) | exact HI0.out)⟩, ⟨by repeat (first | (with_reducible first | exact HK.out | apply KeepBut.set_ | apply keep_drewN | apply keep_drew | apply keep_alloc | refine keep_far ?_ GW142.out _ | refine keep_far ?_ GW151.out _) | exact HK.out)⟩, ⟨by repeat (first | (with_reducible first | exact HB.out | apply below_alloc | apply pw_below_drewN | apply below_drew1 | refine below_set ?_ (IsS94.ge HI0.out) | refine below_set ?_ GE142.out | refine below_set ?_ GE151.out) | exact HB.out)⟩⟩
              case rest =>
                clear HC20
                try clear p1
                try clear q1
                try clear hx1
                try clear qi1
                try clear p2
                try clear c5
                try clear c6
                try clear p6
                try clear c7
                try clear c8
                try clear p17
                try clear q17
                try clear hx17
                try clear p18
                try clear q18
                try clear hx18
                try clear qi18
                try clear c52
                try clear c54
                try clear c54b0
                try clear c54b1
                try clear c56
                try clear c57
                try clear c61
                try clear p64
                try clear c67
                try clear c67b0
                try clear c67b1
                try clear c69
                try clear c69b0
                try clear c70
                try clear c70b0
                try clear c81
                try clear c81b0
                try clear c82
                try clear c82b0
                try clear c88
                try clear c89
                try clear hcz90_0
                try clear hcz90_1
                try clear hcz90_2
                try clear hfz90_0
                try clear hfz90_1
                try clear hfz90_2
                try clear hx177_0
                try clear hx183_0
                try clear hx189_0
                try clear p177
                try clear p183
                try clear p189
                try clear q177
                try clear q183
                try clear q189
                obtain ⟨kq, x1001_19, x152000_19, x152001_19, x152002_19, HA, HJ19, BK142, BK151, HI0, HK, HB⟩ := hcut
                cases kq with
                | zero => exact absurd HA.out (by simp [spec_l20Task.j0])
                | succ kj19 =>
                  have H := HA.out
                  clear HA
                  simp only [spec_l20Task.j0] at H
                  simp only [Option.some.injEq, Prod.mk.injEq] at H
                  obtain ⟨rfl, rfl, rfl, rfl⟩ := H
                  have hnb91 := NB151_142.out
                  have hnc91 := NB142_151.out
                  have hnb92 := NB151_0.out
                  have hnc92 := NB0_151.out
                  have hcz93_0 : wc.cell? ⟨gb151, 0, none⟩ = some (.int .i64 x152000_19) := (blk_cell BK151.out 0).trans rfl
                  have hcz93_1 : wc.cell? ⟨gb151, 1, none⟩ = some (.int .i64 x152001_19) := (blk_cell BK151.out 1).trans rfl
                  have hcz93_2 : wc.cell? ⟨gb151, 2, none⟩ = some (.int .i64 x152002_19) := (blk_cell BK151.out 2).trans rfl
                  have hfz93_0 := blk_frozen BK151.out 0
                  have hfz93_1 := blk_frozen BK151.out 1
                  have hfz93_2 := blk_frozen BK151.out 2
                  have hnb94 := NB142_0.out
                  have hnc94 := NB0_142.out
                  have hcz95_0 : wc.cell? ⟨gb142, 0, none⟩ = some (.int .i64 0) := (blk_cell BK142.out 0).trans rfl
                  have hcz95_1 : wc.cell? ⟨gb142, 1, none⟩ = some (.int .i64 0) := (blk_cell BK142.out 1).trans rfl
                  have hcz95_2 : wc.cell? ⟨gb142, 2, none⟩ = some (.int .i64 0) := (blk_cell BK142.out 2).trans rfl
                  have hfz95_0 := blk_frozen BK142.out 0
                  have hfz95_1 := blk_frozen BK142.out 1
                  have hfz95_2 := blk_frozen BK142.out 2
                  go_wp2
                  refine bodyPost_ret (results_cell_row rfl _ _ gb142 56 #[.int .i64 x152000_19, .int .i64 x152001_19, .int .i64 x152002_19] (0, 0) _ rfl (by (with_reducible repeat (first | refine blk_drewN ?_ _ | refine blk_drew ?_ | refine blk_alloc ?_ _)); refine blk_put (cs := #[.int .i64 x152000_19, .int .i64 x152001_19, .int .i64 0]) ?_ 2 _ rfl; (with_reducible repeat (first | refine blk_drewN ?_ _ | refine blk_drew ?_ | refine blk_alloc ?_ _)); refine blk_put (cs := #[.int .i64 x152000_19, .int .i64 0, .int .i64 0]) ?_ 1 _ rfl; (with_reducible repeat (first | refine blk_drewN ?_ _ | refine blk_drew ?_ | refine blk_alloc ?_ _)); refine blk_put (cs := #[.int .i64 0, .int .i64 0, .int .i64 0]) ?_ 0 _ rfl; (with_reducible repeat (first | refine blk_drewN ?_ _ | refine blk_drew ?_ | refine blk_alloc ?_ _)); exact BK142.out) Try.underlying56 rfl (by kernel_rfl)) rfl ?_
                  exact ⟨by first | rfl | (simp [errW_none, errW_some] <;> rfl) | (simp only [← hji8, ← hji12, ← hji13, ← hji17]; first | rfl | (simp [errW_none, errW_some] <;> rfl)) | (simp [*, errW_none, errW_some] <;> rfl), by repeat (first | (with_reducible first | exact HI0.out | apply IsS94.alloc | apply IsS94.drewN | apply IsS94.drew | apply IsS94.set_1 | refine IsS94.far ?_ NB0_142.out _ | refine IsS94.far ?_ NB0_151.out _) | exact HI0.out), by repeat (first | (with_reducible first | exact HB.out | apply below_alloc | apply pw_below_drewN | apply below_drew1 | refine below_set ?_ (IsS94.ge HI0.out) | refine below_set ?_ GE142.out | refine below_set ?_ GE151.out) | exact HB.out), by repeat (first | (with_reducible first | exact HK.out | apply KeepBut.set_ | apply keep_drewN | apply keep_drew | apply keep_alloc | refine keep_far ?_ GW142.out _ | refine keep_far ?_ GW151.out _) | exact HK.out)⟩
            · rw [if_neg c16] at H
              exact absurd H (by simp)
          · rw [if_neg c15] at H
            exact absurd H (by simp)
        · rw [if_neg c11] at H
          exact absurd H (by simp)
      · rw [if_neg c10] at H
        exact absurd H (by simp)
    · rw [if_neg c6] at H
      exact absurd H (by simp)
  · rw [if_neg c5] at H
    exact absurd H (by simp)

end Go.Proofs.Ytgcjadhmkhpbnaa.P
