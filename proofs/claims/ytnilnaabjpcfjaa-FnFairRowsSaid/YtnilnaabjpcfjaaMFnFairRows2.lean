/- The law FnFairRows for every input, part 2 of its proof: what the program's functions answer, and the plain law. No condition. -/
import Derived.Test.YtnilnaabjpcfjaaMFnFairRows1
import Derived.Lib.SliceRun
set_option maxRecDepth 100000
namespace Go.Proofs.Ytnilnaabjpcfjaa.P
open Go.RowKit Go.Proofs.YtnilnaabjpcfjaaW.PrintWords Go.Proofs.YtnilnaabjpcfjaaW.PrintLast Go.Proofs.YtnilnaabjpcfjaaW.PrintMore
attribute [local go_sem] zfh zfi zgq zgr zet zeu zfj zfk
set_option linter.unusedVariables false
set_option linter.unusedSimpArgs false
theorem Zmt {P : Prop} (h : P := by (try simp only [List.map_toArray, List.map_cons, List.map_nil]); first | done | rfl | (simp only [List.length_drop, List.length_take]; rfl)) : P := h
theorem Zq9 {X0 X1 P : Prop} (x0 : za X0) (x1 : za X1) (h : X0 → X1 → P := by intro x0 x1; repeat (first | (with_reducible first | exact x0 | apply zy.alloc | apply zy.drewN | apply zy.drew | apply zy.set_1 | refine zy.far ?_ x1 _) | exact x0)) : P := h x0.out x1.out
theorem Zq10 {X0 X1 X2 P : Prop} (x0 : za X0) (x1 : X1) (x2 : za X2) (h : X0 → X1 → X2 → P := by intro x0 x1 x2; repeat (first | (with_reducible first | exact x0 | apply zca | apply zce | apply zbk | refine zcz ?_ x1 | refine zcz ?_ x2) | exact x0)) : P := h x0.out x1 x2.out
theorem Zq11 {X0 X1 P : Prop} (x0 : za X0) (x1 : za X1) (h : X0 → X1 → P := by intro x0 x1; repeat (first | (with_reducible first | exact x0 | apply zx.set_ | apply zfu | apply zea | apply zfv | refine zht ?_ x1 _) | exact x0)) : P := h x0.out x1.out
theorem Zq12 {X0 P : Prop} (x0 : za X0) (h : X0 → P := by intro x0; (with_reducible repeat (first | apply Kd.zcl | apply Kd.zcm | apply Kd.zci)); exact x0) : P := h x0.out
theorem Zq13 {X0 X1 X2 P : Prop} (x0 : za X0) (x1 : za X1) (x2 : za X2) (h : X0 → X1 → X2 → P := by intro x0 x1 x2; repeat (first | (with_reducible first | exact x0 | apply zy.alloc | apply zy.drewN | apply zy.drew | apply zy.set_1 | refine zy.far ?_ x1 _ | refine zy.far ?_ x2 _) | exact x0)) : P := h x0.out x1.out x2.out
theorem Zq14 {X0 X1 X2 P : Prop} (x0 : za X0) (x1 : za X1) (x2 : za X2) (h : X0 → X1 → X2 → P := by intro x0 x1 x2; repeat (first | (with_reducible first | exact x0 | apply zx.set_ | apply zfu | apply zea | apply zfv | refine zht ?_ x1 _ | refine zht ?_ x2 _) | exact x0)) : P := h x0.out x1.out x2.out
theorem Zq15 {X0 X1 X2 X3 P : Prop} (x0 : za X0) (x1 : X1) (x2 : za X2) (x3 : za X3) (h : X0 → X1 → X2 → X3 → P := by intro x0 x1 x2 x3; repeat (first | (with_reducible first | exact x0 | apply zca | apply zce | apply zbk | refine zcz ?_ x1 | refine zcz ?_ x2 | refine zcz ?_ x3) | exact x0)) : P := h x0.out x1 x2.out x3.out
theorem Zs1 {α : Type} {l : List α} {i : Nat} {a : α} : l.toArray.setIfInBounds i a = (l.set i a).toArray := List.setIfInBounds_toArray ..
theorem Zs2 {α : Type} {a b : α} {l : List α} : (a :: l).set 0 b = b :: l := rfl
theorem Zs3 {α : Type} {a b : α} {l : List α} {i : Nat} : (a :: l).set (i + 1) b = a :: l.set i b := rfl
def zk.j0 : Nat → List Int → Int → Int → Int → Int → Option (Int × Int × Int × Int)
 | 0, _, _, _, _, _ => none
 | k + 1, x1000, x1001, x119000, x119001, x119002 => some (x119000, x119001, x119002, x1001)
def zk.f (k : Nat) (s0_0 : List Int) (s0_1 : Int) (a1 : Int) : Option (Int × Int × Int × Int) := (zb.f k s0_0 s0_1 12).bind fun bt110 => ((some (([2, 3, 4, 6, 8, 12, wrap64 (1 + bt110.1), 5] : List Int) : List Int)).bind fun y112 => ((zb.f k s0_0 bt110.2 8).bind fun bt115 => (if 0 ≤ bt115.1 then (if bt115.1 < (y112.length : Int) then ((zb.f k s0_0 bt115.2 (rd y112 bt115.1)).bind fun bt119 => ((some (([rd y112 bt115.1, wrap64 (1 + bt119.1), mx 1 (wrap64 ((rd y112 bt115.1) - 1))] : List Int) : List Int)).bind fun y121 => ((zb.f k s0_0 bt119.2 3).bind fun bt124 => (if 0 ≤ bt124.1 then (if bt124.1 < (y121.length : Int) then ((some (([rd y121 bt124.1, mx 1 (wrap64 (Int.tdiv (rd y121 bt124.1) 2)), mx 1 (wrap64 (Int.tdiv (rd y121 bt124.1) 3))] : List Int) : List Int)).bind fun y127 => ((zb.f k s0_0 bt124.2 3).bind fun bt130 => (if 0 ≤ bt130.1 then (if bt130.1 < (y127.length : Int) then ((zb.f k s0_0 bt130.2 (mn 8 (rd y127 bt130.1))).bind fun bt133 => ((zbn.f k s0_0 bt133.2 a1).bind fun bt135 => (if bt135.1 = true then ((zb.f k s0_0 bt135.2 3).bind fun bt137 => (if bt137.1 = 0 then ((some (([0, (-1), 9, wrap64 ((rd y121 bt124.1) + 1)] : List Int) : List Int)).bind fun y139 => ((zb.f k s0_0 bt137.2 4).bind fun bt142 => (if 0 ≤ bt142.1 then (if bt142.1 < (y139.length : Int) then (zk.j0 k s0_0 bt142.2 (rd y139 bt142.1) (rd y121 bt124.1) (rd y112 bt115.1)) else (none)) else (none)))) else (if bt137.1 = 1 then ((some (([0, wrap64 ((rd y112 bt115.1) + 1), (-1)] : List Int) : List Int)).bind fun y145 => ((zb.f k s0_0 bt137.2 3).bind fun bt148 => (if 0 ≤ bt148.1 then (if bt148.1 < (y145.length : Int) then (zk.j0 k s0_0 bt148.2 (wrap64 (1 + bt133.1)) (rd y145 bt148.1) (rd y112 bt115.1)) else (none)) else (none)))) else ((some (([0, 13, (-1)] : List Int) : List Int)).bind fun y151 => ((zb.f k s0_0 bt137.2 3).bind fun bt154 => (if 0 ≤ bt154.1 then (if bt154.1 < (y151.length : Int) then (zk.j0 k s0_0 bt154.2 (wrap64 (1 + bt133.1)) (rd y121 bt124.1) (rd y151 bt154.1)) else (none)) else (none))))))) else (zk.j0 k s0_0 bt135.2 (wrap64 (1 + bt133.1)) (rd y121 bt124.1) (rd y112 bt115.1))))) else (none)) else (none)))) else (none)) else (none))))) else (none)) else (none))))
def zk.T2 : Bool × List (List Nat × List Nat) := (true, [([], []), ([0], [0]), ([], []), ([], []), ([3], [3]), ([2, 4], [2, 4]), ([5], [5]), ([], []), ([7], [7]), ([8], [8]), ([9], [9]), ([1, 6, 10], [1, 6, 10]), ([], []), ([12, 5], [12]), ([11, 13], [11, 13]), ([14], [14]), ([0, 1, 2, 3, 4, 5, 6, 7, 8, 9, 10, 11, 12, 13, 14, 15], []), ([16, 15, 13, 0, 1, 2, 3, 4, 5, 6, 7, 8, 9, 10, 11, 12, 13, 14, 15], [15, 16])])
def zk.B2 : List Nat := [0, 1, 0, 0, 8, 28, 60, 0, 128, 384, 896, 2047, 0, 4156, 16383, 32767, 65535, 131071]
theorem zk.tab2 : rtab .any (opsOf Try.f71 2) = zk.T2 := by kernel_rfl
theorem zk.zi9 : zcw zk.T2.2 zk.B2 = true := by kernel_rfl
def zk.T3 : Bool × List (List Nat × List Nat) := (true, [([], []), ([], []), ([1], [1]), ([], []), ([3], [3]), ([4], [4]), ([5], [5]), ([], []), ([7], [7]), ([8], [8]), ([9], [9]), ([2, 6, 10], [2, 6, 10]), ([], []), ([12], [12]), ([11, 13], [11, 13]), ([14], [14]), ([15], [15]), ([0, 16, 13], [0, 16]), ([17], [17]), ([0, 1, 2, 3, 4, 5, 6, 7, 8, 9, 10, 11, 12, 13, 14, 15, 16, 17, 18], []), ([19, 18, 17, 0, 1, 2, 3, 4, 5, 6, 7, 8, 9, 10, 11, 12, 13, 14, 15, 16, 17, 18], [18, 19])])
def zk.B3 : List Nat := [0, 0, 2, 0, 8, 24, 56, 0, 128, 384, 896, 2046, 0, 4096, 16382, 32766, 65534, 131071, 262143, 524287, 1048575]
theorem zk.tab3 : rtab .any (opsOf Try.f71 3) = zk.T3 := by kernel_rfl
theorem zk.bits3 : zcw zk.T3.2 zk.B3 = true := by kernel_rfl
def zk.T8 : Bool × List (List Nat × List Nat) := (true, [([], []), ([0], [0]), ([1], [1]), ([2], [2]), ([], []), ([4], [4]), ([3, 5], [3, 5]), ([6], [6]), ([0, 1, 2, 3, 4, 5, 6, 7], []), ([8, 7, 5, 0, 1, 2, 3, 4, 5, 6, 7], [7, 8])])
def zk.B8 : List Nat := [0, 1, 3, 7, 0, 16, 63, 127, 255, 511]
theorem zk.tab8 : rtab .any (opsOf Try.f71 8) = zk.T8 := by kernel_rfl
theorem zk.bits8 : zcw zk.T8.2 zk.B8 = true := by kernel_rfl
def zk.T10 : Bool × List (List Nat × List Nat) := (true, [([], []), ([0], [0]), ([1], [1]), ([2], [2]), ([], []), ([4], [4]), ([3, 5], [3, 5]), ([6], [6]), ([0, 1, 2, 3, 4, 5, 6, 7], []), ([8, 7, 5, 0, 1, 2, 3, 4, 5, 6, 7], [7, 8])])
def zk.B10 : List Nat := [0, 1, 3, 7, 0, 16, 63, 127, 255, 511]
theorem zk.tab10 : rtab .any (opsOf Try.f71 10) = zk.T10 := by kernel_rfl
theorem zk.zhh : zcw zk.T10.2 zk.B10 = true := by kernel_rfl
set_option maxHeartbeats 8000000 in
theorem zk.calls (k : Nat) (g : Nat) (s0_0 : List Int) (s0_1 : Int) (a1 : Int) (r1 : Int) (r2 : Int) (r3 : Int) (r4 : Int) (w0 w : World) (hI : zy w0 w g s0_0 s0_1) (hB : Below w0.heap.size w0 w) (h : zk.f k s0_0 s0_1 a1 = some (r1, r2, r3, r4)) :
  Calls Try.prog 71 #[.pointer (some ⟨g, 0, none⟩), .int .i64 a1] w fun e w' => e = .returned (.agg #[.int .i64 r1, .int .i64 r2, .int .i64 r3]) ∧ zy w0 w' g s0_0 r4 ∧ Below w0.heap.size w0 w' ∧ zx w w' g none := by
 have hu35 := Try.underlying35
 have HI0 := za.mk hI
 have HK := za.mk (zx.refl w g none)
 have HL := za.mk hB.size
 clear hI
 have HW0 := za.mk hB.size
 have HB := za.mk hB
 clear hB
 have H : ((zb.f k s0_0 s0_1 12).bind fun bt110 => ((some (([2, 3, 4, 6, 8, 12, wrap64 (1 + bt110.1), 5] : List Int) : List Int)).bind fun y112 => ((zb.f k s0_0 bt110.2 8).bind fun bt115 => (if 0 ≤ bt115.1 then (if bt115.1 < (y112.length : Int) then ((zb.f k s0_0 bt115.2 (rd y112 bt115.1)).bind fun bt119 => ((some (([rd y112 bt115.1, wrap64 (1 + bt119.1), mx 1 (wrap64 ((rd y112 bt115.1) - 1))] : List Int) : List Int)).bind fun y121 => ((zb.f k s0_0 bt119.2 3).bind fun bt124 => (if 0 ≤ bt124.1 then (if bt124.1 < (y121.length : Int) then ((some (([rd y121 bt124.1, mx 1 (wrap64 (Int.tdiv (rd y121 bt124.1) 2)), mx 1 (wrap64 (Int.tdiv (rd y121 bt124.1) 3))] : List Int) : List Int)).bind fun y127 => ((zb.f k s0_0 bt124.2 3).bind fun bt130 => (if 0 ≤ bt130.1 then (if bt130.1 < (y127.length : Int) then ((zb.f k s0_0 bt130.2 (mn 8 (rd y127 bt130.1))).bind fun bt133 => ((zbn.f k s0_0 bt133.2 a1).bind fun bt135 => (if bt135.1 = true then ((zb.f k s0_0 bt135.2 3).bind fun bt137 => (if bt137.1 = 0 then ((some (([0, (-1), 9, wrap64 ((rd y121 bt124.1) + 1)] : List Int) : List Int)).bind fun y139 => ((zb.f k s0_0 bt137.2 4).bind fun bt142 => (if 0 ≤ bt142.1 then (if bt142.1 < (y139.length : Int) then (zk.j0 k s0_0 bt142.2 (rd y139 bt142.1) (rd y121 bt124.1) (rd y112 bt115.1)) else (none)) else (none)))) else (if bt137.1 = 1 then ((some (([0, wrap64 ((rd y112 bt115.1) + 1), (-1)] : List Int) : List Int)).bind fun y145 => ((zb.f k s0_0 bt137.2 3).bind fun bt148 => (if 0 ≤ bt148.1 then (if bt148.1 < (y145.length : Int) then (zk.j0 k s0_0 bt148.2 (wrap64 (1 + bt133.1)) (rd y145 bt148.1) (rd y112 bt115.1)) else (none)) else (none)))) else ((some (([0, 13, (-1)] : List Int) : List Int)).bind fun y151 => ((zb.f k s0_0 bt137.2 3).bind fun bt154 => (if 0 ≤ bt154.1 then (if bt154.1 < (y151.length : Int) then (zk.j0 k s0_0 bt154.2 (wrap64 (1 + bt133.1)) (rd y121 bt124.1) (rd y151 bt154.1)) else (none)) else (none))))))) else (zk.j0 k s0_0 bt135.2 (wrap64 (1 + bt133.1)) (rd y121 bt124.1) (rd y112 bt115.1))))) else (none)) else (none)))) else (none)) else (none))))) else (none)) else (none))))) = some (r1, r2, r3, r4) := h
 clear h
 replace H := Option.bind_eq_some_iff.mp H
 obtain ⟨⟨t110, t111⟩, A30, H⟩ := H
 replace H : ((some (([2, 3, 4, 6, 8, 12, wrap64 (1 + t110), 5] : List Int) : List Int)).bind fun y112 => ((zb.f k s0_0 t111 8).bind fun bt115 => (if 0 ≤ bt115.1 then (if bt115.1 < (y112.length : Int) then ((zb.f k s0_0 bt115.2 (rd y112 bt115.1)).bind fun bt119 => ((some (([rd y112 bt115.1, wrap64 (1 + bt119.1), mx 1 (wrap64 ((rd y112 bt115.1) - 1))] : List Int) : List Int)).bind fun y121 => ((zb.f k s0_0 bt119.2 3).bind fun bt124 => (if 0 ≤ bt124.1 then (if bt124.1 < (y121.length : Int) then ((some (([rd y121 bt124.1, mx 1 (wrap64 (Int.tdiv (rd y121 bt124.1) 2)), mx 1 (wrap64 (Int.tdiv (rd y121 bt124.1) 3))] : List Int) : List Int)).bind fun y127 => ((zb.f k s0_0 bt124.2 3).bind fun bt130 => (if 0 ≤ bt130.1 then (if bt130.1 < (y127.length : Int) then ((zb.f k s0_0 bt130.2 (mn 8 (rd y127 bt130.1))).bind fun bt133 => ((zbn.f k s0_0 bt133.2 a1).bind fun bt135 => (if bt135.1 = true then ((zb.f k s0_0 bt135.2 3).bind fun bt137 => (if bt137.1 = 0 then ((some (([0, (-1), 9, wrap64 ((rd y121 bt124.1) + 1)] : List Int) : List Int)).bind fun y139 => ((zb.f k s0_0 bt137.2 4).bind fun bt142 => (if 0 ≤ bt142.1 then (if bt142.1 < (y139.length : Int) then (zk.j0 k s0_0 bt142.2 (rd y139 bt142.1) (rd y121 bt124.1) (rd y112 bt115.1)) else (none)) else (none)))) else (if bt137.1 = 1 then ((some (([0, wrap64 ((rd y112 bt115.1) + 1), (-1)] : List Int) : List Int)).bind fun y145 => ((zb.f k s0_0 bt137.2 3).bind fun bt148 => (if 0 ≤ bt148.1 then (if bt148.1 < (y145.length : Int) then (zk.j0 k s0_0 bt148.2 (wrap64 (1 + bt133.1)) (rd y145 bt148.1) (rd y112 bt115.1)) else (none)) else (none)))) else ((some (([0, 13, (-1)] : List Int) : List Int)).bind fun y151 => ((zb.f k s0_0 bt137.2 3).bind fun bt154 => (if 0 ≤ bt154.1 then (if bt154.1 < (y151.length : Int) then (zk.j0 k s0_0 bt154.2 (wrap64 (1 + bt133.1)) (rd y121 bt124.1) (rd y151 bt154.1)) else (none)) else (none))))))) else (zk.j0 k s0_0 bt135.2 (wrap64 (1 + bt133.1)) (rd y121 bt124.1) (rd y112 bt115.1))))) else (none)) else (none)))) else (none)) else (none))))) else (none)) else (none)))) = some (r1, r2, r3, r4) := H
 have A3 := za.mk A30
 clear A30
 obtain ⟨y112, hy112⟩ : ∃ y_ : List Int, y_ = (([2, 3, 4, 6, 8, 12, wrap64 (1 + t110), 5] : List Int)) := ⟨_, rfl⟩
 replace H : ((zb.f k s0_0 t111 8).bind fun bt115 => (if 0 ≤ bt115.1 then (if bt115.1 < (y112.length : Int) then ((zb.f k s0_0 bt115.2 (rd y112 bt115.1)).bind fun bt119 => ((some (([rd y112 bt115.1, wrap64 (1 + bt119.1), mx 1 (wrap64 ((rd y112 bt115.1) - 1))] : List Int) : List Int)).bind fun y121 => ((zb.f k s0_0 bt119.2 3).bind fun bt124 => (if 0 ≤ bt124.1 then (if bt124.1 < (y121.length : Int) then ((some (([rd y121 bt124.1, mx 1 (wrap64 (Int.tdiv (rd y121 bt124.1) 2)), mx 1 (wrap64 (Int.tdiv (rd y121 bt124.1) 3))] : List Int) : List Int)).bind fun y127 => ((zb.f k s0_0 bt124.2 3).bind fun bt130 => (if 0 ≤ bt130.1 then (if bt130.1 < (y127.length : Int) then ((zb.f k s0_0 bt130.2 (mn 8 (rd y127 bt130.1))).bind fun bt133 => ((zbn.f k s0_0 bt133.2 a1).bind fun bt135 => (if bt135.1 = true then ((zb.f k s0_0 bt135.2 3).bind fun bt137 => (if bt137.1 = 0 then ((some (([0, (-1), 9, wrap64 ((rd y121 bt124.1) + 1)] : List Int) : List Int)).bind fun y139 => ((zb.f k s0_0 bt137.2 4).bind fun bt142 => (if 0 ≤ bt142.1 then (if bt142.1 < (y139.length : Int) then (zk.j0 k s0_0 bt142.2 (rd y139 bt142.1) (rd y121 bt124.1) (rd y112 bt115.1)) else (none)) else (none)))) else (if bt137.1 = 1 then ((some (([0, wrap64 ((rd y112 bt115.1) + 1), (-1)] : List Int) : List Int)).bind fun y145 => ((zb.f k s0_0 bt137.2 3).bind fun bt148 => (if 0 ≤ bt148.1 then (if bt148.1 < (y145.length : Int) then (zk.j0 k s0_0 bt148.2 (wrap64 (1 + bt133.1)) (rd y145 bt148.1) (rd y112 bt115.1)) else (none)) else (none)))) else ((some (([0, 13, (-1)] : List Int) : List Int)).bind fun y151 => ((zb.f k s0_0 bt137.2 3).bind fun bt154 => (if 0 ≤ bt154.1 then (if bt154.1 < (y151.length : Int) then (zk.j0 k s0_0 bt154.2 (wrap64 (1 + bt133.1)) (rd y121 bt124.1) (rd y151 bt154.1)) else (none)) else (none))))))) else (zk.j0 k s0_0 bt135.2 (wrap64 (1 + bt133.1)) (rd y121 bt124.1) (rd y112 bt115.1))))) else (none)) else (none)))) else (none)) else (none))))) else (none)) else (none))) = some (r1, r2, r3, r4) := by first | (rw [hy112]; with_reducible exact H) | (have H2_ := (Option.bind_some _ _).symm.trans H; rw [hy112]; with_reducible exact H2_) | (have H2_ := (Option.bind_some _ _).symm.trans H; with_reducible exact H2_) | with_reducible exact H | (rw [hy112]; exact H) | exact H
 have Ny112 := za.mk hy112
 clear hy112
 replace H := Option.bind_eq_some_iff.mp H
 obtain ⟨⟨t115, t116⟩, A40, H⟩ := H
 replace H : (if 0 ≤ t115 then (if t115 < (y112.length : Int) then ((zb.f k s0_0 t116 (rd y112 t115)).bind fun bt119 => ((some (([rd y112 t115, wrap64 (1 + bt119.1), mx 1 (wrap64 ((rd y112 t115) - 1))] : List Int) : List Int)).bind fun y121 => ((zb.f k s0_0 bt119.2 3).bind fun bt124 => (if 0 ≤ bt124.1 then (if bt124.1 < (y121.length : Int) then ((some (([rd y121 bt124.1, mx 1 (wrap64 (Int.tdiv (rd y121 bt124.1) 2)), mx 1 (wrap64 (Int.tdiv (rd y121 bt124.1) 3))] : List Int) : List Int)).bind fun y127 => ((zb.f k s0_0 bt124.2 3).bind fun bt130 => (if 0 ≤ bt130.1 then (if bt130.1 < (y127.length : Int) then ((zb.f k s0_0 bt130.2 (mn 8 (rd y127 bt130.1))).bind fun bt133 => ((zbn.f k s0_0 bt133.2 a1).bind fun bt135 => (if bt135.1 = true then ((zb.f k s0_0 bt135.2 3).bind fun bt137 => (if bt137.1 = 0 then ((some (([0, (-1), 9, wrap64 ((rd y121 bt124.1) + 1)] : List Int) : List Int)).bind fun y139 => ((zb.f k s0_0 bt137.2 4).bind fun bt142 => (if 0 ≤ bt142.1 then (if bt142.1 < (y139.length : Int) then (zk.j0 k s0_0 bt142.2 (rd y139 bt142.1) (rd y121 bt124.1) (rd y112 t115)) else (none)) else (none)))) else (if bt137.1 = 1 then ((some (([0, wrap64 ((rd y112 t115) + 1), (-1)] : List Int) : List Int)).bind fun y145 => ((zb.f k s0_0 bt137.2 3).bind fun bt148 => (if 0 ≤ bt148.1 then (if bt148.1 < (y145.length : Int) then (zk.j0 k s0_0 bt148.2 (wrap64 (1 + bt133.1)) (rd y145 bt148.1) (rd y112 t115)) else (none)) else (none)))) else ((some (([0, 13, (-1)] : List Int) : List Int)).bind fun y151 => ((zb.f k s0_0 bt137.2 3).bind fun bt154 => (if 0 ≤ bt154.1 then (if bt154.1 < (y151.length : Int) then (zk.j0 k s0_0 bt154.2 (wrap64 (1 + bt133.1)) (rd y121 bt124.1) (rd y151 bt154.1)) else (none)) else (none))))))) else (zk.j0 k s0_0 bt135.2 (wrap64 (1 + bt133.1)) (rd y121 bt124.1) (rd y112 t115))))) else (none)) else (none)))) else (none)) else (none))))) else (none)) else (none)) = some (r1, r2, r3, r4) := H
 have A4 := za.mk A40
 clear A40
 by_cases c5 : 0 ≤ t115
 ·rw [if_pos c5] at H
  have c5b0 : decide (0 ≤ t115) = true := decide_eq_true c5;clear c5;by_cases c6 : t115 < (y112.length : Int)
  ·rw [if_pos c6] at H
   have c6b0 : decide (t115 < (y112.length : Int)) = true := decide_eq_true c6;clear c6;replace H := Option.bind_eq_some_iff.mp H;obtain ⟨⟨t119, t120⟩, A70, H⟩ := H;replace H : ((some (([rd y112 t115, wrap64 (1 + t119), mx 1 (wrap64 ((rd y112 t115) - 1))] : List Int) : List Int)).bind fun y121 => ((zb.f k s0_0 t120 3).bind fun bt124 => (if 0 ≤ bt124.1 then (if bt124.1 < (y121.length : Int) then ((some (([rd y121 bt124.1, mx 1 (wrap64 (Int.tdiv (rd y121 bt124.1) 2)), mx 1 (wrap64 (Int.tdiv (rd y121 bt124.1) 3))] : List Int) : List Int)).bind fun y127 => ((zb.f k s0_0 bt124.2 3).bind fun bt130 => (if 0 ≤ bt130.1 then (if bt130.1 < (y127.length : Int) then ((zb.f k s0_0 bt130.2 (mn 8 (rd y127 bt130.1))).bind fun bt133 => ((zbn.f k s0_0 bt133.2 a1).bind fun bt135 => (if bt135.1 = true then ((zb.f k s0_0 bt135.2 3).bind fun bt137 => (if bt137.1 = 0 then ((some (([0, (-1), 9, wrap64 ((rd y121 bt124.1) + 1)] : List Int) : List Int)).bind fun y139 => ((zb.f k s0_0 bt137.2 4).bind fun bt142 => (if 0 ≤ bt142.1 then (if bt142.1 < (y139.length : Int) then (zk.j0 k s0_0 bt142.2 (rd y139 bt142.1) (rd y121 bt124.1) (rd y112 t115)) else (none)) else (none)))) else (if bt137.1 = 1 then ((some (([0, wrap64 ((rd y112 t115) + 1), (-1)] : List Int) : List Int)).bind fun y145 => ((zb.f k s0_0 bt137.2 3).bind fun bt148 => (if 0 ≤ bt148.1 then (if bt148.1 < (y145.length : Int) then (zk.j0 k s0_0 bt148.2 (wrap64 (1 + bt133.1)) (rd y145 bt148.1) (rd y112 t115)) else (none)) else (none)))) else ((some (([0, 13, (-1)] : List Int) : List Int)).bind fun y151 => ((zb.f k s0_0 bt137.2 3).bind fun bt154 => (if 0 ≤ bt154.1 then (if bt154.1 < (y151.length : Int) then (zk.j0 k s0_0 bt154.2 (wrap64 (1 + bt133.1)) (rd y121 bt124.1) (rd y151 bt154.1)) else (none)) else (none))))))) else (zk.j0 k s0_0 bt135.2 (wrap64 (1 + bt133.1)) (rd y121 bt124.1) (rd y112 t115))))) else (none)) else (none)))) else (none)) else (none)))) = some (r1, r2, r3, r4) := H;have A7 := za.mk A70;clear A70;obtain ⟨ji8, hji8⟩ : ∃ j_ : Int, (mx 1 (wrap64 ((rd y112 t115) - 1))) = j_ := ⟨_, rfl⟩;replace H : ((some (([rd y112 t115, wrap64 (1 + t119), ji8] : List Int) : List Int)).bind fun y121 => ((zb.f k s0_0 t120 3).bind fun bt124 => (if 0 ≤ bt124.1 then (if bt124.1 < (y121.length : Int) then ((some (([rd y121 bt124.1, mx 1 (wrap64 (Int.tdiv (rd y121 bt124.1) 2)), mx 1 (wrap64 (Int.tdiv (rd y121 bt124.1) 3))] : List Int) : List Int)).bind fun y127 => ((zb.f k s0_0 bt124.2 3).bind fun bt130 => (if 0 ≤ bt130.1 then (if bt130.1 < (y127.length : Int) then ((zb.f k s0_0 bt130.2 (mn 8 (rd y127 bt130.1))).bind fun bt133 => ((zbn.f k s0_0 bt133.2 a1).bind fun bt135 => (if bt135.1 = true then ((zb.f k s0_0 bt135.2 3).bind fun bt137 => (if bt137.1 = 0 then ((some (([0, (-1), 9, wrap64 ((rd y121 bt124.1) + 1)] : List Int) : List Int)).bind fun y139 => ((zb.f k s0_0 bt137.2 4).bind fun bt142 => (if 0 ≤ bt142.1 then (if bt142.1 < (y139.length : Int) then (zk.j0 k s0_0 bt142.2 (rd y139 bt142.1) (rd y121 bt124.1) (rd y112 t115)) else (none)) else (none)))) else (if bt137.1 = 1 then ((some (([0, wrap64 ((rd y112 t115) + 1), (-1)] : List Int) : List Int)).bind fun y145 => ((zb.f k s0_0 bt137.2 3).bind fun bt148 => (if 0 ≤ bt148.1 then (if bt148.1 < (y145.length : Int) then (zk.j0 k s0_0 bt148.2 (wrap64 (1 + bt133.1)) (rd y145 bt148.1) (rd y112 t115)) else (none)) else (none)))) else ((some (([0, 13, (-1)] : List Int) : List Int)).bind fun y151 => ((zb.f k s0_0 bt137.2 3).bind fun bt154 => (if 0 ≤ bt154.1 then (if bt154.1 < (y151.length : Int) then (zk.j0 k s0_0 bt154.2 (wrap64 (1 + bt133.1)) (rd y121 bt124.1) (rd y151 bt154.1)) else (none)) else (none))))))) else (zk.j0 k s0_0 bt135.2 (wrap64 (1 + bt133.1)) (rd y121 bt124.1) (rd y112 t115))))) else (none)) else (none)))) else (none)) else (none)))) = some (r1, r2, r3, r4) := by first | (rw [hji8] at H; exact H) | (simp only [hji8] at H ⊢; exact H)
   (try rw [hji8] at A3);(try rw [hji8] at A4);(try rw [hji8] at A7);(try (have hji8l : 1 ≤ ji8 := by (rw [← hji8]; unfold mx; (repeat' split) <;> omega)));(try (have hji8m : 0 ≤ ji8 := by omega));have hji8_ : (if 1 < (wrap64 ((rd y112 t115) - 1)) then (wrap64 ((rd y112 t115) - 1)) else 1) = ji8 := hji8;obtain ⟨y121, hy121⟩ : ∃ y_ : List Int, y_ = (([rd y112 t115, wrap64 (1 + t119), ji8] : List Int)) := ⟨_, rfl⟩;replace H : ((zb.f k s0_0 t120 3).bind fun bt124 => (if 0 ≤ bt124.1 then (if bt124.1 < (y121.length : Int) then ((some (([rd y121 bt124.1, mx 1 (wrap64 (Int.tdiv (rd y121 bt124.1) 2)), mx 1 (wrap64 (Int.tdiv (rd y121 bt124.1) 3))] : List Int) : List Int)).bind fun y127 => ((zb.f k s0_0 bt124.2 3).bind fun bt130 => (if 0 ≤ bt130.1 then (if bt130.1 < (y127.length : Int) then ((zb.f k s0_0 bt130.2 (mn 8 (rd y127 bt130.1))).bind fun bt133 => ((zbn.f k s0_0 bt133.2 a1).bind fun bt135 => (if bt135.1 = true then ((zb.f k s0_0 bt135.2 3).bind fun bt137 => (if bt137.1 = 0 then ((some (([0, (-1), 9, wrap64 ((rd y121 bt124.1) + 1)] : List Int) : List Int)).bind fun y139 => ((zb.f k s0_0 bt137.2 4).bind fun bt142 => (if 0 ≤ bt142.1 then (if bt142.1 < (y139.length : Int) then (zk.j0 k s0_0 bt142.2 (rd y139 bt142.1) (rd y121 bt124.1) (rd y112 t115)) else (none)) else (none)))) else (if bt137.1 = 1 then ((some (([0, wrap64 ((rd y112 t115) + 1), (-1)] : List Int) : List Int)).bind fun y145 => ((zb.f k s0_0 bt137.2 3).bind fun bt148 => (if 0 ≤ bt148.1 then (if bt148.1 < (y145.length : Int) then (zk.j0 k s0_0 bt148.2 (wrap64 (1 + bt133.1)) (rd y145 bt148.1) (rd y112 t115)) else (none)) else (none)))) else ((some (([0, 13, (-1)] : List Int) : List Int)).bind fun y151 => ((zb.f k s0_0 bt137.2 3).bind fun bt154 => (if 0 ≤ bt154.1 then (if bt154.1 < (y151.length : Int) then (zk.j0 k s0_0 bt154.2 (wrap64 (1 + bt133.1)) (rd y121 bt124.1) (rd y151 bt154.1)) else (none)) else (none))))))) else (zk.j0 k s0_0 bt135.2 (wrap64 (1 + bt133.1)) (rd y121 bt124.1) (rd y112 t115))))) else (none)) else (none)))) else (none)) else (none))) = some (r1, r2, r3, r4) := by first | (rw [hy121]; with_reducible exact H) | (have H2_ := (Option.bind_some _ _).symm.trans H; rw [hy121]; with_reducible exact H2_) | (have H2_ := (Option.bind_some _ _).symm.trans H; with_reducible exact H2_) | with_reducible exact H | (rw [hy121]; exact H) | exact H
   have Ny121 := za.mk hy121;clear hy121;replace H := Option.bind_eq_some_iff.mp H;obtain ⟨⟨t124, t125⟩, A90, H⟩ := H;replace H : (if 0 ≤ t124 then (if t124 < (y121.length : Int) then ((some (([rd y121 t124, mx 1 (wrap64 (Int.tdiv (rd y121 t124) 2)), mx 1 (wrap64 (Int.tdiv (rd y121 t124) 3))] : List Int) : List Int)).bind fun y127 => ((zb.f k s0_0 t125 3).bind fun bt130 => (if 0 ≤ bt130.1 then (if bt130.1 < (y127.length : Int) then ((zb.f k s0_0 bt130.2 (mn 8 (rd y127 bt130.1))).bind fun bt133 => ((zbn.f k s0_0 bt133.2 a1).bind fun bt135 => (if bt135.1 = true then ((zb.f k s0_0 bt135.2 3).bind fun bt137 => (if bt137.1 = 0 then ((some (([0, (-1), 9, wrap64 ((rd y121 t124) + 1)] : List Int) : List Int)).bind fun y139 => ((zb.f k s0_0 bt137.2 4).bind fun bt142 => (if 0 ≤ bt142.1 then (if bt142.1 < (y139.length : Int) then (zk.j0 k s0_0 bt142.2 (rd y139 bt142.1) (rd y121 t124) (rd y112 t115)) else (none)) else (none)))) else (if bt137.1 = 1 then ((some (([0, wrap64 ((rd y112 t115) + 1), (-1)] : List Int) : List Int)).bind fun y145 => ((zb.f k s0_0 bt137.2 3).bind fun bt148 => (if 0 ≤ bt148.1 then (if bt148.1 < (y145.length : Int) then (zk.j0 k s0_0 bt148.2 (wrap64 (1 + bt133.1)) (rd y145 bt148.1) (rd y112 t115)) else (none)) else (none)))) else ((some (([0, 13, (-1)] : List Int) : List Int)).bind fun y151 => ((zb.f k s0_0 bt137.2 3).bind fun bt154 => (if 0 ≤ bt154.1 then (if bt154.1 < (y151.length : Int) then (zk.j0 k s0_0 bt154.2 (wrap64 (1 + bt133.1)) (rd y121 t124) (rd y151 bt154.1)) else (none)) else (none))))))) else (zk.j0 k s0_0 bt135.2 (wrap64 (1 + bt133.1)) (rd y121 t124) (rd y112 t115))))) else (none)) else (none)))) else (none)) else (none)) = some (r1, r2, r3, r4) := H;have A9 := za.mk A90;clear A90;by_cases c10 : 0 ≤ t124
   ·rw [if_pos c10] at H
    have c10b0 : decide (0 ≤ t124) = true := decide_eq_true c10;clear c10;by_cases c11 : t124 < (y121.length : Int)
    ·rw [if_pos c11] at H
     have c11b0 : decide (t124 < (y121.length : Int)) = true := decide_eq_true c11;clear c11;obtain ⟨ji12, hji12⟩ : ∃ j_ : Int, (mx 1 (wrap64 (Int.tdiv (rd y121 t124) 2))) = j_ := ⟨_, rfl⟩;replace H : ((some (([rd y121 t124, ji12, mx 1 (wrap64 (Int.tdiv (rd y121 t124) 3))] : List Int) : List Int)).bind fun y127 => ((zb.f k s0_0 t125 3).bind fun bt130 => (if 0 ≤ bt130.1 then (if bt130.1 < (y127.length : Int) then ((zb.f k s0_0 bt130.2 (mn 8 (rd y127 bt130.1))).bind fun bt133 => ((zbn.f k s0_0 bt133.2 a1).bind fun bt135 => (if bt135.1 = true then ((zb.f k s0_0 bt135.2 3).bind fun bt137 => (if bt137.1 = 0 then ((some (([0, (-1), 9, wrap64 ((rd y121 t124) + 1)] : List Int) : List Int)).bind fun y139 => ((zb.f k s0_0 bt137.2 4).bind fun bt142 => (if 0 ≤ bt142.1 then (if bt142.1 < (y139.length : Int) then (zk.j0 k s0_0 bt142.2 (rd y139 bt142.1) (rd y121 t124) (rd y112 t115)) else (none)) else (none)))) else (if bt137.1 = 1 then ((some (([0, wrap64 ((rd y112 t115) + 1), (-1)] : List Int) : List Int)).bind fun y145 => ((zb.f k s0_0 bt137.2 3).bind fun bt148 => (if 0 ≤ bt148.1 then (if bt148.1 < (y145.length : Int) then (zk.j0 k s0_0 bt148.2 (wrap64 (1 + bt133.1)) (rd y145 bt148.1) (rd y112 t115)) else (none)) else (none)))) else ((some (([0, 13, (-1)] : List Int) : List Int)).bind fun y151 => ((zb.f k s0_0 bt137.2 3).bind fun bt154 => (if 0 ≤ bt154.1 then (if bt154.1 < (y151.length : Int) then (zk.j0 k s0_0 bt154.2 (wrap64 (1 + bt133.1)) (rd y121 t124) (rd y151 bt154.1)) else (none)) else (none))))))) else (zk.j0 k s0_0 bt135.2 (wrap64 (1 + bt133.1)) (rd y121 t124) (rd y112 t115))))) else (none)) else (none)))) = some (r1, r2, r3, r4) := by first | (rw [hji12] at H; exact H) | (simp only [hji12] at H ⊢; exact H)
     (try rw [hji12] at A3);(try rw [hji12] at A4);(try rw [hji12] at A7);(try rw [hji12] at A9);(try (have hji12l : 1 ≤ ji12 := by (rw [← hji12]; unfold mx; (repeat' split) <;> omega)));(try (have hji12m : 0 ≤ ji12 := by omega));have hji12_ : (if 1 < (wrap64 (Int.tdiv (rd y121 t124) 2)) then (wrap64 (Int.tdiv (rd y121 t124) 2)) else 1) = ji12 := hji12;obtain ⟨ji13, hji13⟩ : ∃ j_ : Int, (mx 1 (wrap64 (Int.tdiv (rd y121 t124) 3))) = j_ := ⟨_, rfl⟩;replace H : ((some (([rd y121 t124, ji12, ji13] : List Int) : List Int)).bind fun y127 => ((zb.f k s0_0 t125 3).bind fun bt130 => (if 0 ≤ bt130.1 then (if bt130.1 < (y127.length : Int) then ((zb.f k s0_0 bt130.2 (mn 8 (rd y127 bt130.1))).bind fun bt133 => ((zbn.f k s0_0 bt133.2 a1).bind fun bt135 => (if bt135.1 = true then ((zb.f k s0_0 bt135.2 3).bind fun bt137 => (if bt137.1 = 0 then ((some (([0, (-1), 9, wrap64 ((rd y121 t124) + 1)] : List Int) : List Int)).bind fun y139 => ((zb.f k s0_0 bt137.2 4).bind fun bt142 => (if 0 ≤ bt142.1 then (if bt142.1 < (y139.length : Int) then (zk.j0 k s0_0 bt142.2 (rd y139 bt142.1) (rd y121 t124) (rd y112 t115)) else (none)) else (none)))) else (if bt137.1 = 1 then ((some (([0, wrap64 ((rd y112 t115) + 1), (-1)] : List Int) : List Int)).bind fun y145 => ((zb.f k s0_0 bt137.2 3).bind fun bt148 => (if 0 ≤ bt148.1 then (if bt148.1 < (y145.length : Int) then (zk.j0 k s0_0 bt148.2 (wrap64 (1 + bt133.1)) (rd y145 bt148.1) (rd y112 t115)) else (none)) else (none)))) else ((some (([0, 13, (-1)] : List Int) : List Int)).bind fun y151 => ((zb.f k s0_0 bt137.2 3).bind fun bt154 => (if 0 ≤ bt154.1 then (if bt154.1 < (y151.length : Int) then (zk.j0 k s0_0 bt154.2 (wrap64 (1 + bt133.1)) (rd y121 t124) (rd y151 bt154.1)) else (none)) else (none))))))) else (zk.j0 k s0_0 bt135.2 (wrap64 (1 + bt133.1)) (rd y121 t124) (rd y112 t115))))) else (none)) else (none)))) = some (r1, r2, r3, r4) := by first | (rw [hji13] at H; exact H) | (simp only [hji13] at H ⊢; exact H)
     (try rw [hji13] at A3);(try rw [hji13] at A4);(try rw [hji13] at A7);(try rw [hji13] at A9);(try (have hji13l : 1 ≤ ji13 := by (rw [← hji13]; unfold mx; (repeat' split) <;> omega)));(try (have hji13m : 0 ≤ ji13 := by omega));have hji13_ : (if 1 < (wrap64 (Int.tdiv (rd y121 t124) 3)) then (wrap64 (Int.tdiv (rd y121 t124) 3)) else 1) = ji13 := hji13;obtain ⟨y127, hy127⟩ : ∃ y_ : List Int, y_ = (([rd y121 t124, ji12, ji13] : List Int)) := ⟨_, rfl⟩;replace H : ((zb.f k s0_0 t125 3).bind fun bt130 => (if 0 ≤ bt130.1 then (if bt130.1 < (y127.length : Int) then ((zb.f k s0_0 bt130.2 (mn 8 (rd y127 bt130.1))).bind fun bt133 => ((zbn.f k s0_0 bt133.2 a1).bind fun bt135 => (if bt135.1 = true then ((zb.f k s0_0 bt135.2 3).bind fun bt137 => (if bt137.1 = 0 then ((some (([0, (-1), 9, wrap64 ((rd y121 t124) + 1)] : List Int) : List Int)).bind fun y139 => ((zb.f k s0_0 bt137.2 4).bind fun bt142 => (if 0 ≤ bt142.1 then (if bt142.1 < (y139.length : Int) then (zk.j0 k s0_0 bt142.2 (rd y139 bt142.1) (rd y121 t124) (rd y112 t115)) else (none)) else (none)))) else (if bt137.1 = 1 then ((some (([0, wrap64 ((rd y112 t115) + 1), (-1)] : List Int) : List Int)).bind fun y145 => ((zb.f k s0_0 bt137.2 3).bind fun bt148 => (if 0 ≤ bt148.1 then (if bt148.1 < (y145.length : Int) then (zk.j0 k s0_0 bt148.2 (wrap64 (1 + bt133.1)) (rd y145 bt148.1) (rd y112 t115)) else (none)) else (none)))) else ((some (([0, 13, (-1)] : List Int) : List Int)).bind fun y151 => ((zb.f k s0_0 bt137.2 3).bind fun bt154 => (if 0 ≤ bt154.1 then (if bt154.1 < (y151.length : Int) then (zk.j0 k s0_0 bt154.2 (wrap64 (1 + bt133.1)) (rd y121 t124) (rd y151 bt154.1)) else (none)) else (none))))))) else (zk.j0 k s0_0 bt135.2 (wrap64 (1 + bt133.1)) (rd y121 t124) (rd y112 t115))))) else (none)) else (none))) = some (r1, r2, r3, r4) := by first | (rw [hy127]; with_reducible exact H) | (have H2_ := (Option.bind_some _ _).symm.trans H; rw [hy127]; with_reducible exact H2_) | (have H2_ := (Option.bind_some _ _).symm.trans H; with_reducible exact H2_) | with_reducible exact H | (rw [hy127]; exact H) | exact H
     have Ny127 := za.mk hy127;clear hy127;replace H := Option.bind_eq_some_iff.mp H;obtain ⟨⟨t130, t131⟩, A140, H⟩ := H;replace H : (if 0 ≤ t130 then (if t130 < (y127.length : Int) then ((zb.f k s0_0 t131 (mn 8 (rd y127 t130))).bind fun bt133 => ((zbn.f k s0_0 bt133.2 a1).bind fun bt135 => (if bt135.1 = true then ((zb.f k s0_0 bt135.2 3).bind fun bt137 => (if bt137.1 = 0 then ((some (([0, (-1), 9, wrap64 ((rd y121 t124) + 1)] : List Int) : List Int)).bind fun y139 => ((zb.f k s0_0 bt137.2 4).bind fun bt142 => (if 0 ≤ bt142.1 then (if bt142.1 < (y139.length : Int) then (zk.j0 k s0_0 bt142.2 (rd y139 bt142.1) (rd y121 t124) (rd y112 t115)) else (none)) else (none)))) else (if bt137.1 = 1 then ((some (([0, wrap64 ((rd y112 t115) + 1), (-1)] : List Int) : List Int)).bind fun y145 => ((zb.f k s0_0 bt137.2 3).bind fun bt148 => (if 0 ≤ bt148.1 then (if bt148.1 < (y145.length : Int) then (zk.j0 k s0_0 bt148.2 (wrap64 (1 + bt133.1)) (rd y145 bt148.1) (rd y112 t115)) else (none)) else (none)))) else ((some (([0, 13, (-1)] : List Int) : List Int)).bind fun y151 => ((zb.f k s0_0 bt137.2 3).bind fun bt154 => (if 0 ≤ bt154.1 then (if bt154.1 < (y151.length : Int) then (zk.j0 k s0_0 bt154.2 (wrap64 (1 + bt133.1)) (rd y121 t124) (rd y151 bt154.1)) else (none)) else (none))))))) else (zk.j0 k s0_0 bt135.2 (wrap64 (1 + bt133.1)) (rd y121 t124) (rd y112 t115))))) else (none)) else (none)) = some (r1, r2, r3, r4) := H;have A14 := za.mk A140;clear A140;by_cases c15 : 0 ≤ t130
     ·rw [if_pos c15] at H
      have c15b0 : decide (0 ≤ t130) = true := decide_eq_true c15;clear c15;by_cases c16 : t130 < (y127.length : Int)
      ·rw [if_pos c16] at H
       have c16b0 : decide (t130 < (y127.length : Int)) = true := decide_eq_true c16;clear c16;obtain ⟨ji17, hji17⟩ : ∃ j_ : Int, (mn 8 (rd y127 t130)) = j_ := ⟨_, rfl⟩;replace H : ((zb.f k s0_0 t131 (ji17)).bind fun bt133 => ((zbn.f k s0_0 bt133.2 a1).bind fun bt135 => (if bt135.1 = true then ((zb.f k s0_0 bt135.2 3).bind fun bt137 => (if bt137.1 = 0 then ((some (([0, (-1), 9, wrap64 ((rd y121 t124) + 1)] : List Int) : List Int)).bind fun y139 => ((zb.f k s0_0 bt137.2 4).bind fun bt142 => (if 0 ≤ bt142.1 then (if bt142.1 < (y139.length : Int) then (zk.j0 k s0_0 bt142.2 (rd y139 bt142.1) (rd y121 t124) (rd y112 t115)) else (none)) else (none)))) else (if bt137.1 = 1 then ((some (([0, wrap64 ((rd y112 t115) + 1), (-1)] : List Int) : List Int)).bind fun y145 => ((zb.f k s0_0 bt137.2 3).bind fun bt148 => (if 0 ≤ bt148.1 then (if bt148.1 < (y145.length : Int) then (zk.j0 k s0_0 bt148.2 (wrap64 (1 + bt133.1)) (rd y145 bt148.1) (rd y112 t115)) else (none)) else (none)))) else ((some (([0, 13, (-1)] : List Int) : List Int)).bind fun y151 => ((zb.f k s0_0 bt137.2 3).bind fun bt154 => (if 0 ≤ bt154.1 then (if bt154.1 < (y151.length : Int) then (zk.j0 k s0_0 bt154.2 (wrap64 (1 + bt133.1)) (rd y121 t124) (rd y151 bt154.1)) else (none)) else (none))))))) else (zk.j0 k s0_0 bt135.2 (wrap64 (1 + bt133.1)) (rd y121 t124) (rd y112 t115))))) = some (r1, r2, r3, r4) := by first | (rw [hji17] at H; exact H) | (simp only [hji17] at H ⊢; exact H)
       (try rw [hji17] at A3);(try rw [hji17] at A4);(try rw [hji17] at A7);(try rw [hji17] at A9);(try rw [hji17] at A14);(try (have hji17h : ji17 ≤ 8 := by (rw [← hji17]; unfold mn; (repeat' split) <;> omega)));(try (have hji17g : ji17 ≤ 64 := by omega));have hji17_ : (if (rd y127 t130) < 8 then (rd y127 t130) else 8) = ji17 := hji17;replace H := Option.bind_eq_some_iff.mp H;obtain ⟨⟨t133, t134⟩, A180, H⟩ := H;replace H : ((zbn.f k s0_0 t134 a1).bind fun bt135 => (if bt135.1 = true then ((zb.f k s0_0 bt135.2 3).bind fun bt137 => (if bt137.1 = 0 then ((some (([0, (-1), 9, wrap64 ((rd y121 t124) + 1)] : List Int) : List Int)).bind fun y139 => ((zb.f k s0_0 bt137.2 4).bind fun bt142 => (if 0 ≤ bt142.1 then (if bt142.1 < (y139.length : Int) then (zk.j0 k s0_0 bt142.2 (rd y139 bt142.1) (rd y121 t124) (rd y112 t115)) else (none)) else (none)))) else (if bt137.1 = 1 then ((some (([0, wrap64 ((rd y112 t115) + 1), (-1)] : List Int) : List Int)).bind fun y145 => ((zb.f k s0_0 bt137.2 3).bind fun bt148 => (if 0 ≤ bt148.1 then (if bt148.1 < (y145.length : Int) then (zk.j0 k s0_0 bt148.2 (wrap64 (1 + t133)) (rd y145 bt148.1) (rd y112 t115)) else (none)) else (none)))) else ((some (([0, 13, (-1)] : List Int) : List Int)).bind fun y151 => ((zb.f k s0_0 bt137.2 3).bind fun bt154 => (if 0 ≤ bt154.1 then (if bt154.1 < (y151.length : Int) then (zk.j0 k s0_0 bt154.2 (wrap64 (1 + t133)) (rd y121 t124) (rd y151 bt154.1)) else (none)) else (none))))))) else (zk.j0 k s0_0 bt135.2 (wrap64 (1 + t133)) (rd y121 t124) (rd y112 t115)))) = some (r1, r2, r3, r4) := H;have A18 := za.mk A180;clear A180;replace H := Option.bind_eq_some_iff.mp H;obtain ⟨⟨t135, t136⟩, A190, H⟩ := H;replace H : (if t135 = true then ((zb.f k s0_0 t136 3).bind fun bt137 => (if bt137.1 = 0 then ((some (([0, (-1), 9, wrap64 ((rd y121 t124) + 1)] : List Int) : List Int)).bind fun y139 => ((zb.f k s0_0 bt137.2 4).bind fun bt142 => (if 0 ≤ bt142.1 then (if bt142.1 < (y139.length : Int) then (zk.j0 k s0_0 bt142.2 (rd y139 bt142.1) (rd y121 t124) (rd y112 t115)) else (none)) else (none)))) else (if bt137.1 = 1 then ((some (([0, wrap64 ((rd y112 t115) + 1), (-1)] : List Int) : List Int)).bind fun y145 => ((zb.f k s0_0 bt137.2 3).bind fun bt148 => (if 0 ≤ bt148.1 then (if bt148.1 < (y145.length : Int) then (zk.j0 k s0_0 bt148.2 (wrap64 (1 + t133)) (rd y145 bt148.1) (rd y112 t115)) else (none)) else (none)))) else ((some (([0, 13, (-1)] : List Int) : List Int)).bind fun y151 => ((zb.f k s0_0 bt137.2 3).bind fun bt154 => (if 0 ≤ bt154.1 then (if bt154.1 < (y151.length : Int) then (zk.j0 k s0_0 bt154.2 (wrap64 (1 + t133)) (rd y121 t124) (rd y151 bt154.1)) else (none)) else (none))))))) else (zk.j0 k s0_0 t136 (wrap64 (1 + t133)) (rd y121 t124) (rd y112 t115))) = some (r1, r2, r3, r4) := H;have A19 := za.mk A190;clear A190;have HC20 := za.mk H;clear H;go_enter Try.func71, Try.ntmps71
       try go_wp2_with (first | ((with_reducible refine zb4 (N := 4) rfl ?_); refine zcb ?hg (N := 4) ?hd (cs := #[.int .i64 0, .int .i64 0, .int .i64 0]) (t := 35) ?hr ?_; (case hd => rfl); (case hg => rfl); (case hr => first | (go_simp; done) | (go_simp; rfl)); intro gb109 hg w21 hbox hb; have n0_ := za.mk (zy.below (Zq5 HI0) hb); have n1_ := za.mk (zx.trans (Zq6 HK) (zx.of_below hb g none) (.inl rfl)); have n2_ := za.mk (zl (Zq7 HB (zy.ge HI0.out)) hb); have n3_ := za.mk (hbox); have n4_ := za.mk ((by rw [hg]; exact (zco (w := w) (g := g) (row := none) (Zq6 HK)) : w.heap.size ≤ gb109)); have n5_ := za.mk ((Nat.le_trans HW0.out (by rw [hg]; exact (zco (w := w) (g := g) (row := none) (Zq6 HK)) : w.heap.size ≤ gb109) : w0.heap.size ≤ gb109)); have n6_ := za.mk ((by rw [hg]; exact Nat.ne_of_lt (zy.lt (show zy w0 _ g s0_0 s0_1 from Zq5 HI0)) : g ≠ gb109)); have n7_ := za.mk ((by rw [hg]; exact Nat.ne_of_gt (zy.lt (show zy w0 _ g s0_0 s0_1 from Zq5 HI0)) : gb109 ≠ g)); clear HI0; clear HK; clear HB; have HI0 := n0_; have HK := n1_; have HB := n2_; have BK109 := n3_; have GW109 := n4_; have GE109 := n5_; have NB0_109 := n6_; have NB109_0 := n7_; clear n0_ n1_ n2_ n3_ n4_ n5_ n6_ n7_; clear hb hbox hg) | ((with_reducible refine zbd (f := 53) rfl ?_); refine zb6 (some 7) rfl rfl Try.func53 (by kernel_rfl) rfl #[.pointer (some ⟨g, 0, none⟩), .int .i64 12] rfl Zmt ?_; (with_reducible refine (zb.calls k g s0_0 s0_1 12 t110 t111 w0 _ ?side1 ?side2 A3.out).mono ?_); (case side1 => exact Zq9 HI0 NB0_109); (case side2 => exact Zq10 HB (zy.ge HI0.out) GE109); rintro e w22 ⟨rfl, hi, hb, hk⟩; refine ⟨_, rfl, ?_⟩; have n0_ := za.mk (zx.blk hk (g' := gb109) (o := .cells #[.int .i64 0, .int .i64 0, .int .i64 0] 35 (0, 0)) (Zq2 BK109) NB109_0.out (by simp)); have n1_ := za.mk (zx.trans (Zq11 HK GW109) hk (.inl rfl)); have n2_ := za.mk (hb); have n3_ := za.mk (hi); clear BK109; clear HK; clear HB; clear HI0; have BK109 := n0_; have HK := n1_; have HB := n2_; have HI0 := n3_; clear n0_ n1_ n2_ n3_; (try clear hb); (try clear hb2); (try clear hk); (try clear hi)) | ((with_reducible refine zb4 (N := 9) rfl ?_); refine Kd.zif (Kd.int .i64) _ 3 ?hg (N := 9) ?hd (xs := ([2, 3, 4, 6, 8, 12, wrap64 (1 + t110), 5] : List Int)) (inner := [.int .i64 2, .int .i64 3, .int .i64 4, .int .i64 6, .int .i64 8, .int .i64 12, .int .i64 (wrap64 (1 + t110)), .int .i64 5]) (ok := fun _ => True) (okp := fun _ => True) ?hr ?hp (fun _ hk => hk) trivial (Below.refl _ _) (Nat.le_refl _) (by simp) ?_; (case hd => rfl); (case hg => rfl); (case hr => first | (go_simp; done) | (go_simp; rfl)); (case hp => exact (Reps.one (show Kd.M (Kd.int .i64) _ _ _ 2 [.int .i64 2] from rfl) (Reps.one (show Kd.M (Kd.int .i64) _ _ _ 3 [.int .i64 3] from rfl) (Reps.one (show Kd.M (Kd.int .i64) _ _ _ 4 [.int .i64 4] from rfl) (Reps.one (show Kd.M (Kd.int .i64) _ _ _ 6 [.int .i64 6] from rfl) (Reps.one (show Kd.M (Kd.int .i64) _ _ _ 8 [.int .i64 8] from rfl) (Reps.one (show Kd.M (Kd.int .i64) _ _ _ 12 [.int .i64 12] from rfl) (Reps.one (show Kd.M (Kd.int .i64) _ _ _ (wrap64 (1 + t110)) [.int .i64 (wrap64 (1 + t110))] from rfl) (Reps.one (show Kd.M (Kd.int .i64) _ _ _ 5 [.int .i64 5] from rfl) (Reps.none _ _)))))))))); intro v113 w23 ho24 hb hg_ hnew_; clear hg_ hnew_; (first | rw [← Ny112.out] at ho24 | (simp only [Int.reduceToNat] at ho24; rw [← Ny112.out] at ho24)); have n0_ := za.mk (Kd.zcj ho24 (zco (w := w) (g := g) (row := none) (Zq11 HK GW109))); have n1_ := za.mk (zy.below (Zq9 HI0 NB0_109) hb); have n2_ := za.mk (zbm (g := gb109) (o := .cells #[.int .i64 0, .int .i64 0, .int .i64 0] 35 (0, 0)) (Zq2 BK109) hb); have n3_ := za.mk (zx.trans (Zq11 HK GW109) (zx.of_below hb g none) (.inl rfl)); have n4_ := za.mk (zl (Zq10 HB (zy.ge HI0.out) GE109) hb); clear HI0; clear BK109; clear HK; clear HB; have HO114 := n0_; have HI0 := n1_; have BK109 := n2_; have HK := n3_; have HB := n4_; clear n0_ n1_ n2_ n3_ n4_; clear hb ho24) | ((with_reducible refine zbd (f := 53) rfl ?_); refine zb6 (some 11) rfl rfl Try.func53 (by kernel_rfl) rfl #[.pointer (some ⟨g, 0, none⟩), .int .i64 8] rfl Zmt ?_; (with_reducible refine (zb.calls k g s0_0 t111 8 t115 t116 w0 _ ?side1 ?side2 A4.out).mono ?_); (case side1 => exact Zq9 HI0 NB0_109); (case side2 => exact Zq10 HB (zy.ge HI0.out) GE109); rintro e w25 ⟨rfl, hi, hb, hk⟩; refine ⟨_, rfl, ?_⟩; have n0_ := za.mk (zx.blk hk (g' := gb109) (o := .cells #[.int .i64 0, .int .i64 0, .int .i64 0] 35 (0, 0)) (Zq2 BK109) NB109_0.out (by simp)); have n1_ := za.mk (Kd.zbs (Kd.zcf (zy.apart (show zy w0 _ g s0_0 t111 from Zq9 HI0 NB0_109) (Zq12 HO114) (by decide)) hk (fun _ h => h.2)) (fun _ h => h.1)); have n2_ := za.mk (zx.trans (Zq11 HK GW109) hk (.inl rfl)); have n3_ := za.mk (hb); have n4_ := za.mk (hi); clear BK109; clear HO114; clear HK; clear HB; clear HI0; have BK109 := n0_; have HO114 := n1_; have HK := n2_; have HB := n3_; have HI0 := n4_; clear n0_ n1_ n2_ n3_ n4_; (try clear hb); (try clear hb2); (try clear hk); (try clear hi); obtain ⟨Ao26, co26, eo26⟩ := Kd.zck HO114.out; subst eo26; have p117 : 0 ≤ (t115 : Int) := of_decide_eq_true Zas; have q117 : t115 < (y112.length : Int) := of_decide_eq_true Zas; obtain ⟨ad117, e117, hx117_0⟩ := Kd.zb5 (Kd.zz HO114.out).2.2 t115 p117 q117; cases e117; replace p117 := eq_true p117; replace q117 := eq_true q117) | ((with_reducible refine zb4 (N := 5) rfl ?_); refine zcb ?hg (N := 5) ?hd (cs := #[.int .i64 0, .int .i64 0, .int .i64 0]) (t := 35) ?hr ?_; (case hd => rfl); (case hg => rfl); (case hr => first | (go_simp; done) | (go_simp; rfl)); intro gb118 hg w27 hbox hb; have n0_ := za.mk (Kd.zb7 (Zq12 HO114) hb); have n1_ := za.mk (zy.below (Zq9 HI0 NB0_109) hb); have n2_ := za.mk (zbm (g := gb109) (o := .cells #[.int .i64 0, .int .i64 0, .int .i64 0] 35 (0, 0)) (Zq2 BK109) hb); have n3_ := za.mk (zx.trans (Zq11 HK GW109) (zx.of_below hb g none) (.inl rfl)); have n4_ := za.mk (zl (Zq10 HB (zy.ge HI0.out) GE109) hb); have n5_ := za.mk (hbox); have n6_ := za.mk ((by rw [hg]; exact (zco (w := w) (g := g) (row := none) (Zq11 HK GW109)) : w.heap.size ≤ gb118)); have n7_ := za.mk ((Nat.le_trans HW0.out (by rw [hg]; exact (zco (w := w) (g := g) (row := none) (Zq11 HK GW109)) : w.heap.size ≤ gb118) : w0.heap.size ≤ gb118)); have n8_ := za.mk ((by rw [hg]; exact Nat.ne_of_lt (zds (g := gb109) (o := .cells #[.int .i64 0, .int .i64 0, .int .i64 0] 35 (0, 0)) (Zq2 BK109)) : gb109 ≠ gb118)); have n9_ := za.mk ((by rw [hg]; exact Nat.ne_of_gt (zds (g := gb109) (o := .cells #[.int .i64 0, .int .i64 0, .int .i64 0] 35 (0, 0)) (Zq2 BK109)) : gb118 ≠ gb109)); have n10_ := za.mk ((by rw [hg]; exact Nat.ne_of_lt (zy.lt (show zy w0 _ g s0_0 t116 from Zq9 HI0 NB0_109)) : g ≠ gb118)); have n11_ := za.mk ((by rw [hg]; exact Nat.ne_of_gt (zy.lt (show zy w0 _ g s0_0 t116 from Zq9 HI0 NB0_109)) : gb118 ≠ g)); clear HO114; clear HI0; clear BK109; clear HK; clear HB; have HO114 := n0_; have HI0 := n1_; have BK109 := n2_; have HK := n3_; have HB := n4_; have BK118 := n5_; have GW118 := n6_; have GE118 := n7_; have NB109_118 := n8_; have NB118_109 := n9_; have NB0_118 := n10_; have NB118_0 := n11_; clear n0_ n1_ n2_ n3_ n4_ n5_ n6_ n7_ n8_ n9_ n10_ n11_; clear hb hbox hg; have hnb28 := NB118_109.out; have hnc28 := NB109_118.out; have hnb29 := NB118_0.out; have hnc29 := NB0_118.out; have hcz30_0 : w27.cell? ⟨gb118, 0, none⟩ = some (.int .i64 0) := (ze BK118.out 0).trans rfl; have hcz30_1 : w27.cell? ⟨gb118, 1, none⟩ = some (.int .i64 0) := (ze BK118.out 1).trans rfl; have hcz30_2 : w27.cell? ⟨gb118, 2, none⟩ = some (.int .i64 0) := (ze BK118.out 2).trans rfl; have hfz30_0 := zw BK118.out 0; have hfz30_1 := zw BK118.out 1; have hfz30_2 := zw BK118.out 2))
       have pi126 : (0 ≤ (t124 : Int)) = True := eq_true (of_decide_eq_true Zas);have qi126 : (t124 < (y121.length : Int)) = True := eq_true (of_decide_eq_true Zas);have n0_ : za (Kd.R (Kd.int .i64) 3 (((w27.setCell ⟨gb118, 0, none⟩ (.int .i64 0)).setCell ⟨gb118, 1, none⟩ (.int .i64 0)).setCell ⟨gb118, 2, none⟩ (.int .i64 (rd y112 t115))) w.heap.size (fun _ => True) (.slice (some ad117) y112.length co26) y112) := ⟨by (with_reducible repeat (first | apply Kd.zcl | apply Kd.zcm | apply Kd.zci)); exact Kd.zbs (Kd.zf8 (p := ⟨gb118, 2, none⟩) (Kd.zf8 (p := ⟨gb118, 1, none⟩) (Kd.zf8 (p := ⟨gb118, 0, none⟩) (Kd.ze7 HO114.out BK118.out (by decide)) (fun _ hk => hk.2) (.int .i64 0)) (fun _ hk => hk.2) (.int .i64 0)) (fun _ hk => hk.2) (.int .i64 (rd y112 t115))) (fun _ hk => trivial)⟩;have n1_ : za ((((w27.setCell ⟨gb118, 0, none⟩ (.int .i64 0)).setCell ⟨gb118, 1, none⟩ (.int .i64 0)).setCell ⟨gb118, 2, none⟩ (.int .i64 (rd y112 t115))).heap[gb109]? = some (.cells #[.int .i64 0, .int .i64 0, .int .i64 0] 35 (0, 0))) := ⟨by (with_reducible repeat (first | refine zbi ?_ _ | refine zbf ?_ | refine zbh ?_ _)); refine zc9 ?_ NB109_118.out _; (with_reducible repeat (first | refine zbi ?_ _ | refine zbf ?_ | refine zbh ?_ _)); refine zc9 ?_ NB109_118.out _; (with_reducible repeat (first | refine zbi ?_ _ | refine zbf ?_ | refine zbh ?_ _)); refine zc9 ?_ NB109_118.out _; (with_reducible repeat (first | refine zbi ?_ _ | refine zbf ?_ | refine zbh ?_ _)); exact BK109.out⟩;have n2_ : za ((((w27.setCell ⟨gb118, 0, none⟩ (.int .i64 0)).setCell ⟨gb118, 1, none⟩ (.int .i64 0)).setCell ⟨gb118, 2, none⟩ (.int .i64 (rd y112 t115))).heap[gb118]? = some (.cells #[.int .i64 0, .int .i64 0, .int .i64 (rd y112 t115)] 35 (0, 0))) := ⟨by (with_reducible repeat (first | refine zbi ?_ _ | refine zbf ?_ | refine zbh ?_ _)); refine zcv (cs := #[.int .i64 0, .int .i64 0, .int .i64 0]) ?_ 2 _ rfl; (with_reducible repeat (first | refine zbi ?_ _ | refine zbf ?_ | refine zbh ?_ _)); refine zcv (cs := #[.int .i64 0, .int .i64 0, .int .i64 0]) ?_ 1 _ rfl; (with_reducible repeat (first | refine zbi ?_ _ | refine zbf ?_ | refine zbh ?_ _)); refine zcv (cs := #[.int .i64 0, .int .i64 0, .int .i64 0]) ?_ 0 _ rfl; (with_reducible repeat (first | refine zbi ?_ _ | refine zbf ?_ | refine zbh ?_ _)); exact BK118.out⟩;have n3_ : za (zy w0 (((w27.setCell ⟨gb118, 0, none⟩ (.int .i64 0)).setCell ⟨gb118, 1, none⟩ (.int .i64 0)).setCell ⟨gb118, 2, none⟩ (.int .i64 (rd y112 t115))) g s0_0 t116) := ⟨Zq13 HI0 NB0_109 NB0_118⟩;have n4_ : za (zx w (((w27.setCell ⟨gb118, 0, none⟩ (.int .i64 0)).setCell ⟨gb118, 1, none⟩ (.int .i64 0)).setCell ⟨gb118, 2, none⟩ (.int .i64 (rd y112 t115))) g none) := ⟨Zq14 HK GW109 GW118⟩;have n5_ : za (Below w0.heap.size w0 (((w27.setCell ⟨gb118, 0, none⟩ (.int .i64 0)).setCell ⟨gb118, 1, none⟩ (.int .i64 0)).setCell ⟨gb118, 2, none⟩ (.int .i64 (rd y112 t115)))) := ⟨Zq15 HB (zy.ge HI0.out) GE109 GE118⟩;(try clear HO114);(try clear BK109);(try clear BK118);(try clear HI0);(try clear HK);(try clear HB);generalize (((w27.setCell ⟨gb118, 0, none⟩ (.int .i64 0)).setCell ⟨gb118, 1, none⟩ (.int .i64 0)).setCell ⟨gb118, 2, none⟩ (.int .i64 (rd y112 t115))) = w31 at n0_ n1_ n2_ n3_ n4_ n5_ ⊢;have HO114 := n0_;have BK109 := n1_;have BK118 := n2_;have HI0 := n3_;have HK := n4_;have HB := n5_;clear n0_ n1_ n2_ n3_ n4_ n5_;have n0_ := za.mk (Kd.zci HO114.out);have n1_ := za.mk (zbf BK109.out);have n2_ := za.mk (zbf BK118.out);have n3_ := za.mk (zy.drew HI0.out);have n4_ := za.mk (zea HK.out);have n5_ := za.mk (zbk HB.out);clear HO114;clear BK109;clear BK118;clear HI0;clear HK;clear HB;have HO114 := n0_;have BK109 := n1_;have BK118 := n2_;have HI0 := n3_;have HK := n4_;have HB := n5_;clear n0_ n1_ n2_ n3_ n4_ n5_;refine zcn (n := 18) (S := fun w' => w'.cell? ⟨gb118, 0, none⟩ = some (.int .i64 0) ∧ w'.cell? ⟨gb118, 1, none⟩ = some (.int .i64 0) ∧ w'.cell? ⟨gb118, 2, none⟩ = some (.int .i64 (rd y112 t115))) (ds := [17]) #[false, false, false, false, false, false, false, false, false, false, false, false, false, false, false, false, false, false] (by kernel_rfl) rfl rfl ⟨(ze BK118.out 0).trans rfl, (ze BK118.out 1).trans rfl, (ze BK118.out 2).trans rfl⟩ (fun hHeld => ?_); refine zbw zk.tab2 zk.zi9 (fun HT_ HW_ => ?_);generalize w31.drew = w32 at HO114 BK109 BK118 HI0 HK HB hHeld ⊢;refine zn (i := 0) (N := some 15) (v := ?_) (a' := ?_) #[true, false, false, false, false, false, false, false, false, false, false, false, false, false, false, false, false, false] rfl rfl (zg HT_.out (by kernel_rfl)) (fun _ _ _ h => h) (Or.inl ⟨by rfl, ?_⟩) ?_ ?_;rotate_left
       ·intro w'
        go_simp;with_reducible rfl
       rotate_left
       ·simp only [Act.put, Zs1, Zs2, Zs3, zh, zi]
        rfl
       refine zn (i := 2) (N := some 17) (v := ?_) (a' := ?_) #[true, false, true, false, false, false, false, false, false, false, false, false, false, false, false, false, false, false] rfl rfl (zg HT_.out (by kernel_rfl)) (fun _ _ _ h => h) (Or.inl ⟨by rfl, ?_⟩) ?_ ?_;rotate_left
       ·intro w'
        go_simp;with_reducible rfl
       rotate_left
       ·simp only [Act.put, Zs1, Zs2, Zs3, zh, zi]
        rfl
       refine zn (i := 3) (N := some 18) (v := ?_) (a' := ?_) #[true, false, true, true, false, false, false, false, false, false, false, false, false, false, false, false, false, false] rfl rfl (zg HT_.out (by kernel_rfl)) (fun _ _ _ h => h) (Or.inl ⟨by rfl, ?_⟩) ?_ ?_;rotate_left
       ·intro w'
        go_simp;with_reducible rfl
       rotate_left
       ·simp only [Act.put, Zs1, Zs2, Zs3, zh, zi]
        rfl
       refine zn (i := 7) (N := some 22) (v := ?_) (a' := ?_) #[true, false, true, true, false, false, false, true, false, false, false, false, false, false, false, false, false, false] rfl rfl (zg HT_.out (by kernel_rfl)) (fun _ _ _ h => h) (Or.inl ⟨by rfl, ?_⟩) ?_ ?_;rotate_left
       ·intro w'
        go_simp;with_reducible rfl
       rotate_left
       ·simp only [Act.put, Zs1, Zs2, Zs3, zh, zi]
        rfl
       refine zn (i := 12) (N := some 27) (v := ?_) (a' := ?_) #[true, false, true, true, false, false, false, true, false, false, false, false, true, false, false, false, false, false] rfl rfl (zg HT_.out (by kernel_rfl)) (fun _ _ _ h => h) (Or.inl ⟨by rfl, ?_⟩) ?_ ?_;rotate_left
       ·intro w'
        go_simp;with_reducible rfl
       rotate_left
       ·simp only [Act.put, Zs1, Zs2, Zs3, zh, zi]
        rfl
       refine zb3 (i := 1) (N := some 16) (v := ?_) (a' := ?_) #[true, true, true, true, false, false, false, true, false, false, false, false, true, false, false, false, false, false] rfl rfl (zbc HT_.out HW_.out (by kernel_rfl)) (fun _ _ _ h => h) (Or.inl ⟨by rfl, ?_⟩) hHeld ?_ ?_;rotate_left
       ·rintro w' ⟨s0, s1, s2⟩
        go_simp;with_reducible rfl
       rotate_left
       ·simp only [Act.put, Zs1, Zs2, Zs3, zh, zi]
        rfl
       refine zb3 (i := 4) (N := some 19) (v := ?_) (a' := ?_) #[true, true, true, true, true, false, false, true, false, false, false, false, true, false, false, false, false, false] rfl rfl (zbc HT_.out HW_.out (by kernel_rfl)) (fun _ _ _ h => h) (Or.inl ⟨by rfl, ?_⟩) hHeld ?_ ?_;rotate_left
       ·rintro w' ⟨s0, s1, s2⟩
        go_simp;with_reducible rfl
       rotate_left
       ·simp only [Act.put, Zs1, Zs2, Zs3, zh, zi]
        rfl
       refine zb3 (i := 8) (N := some 23) (v := ?_) (a' := ?_) #[true, true, true, true, true, false, false, true, true, false, false, false, true, false, false, false, false, false] rfl rfl (zbc HT_.out HW_.out (by kernel_rfl)) (fun _ _ _ h => h) (Or.inl ⟨by rfl, ?_⟩) hHeld ?_ ?_;rotate_left
       ·rintro w' ⟨s0, s1, s2⟩
        go_simp;with_reducible rfl
       rotate_left
       ·simp only [Act.put, Zs1, Zs2, Zs3, zh, zi]
        rfl
       refine zn (i := 9) (N := some 24) (v := ?_) (a' := ?_) #[true, true, true, true, true, false, false, true, true, true, false, false, true, false, false, false, false, false] rfl rfl (zg HT_.out (by kernel_rfl)) (fun _ _ _ h => h) (Or.inl ⟨by rfl, ?_⟩) ?_ ?_;rotate_left
       ·intro w'
        go_simp;with_reducible rfl
       rotate_left
       ·simp only [Act.put, Zs1, Zs2, Zs3, zh, zi]
        rfl
       refine zn (i := 10) (N := some 25) (v := ?_) (a' := ?_) #[true, true, true, true, true, false, false, true, true, true, true, false, true, false, false, false, false, false] rfl rfl (zg HT_.out (by kernel_rfl)) (fun _ _ _ h => h) (Or.inl ⟨by rfl, ?_⟩) ?_ ?_;rotate_left
       ·intro w'
        go_simp;with_reducible rfl
       rotate_left
       ·simp only [Act.put, Zs1, Zs2, Zs3, zh, zi]
        rfl
       refine one_ (i := 5) (N := some 20) #[true, true, true, true, true, true, false, true, true, true, true, false, true, false, false, false, false, false] rfl rfl (zb0 HT_.out (by kernel_rfl)) (by decide) (fun K hK => ?_);refine zcs Try.func53 (by kernel_rfl) rfl #[.pointer (some ⟨g, 0, none⟩), .int .i64 (rd y112 t115)] (by rfl) rfl rfl Zmt ?_;with_reducible refine (zb.calls k g s0_0 t116 (rd y112 t115) t119 t120 w0 _ ?side1 ?side2 A7.out).mono ?_
       (case side1 => exact Zq13 HI0 NB0_109 NB0_118);(case side2 => exact Zq15 HB (zy.ge HI0.out) GE109 GE118);rintro e w33 ⟨rfl, hi, hb, hk⟩;refine ⟨_, rfl, ?_⟩;have n0_ := za.mk (zx.blk hk (g' := gb109) (o := .cells #[.int .i64 0, .int .i64 0, .int .i64 0] 35 (0, 0)) (Zq2 BK109) NB109_0.out (by simp));have n1_ := za.mk (Kd.zbs (Kd.zcf (zy.apart (show zy w0 _ g s0_0 t116 from Zq13 HI0 NB0_109 NB0_118) (Zq12 HO114) (by decide)) hk (fun _ h => h.2)) (fun _ h => h.1));have n2_ := za.mk (zx.blk hk (g' := gb118) (o := .cells #[.int .i64 0, .int .i64 0, .int .i64 (rd y112 t115)] 35 (0, 0)) (Zq2 BK118) NB118_0.out (by simp));have n3_ := za.mk (zx.trans (Zq14 HK GW109 GW118) hk (.inl rfl));have n4_ := za.mk (hb);have n5_ := za.mk (hi);clear BK109;clear HO114;clear BK118;clear HK;clear HB;clear HI0;have BK109 := n0_;have HO114 := n1_;have BK118 := n2_;have HK := n3_;have HB := n4_;have HI0 := n5_;clear n0_ n1_ n2_ n3_ n4_ n5_;(try clear hb);(try clear hb2);(try clear hk);(try clear hi);refine hK.out _ _ ⟨(ze BK118.out 0).trans rfl, (ze BK118.out 1).trans rfl, (ze BK118.out 2).trans rfl⟩ (fun hHeld => ?_);clear hK K;refine zcd (a' := ?_) ?_ ?_;rotate_left
       ·show Act.put _ (some 20) _ = _
        simp only [Act.put, Zs1, Zs2, Zs3, zh, zi];rfl
       refine zn (i := 6) (N := some 21) (v := ?_) (a' := ?_) #[true, true, true, true, true, true, true, true, true, true, true, false, true, false, false, false, false, false] rfl rfl (zg HT_.out (by kernel_rfl)) (fun _ _ _ h => h) (Or.inl ⟨by rfl, ?_⟩) ?_ ?_;rotate_left
       ·intro w'
        go_simp;with_reducible rfl
       rotate_left
       ·simp only [Act.put, Zs1, Zs2, Zs3, zh, zi]
        rfl
       refine join_ (σ := Value × Addr) 4 #[true, true, true, true, true, true, true, true, true, true, true, true, true, true, false, false, false, false] (fun s_ => [(26, s_.1), (28, .int .i64 t124)]) (fun s_ w' => (w'.cell? ⟨gb118, 0, none⟩ = some (.int .i64 0) ∧ w'.cell? ⟨gb118, 1, none⟩ = some (.int .i64 0) ∧ w'.cell? ⟨gb118, 2, none⟩ = some (.int .i64 (rd y112 t115))) ∧ (Kd.R (Kd.int .i64) 3 w' w.heap.size (fun k_ => some k_ ≠ (s_.1 : Value).ownBlock) (.slice (some ad117) y112.length co26) y112) ∧ (Kd.R (Kd.int .i64) 3 w' w.heap.size (fun k_ => some k_ ≠ (.slice (some ad117) y112.length co26 : Value).ownBlock) s_.1 y121) ∧ (∃ c_, (s_.1 : Value) = .slice (some s_.2) y121.length c_) ∧ (w'.heap[gb109]? = some (.cells #[.int .i64 0, .int .i64 0, .int .i64 0] 35 (0, 0))) ∧ (w'.heap[gb118]? = some (.cells #[.int .i64 0, .int .i64 0, .int .i64 (rd y112 t115)] 35 (0, 0))) ∧ (zy w0 w' g s0_0 t125) ∧ (zx w w' g none) ∧ (Below w0.heap.size w0 w')) ?_ ?_;rotate_left
       ·intro hCont
        refine two_ (i := 11) (j := 13) (Ni := some 26) (Nj := some 28) #[true, true, true, true, true, true, true, true, true, true, true, true, true, false, false, false, false, false] #[true, true, true, true, true, true, true, true, true, true, true, false, true, true, false, false, false, false] rfl rfl rfl rfl (two_of HT_.out (by kernel_rfl)) (by decide) (by decide) (fun K hK => ?_) (fun K hK => ?_)
        ·skip
         refine Kd.zdu (Kd.int .i64) _ 3 ?hg (N := 26) ?hd (xs := ([rd y112 t115, wrap64 (1 + t119), ji8] : List Int)) (inner := [.int .i64 (rd y112 t115), .int .i64 (wrap64 (1 + t119)), .int .i64 ji8]) (ok := fun _ => True) (okp := fun _ => True) ?hr ?hp (fun _ hk => hk) trivial (Below.refl _ _) (Nat.le_refl _) (by simp) ?_; (case hd => rfl); (case hg => rfl); (case hr => first | (go_simp; done) | (go_simp; rfl)); (case hp => exact (Reps.one (show Kd.M (Kd.int .i64) _ _ _ (rd y112 t115) [.int .i64 (rd y112 t115)] from rfl) (Reps.one (show Kd.M (Kd.int .i64) _ _ _ (wrap64 (1 + t119)) [.int .i64 (wrap64 (1 + t119))] from rfl) (Reps.one (show Kd.M (Kd.int .i64) _ _ _ ji8 [.int .i64 ji8] from rfl) (Reps.none _ _)))));intro v122 w34 ho35 hb hg_ hnew_;clear hg_ hnew_;(first | rw [← Ny121.out] at ho35 | (simp only [Int.reduceToNat] at ho35; rw [← Ny121.out] at ho35));have n0_ := za.mk (Kd.zct (Zq12 HO114) (Kd.zcy ho35) hb);have n1_ := za.mk (Kd.zcj (Kd.zdk ho35 (Kd.R_lt (Zq12 HO114))) (zco (w := w) (g := g) (row := none) (Zq14 HK GW109 GW118)));have n2_ := za.mk (zy.below (Zq13 HI0 NB0_109 NB0_118) hb);have n3_ := za.mk (zbm (g := gb109) (o := .cells #[.int .i64 0, .int .i64 0, .int .i64 0] 35 (0, 0)) (Zq2 BK109) hb);have n4_ := za.mk (zbm (g := gb118) (o := .cells #[.int .i64 0, .int .i64 0, .int .i64 (rd y112 t115)] 35 (0, 0)) (Zq2 BK118) hb);have n5_ := za.mk (zx.trans (Zq14 HK GW109 GW118) (zx.of_below hb g none) (.inl rfl));have n6_ := za.mk (zl (Zq15 HB (zy.ge HI0.out) GE109 GE118) hb);clear HO114;clear HI0;clear BK109;clear BK118;clear HK;clear HB;have HO114 := n0_;have HO123 := n1_;have HI0 := n2_;have BK109 := n3_;have BK118 := n4_;have HK := n5_;have HB := n6_;clear n0_ n1_ n2_ n3_ n4_ n5_ n6_;clear hb ho35;obtain ⟨Ao36, co36, eo36⟩ := Kd.zck HO123.out;subst eo36;obtain ⟨ado36, fo36, _⟩ := Kd.zb5 (Kd.zz HO123.out).2.2 0 (by decide) (by rw [Ny121.out]; simp)
         cases fo36
         refine hK.out _ _ ⟨(ze BK118.out 0).trans rfl, (ze BK118.out 1).trans rfl, (ze BK118.out 2).trans rfl⟩ (fun hHeld => ?_);clear hK K;refine zcd (a' := ?_) ?_ ?_;rotate_left
         ·show Act.put _ (some 26) _ = _
          simp only [Act.put, Zs1, Zs2, Zs3, zh, zi];rfl
         refine one_ (i := 13) (N := some 28) #[true, true, true, true, true, true, true, true, true, true, true, true, true, true, false, false, false, false] rfl rfl (zb0 HT_.out (by kernel_rfl)) (by decide) (fun K hK => ?_);refine zcs Try.func53 (by kernel_rfl) rfl #[.pointer (some ⟨g, 0, none⟩), .int .i64 3] (by rfl) rfl rfl Zmt ?_;with_reducible refine (zb.calls k g s0_0 t120 3 t124 t125 w0 _ ?side1 ?side2 A9.out).mono ?_
         (case side1 => exact Zq13 HI0 NB0_109 NB0_118);(case side2 => exact Zq15 HB (zy.ge HI0.out) GE109 GE118);rintro e w37 ⟨rfl, hi, hb, hk⟩;refine ⟨_, rfl, ?_⟩;have n0_ := za.mk (zx.blk hk (g' := gb109) (o := .cells #[.int .i64 0, .int .i64 0, .int .i64 0] 35 (0, 0)) (Zq2 BK109) NB109_0.out (by simp));have n1_ := za.mk (Kd.zbs (Kd.zcf (zy.apart (show zy w0 _ g s0_0 t120 from Zq13 HI0 NB0_109 NB0_118) (Zq12 HO114) (by decide)) hk (fun _ h => h.2)) (fun _ h => h.1));have n2_ := za.mk (zx.blk hk (g' := gb118) (o := .cells #[.int .i64 0, .int .i64 0, .int .i64 (rd y112 t115)] 35 (0, 0)) (Zq2 BK118) NB118_0.out (by simp));have n3_ := za.mk (Kd.zbs (Kd.zcf (zy.apart (show zy w0 _ g s0_0 t120 from Zq13 HI0 NB0_109 NB0_118) (Zq12 HO123) (by decide)) hk (fun _ h => h.2)) (fun _ h => h.1));have n4_ := za.mk (zx.trans (Zq14 HK GW109 GW118) hk (.inl rfl));have n5_ := za.mk (hb);have n6_ := za.mk (hi);clear BK109;clear HO114;clear BK118;clear HO123;clear HK;clear HB;clear HI0;have BK109 := n0_;have HO114 := n1_;have BK118 := n2_;have HO123 := n3_;have HK := n4_;have HB := n5_;have HI0 := n6_;clear n0_ n1_ n2_ n3_ n4_ n5_ n6_;(try clear hb);(try clear hb2);(try clear hk);(try clear hi);refine hK.out _ _ ⟨(ze BK118.out 0).trans rfl, (ze BK118.out 1).trans rfl, (ze BK118.out 2).trans rfl⟩ (fun hHeld => ?_);clear hK K;refine zcd (a' := ?_) ?_ ?_;rotate_left
         ·show Act.put _ (some 28) _ = _
          simp only [Act.put, Zs1, Zs2, Zs3, zh, zi];rfl
         exact zcd (by simp only [zec, Act.put, Zs1, Zs2, Zs3]) (hCont (.slice (some ado36) y121.length co36, ado36) _ ⟨hHeld, (by (with_reducible repeat (first | apply Kd.zcl | apply Kd.zcm | apply Kd.zci)); exact Kd.zbs HO114.out (fun _ hk => hk.2)), (by (with_reducible repeat (first | apply Kd.zcl | apply Kd.zcm | apply Kd.zci)); exact Kd.zbs HO123.out (fun _ hk => hk.2)), ⟨_, rfl⟩, (Zq2 BK109), (Zq2 BK118), (Zq13 HI0 NB0_109 NB0_118), (Zq14 HK GW109 GW118), (Zq15 HB (zy.ge HI0.out) GE109 GE118)⟩)
        ·skip
         refine zcs Try.func53 (by kernel_rfl) rfl #[.pointer (some ⟨g, 0, none⟩), .int .i64 3] (by rfl) rfl rfl Zmt ?_;with_reducible refine (zb.calls k g s0_0 t120 3 t124 t125 w0 _ ?side1 ?side2 A9.out).mono ?_
         (case side1 => exact Zq13 HI0 NB0_109 NB0_118);(case side2 => exact Zq15 HB (zy.ge HI0.out) GE109 GE118);rintro e w34 ⟨rfl, hi, hb, hk⟩;refine ⟨_, rfl, ?_⟩;have n0_ := za.mk (zx.blk hk (g' := gb109) (o := .cells #[.int .i64 0, .int .i64 0, .int .i64 0] 35 (0, 0)) (Zq2 BK109) NB109_0.out (by simp));have n1_ := za.mk (Kd.zbs (Kd.zcf (zy.apart (show zy w0 _ g s0_0 t120 from Zq13 HI0 NB0_109 NB0_118) (Zq12 HO114) (by decide)) hk (fun _ h => h.2)) (fun _ h => h.1));have n2_ := za.mk (zx.blk hk (g' := gb118) (o := .cells #[.int .i64 0, .int .i64 0, .int .i64 (rd y112 t115)] 35 (0, 0)) (Zq2 BK118) NB118_0.out (by simp));have n3_ := za.mk (zx.trans (Zq14 HK GW109 GW118) hk (.inl rfl));have n4_ := za.mk (hb);have n5_ := za.mk (hi);clear BK109;clear HO114;clear BK118;clear HK;clear HB;clear HI0;have BK109 := n0_;have HO114 := n1_;have BK118 := n2_;have HK := n3_;have HB := n4_;have HI0 := n5_;clear n0_ n1_ n2_ n3_ n4_ n5_;(try clear hb);(try clear hb2);(try clear hk);(try clear hi);refine hK.out _ _ ⟨(ze BK118.out 0).trans rfl, (ze BK118.out 1).trans rfl, (ze BK118.out 2).trans rfl⟩ (fun hHeld => ?_);clear hK K;refine zcd (a' := ?_) ?_ ?_;rotate_left
         ·show Act.put _ (some 28) _ = _
          simp only [Act.put, Zs1, Zs2, Zs3, zh, zi];rfl
         refine one_ (i := 11) (N := some 26) #[true, true, true, true, true, true, true, true, true, true, true, true, true, true, false, false, false, false] rfl rfl (zb0 HT_.out (by kernel_rfl)) (by decide) (fun K hK => ?_);refine Kd.zdu (Kd.int .i64) _ 3 ?hg (N := 26) ?hd (xs := ([rd y112 t115, wrap64 (1 + t119), ji8] : List Int)) (inner := [.int .i64 (rd y112 t115), .int .i64 (wrap64 (1 + t119)), .int .i64 ji8]) (ok := fun _ => True) (okp := fun _ => True) ?hr ?hp (fun _ hk => hk) trivial (Below.refl _ _) (Nat.le_refl _) (by simp) ?_; (case hd => rfl); (case hg => rfl); (case hr => first | (go_simp; done) | (go_simp; rfl)); (case hp => exact (Reps.one (show Kd.M (Kd.int .i64) _ _ _ (rd y112 t115) [.int .i64 (rd y112 t115)] from rfl) (Reps.one (show Kd.M (Kd.int .i64) _ _ _ (wrap64 (1 + t119)) [.int .i64 (wrap64 (1 + t119))] from rfl) (Reps.one (show Kd.M (Kd.int .i64) _ _ _ ji8 [.int .i64 ji8] from rfl) (Reps.none _ _)))));intro v122 w35 ho36 hb hg_ hnew_;clear hg_ hnew_;(first | rw [← Ny121.out] at ho36 | (simp only [Int.reduceToNat] at ho36; rw [← Ny121.out] at ho36));have n0_ := za.mk (Kd.zct (Zq12 HO114) (Kd.zcy ho36) hb);have n1_ := za.mk (Kd.zcj (Kd.zdk ho36 (Kd.R_lt (Zq12 HO114))) (zco (w := w) (g := g) (row := none) (Zq14 HK GW109 GW118)));have n2_ := za.mk (zy.below (Zq13 HI0 NB0_109 NB0_118) hb);have n3_ := za.mk (zbm (g := gb109) (o := .cells #[.int .i64 0, .int .i64 0, .int .i64 0] 35 (0, 0)) (Zq2 BK109) hb);have n4_ := za.mk (zbm (g := gb118) (o := .cells #[.int .i64 0, .int .i64 0, .int .i64 (rd y112 t115)] 35 (0, 0)) (Zq2 BK118) hb);have n5_ := za.mk (zx.trans (Zq14 HK GW109 GW118) (zx.of_below hb g none) (.inl rfl));have n6_ := za.mk (zl (Zq15 HB (zy.ge HI0.out) GE109 GE118) hb);clear HO114;clear HI0;clear BK109;clear BK118;clear HK;clear HB;have HO114 := n0_;have HO123 := n1_;have HI0 := n2_;have BK109 := n3_;have BK118 := n4_;have HK := n5_;have HB := n6_;clear n0_ n1_ n2_ n3_ n4_ n5_ n6_;clear hb ho36;obtain ⟨Ao37, co37, eo37⟩ := Kd.zck HO123.out;subst eo37;obtain ⟨ado37, fo37, _⟩ := Kd.zb5 (Kd.zz HO123.out).2.2 0 (by decide) (by rw [Ny121.out]; simp)
         cases fo37
         refine hK.out _ _ ⟨(ze BK118.out 0).trans rfl, (ze BK118.out 1).trans rfl, (ze BK118.out 2).trans rfl⟩ (fun hHeld => ?_);clear hK K;refine zcd (a' := ?_) ?_ ?_;rotate_left
         ·show Act.put _ (some 26) _ = _
          simp only [Act.put, Zs1, Zs2, Zs3, zh, zi];rfl
         exact zcd (by simp only [zec, Act.put, Zs1, Zs2, Zs3]) (hCont (.slice (some ado37) y121.length co37, ado37) _ ⟨hHeld, (by (with_reducible repeat (first | apply Kd.zcl | apply Kd.zcm | apply Kd.zci)); exact Kd.zbs HO114.out (fun _ hk => hk.2)), (by (with_reducible repeat (first | apply Kd.zcl | apply Kd.zcm | apply Kd.zci)); exact Kd.zbs HO123.out (fun _ hk => hk.2)), ⟨_, rfl⟩, (Zq2 BK109), (Zq2 BK118), (Zq13 HI0 NB0_109 NB0_118), (Zq14 HK GW109 GW118), (Zq15 HB (zy.ge HI0.out) GE109 GE118)⟩)
       rintro ⟨v122, adz_v122⟩ w38 ⟨hS_, h0_, h1_, h2_, h3_, h4_, h5_, h6_, h7_⟩;have n0_ : za (Kd.R (Kd.int .i64) 3 w38 w.heap.size (fun k_ => some k_ ≠ (v122 : Value).ownBlock) (.slice (some ad117) y112.length co26) y112) := ⟨h0_⟩;have n1_ : za (Kd.R (Kd.int .i64) 3 w38 w.heap.size (fun k_ => some k_ ≠ (.slice (some ad117) y112.length co26 : Value).ownBlock) v122 y121) := ⟨h1_⟩;have n2_ : za (∃ c_, (v122 : Value) = .slice (some adz_v122) y121.length c_) := ⟨h2_⟩;have n3_ : za (w38.heap[gb109]? = some (.cells #[.int .i64 0, .int .i64 0, .int .i64 0] 35 (0, 0))) := ⟨h3_⟩;have n4_ : za (w38.heap[gb118]? = some (.cells #[.int .i64 0, .int .i64 0, .int .i64 (rd y112 t115)] 35 (0, 0))) := ⟨h4_⟩;have n5_ : za (zy w0 w38 g s0_0 t125) := ⟨h5_⟩;have n6_ : za (zx w w38 g none) := ⟨h6_⟩;have n7_ : za (Below w0.heap.size w0 w38) := ⟨h7_⟩;clear HO114;clear BK109;clear BK118;clear HI0;clear HK;clear HB;clear h0_ h1_ h2_ h3_ h4_ h5_ h6_ h7_;have HO114 := n0_;have HO123 := n1_;have HA_HO123 := n2_;have BK109 := n3_;have BK118 := n4_;have HI0 := n5_;have HK := n6_;have HB := n7_;clear n0_ n1_ n2_ n3_ n4_ n5_ n6_ n7_;have hHeld : w38.cell? ⟨gb118, 0, none⟩ = some (.int .i64 0) ∧ w38.cell? ⟨gb118, 1, none⟩ = some (.int .i64 0) ∧ w38.cell? ⟨gb118, 2, none⟩ = some (.int .i64 (rd y112 t115)) := hS_;obtain ⟨co39, eo39⟩ := HA_HO123.out;clear HA_HO123;subst eo39;refine zcd (a' := ?_) ?_ ?_;rotate_left
       ·simp only [zec, Act.put, Zs1, Zs2, Zs3]
        rfl
       refine zn (i := 14) (N := some 29) (v := ?_) (a' := ?_) #[true, true, true, true, true, true, true, true, true, true, true, true, true, true, true, false, false, false] rfl rfl (zg HT_.out (by kernel_rfl)) (fun _ _ _ h => h) (Or.inl ⟨by rfl, ?_⟩) ?_ ?_;rotate_left
       ·intro w'
        go_simp;with_reducible rfl
       rotate_left
       ·simp only [Act.put, Zs1, Zs2, Zs3, zh, zi]
        rfl
       refine one_ (i := 15) (N := some 30) #[true, true, true, true, true, true, true, true, true, true, true, true, true, true, true, true, false, false] rfl rfl (zb0 HT_.out (by kernel_rfl)) (by decide) (fun K hK => ?_);(have p126 : 0 ≤ (t124 : Int) := of_decide_eq_true Zas; have q126 : t124 < (y121.length : Int) := of_decide_eq_true Zas; obtain ⟨ad126, e126, hx126_0⟩ := Kd.zb5 (Kd.zz HO123.out).2.2 t124 p126 q126; obtain rfl : adz_v122 = ad126 := (by injection e126));refine value_ (w1 := ?_) (v := ?_) (by rfl) rfl ?_ ?_;rotate_left 2
       ·go_simp
        constructor
        ·rfl
        ·rfl
       clear hx126_0;refine hK.out _ _ ⟨(ze BK118.out 0).trans rfl, (ze BK118.out 1).trans rfl, (ze BK118.out 2).trans rfl⟩ (fun hHeld => ?_);clear hK K;refine zcd (a' := ?_) ?_ ?_;rotate_left
       ·show Act.put _ (some 30) _ = _
        simp only [Act.put, Zs1, Zs2, Zs3, zh, zi];rfl
       refine zn (i := 16) (N := some 31) (v := ?_) (a' := ?_) #[true, true, true, true, true, true, true, true, true, true, true, true, true, true, true, true, true, false] rfl rfl (zg HT_.out (by kernel_rfl)) (fun _ _ _ h => h) (Or.inl ⟨by rfl, ?_⟩) ?_ ?_;rotate_left
       ·intro w'
        go_simp;with_reducible rfl
       rotate_left
       ·simp only [Act.put, Zs1, Zs2, Zs3, zh, zi]
        rfl
       refine last_ (i := 17) (N := none) #[true, true, true, true, true, true, true, true, true, true, true, true, true, true, true, true, true, true] rfl rfl (zb0 HT_.out (by kernel_rfl)) (by decide) (fun K hK => ?_);have hs40 : w38.cell? ⟨gb118, 1, none⟩ = some (.int .i64 0) := (ze BK118.out 1).trans rfl;have hfs40 := zw BK118.out 1;have hns40_0 := NB109_118.out;have hms40_0 := NB118_109.out;refine zi6 (w1 := ?_) (by rfl) rfl ?_ ?_;rotate_left
       ·go_simp
        rfl
       refine hK.out _ _ ?_;clear hK K;refine zc5 (zb9 HT_.out (by kernel_rfl)) ?_
       try go_wp2
       have pi132 : (0 ≤ (t130 : Int)) = True := eq_true (of_decide_eq_true Zas);have qi132 : (t130 < (y127.length : Int)) = True := eq_true (of_decide_eq_true Zas);have n0_ : za (Kd.R (Kd.int .i64) 3 (w38.setCell ⟨gb118, 1, none⟩ (.int .i64 (rd y121 t124))) w.heap.size (fun k_ => some k_ ≠ (.slice (some adz_v122) y121.length co39 : Value).ownBlock) (.slice (some ad117) y112.length co26) y112) := ⟨by (with_reducible repeat (first | apply Kd.zcl | apply Kd.zcm | apply Kd.zci)); exact Kd.zbs (Kd.zf8 (p := ⟨gb118, 1, none⟩) (Kd.ze7 HO114.out BK118.out (by decide)) (fun _ hk => hk.2) (.int .i64 (rd y121 t124))) (fun _ hk => hk.1)⟩;have n1_ : za (Kd.R (Kd.int .i64) 3 (w38.setCell ⟨gb118, 1, none⟩ (.int .i64 (rd y121 t124))) w.heap.size (fun k_ => some k_ ≠ (.slice (some ad117) y112.length co26 : Value).ownBlock) (.slice (some adz_v122) y121.length co39) y121) := ⟨by (with_reducible repeat (first | apply Kd.zcl | apply Kd.zcm | apply Kd.zci)); exact Kd.zbs (Kd.zf8 (p := ⟨gb118, 1, none⟩) (Kd.ze7 HO123.out BK118.out (by decide)) (fun _ hk => hk.2) (.int .i64 (rd y121 t124))) (fun _ hk => hk.1)⟩;have n2_ : za ((w38.setCell ⟨gb118, 1, none⟩ (.int .i64 (rd y121 t124))).heap[gb109]? = some (.cells #[.int .i64 0, .int .i64 0, .int .i64 0] 35 (0, 0))) := ⟨by (with_reducible repeat (first | refine zbi ?_ _ | refine zbf ?_ | refine zbh ?_ _)); refine zc9 ?_ NB109_118.out _; (with_reducible repeat (first | refine zbi ?_ _ | refine zbf ?_ | refine zbh ?_ _)); exact BK109.out⟩;have n3_ : za ((w38.setCell ⟨gb118, 1, none⟩ (.int .i64 (rd y121 t124))).heap[gb118]? = some (.cells #[.int .i64 0, .int .i64 (rd y121 t124), .int .i64 (rd y112 t115)] 35 (0, 0))) := ⟨by (with_reducible repeat (first | refine zbi ?_ _ | refine zbf ?_ | refine zbh ?_ _)); refine zcv (cs := #[.int .i64 0, .int .i64 0, .int .i64 (rd y112 t115)]) ?_ 1 _ rfl; (with_reducible repeat (first | refine zbi ?_ _ | refine zbf ?_ | refine zbh ?_ _)); exact BK118.out⟩;have n4_ : za (zy w0 (w38.setCell ⟨gb118, 1, none⟩ (.int .i64 (rd y121 t124))) g s0_0 t125) := ⟨Zq13 HI0 NB0_109 NB0_118⟩;have n5_ : za (zx w (w38.setCell ⟨gb118, 1, none⟩ (.int .i64 (rd y121 t124))) g none) := ⟨Zq14 HK GW109 GW118⟩;have n6_ : za (Below w0.heap.size w0 (w38.setCell ⟨gb118, 1, none⟩ (.int .i64 (rd y121 t124)))) := ⟨Zq15 HB (zy.ge HI0.out) GE109 GE118⟩;(try clear HO114);(try clear HO123);(try clear BK109);(try clear BK118);(try clear HI0);(try clear HK);(try clear HB);generalize (w38.setCell ⟨gb118, 1, none⟩ (.int .i64 (rd y121 t124))) = w41 at n0_ n1_ n2_ n3_ n4_ n5_ n6_ ⊢;have HO114 := n0_;have HO123 := n1_;have BK109 := n2_;have BK118 := n3_;have HI0 := n4_;have HK := n5_;have HB := n6_;clear n0_ n1_ n2_ n3_ n4_ n5_ n6_;have n0_ := za.mk (Kd.zci HO114.out);have n1_ := za.mk (Kd.zci HO123.out);have n2_ := za.mk (zbf BK109.out);have n3_ := za.mk (zbf BK118.out);have n4_ := za.mk (zy.drew HI0.out);have n5_ := za.mk (zea HK.out);have n6_ := za.mk (zbk HB.out);clear HO114;clear HO123;clear BK109;clear BK118;clear HI0;clear HK;clear HB;have HO114 := n0_;have HO123 := n1_;have BK109 := n2_;have BK118 := n3_;have HI0 := n4_;have HK := n5_;have HB := n6_;clear n0_ n1_ n2_ n3_ n4_ n5_ n6_;refine zcn (n := 21) (S := fun w' => w'.cell? ⟨gb118, 0, none⟩ = some (.int .i64 0) ∧ w'.cell? ⟨gb118, 1, none⟩ = some (.int .i64 (rd y121 t124)) ∧ w'.cell? ⟨gb118, 2, none⟩ = some (.int .i64 (rd y112 t115))) (ds := [20]) #[false, false, false, false, false, false, false, false, false, false, false, false, false, false, false, false, false, false, false, false, false] (by kernel_rfl) rfl rfl ⟨(ze BK118.out 0).trans rfl, (ze BK118.out 1).trans rfl, (ze BK118.out 2).trans rfl⟩ (fun hHeld => ?_); refine zbw zk.tab3 zk.bits3 (fun HT_ HW_ => ?_);generalize w41.drew = w42 at HO114 HO123 BK109 BK118 HI0 HK HB hHeld ⊢;refine zn (i := 0) (N := some 32) (v := ?_) (a' := ?_) #[true, false, false, false, false, false, false, false, false, false, false, false, false, false, false, false, false, false, false, false, false] rfl rfl (zg HT_.out (by kernel_rfl)) (fun _ _ _ h => h) (Or.inl ⟨by rfl, ?_⟩) ?_ ?_;rotate_left
       ·intro w'
        go_simp;with_reducible rfl
       rotate_left
       ·simp only [Act.put, Zs1, Zs2, Zs3, zh, zi]
        rfl
       refine zn (i := 1) (N := some 33) (v := ?_) (a' := ?_) #[true, true, false, false, false, false, false, false, false, false, false, false, false, false, false, false, false, false, false, false, false] rfl rfl (zg HT_.out (by kernel_rfl)) (fun _ _ _ h => h) (Or.inl ⟨by rfl, ?_⟩) ?_ ?_;rotate_left
       ·intro w'
        go_simp;with_reducible rfl
       rotate_left
       ·simp only [Act.put, Zs1, Zs2, Zs3, zh, zi]
        rfl
       refine zn (i := 3) (N := some 35) (v := ?_) (a' := ?_) #[true, true, false, true, false, false, false, false, false, false, false, false, false, false, false, false, false, false, false, false, false] rfl rfl (zg HT_.out (by kernel_rfl)) (fun _ _ _ h => h) (Or.inl ⟨by rfl, ?_⟩) ?_ ?_;rotate_left
       ·intro w'
        go_simp;with_reducible rfl
       rotate_left
       ·simp only [Act.put, Zs1, Zs2, Zs3, zh, zi]
        rfl
       refine zn (i := 7) (N := some 39) (v := ?_) (a' := ?_) #[true, true, false, true, false, false, false, true, false, false, false, false, false, false, false, false, false, false, false, false, false] rfl rfl (zg HT_.out (by kernel_rfl)) (fun _ _ _ h => h) (Or.inl ⟨by rfl, ?_⟩) ?_ ?_;rotate_left
       ·intro w'
        go_simp;with_reducible rfl
       rotate_left
       ·simp only [Act.put, Zs1, Zs2, Zs3, zh, zi]
        rfl
       refine zn (i := 12) (N := some 44) (v := ?_) (a' := ?_) #[true, true, false, true, false, false, false, true, false, false, false, false, true, false, false, false, false, false, false, false, false] rfl rfl (zg HT_.out (by kernel_rfl)) (fun _ _ _ h => h) (Or.inl ⟨by rfl, ?_⟩) ?_ ?_;rotate_left
       ·intro w'
        go_simp;with_reducible rfl
       rotate_left
       ·simp only [Act.put, Zs1, Zs2, Zs3, zh, zi]
        rfl
       refine zb3 (i := 2) (N := some 34) (v := ?_) (a' := ?_) #[true, true, true, true, false, false, false, true, false, false, false, false, true, false, false, false, false, false, false, false, false] rfl rfl (zbc HT_.out HW_.out (by kernel_rfl)) (fun _ _ _ h => h) (Or.inl ⟨by rfl, ?_⟩) hHeld ?_ ?_;rotate_left
       ·rintro w' ⟨s0, s1, s2⟩
        go_simp;with_reducible rfl
       rotate_left
       ·simp only [Act.put, Zs1, Zs2, Zs3, zh, zi]
        rfl
       refine zb3 (i := 4) (N := some 36) (v := ?_) (a' := ?_) #[true, true, true, true, true, false, false, true, false, false, false, false, true, false, false, false, false, false, false, false, false] rfl rfl (zbc HT_.out HW_.out (by kernel_rfl)) (fun _ _ _ h => h) (Or.inl ⟨by rfl, ?_⟩) hHeld ?_ ?_;rotate_left
       ·rintro w' ⟨s0, s1, s2⟩
        go_simp;with_reducible rfl
       rotate_left
       ·simp only [Act.put, Zs1, Zs2, Zs3, zh, zi]
        rfl
       refine zn (i := 5) (N := some 37) (v := ?_) (a' := ?_) #[true, true, true, true, true, true, false, true, false, false, false, false, true, false, false, false, false, false, false, false, false] rfl rfl (zg HT_.out (by kernel_rfl)) (fun _ _ _ h => h) (Or.inl ⟨by rfl, ?_⟩) ?_ ?_;rotate_left
       ·intro w'
        go_simp;with_reducible rfl
       rotate_left
       ·simp only [Act.put, Zs1, Zs2, Zs3, zh, zi]
        rfl
       refine zn (i := 6) (N := some 38) (v := ?_) (a' := ?_) #[true, true, true, true, true, true, true, true, false, false, false, false, true, false, false, false, false, false, false, false, false] rfl rfl (zg HT_.out (by kernel_rfl)) (fun _ _ _ h => h) (Or.inl ⟨by rfl, ?_⟩) ?_ ?_;rotate_left
       ·intro w'
        go_simp;with_reducible rfl
       rotate_left
       ·simp only [Act.put, Zs1, Zs2, Zs3, zh, zi]
        rfl
       refine zb3 (i := 8) (N := some 40) (v := ?_) (a' := ?_) #[true, true, true, true, true, true, true, true, true, false, false, false, true, false, false, false, false, false, false, false, false] rfl rfl (zbc HT_.out HW_.out (by kernel_rfl)) (fun _ _ _ h => h) (Or.inl ⟨by rfl, ?_⟩) hHeld ?_ ?_;rotate_left
       ·rintro w' ⟨s0, s1, s2⟩
        go_simp;with_reducible rfl
       rotate_left
       ·simp only [Act.put, Zs1, Zs2, Zs3, zh, zi]
        rfl
       refine zn (i := 9) (N := some 41) (v := ?_) (a' := ?_) #[true, true, true, true, true, true, true, true, true, true, false, false, true, false, false, false, false, false, false, false, false] rfl rfl (zg HT_.out (by kernel_rfl)) (fun _ _ _ h => h) (Or.inl ⟨by rfl, ?_⟩) ?_ ?_;rotate_left
       ·intro w'
        go_simp;with_reducible rfl
       rotate_left
       ·simp only [Act.put, Zs1, Zs2, Zs3, zh, zi]
        rfl
       refine zn (i := 10) (N := some 42) (v := ?_) (a' := ?_) #[true, true, true, true, true, true, true, true, true, true, true, false, true, false, false, false, false, false, false, false, false] rfl rfl (zg HT_.out (by kernel_rfl)) (fun _ _ _ h => h) (Or.inl ⟨by rfl, ?_⟩) ?_ ?_;rotate_left
       ·intro w'
        go_simp;with_reducible rfl
       rotate_left
       ·simp only [Act.put, Zs1, Zs2, Zs3, zh, zi]
        rfl
       refine join_ (σ := Value × Addr) 7 #[true, true, true, true, true, true, true, true, true, true, true, true, true, true, false, false, false, false, false, false, false] (fun s_ => [(43, s_.1), (45, .int .i64 t130)]) (fun s_ w' => (w'.cell? ⟨gb118, 0, none⟩ = some (.int .i64 0) ∧ w'.cell? ⟨gb118, 1, none⟩ = some (.int .i64 (rd y121 t124)) ∧ w'.cell? ⟨gb118, 2, none⟩ = some (.int .i64 (rd y112 t115))) ∧ (Kd.R (Kd.int .i64) 3 w' w.heap.size (fun k_ => some k_ ≠ (.slice (some adz_v122) y121.length co39 : Value).ownBlock ∧ some k_ ≠ (s_.1 : Value).ownBlock) (.slice (some ad117) y112.length co26) y112) ∧ (Kd.R (Kd.int .i64) 3 w' w.heap.size (fun k_ => some k_ ≠ (.slice (some ad117) y112.length co26 : Value).ownBlock ∧ some k_ ≠ (s_.1 : Value).ownBlock) (.slice (some adz_v122) y121.length co39) y121) ∧ (Kd.R (Kd.int .i64) 3 w' w.heap.size (fun k_ => some k_ ≠ (.slice (some ad117) y112.length co26 : Value).ownBlock ∧ some k_ ≠ (.slice (some adz_v122) y121.length co39 : Value).ownBlock) s_.1 y127) ∧ (∃ c_, (s_.1 : Value) = .slice (some s_.2) y127.length c_) ∧ (w'.heap[gb109]? = some (.cells #[.int .i64 0, .int .i64 0, .int .i64 0] 35 (0, 0))) ∧ (w'.heap[gb118]? = some (.cells #[.int .i64 0, .int .i64 (rd y121 t124), .int .i64 (rd y112 t115)] 35 (0, 0))) ∧ (zy w0 w' g s0_0 t131) ∧ (zx w w' g none) ∧ (Below w0.heap.size w0 w')) ?_ ?_;rotate_left
       ·intro hCont
        refine two_ (i := 11) (j := 13) (Ni := some 43) (Nj := some 45) #[true, true, true, true, true, true, true, true, true, true, true, true, true, false, false, false, false, false, false, false, false] #[true, true, true, true, true, true, true, true, true, true, true, false, true, true, false, false, false, false, false, false, false] rfl rfl rfl rfl (two_of HT_.out (by kernel_rfl)) (by decide) (by decide) (fun K hK => ?_) (fun K hK => ?_)
        ·skip
         refine Kd.zdu (Kd.int .i64) _ 3 ?hg (N := 43) ?hd (xs := ([rd y121 t124, ji12, ji13] : List Int)) (inner := [.int .i64 (rd y121 t124), .int .i64 ji12, .int .i64 ji13]) (ok := fun _ => True) (okp := fun _ => True) ?hr ?hp (fun _ hk => hk) trivial (Below.refl _ _) (Nat.le_refl _) (by simp) ?_; (case hd => rfl); (case hg => rfl); (case hr => first | (go_simp; done) | (go_simp; rfl)); (case hp => exact (Reps.one (show Kd.M (Kd.int .i64) _ _ _ (rd y121 t124) [.int .i64 (rd y121 t124)] from rfl) (Reps.one (show Kd.M (Kd.int .i64) _ _ _ ji12 [.int .i64 ji12] from rfl) (Reps.one (show Kd.M (Kd.int .i64) _ _ _ ji13 [.int .i64 ji13] from rfl) (Reps.none _ _)))));intro v128 w43 ho44 hb hg_ hnew_;clear hg_ hnew_;(first | rw [← Ny127.out] at ho44 | (simp only [Int.reduceToNat] at ho44; rw [← Ny127.out] at ho44));have n0_ := za.mk (Kd.zct (Zq12 HO114) (Kd.zcy ho44) hb);have n1_ := za.mk (Kd.zct (Zq12 HO123) (Kd.zcy ho44) hb);have n2_ := za.mk (Kd.zcj (Kd.zdk (Kd.zdk ho44 (Kd.R_lt (Zq12 HO114))) (Kd.R_lt (Zq12 HO123))) (zco (w := w) (g := g) (row := none) (Zq14 HK GW109 GW118)));have n3_ := za.mk (zy.below (Zq13 HI0 NB0_109 NB0_118) hb);have n4_ := za.mk (zbm (g := gb109) (o := .cells #[.int .i64 0, .int .i64 0, .int .i64 0] 35 (0, 0)) (Zq2 BK109) hb);have n5_ := za.mk (zbm (g := gb118) (o := .cells #[.int .i64 0, .int .i64 (rd y121 t124), .int .i64 (rd y112 t115)] 35 (0, 0)) (Zq2 BK118) hb);have n6_ := za.mk (zx.trans (Zq14 HK GW109 GW118) (zx.of_below hb g none) (.inl rfl));have n7_ := za.mk (zl (Zq15 HB (zy.ge HI0.out) GE109 GE118) hb);clear HO114;clear HO123;clear HI0;clear BK109;clear BK118;clear HK;clear HB;have HO114 := n0_;have HO123 := n1_;have HO129 := n2_;have HI0 := n3_;have BK109 := n4_;have BK118 := n5_;have HK := n6_;have HB := n7_;clear n0_ n1_ n2_ n3_ n4_ n5_ n6_ n7_;clear hb ho44;obtain ⟨Ao45, co45, eo45⟩ := Kd.zck HO129.out;subst eo45;obtain ⟨ado45, fo45, _⟩ := Kd.zb5 (Kd.zz HO129.out).2.2 0 (by decide) (by rw [Ny127.out]; simp)
         cases fo45
         refine hK.out _ _ ⟨(ze BK118.out 0).trans rfl, (ze BK118.out 1).trans rfl, (ze BK118.out 2).trans rfl⟩ (fun hHeld => ?_);clear hK K;refine zcd (a' := ?_) ?_ ?_;rotate_left
         ·show Act.put _ (some 43) _ = _
          simp only [Act.put, Zs1, Zs2, Zs3, zh, zi];rfl
         refine one_ (i := 13) (N := some 45) #[true, true, true, true, true, true, true, true, true, true, true, true, true, true, false, false, false, false, false, false, false] rfl rfl (zb0 HT_.out (by kernel_rfl)) (by decide) (fun K hK => ?_);refine zcs Try.func53 (by kernel_rfl) rfl #[.pointer (some ⟨g, 0, none⟩), .int .i64 3] (by rfl) rfl rfl Zmt ?_;with_reducible refine (zb.calls k g s0_0 t125 3 t130 t131 w0 _ ?side1 ?side2 A14.out).mono ?_
         (case side1 => exact Zq13 HI0 NB0_109 NB0_118);(case side2 => exact Zq15 HB (zy.ge HI0.out) GE109 GE118);rintro e w46 ⟨rfl, hi, hb, hk⟩;refine ⟨_, rfl, ?_⟩;have n0_ := za.mk (zx.blk hk (g' := gb109) (o := .cells #[.int .i64 0, .int .i64 0, .int .i64 0] 35 (0, 0)) (Zq2 BK109) NB109_0.out (by simp));have n1_ := za.mk (Kd.zbs (Kd.zcf (zy.apart (show zy w0 _ g s0_0 t125 from Zq13 HI0 NB0_109 NB0_118) (Zq12 HO114) (by decide)) hk (fun _ h => h.2)) (fun _ h => h.1));have n2_ := za.mk (zx.blk hk (g' := gb118) (o := .cells #[.int .i64 0, .int .i64 (rd y121 t124), .int .i64 (rd y112 t115)] 35 (0, 0)) (Zq2 BK118) NB118_0.out (by simp));have n3_ := za.mk (Kd.zbs (Kd.zcf (zy.apart (show zy w0 _ g s0_0 t125 from Zq13 HI0 NB0_109 NB0_118) (Zq12 HO123) (by decide)) hk (fun _ h => h.2)) (fun _ h => h.1));have n4_ := za.mk (Kd.zbs (Kd.zcf (zy.apart (show zy w0 _ g s0_0 t125 from Zq13 HI0 NB0_109 NB0_118) (Zq12 HO129) (by decide)) hk (fun _ h => h.2)) (fun _ h => h.1));have n5_ := za.mk (zx.trans (Zq14 HK GW109 GW118) hk (.inl rfl));have n6_ := za.mk (hb);have n7_ := za.mk (hi);clear BK109;clear HO114;clear BK118;clear HO123;clear HO129;clear HK;clear HB;clear HI0;have BK109 := n0_;have HO114 := n1_;have BK118 := n2_;have HO123 := n3_;have HO129 := n4_;have HK := n5_;have HB := n6_;have HI0 := n7_;clear n0_ n1_ n2_ n3_ n4_ n5_ n6_ n7_;(try clear hb);(try clear hb2);(try clear hk);(try clear hi);refine hK.out _ _ ⟨(ze BK118.out 0).trans rfl, (ze BK118.out 1).trans rfl, (ze BK118.out 2).trans rfl⟩ (fun hHeld => ?_);clear hK K;refine zcd (a' := ?_) ?_ ?_;rotate_left
         ·show Act.put _ (some 45) _ = _
          simp only [Act.put, Zs1, Zs2, Zs3, zh, zi];rfl
         exact zcd (by simp only [zec, Act.put, Zs1, Zs2, Zs3]) (hCont (.slice (some ado45) y127.length co45, ado45) _ ⟨hHeld, (Zq12 HO114), (Zq12 HO123), (by (with_reducible repeat (first | apply Kd.zcl | apply Kd.zcm | apply Kd.zci)); exact Kd.zbs HO129.out (fun _ hk => ⟨hk.1.2, hk.2⟩)), ⟨_, rfl⟩, (Zq2 BK109), (Zq2 BK118), (Zq13 HI0 NB0_109 NB0_118), (Zq14 HK GW109 GW118), (Zq15 HB (zy.ge HI0.out) GE109 GE118)⟩)
        ·skip
         refine zcs Try.func53 (by kernel_rfl) rfl #[.pointer (some ⟨g, 0, none⟩), .int .i64 3] (by rfl) rfl rfl Zmt ?_;with_reducible refine (zb.calls k g s0_0 t125 3 t130 t131 w0 _ ?side1 ?side2 A14.out).mono ?_
         (case side1 => exact Zq13 HI0 NB0_109 NB0_118);(case side2 => exact Zq15 HB (zy.ge HI0.out) GE109 GE118);rintro e w43 ⟨rfl, hi, hb, hk⟩;refine ⟨_, rfl, ?_⟩;have n0_ := za.mk (zx.blk hk (g' := gb109) (o := .cells #[.int .i64 0, .int .i64 0, .int .i64 0] 35 (0, 0)) (Zq2 BK109) NB109_0.out (by simp));have n1_ := za.mk (Kd.zbs (Kd.zcf (zy.apart (show zy w0 _ g s0_0 t125 from Zq13 HI0 NB0_109 NB0_118) (Zq12 HO114) (by decide)) hk (fun _ h => h.2)) (fun _ h => h.1));have n2_ := za.mk (zx.blk hk (g' := gb118) (o := .cells #[.int .i64 0, .int .i64 (rd y121 t124), .int .i64 (rd y112 t115)] 35 (0, 0)) (Zq2 BK118) NB118_0.out (by simp));have n3_ := za.mk (Kd.zbs (Kd.zcf (zy.apart (show zy w0 _ g s0_0 t125 from Zq13 HI0 NB0_109 NB0_118) (Zq12 HO123) (by decide)) hk (fun _ h => h.2)) (fun _ h => h.1));have n4_ := za.mk (zx.trans (Zq14 HK GW109 GW118) hk (.inl rfl));have n5_ := za.mk (hb);have n6_ := za.mk (hi);clear BK109;clear HO114;clear BK118;clear HO123;clear HK;clear HB;clear HI0;have BK109 := n0_;have HO114 := n1_;have BK118 := n2_;have HO123 := n3_;have HK := n4_;have HB := n5_;have HI0 := n6_;clear n0_ n1_ n2_ n3_ n4_ n5_ n6_;(try clear hb);(try clear hb2);(try clear hk);(try clear hi);refine hK.out _ _ ⟨(ze BK118.out 0).trans rfl, (ze BK118.out 1).trans rfl, (ze BK118.out 2).trans rfl⟩ (fun hHeld => ?_);clear hK K;refine zcd (a' := ?_) ?_ ?_;rotate_left
         ·show Act.put _ (some 45) _ = _
          simp only [Act.put, Zs1, Zs2, Zs3, zh, zi];rfl
         refine one_ (i := 11) (N := some 43) #[true, true, true, true, true, true, true, true, true, true, true, true, true, true, false, false, false, false, false, false, false] rfl rfl (zb0 HT_.out (by kernel_rfl)) (by decide) (fun K hK => ?_);refine Kd.zdu (Kd.int .i64) _ 3 ?hg (N := 43) ?hd (xs := ([rd y121 t124, ji12, ji13] : List Int)) (inner := [.int .i64 (rd y121 t124), .int .i64 ji12, .int .i64 ji13]) (ok := fun _ => True) (okp := fun _ => True) ?hr ?hp (fun _ hk => hk) trivial (Below.refl _ _) (Nat.le_refl _) (by simp) ?_; (case hd => rfl); (case hg => rfl); (case hr => first | (go_simp; done) | (go_simp; rfl)); (case hp => exact (Reps.one (show Kd.M (Kd.int .i64) _ _ _ (rd y121 t124) [.int .i64 (rd y121 t124)] from rfl) (Reps.one (show Kd.M (Kd.int .i64) _ _ _ ji12 [.int .i64 ji12] from rfl) (Reps.one (show Kd.M (Kd.int .i64) _ _ _ ji13 [.int .i64 ji13] from rfl) (Reps.none _ _)))));intro v128 w44 ho45 hb hg_ hnew_;clear hg_ hnew_;(first | rw [← Ny127.out] at ho45 | (simp only [Int.reduceToNat] at ho45; rw [← Ny127.out] at ho45));have n0_ := za.mk (Kd.zct (Zq12 HO114) (Kd.zcy ho45) hb);have n1_ := za.mk (Kd.zct (Zq12 HO123) (Kd.zcy ho45) hb);have n2_ := za.mk (Kd.zcj (Kd.zdk (Kd.zdk ho45 (Kd.R_lt (Zq12 HO114))) (Kd.R_lt (Zq12 HO123))) (zco (w := w) (g := g) (row := none) (Zq14 HK GW109 GW118)));have n3_ := za.mk (zy.below (Zq13 HI0 NB0_109 NB0_118) hb);have n4_ := za.mk (zbm (g := gb109) (o := .cells #[.int .i64 0, .int .i64 0, .int .i64 0] 35 (0, 0)) (Zq2 BK109) hb);have n5_ := za.mk (zbm (g := gb118) (o := .cells #[.int .i64 0, .int .i64 (rd y121 t124), .int .i64 (rd y112 t115)] 35 (0, 0)) (Zq2 BK118) hb);have n6_ := za.mk (zx.trans (Zq14 HK GW109 GW118) (zx.of_below hb g none) (.inl rfl));have n7_ := za.mk (zl (Zq15 HB (zy.ge HI0.out) GE109 GE118) hb);clear HO114;clear HO123;clear HI0;clear BK109;clear BK118;clear HK;clear HB;have HO114 := n0_;have HO123 := n1_;have HO129 := n2_;have HI0 := n3_;have BK109 := n4_;have BK118 := n5_;have HK := n6_;have HB := n7_;clear n0_ n1_ n2_ n3_ n4_ n5_ n6_ n7_;clear hb ho45;obtain ⟨Ao46, co46, eo46⟩ := Kd.zck HO129.out;subst eo46;obtain ⟨ado46, fo46, _⟩ := Kd.zb5 (Kd.zz HO129.out).2.2 0 (by decide) (by rw [Ny127.out]; simp)
         cases fo46
         refine hK.out _ _ ⟨(ze BK118.out 0).trans rfl, (ze BK118.out 1).trans rfl, (ze BK118.out 2).trans rfl⟩ (fun hHeld => ?_);clear hK K;refine zcd (a' := ?_) ?_ ?_;rotate_left
         ·show Act.put _ (some 43) _ = _
          simp only [Act.put, Zs1, Zs2, Zs3, zh, zi];rfl
         exact zcd (by simp only [zec, Act.put, Zs1, Zs2, Zs3]) (hCont (.slice (some ado46) y127.length co46, ado46) _ ⟨hHeld, (Zq12 HO114), (Zq12 HO123), (by (with_reducible repeat (first | apply Kd.zcl | apply Kd.zcm | apply Kd.zci)); exact Kd.zbs HO129.out (fun _ hk => ⟨hk.1.2, hk.2⟩)), ⟨_, rfl⟩, (Zq2 BK109), (Zq2 BK118), (Zq13 HI0 NB0_109 NB0_118), (Zq14 HK GW109 GW118), (Zq15 HB (zy.ge HI0.out) GE109 GE118)⟩)
       rintro ⟨v128, adz_v128⟩ w47 ⟨hS_, h0_, h1_, h2_, h3_, h4_, h5_, h6_, h7_, h8_⟩;have n0_ : za (Kd.R (Kd.int .i64) 3 w47 w.heap.size (fun k_ => some k_ ≠ (.slice (some adz_v122) y121.length co39 : Value).ownBlock ∧ some k_ ≠ (v128 : Value).ownBlock) (.slice (some ad117) y112.length co26) y112) := ⟨h0_⟩;have n1_ : za (Kd.R (Kd.int .i64) 3 w47 w.heap.size (fun k_ => some k_ ≠ (.slice (some ad117) y112.length co26 : Value).ownBlock ∧ some k_ ≠ (v128 : Value).ownBlock) (.slice (some adz_v122) y121.length co39) y121) := ⟨h1_⟩;have n2_ : za (Kd.R (Kd.int .i64) 3 w47 w.heap.size (fun k_ => some k_ ≠ (.slice (some ad117) y112.length co26 : Value).ownBlock ∧ some k_ ≠ (.slice (some adz_v122) y121.length co39 : Value).ownBlock) v128 y127) := ⟨h2_⟩;have n3_ : za (∃ c_, (v128 : Value) = .slice (some adz_v128) y127.length c_) := ⟨h3_⟩;have n4_ : za (w47.heap[gb109]? = some (.cells #[.int .i64 0, .int .i64 0, .int .i64 0] 35 (0, 0))) := ⟨h4_⟩;have n5_ : za (w47.heap[gb118]? = some (.cells #[.int .i64 0, .int .i64 (rd y121 t124), .int .i64 (rd y112 t115)] 35 (0, 0))) := ⟨h5_⟩;have n6_ : za (zy w0 w47 g s0_0 t131) := ⟨h6_⟩;have n7_ : za (zx w w47 g none) := ⟨h7_⟩;have n8_ : za (Below w0.heap.size w0 w47) := ⟨h8_⟩;clear HO114;clear HO123;clear BK109;clear BK118;clear HI0;clear HK;clear HB;clear h0_ h1_ h2_ h3_ h4_ h5_ h6_ h7_ h8_;have HO114 := n0_;have HO123 := n1_;have HO129 := n2_;have HA_HO129 := n3_;have BK109 := n4_;have BK118 := n5_;have HI0 := n6_;have HK := n7_;have HB := n8_;clear n0_ n1_ n2_ n3_ n4_ n5_ n6_ n7_ n8_;have hHeld : w47.cell? ⟨gb118, 0, none⟩ = some (.int .i64 0) ∧ w47.cell? ⟨gb118, 1, none⟩ = some (.int .i64 (rd y121 t124)) ∧ w47.cell? ⟨gb118, 2, none⟩ = some (.int .i64 (rd y112 t115)) := hS_;obtain ⟨co48, eo48⟩ := HA_HO129.out;clear HA_HO129;subst eo48;refine zcd (a' := ?_) ?_ ?_;rotate_left
       ·simp only [zec, Act.put, Zs1, Zs2, Zs3]
        rfl
       refine zn (i := 14) (N := some 46) (v := ?_) (a' := ?_) #[true, true, true, true, true, true, true, true, true, true, true, true, true, true, true, false, false, false, false, false, false] rfl rfl (zg HT_.out (by kernel_rfl)) (fun _ _ _ h => h) (Or.inl ⟨by rfl, ?_⟩) ?_ ?_;rotate_left
       ·intro w'
        go_simp;with_reducible rfl
       rotate_left
       ·simp only [Act.put, Zs1, Zs2, Zs3, zh, zi]
        rfl
       refine one_ (i := 15) (N := some 47) #[true, true, true, true, true, true, true, true, true, true, true, true, true, true, true, true, false, false, false, false, false] rfl rfl (zb0 HT_.out (by kernel_rfl)) (by decide) (fun K hK => ?_);(have p132 : 0 ≤ (t130 : Int) := of_decide_eq_true Zas; have q132 : t130 < (y127.length : Int) := of_decide_eq_true Zas; obtain ⟨ad132, e132, hx132_0⟩ := Kd.zb5 (Kd.zz HO129.out).2.2 t130 p132 q132; obtain rfl : adz_v128 = ad132 := (by injection e132));refine value_ (w1 := ?_) (v := ?_) (by rfl) rfl ?_ ?_;rotate_left 2
       ·go_simp
        constructor
        ·rfl
        ·rfl
       clear hx132_0;refine hK.out _ _ ⟨(ze BK118.out 0).trans rfl, (ze BK118.out 1).trans rfl, (ze BK118.out 2).trans rfl⟩ (fun hHeld => ?_);clear hK K;refine zcd (a' := ?_) ?_ ?_;rotate_left
       ·show Act.put _ (some 47) _ = _
        simp only [Act.put, Zs1, Zs2, Zs3, zh, zi];rfl
       refine zn (i := 16) (N := some 48) (v := ?_) (a' := ?_) #[true, true, true, true, true, true, true, true, true, true, true, true, true, true, true, true, true, false, false, false, false] rfl rfl (zg HT_.out (by kernel_rfl)) (fun _ _ _ h => h) (Or.inl ⟨by rfl, ?_⟩) ?_ ?_;rotate_left
       ·intro w'
        go_simp;with_reducible rfl
       rotate_left
       ·simp only [Act.put, Zs1, Zs2, Zs3, zh, zi]
        rfl
       refine one_ (i := 17) (N := some 49) #[true, true, true, true, true, true, true, true, true, true, true, true, true, true, true, true, true, true, false, false, false] rfl rfl (zb0 HT_.out (by kernel_rfl)) (by decide) (fun K hK => ?_);refine zcs Try.func53 (by kernel_rfl) rfl #[.pointer (some ⟨g, 0, none⟩), .int .i64 ji17] (by rfl) rfl rfl (by (try simp only [List.map_toArray, List.map_cons, List.map_nil]); first | done | (simp only [hji17]; rfl) | rfl | (simp only [List.length_drop, List.length_take]; rfl)) ?_;with_reducible refine (zb.calls k g s0_0 t131 ji17 t133 t134 w0 _ ?side1 ?side2 A18.out).mono ?_
       (case side1 => exact Zq13 HI0 NB0_109 NB0_118);(case side2 => exact Zq15 HB (zy.ge HI0.out) GE109 GE118);rintro e w49 ⟨rfl, hi, hb, hk⟩;refine ⟨_, rfl, ?_⟩;have n0_ := za.mk (zx.blk hk (g' := gb109) (o := .cells #[.int .i64 0, .int .i64 0, .int .i64 0] 35 (0, 0)) (Zq2 BK109) NB109_0.out (by simp));have n1_ := za.mk (Kd.zbs (Kd.zcf (zy.apart (show zy w0 _ g s0_0 t131 from Zq13 HI0 NB0_109 NB0_118) (Zq12 HO114) (by decide)) hk (fun _ h => h.2)) (fun _ h => h.1));have n2_ := za.mk (zx.blk hk (g' := gb118) (o := .cells #[.int .i64 0, .int .i64 (rd y121 t124), .int .i64 (rd y112 t115)] 35 (0, 0)) (Zq2 BK118) NB118_0.out (by simp));have n3_ := za.mk (Kd.zbs (Kd.zcf (zy.apart (show zy w0 _ g s0_0 t131 from Zq13 HI0 NB0_109 NB0_118) (Zq12 HO123) (by decide)) hk (fun _ h => h.2)) (fun _ h => h.1));have n4_ := za.mk (Kd.zbs (Kd.zcf (zy.apart (show zy w0 _ g s0_0 t131 from Zq13 HI0 NB0_109 NB0_118) (Zq12 HO129) (by decide)) hk (fun _ h => h.2)) (fun _ h => h.1));have n5_ := za.mk (zx.trans (Zq14 HK GW109 GW118) hk (.inl rfl));have n6_ := za.mk (hb);have n7_ := za.mk (hi);clear BK109;clear HO114;clear BK118;clear HO123;clear HO129;clear HK;clear HB;clear HI0;have BK109 := n0_;have HO114 := n1_;have BK118 := n2_;have HO123 := n3_;have HO129 := n4_;have HK := n5_;have HB := n6_;have HI0 := n7_;clear n0_ n1_ n2_ n3_ n4_ n5_ n6_ n7_;(try clear hb);(try clear hb2);(try clear hk);(try clear hi);refine hK.out _ _ ⟨(ze BK118.out 0).trans rfl, (ze BK118.out 1).trans rfl, (ze BK118.out 2).trans rfl⟩ (fun hHeld => ?_);clear hK K;refine zcd (a' := ?_) ?_ ?_;rotate_left
       ·show Act.put _ (some 49) _ = _
        simp only [Act.put, Zs1, Zs2, Zs3, zh, zi];rfl
       refine zn (i := 18) (N := some 50) (v := ?_) (a' := ?_) #[true, true, true, true, true, true, true, true, true, true, true, true, true, true, true, true, true, true, true, false, false] rfl rfl (zg HT_.out (by kernel_rfl)) (fun _ _ _ h => h) (Or.inl ⟨by rfl, ?_⟩) ?_ ?_;rotate_left
       ·intro w'
        go_simp;with_reducible rfl
       rotate_left
       ·simp only [Act.put, Zs1, Zs2, Zs3, zh, zi]
        rfl
       refine zn (i := 19) (N := some 51) (v := ?_) (a' := ?_) #[true, true, true, true, true, true, true, true, true, true, true, true, true, true, true, true, true, true, true, true, false] rfl rfl (zg HT_.out (by kernel_rfl)) (fun _ _ _ h => h) (Or.inl ⟨by rfl, ?_⟩) ?_ ?_;rotate_left
       ·intro w'
        go_simp;with_reducible rfl
       rotate_left
       ·simp only [Act.put, Zs1, Zs2, Zs3, zh, zi]
        rfl
       refine last_ (i := 20) (N := none) #[true, true, true, true, true, true, true, true, true, true, true, true, true, true, true, true, true, true, true, true, true] rfl rfl (zb0 HT_.out (by kernel_rfl)) (by decide) (fun K hK => ?_);have hs50 : w49.cell? ⟨gb118, 0, none⟩ = some (.int .i64 0) := (ze BK118.out 0).trans rfl;have hfs50 := zw BK118.out 0;have hns50_0 := NB109_118.out;have hms50_0 := NB118_109.out;refine zi6 (w1 := ?_) (by rfl) rfl ?_ ?_;rotate_left
       ·go_simp
        rfl
       refine hK.out _ _ ?_;clear hK K;refine zc5 (zb9 HT_.out (by kernel_rfl)) ?_
       go_upto_if 54 with (first | ((with_reducible refine zbd (f := 52) rfl ?_); refine zb6 (some 54) rfl rfl Try.func52 (by kernel_rfl) rfl #[.pointer (some ⟨g, 0, none⟩), .int .i64 a1] rfl Zmt ?_; (with_reducible refine (zbn.calls k g s0_0 t134 a1 t135 t136 w0 _ ?side1 ?side2 A19.out).mono ?_); (case side1 => exact Zq13 HI0 NB0_109 NB0_118); (case side2 => exact Zq15 HB (zy.ge HI0.out) GE109 GE118); rintro e w51 ⟨rfl, hi, hb, hk⟩; refine ⟨_, rfl, ?_⟩; have n0_ := za.mk (zx.blk hk (g' := gb109) (o := .cells #[.int .i64 0, .int .i64 0, .int .i64 0] 35 (0, 0)) (by (with_reducible repeat (first | refine zbi ?_ _ | refine zbf ?_ | refine zbh ?_ _)); refine zc9 ?_ NB109_118.out _; (with_reducible repeat (first | refine zbi ?_ _ | refine zbf ?_ | refine zbh ?_ _)); exact BK109.out) NB109_0.out (by simp)); have n1_ := za.mk (Kd.zbs (Kd.zcf (zy.apart (show zy w0 _ g s0_0 t134 from Zq13 HI0 NB0_109 NB0_118) (by (with_reducible repeat (first | apply Kd.zcl | apply Kd.zcm | apply Kd.zci)); exact (Kd.zbs (Kd.zf8 (p := ⟨gb118, 0, none⟩) (Kd.ze7 HO114.out BK118.out (by decide)) (fun _ hk => hk.2) (.int .i64 (wrap64 (1 + t133)))) (fun _ h_ => h_.1))) (by decide)) hk (fun _ h => h.2)) (fun _ h => h.1)); have n2_ := za.mk (zx.blk hk (g' := gb118) (o := .cells #[.int .i64 (wrap64 (1 + t133)), .int .i64 (rd y121 t124), .int .i64 (rd y112 t115)] 35 (0, 0)) (by (with_reducible repeat (first | refine zbi ?_ _ | refine zbf ?_ | refine zbh ?_ _)); refine zcv (cs := #[.int .i64 0, .int .i64 (rd y121 t124), .int .i64 (rd y112 t115)]) ?_ 0 _ rfl; (with_reducible repeat (first | refine zbi ?_ _ | refine zbf ?_ | refine zbh ?_ _)); exact BK118.out) NB118_0.out (by simp)); have n3_ := za.mk (Kd.zbs (Kd.zcf (zy.apart (show zy w0 _ g s0_0 t134 from Zq13 HI0 NB0_109 NB0_118) (by (with_reducible repeat (first | apply Kd.zcl | apply Kd.zcm | apply Kd.zci)); exact (Kd.zbs (Kd.zf8 (p := ⟨gb118, 0, none⟩) (Kd.ze7 HO123.out BK118.out (by decide)) (fun _ hk => hk.2) (.int .i64 (wrap64 (1 + t133)))) (fun _ h_ => h_.1))) (by decide)) hk (fun _ h => h.2)) (fun _ h => h.1)); have n4_ := za.mk (Kd.zbs (Kd.zcf (zy.apart (show zy w0 _ g s0_0 t134 from Zq13 HI0 NB0_109 NB0_118) (by (with_reducible repeat (first | apply Kd.zcl | apply Kd.zcm | apply Kd.zci)); exact (Kd.zbs (Kd.zf8 (p := ⟨gb118, 0, none⟩) (Kd.ze7 HO129.out BK118.out (by decide)) (fun _ hk => hk.2) (.int .i64 (wrap64 (1 + t133)))) (fun _ h_ => h_.1))) (by decide)) hk (fun _ h => h.2)) (fun _ h => h.1)); have n5_ := za.mk (zx.trans (Zq14 HK GW109 GW118) hk (.inl rfl)); have n6_ := za.mk (hb); have n7_ := za.mk (hi); clear BK109; clear HO114; clear BK118; clear HO123; clear HO129; clear HK; clear HB; clear HI0; have BK109 := n0_; have HO114 := n1_; have BK118 := n2_; have HO123 := n3_; have HO129 := n4_; have HK := n5_; have HB := n6_; have HI0 := n7_; clear n0_ n1_ n2_ n3_ n4_ n5_ n6_ n7_; (try clear hb); (try clear hb2); (try clear hk); (try clear hi)))
       (try simp only [Act.put, Zs1, Zs2, Zs3])
       go_cut [] (fun wc => ∃ (kq : Nat) (x1001_19 : Int) (x119000_19 : Int) (x119001_19 : Int) (x119002_19 : Int), za (zk.j0 kq s0_0 x1001_19 x119000_19 x119001_19 x119002_19 = some (r1, r2, r3, r4)) ∧ za (kq ≤ k) ∧ za (wc.heap[gb109]? = some (.cells #[.int .i64 0, .int .i64 0, .int .i64 0] 35 (0, 0))) ∧ za (wc.heap[gb118]? = some (.cells #[.int .i64 x119000_19, .int .i64 x119001_19, .int .i64 x119002_19] 35 (0, 0))) ∧ za (zy w0 wc g s0_0 x1001_19) ∧ za (zx w wc g none) ∧ za (Below w0.heap.size w0 wc))
       case first =>
        have H := HC20.out;clear HC20;by_cases c52 : t135 = true
        ·subst c52
         have H1 : ((zb.f k s0_0 t136 3).bind fun bt137 => (if bt137.1 = 0 then ((some (([0, (-1), 9, wrap64 ((rd y121 t124) + 1)] : List Int) : List Int)).bind fun y139 => ((zb.f k s0_0 bt137.2 4).bind fun bt142 => (if 0 ≤ bt142.1 then (if bt142.1 < (y139.length : Int) then (zk.j0 k s0_0 bt142.2 (rd y139 bt142.1) (rd y121 t124) (rd y112 t115)) else (none)) else (none)))) else (if bt137.1 = 1 then ((some (([0, wrap64 ((rd y112 t115) + 1), (-1)] : List Int) : List Int)).bind fun y145 => ((zb.f k s0_0 bt137.2 3).bind fun bt148 => (if 0 ≤ bt148.1 then (if bt148.1 < (y145.length : Int) then (zk.j0 k s0_0 bt148.2 (wrap64 (1 + t133)) (rd y145 bt148.1) (rd y112 t115)) else (none)) else (none)))) else ((some (([0, 13, (-1)] : List Int) : List Int)).bind fun y151 => ((zb.f k s0_0 bt137.2 3).bind fun bt154 => (if 0 ≤ bt154.1 then (if bt154.1 < (y151.length : Int) then (zk.j0 k s0_0 bt154.2 (wrap64 (1 + t133)) (rd y121 t124) (rd y151 bt154.1)) else (none)) else (none))))))) = some (r1, r2, r3, r4) := by rw [if_pos rfl] at H; exact H
         clear H;have H := H1;clear H1;replace H := Option.bind_eq_some_iff.mp H;obtain ⟨⟨t137, t138⟩, A530, H⟩ := H;replace H : (if t137 = 0 then ((some (([0, (-1), 9, wrap64 ((rd y121 t124) + 1)] : List Int) : List Int)).bind fun y139 => ((zb.f k s0_0 t138 4).bind fun bt142 => (if 0 ≤ bt142.1 then (if bt142.1 < (y139.length : Int) then (zk.j0 k s0_0 bt142.2 (rd y139 bt142.1) (rd y121 t124) (rd y112 t115)) else (none)) else (none)))) else (if t137 = 1 then ((some (([0, wrap64 ((rd y112 t115) + 1), (-1)] : List Int) : List Int)).bind fun y145 => ((zb.f k s0_0 t138 3).bind fun bt148 => (if 0 ≤ bt148.1 then (if bt148.1 < (y145.length : Int) then (zk.j0 k s0_0 bt148.2 (wrap64 (1 + t133)) (rd y145 bt148.1) (rd y112 t115)) else (none)) else (none)))) else ((some (([0, 13, (-1)] : List Int) : List Int)).bind fun y151 => ((zb.f k s0_0 t138 3).bind fun bt154 => (if 0 ≤ bt154.1 then (if bt154.1 < (y151.length : Int) then (zk.j0 k s0_0 bt154.2 (wrap64 (1 + t133)) (rd y121 t124) (rd y151 bt154.1)) else (none)) else (none)))))) = some (r1, r2, r3, r4) := H;have A53 := za.mk A530;clear A530;by_cases c54 : t137 = 0
         ·rw [if_pos c54] at H
          have c54b0 : (t137 == 0) = true := beq_iff_eq.mpr c54;have c54b1 : (t137 != 0) = false := bne_eq_false_iff_eq.mpr c54;clear c54;(first | rw [c54b0] | (simp only [zh, zi]; rw [c54b0]) | skip);obtain ⟨y139, hy139⟩ : ∃ y_ : List Int, y_ = (([0, (-1), 9, wrap64 ((rd y121 t124) + 1)] : List Int)) := ⟨_, rfl⟩;replace H : ((zb.f k s0_0 t138 4).bind fun bt142 => (if 0 ≤ bt142.1 then (if bt142.1 < (y139.length : Int) then (zk.j0 k s0_0 bt142.2 (rd y139 bt142.1) (rd y121 t124) (rd y112 t115)) else (none)) else (none))) = some (r1, r2, r3, r4) := by first | (rw [hy139]; with_reducible exact H) | (have H2_ := (Option.bind_some _ _).symm.trans H; rw [hy139]; with_reducible exact H2_) | (have H2_ := (Option.bind_some _ _).symm.trans H; with_reducible exact H2_) | with_reducible exact H | (rw [hy139]; exact H) | exact H
          have Ny139 := za.mk hy139;clear hy139;replace H := Option.bind_eq_some_iff.mp H;obtain ⟨⟨t142, t143⟩, A550, H⟩ := H;replace H : (if 0 ≤ t142 then (if t142 < (y139.length : Int) then (zk.j0 k s0_0 t143 (rd y139 t142) (rd y121 t124) (rd y112 t115)) else (none)) else (none)) = some (r1, r2, r3, r4) := H;have A55 := za.mk A550;clear A550;by_cases c56 : 0 ≤ t142
          ·rw [if_pos c56] at H
           have c56b0 : decide (0 ≤ t142) = true := decide_eq_true c56;clear c56;by_cases c57 : t142 < (y139.length : Int)
           ·rw [if_pos c57] at H
            have c57b0 : decide (t142 < (y139.length : Int)) = true := decide_eq_true c57;clear c57;have H' := za.mk H;clear H
            try go_wp2_with (first | ((with_reducible refine zbd (f := 53) rfl ?_); refine zb6 (some 56) rfl rfl Try.func53 (by kernel_rfl) rfl #[.pointer (some ⟨g, 0, none⟩), .int .i64 3] rfl Zmt ?_; (with_reducible refine (zb.calls k g s0_0 t136 3 t137 t138 w0 _ ?side1 ?side2 A53.out).mono ?_); (case side1 => exact Zq13 HI0 NB0_109 NB0_118); (case side2 => exact Zq15 HB (zy.ge HI0.out) GE109 GE118); rintro e w58 ⟨rfl, hi, hb, hk⟩; refine ⟨_, rfl, ?_⟩; have n0_ := za.mk (zx.blk hk (g' := gb109) (o := .cells #[.int .i64 0, .int .i64 0, .int .i64 0] 35 (0, 0)) (Zq2 BK109) NB109_0.out (by simp)); have n1_ := za.mk (Kd.zbs (Kd.zcf (zy.apart (show zy w0 _ g s0_0 t136 from Zq13 HI0 NB0_109 NB0_118) (Zq12 HO114) (by decide)) hk (fun _ h => h.2)) (fun _ h => h.1)); have n2_ := za.mk (zx.blk hk (g' := gb118) (o := .cells #[.int .i64 (wrap64 (1 + t133)), .int .i64 (rd y121 t124), .int .i64 (rd y112 t115)] 35 (0, 0)) (Zq2 BK118) NB118_0.out (by simp)); have n3_ := za.mk (Kd.zbs (Kd.zcf (zy.apart (show zy w0 _ g s0_0 t136 from Zq13 HI0 NB0_109 NB0_118) (Zq12 HO123) (by decide)) hk (fun _ h => h.2)) (fun _ h => h.1)); have n4_ := za.mk (Kd.zbs (Kd.zcf (zy.apart (show zy w0 _ g s0_0 t136 from Zq13 HI0 NB0_109 NB0_118) (Zq12 HO129) (by decide)) hk (fun _ h => h.2)) (fun _ h => h.1)); have n5_ := za.mk (zx.trans (Zq14 HK GW109 GW118) hk (.inl rfl)); have n6_ := za.mk (hb); have n7_ := za.mk (hi); clear BK109; clear HO114; clear BK118; clear HO123; clear HO129; clear HK; clear HB; clear HI0; have BK109 := n0_; have HO114 := n1_; have BK118 := n2_; have HO123 := n3_; have HO129 := n4_; have HK := n5_; have HB := n6_; have HI0 := n7_; clear n0_ n1_ n2_ n3_ n4_ n5_ n6_ n7_; (try clear hb); (try clear hb2); (try clear hk); (try clear hi)))
            have pi144 : (0 ≤ (t142 : Int)) = True := eq_true (of_decide_eq_true Zas);have qi144 : (t142 < (y139.length : Int)) = True := eq_true (of_decide_eq_true Zas);have n0_ := za.mk (Kd.zci HO114.out);have n1_ := za.mk (Kd.zci HO123.out);have n2_ := za.mk (Kd.zci HO129.out);have n3_ := za.mk (zbf BK109.out);have n4_ := za.mk (zbf BK118.out);have n5_ := za.mk (zy.drew HI0.out);have n6_ := za.mk (zea HK.out);have n7_ := za.mk (zbk HB.out);clear HO114;clear HO123;clear HO129;clear BK109;clear BK118;clear HI0;clear HK;clear HB;have HO114 := n0_;have HO123 := n1_;have HO129 := n2_;have BK109 := n3_;have BK118 := n4_;have HI0 := n5_;have HK := n6_;have HB := n7_;clear n0_ n1_ n2_ n3_ n4_ n5_ n6_ n7_;refine zcn (n := 10) (S := fun w' => w'.cell? ⟨gb118, 0, none⟩ = some (.int .i64 (wrap64 (1 + t133))) ∧ w'.cell? ⟨gb118, 1, none⟩ = some (.int .i64 (rd y121 t124)) ∧ w'.cell? ⟨gb118, 2, none⟩ = some (.int .i64 (rd y112 t115))) (ds := [9]) #[false, false, false, false, false, false, false, false, false, false] (by kernel_rfl) rfl rfl ⟨(ze BK118.out 0).trans rfl, (ze BK118.out 1).trans rfl, (ze BK118.out 2).trans rfl⟩ (fun hHeld => ?_); refine zbw zk.tab8 zk.bits8 (fun HT_ HW_ => ?_);generalize w58.drew = w59 at HO114 HO123 HO129 BK109 BK118 HI0 HK HB hHeld ⊢;refine zn (i := 0) (N := some 65) (v := ?_) (a' := ?_) #[true, false, false, false, false, false, false, false, false, false] rfl rfl (zg HT_.out (by kernel_rfl)) (fun _ _ _ h => h) (Or.inl ⟨by rfl, ?_⟩) ?_ ?_;rotate_left
            ·intro w'
             go_simp;with_reducible rfl
            rotate_left
            ·simp only [Act.put, Zs1, Zs2, Zs3, zh, zi]
             rfl
            refine zn (i := 4) (N := some 69) (v := ?_) (a' := ?_) #[true, false, false, false, true, false, false, false, false, false] rfl rfl (zg HT_.out (by kernel_rfl)) (fun _ _ _ h => h) (Or.inl ⟨by rfl, ?_⟩) ?_ ?_;rotate_left
            ·intro w'
             go_simp;with_reducible rfl
            rotate_left
            ·simp only [Act.put, Zs1, Zs2, Zs3, zh, zi]
             rfl
            refine zb3 (i := 1) (N := some 66) (v := ?_) (a' := ?_) #[true, true, false, false, true, false, false, false, false, false] rfl rfl (zbc HT_.out HW_.out (by kernel_rfl)) (fun _ _ _ h => h) (Or.inl ⟨by rfl, ?_⟩) hHeld ?_ ?_;rotate_left
            ·rintro w' ⟨s0, s1, s2⟩
             go_simp;with_reducible rfl
            rotate_left
            ·simp only [Act.put, Zs1, Zs2, Zs3, zh, zi]
             rfl
            refine zn (i := 2) (N := some 67) (v := ?_) (a' := ?_) #[true, true, true, false, true, false, false, false, false, false] rfl rfl (zg HT_.out (by kernel_rfl)) (fun _ _ _ h => h) (Or.inl ⟨by rfl, ?_⟩) ?_ ?_;rotate_left
            ·intro w'
             go_simp;with_reducible rfl
            rotate_left
            ·simp only [Act.put, Zs1, Zs2, Zs3, zh, zi]
             rfl
            refine join_ (σ := Value × Addr) 4 #[true, true, true, true, true, true, false, false, false, false] (fun s_ => [(68, s_.1), (70, .int .i64 t142)]) (fun s_ w' => (w'.cell? ⟨gb118, 0, none⟩ = some (.int .i64 (wrap64 (1 + t133))) ∧ w'.cell? ⟨gb118, 1, none⟩ = some (.int .i64 (rd y121 t124)) ∧ w'.cell? ⟨gb118, 2, none⟩ = some (.int .i64 (rd y112 t115))) ∧ (Kd.R (Kd.int .i64) 3 w' w.heap.size (fun k_ => some k_ ≠ (.slice (some adz_v122) y121.length co39 : Value).ownBlock ∧ some k_ ≠ (.slice (some adz_v128) y127.length co48 : Value).ownBlock ∧ some k_ ≠ (s_.1 : Value).ownBlock) (.slice (some ad117) y112.length co26) y112) ∧ (Kd.R (Kd.int .i64) 3 w' w.heap.size (fun k_ => some k_ ≠ (.slice (some ad117) y112.length co26 : Value).ownBlock ∧ some k_ ≠ (.slice (some adz_v128) y127.length co48 : Value).ownBlock ∧ some k_ ≠ (s_.1 : Value).ownBlock) (.slice (some adz_v122) y121.length co39) y121) ∧ (Kd.R (Kd.int .i64) 3 w' w.heap.size (fun k_ => some k_ ≠ (.slice (some ad117) y112.length co26 : Value).ownBlock ∧ some k_ ≠ (.slice (some adz_v122) y121.length co39 : Value).ownBlock ∧ some k_ ≠ (s_.1 : Value).ownBlock) (.slice (some adz_v128) y127.length co48) y127) ∧ (Kd.R (Kd.int .i64) 3 w' w.heap.size (fun k_ => some k_ ≠ (.slice (some ad117) y112.length co26 : Value).ownBlock ∧ some k_ ≠ (.slice (some adz_v122) y121.length co39 : Value).ownBlock ∧ some k_ ≠ (.slice (some adz_v128) y127.length co48 : Value).ownBlock) s_.1 y139) ∧ (∃ c_, (s_.1 : Value) = .slice (some s_.2) y139.length c_) ∧ (w'.heap[gb109]? = some (.cells #[.int .i64 0, .int .i64 0, .int .i64 0] 35 (0, 0))) ∧ (w'.heap[gb118]? = some (.cells #[.int .i64 (wrap64 (1 + t133)), .int .i64 (rd y121 t124), .int .i64 (rd y112 t115)] 35 (0, 0))) ∧ (zy w0 w' g s0_0 t143) ∧ (zx w w' g none) ∧ (Below w0.heap.size w0 w')) ?_ ?_;rotate_left
            ·intro hCont
             refine two_ (i := 3) (j := 5) (Ni := some 68) (Nj := some 70) #[true, true, true, true, true, false, false, false, false, false] #[true, true, true, false, true, true, false, false, false, false] rfl rfl rfl rfl (two_of HT_.out (by kernel_rfl)) (by decide) (by decide) (fun K hK => ?_) (fun K hK => ?_)
             ·skip
              refine Kd.zdu (Kd.int .i64) _ 3 ?hg (N := 68) ?hd (xs := ([0, (-1), 9, wrap64 ((rd y121 t124) + 1)] : List Int)) (inner := [.int .i64 0, .int .i64 (-1), .int .i64 9, .int .i64 (wrap64 ((rd y121 t124) + 1))]) (ok := fun _ => True) (okp := fun _ => True) ?hr ?hp (fun _ hk => hk) trivial (Below.refl _ _) (Nat.le_refl _) (by simp) ?_; (case hd => rfl); (case hg => rfl); (case hr => first | (go_simp; done) | (go_simp; rfl)); (case hp => exact (Reps.one (show Kd.M (Kd.int .i64) _ _ _ 0 [.int .i64 0] from rfl) (Reps.one (show Kd.M (Kd.int .i64) _ _ _ (-1) [.int .i64 (-1)] from rfl) (Reps.one (show Kd.M (Kd.int .i64) _ _ _ 9 [.int .i64 9] from rfl) (Reps.one (show Kd.M (Kd.int .i64) _ _ _ (wrap64 ((rd y121 t124) + 1)) [.int .i64 (wrap64 ((rd y121 t124) + 1))] from rfl) (Reps.none _ _))))));intro v140 w60 ho61 hb hg_ hnew_;clear hg_ hnew_;(first | rw [← Ny139.out] at ho61 | (simp only [Int.reduceToNat] at ho61; rw [← Ny139.out] at ho61));have n0_ := za.mk (Kd.zct (Zq12 HO114) (Kd.zcy ho61) hb);have n1_ := za.mk (Kd.zct (Zq12 HO123) (Kd.zcy ho61) hb);have n2_ := za.mk (Kd.zct (Zq12 HO129) (Kd.zcy ho61) hb);have n3_ := za.mk (Kd.zcj (Kd.zdk (Kd.zdk (Kd.zdk ho61 (Kd.R_lt (Zq12 HO114))) (Kd.R_lt (Zq12 HO123))) (Kd.R_lt (Zq12 HO129))) (zco (w := w) (g := g) (row := none) (Zq14 HK GW109 GW118)));have n4_ := za.mk (zy.below (Zq13 HI0 NB0_109 NB0_118) hb);have n5_ := za.mk (zbm (g := gb109) (o := .cells #[.int .i64 0, .int .i64 0, .int .i64 0] 35 (0, 0)) (Zq2 BK109) hb);have n6_ := za.mk (zbm (g := gb118) (o := .cells #[.int .i64 (wrap64 (1 + t133)), .int .i64 (rd y121 t124), .int .i64 (rd y112 t115)] 35 (0, 0)) (Zq2 BK118) hb);have n7_ := za.mk (zx.trans (Zq14 HK GW109 GW118) (zx.of_below hb g none) (.inl rfl));have n8_ := za.mk (zl (Zq15 HB (zy.ge HI0.out) GE109 GE118) hb);clear HO114;clear HO123;clear HO129;clear HI0;clear BK109;clear BK118;clear HK;clear HB;have HO114 := n0_;have HO123 := n1_;have HO129 := n2_;have HO141 := n3_;have HI0 := n4_;have BK109 := n5_;have BK118 := n6_;have HK := n7_;have HB := n8_;clear n0_ n1_ n2_ n3_ n4_ n5_ n6_ n7_ n8_;clear hb ho61;obtain ⟨Ao62, co62, eo62⟩ := Kd.zck HO141.out;subst eo62;obtain ⟨ado62, fo62, _⟩ := Kd.zb5 (Kd.zz HO141.out).2.2 0 (by decide) (by rw [Ny139.out]; simp)
              cases fo62
              refine hK.out _ _ ⟨(ze BK118.out 0).trans rfl, (ze BK118.out 1).trans rfl, (ze BK118.out 2).trans rfl⟩ (fun hHeld => ?_);clear hK K;refine zcd (a' := ?_) ?_ ?_;rotate_left
              ·show Act.put _ (some 68) _ = _
               simp only [Act.put, Zs1, Zs2, Zs3, zh, zi];rfl
              refine one_ (i := 5) (N := some 70) #[true, true, true, true, true, true, false, false, false, false] rfl rfl (zb0 HT_.out (by kernel_rfl)) (by decide) (fun K hK => ?_);refine zcs Try.func53 (by kernel_rfl) rfl #[.pointer (some ⟨g, 0, none⟩), .int .i64 4] (by rfl) rfl rfl Zmt ?_;with_reducible refine (zb.calls k g s0_0 t138 4 t142 t143 w0 _ ?side1 ?side2 A55.out).mono ?_
              (case side1 => exact Zq13 HI0 NB0_109 NB0_118);(case side2 => exact Zq15 HB (zy.ge HI0.out) GE109 GE118);rintro e w63 ⟨rfl, hi, hb, hk⟩;refine ⟨_, rfl, ?_⟩;have n0_ := za.mk (zx.blk hk (g' := gb109) (o := .cells #[.int .i64 0, .int .i64 0, .int .i64 0] 35 (0, 0)) (Zq2 BK109) NB109_0.out (by simp));have n1_ := za.mk (Kd.zbs (Kd.zcf (zy.apart (show zy w0 _ g s0_0 t138 from Zq13 HI0 NB0_109 NB0_118) (Zq12 HO114) (by decide)) hk (fun _ h => h.2)) (fun _ h => h.1));have n2_ := za.mk (zx.blk hk (g' := gb118) (o := .cells #[.int .i64 (wrap64 (1 + t133)), .int .i64 (rd y121 t124), .int .i64 (rd y112 t115)] 35 (0, 0)) (Zq2 BK118) NB118_0.out (by simp));have n3_ := za.mk (Kd.zbs (Kd.zcf (zy.apart (show zy w0 _ g s0_0 t138 from Zq13 HI0 NB0_109 NB0_118) (Zq12 HO123) (by decide)) hk (fun _ h => h.2)) (fun _ h => h.1));have n4_ := za.mk (Kd.zbs (Kd.zcf (zy.apart (show zy w0 _ g s0_0 t138 from Zq13 HI0 NB0_109 NB0_118) (Zq12 HO129) (by decide)) hk (fun _ h => h.2)) (fun _ h => h.1));have n5_ := za.mk (Kd.zbs (Kd.zcf (zy.apart (show zy w0 _ g s0_0 t138 from Zq13 HI0 NB0_109 NB0_118) (Zq12 HO141) (by decide)) hk (fun _ h => h.2)) (fun _ h => h.1));have n6_ := za.mk (zx.trans (Zq14 HK GW109 GW118) hk (.inl rfl));have n7_ := za.mk (hb);have n8_ := za.mk (hi);clear BK109;clear HO114;clear BK118;clear HO123;clear HO129;clear HO141;clear HK;clear HB;clear HI0;have BK109 := n0_;have HO114 := n1_;have BK118 := n2_;have HO123 := n3_;have HO129 := n4_;have HO141 := n5_;have HK := n6_;have HB := n7_;have HI0 := n8_;clear n0_ n1_ n2_ n3_ n4_ n5_ n6_ n7_ n8_;(try clear hb);(try clear hb2);(try clear hk);(try clear hi);refine hK.out _ _ ⟨(ze BK118.out 0).trans rfl, (ze BK118.out 1).trans rfl, (ze BK118.out 2).trans rfl⟩ (fun hHeld => ?_);clear hK K;refine zcd (a' := ?_) ?_ ?_;rotate_left
              ·show Act.put _ (some 70) _ = _
               simp only [Act.put, Zs1, Zs2, Zs3, zh, zi];rfl
              exact zcd (by simp only [zec, Act.put, Zs1, Zs2, Zs3]) (hCont (.slice (some ado62) y139.length co62, ado62) _ ⟨hHeld, (by (with_reducible repeat (first | apply Kd.zcl | apply Kd.zcm | apply Kd.zci)); exact Kd.zbs HO114.out (fun _ hk => ⟨hk.1.1, ⟨hk.1.2, hk.2⟩⟩)), (by (with_reducible repeat (first | apply Kd.zcl | apply Kd.zcm | apply Kd.zci)); exact Kd.zbs HO123.out (fun _ hk => ⟨hk.1.1, ⟨hk.1.2, hk.2⟩⟩)), (by (with_reducible repeat (first | apply Kd.zcl | apply Kd.zcm | apply Kd.zci)); exact Kd.zbs HO129.out (fun _ hk => ⟨hk.1.1, ⟨hk.1.2, hk.2⟩⟩)), (by (with_reducible repeat (first | apply Kd.zcl | apply Kd.zcm | apply Kd.zci)); exact Kd.zbs HO141.out (fun _ hk => ⟨hk.1.1.2, ⟨hk.1.2, hk.2⟩⟩)), ⟨_, rfl⟩, (Zq2 BK109), (Zq2 BK118), (Zq13 HI0 NB0_109 NB0_118), (Zq14 HK GW109 GW118), (Zq15 HB (zy.ge HI0.out) GE109 GE118)⟩)
             ·skip
              refine zcs Try.func53 (by kernel_rfl) rfl #[.pointer (some ⟨g, 0, none⟩), .int .i64 4] (by rfl) rfl rfl Zmt ?_;with_reducible refine (zb.calls k g s0_0 t138 4 t142 t143 w0 _ ?side1 ?side2 A55.out).mono ?_
              (case side1 => exact Zq13 HI0 NB0_109 NB0_118);(case side2 => exact Zq15 HB (zy.ge HI0.out) GE109 GE118);rintro e w60 ⟨rfl, hi, hb, hk⟩;refine ⟨_, rfl, ?_⟩;have n0_ := za.mk (zx.blk hk (g' := gb109) (o := .cells #[.int .i64 0, .int .i64 0, .int .i64 0] 35 (0, 0)) (Zq2 BK109) NB109_0.out (by simp));have n1_ := za.mk (Kd.zbs (Kd.zcf (zy.apart (show zy w0 _ g s0_0 t138 from Zq13 HI0 NB0_109 NB0_118) (Zq12 HO114) (by decide)) hk (fun _ h => h.2)) (fun _ h => h.1));have n2_ := za.mk (zx.blk hk (g' := gb118) (o := .cells #[.int .i64 (wrap64 (1 + t133)), .int .i64 (rd y121 t124), .int .i64 (rd y112 t115)] 35 (0, 0)) (Zq2 BK118) NB118_0.out (by simp));have n3_ := za.mk (Kd.zbs (Kd.zcf (zy.apart (show zy w0 _ g s0_0 t138 from Zq13 HI0 NB0_109 NB0_118) (Zq12 HO123) (by decide)) hk (fun _ h => h.2)) (fun _ h => h.1));have n4_ := za.mk (Kd.zbs (Kd.zcf (zy.apart (show zy w0 _ g s0_0 t138 from Zq13 HI0 NB0_109 NB0_118) (Zq12 HO129) (by decide)) hk (fun _ h => h.2)) (fun _ h => h.1));have n5_ := za.mk (zx.trans (Zq14 HK GW109 GW118) hk (.inl rfl));have n6_ := za.mk (hb);have n7_ := za.mk (hi);clear BK109;clear HO114;clear BK118;clear HO123;clear HO129;clear HK;clear HB;clear HI0;have BK109 := n0_;have HO114 := n1_;have BK118 := n2_;have HO123 := n3_;have HO129 := n4_;have HK := n5_;have HB := n6_;have HI0 := n7_;clear n0_ n1_ n2_ n3_ n4_ n5_ n6_ n7_;(try clear hb);(try clear hb2);(try clear hk);(try clear hi);refine hK.out _ _ ⟨(ze BK118.out 0).trans rfl, (ze BK118.out 1).trans rfl, (ze BK118.out 2).trans rfl⟩ (fun hHeld => ?_);clear hK K;refine zcd (a' := ?_) ?_ ?_;rotate_left
              ·show Act.put _ (some 70) _ = _
               simp only [Act.put, Zs1, Zs2, Zs3, zh, zi];rfl
              refine one_ (i := 3) (N := some 68) #[true, true, true, true, true, true, false, false, false, false] rfl rfl (zb0 HT_.out (by kernel_rfl)) (by decide) (fun K hK => ?_);refine Kd.zdu (Kd.int .i64) _ 3 ?hg (N := 68) ?hd (xs := ([0, (-1), 9, wrap64 ((rd y121 t124) + 1)] : List Int)) (inner := [.int .i64 0, .int .i64 (-1), .int .i64 9, .int .i64 (wrap64 ((rd y121 t124) + 1))]) (ok := fun _ => True) (okp := fun _ => True) ?hr ?hp (fun _ hk => hk) trivial (Below.refl _ _) (Nat.le_refl _) (by simp) ?_; (case hd => rfl); (case hg => rfl); (case hr => first | (go_simp; done) | (go_simp; rfl)); (case hp => exact (Reps.one (show Kd.M (Kd.int .i64) _ _ _ 0 [.int .i64 0] from rfl) (Reps.one (show Kd.M (Kd.int .i64) _ _ _ (-1) [.int .i64 (-1)] from rfl) (Reps.one (show Kd.M (Kd.int .i64) _ _ _ 9 [.int .i64 9] from rfl) (Reps.one (show Kd.M (Kd.int .i64) _ _ _ (wrap64 ((rd y121 t124) + 1)) [.int .i64 (wrap64 ((rd y121 t124) + 1))] from rfl) (Reps.none _ _))))));intro v140 w61 ho62 hb hg_ hnew_;clear hg_ hnew_;(first | rw [← Ny139.out] at ho62 | (simp only [Int.reduceToNat] at ho62; rw [← Ny139.out] at ho62));have n0_ := za.mk (Kd.zct (Zq12 HO114) (Kd.zcy ho62) hb);have n1_ := za.mk (Kd.zct (Zq12 HO123) (Kd.zcy ho62) hb);have n2_ := za.mk (Kd.zct (Zq12 HO129) (Kd.zcy ho62) hb);have n3_ := za.mk (Kd.zcj (Kd.zdk (Kd.zdk (Kd.zdk ho62 (Kd.R_lt (Zq12 HO114))) (Kd.R_lt (Zq12 HO123))) (Kd.R_lt (Zq12 HO129))) (zco (w := w) (g := g) (row := none) (Zq14 HK GW109 GW118)));have n4_ := za.mk (zy.below (Zq13 HI0 NB0_109 NB0_118) hb);have n5_ := za.mk (zbm (g := gb109) (o := .cells #[.int .i64 0, .int .i64 0, .int .i64 0] 35 (0, 0)) (Zq2 BK109) hb);have n6_ := za.mk (zbm (g := gb118) (o := .cells #[.int .i64 (wrap64 (1 + t133)), .int .i64 (rd y121 t124), .int .i64 (rd y112 t115)] 35 (0, 0)) (Zq2 BK118) hb);have n7_ := za.mk (zx.trans (Zq14 HK GW109 GW118) (zx.of_below hb g none) (.inl rfl));have n8_ := za.mk (zl (Zq15 HB (zy.ge HI0.out) GE109 GE118) hb);clear HO114;clear HO123;clear HO129;clear HI0;clear BK109;clear BK118;clear HK;clear HB;have HO114 := n0_;have HO123 := n1_;have HO129 := n2_;have HO141 := n3_;have HI0 := n4_;have BK109 := n5_;have BK118 := n6_;have HK := n7_;have HB := n8_;clear n0_ n1_ n2_ n3_ n4_ n5_ n6_ n7_ n8_;clear hb ho62;obtain ⟨Ao63, co63, eo63⟩ := Kd.zck HO141.out;subst eo63;obtain ⟨ado63, fo63, _⟩ := Kd.zb5 (Kd.zz HO141.out).2.2 0 (by decide) (by rw [Ny139.out]; simp)
              cases fo63
              refine hK.out _ _ ⟨(ze BK118.out 0).trans rfl, (ze BK118.out 1).trans rfl, (ze BK118.out 2).trans rfl⟩ (fun hHeld => ?_);clear hK K;refine zcd (a' := ?_) ?_ ?_;rotate_left
              ·show Act.put _ (some 68) _ = _
               simp only [Act.put, Zs1, Zs2, Zs3, zh, zi];rfl
              exact zcd (by simp only [zec, Act.put, Zs1, Zs2, Zs3]) (hCont (.slice (some ado63) y139.length co63, ado63) _ ⟨hHeld, (by (with_reducible repeat (first | apply Kd.zcl | apply Kd.zcm | apply Kd.zci)); exact Kd.zbs HO114.out (fun _ hk => ⟨hk.1.1, ⟨hk.1.2, hk.2⟩⟩)), (by (with_reducible repeat (first | apply Kd.zcl | apply Kd.zcm | apply Kd.zci)); exact Kd.zbs HO123.out (fun _ hk => ⟨hk.1.1, ⟨hk.1.2, hk.2⟩⟩)), (by (with_reducible repeat (first | apply Kd.zcl | apply Kd.zcm | apply Kd.zci)); exact Kd.zbs HO129.out (fun _ hk => ⟨hk.1.1, ⟨hk.1.2, hk.2⟩⟩)), (by (with_reducible repeat (first | apply Kd.zcl | apply Kd.zcm | apply Kd.zci)); exact Kd.zbs HO141.out (fun _ hk => ⟨hk.1.1.2, ⟨hk.1.2, hk.2⟩⟩)), ⟨_, rfl⟩, (Zq2 BK109), (Zq2 BK118), (Zq13 HI0 NB0_109 NB0_118), (Zq14 HK GW109 GW118), (Zq15 HB (zy.ge HI0.out) GE109 GE118)⟩)
            rintro ⟨v140, adz_v140⟩ w64 ⟨hS_, h0_, h1_, h2_, h3_, h4_, h5_, h6_, h7_, h8_, h9_⟩;have n0_ : za (Kd.R (Kd.int .i64) 3 w64 w.heap.size (fun k_ => some k_ ≠ (.slice (some adz_v122) y121.length co39 : Value).ownBlock ∧ some k_ ≠ (.slice (some adz_v128) y127.length co48 : Value).ownBlock ∧ some k_ ≠ (v140 : Value).ownBlock) (.slice (some ad117) y112.length co26) y112) := ⟨h0_⟩;have n1_ : za (Kd.R (Kd.int .i64) 3 w64 w.heap.size (fun k_ => some k_ ≠ (.slice (some ad117) y112.length co26 : Value).ownBlock ∧ some k_ ≠ (.slice (some adz_v128) y127.length co48 : Value).ownBlock ∧ some k_ ≠ (v140 : Value).ownBlock) (.slice (some adz_v122) y121.length co39) y121) := ⟨h1_⟩;have n2_ : za (Kd.R (Kd.int .i64) 3 w64 w.heap.size (fun k_ => some k_ ≠ (.slice (some ad117) y112.length co26 : Value).ownBlock ∧ some k_ ≠ (.slice (some adz_v122) y121.length co39 : Value).ownBlock ∧ some k_ ≠ (v140 : Value).ownBlock) (.slice (some adz_v128) y127.length co48) y127) := ⟨h2_⟩;have n3_ : za (Kd.R (Kd.int .i64) 3 w64 w.heap.size (fun k_ => some k_ ≠ (.slice (some ad117) y112.length co26 : Value).ownBlock ∧ some k_ ≠ (.slice (some adz_v122) y121.length co39 : Value).ownBlock ∧ some k_ ≠ (.slice (some adz_v128) y127.length co48 : Value).ownBlock) v140 y139) := ⟨h3_⟩;have n4_ : za (∃ c_, (v140 : Value) = .slice (some adz_v140) y139.length c_) := ⟨h4_⟩;have n5_ : za (w64.heap[gb109]? = some (.cells #[.int .i64 0, .int .i64 0, .int .i64 0] 35 (0, 0))) := ⟨h5_⟩;have n6_ : za (w64.heap[gb118]? = some (.cells #[.int .i64 (wrap64 (1 + t133)), .int .i64 (rd y121 t124), .int .i64 (rd y112 t115)] 35 (0, 0))) := ⟨h6_⟩;have n7_ : za (zy w0 w64 g s0_0 t143) := ⟨h7_⟩;have n8_ : za (zx w w64 g none) := ⟨h8_⟩;have n9_ : za (Below w0.heap.size w0 w64) := ⟨h9_⟩;clear HO114;clear HO123;clear HO129;clear BK109;clear BK118;clear HI0;clear HK;clear HB;clear h0_ h1_ h2_ h3_ h4_ h5_ h6_ h7_ h8_ h9_;have HO114 := n0_;have HO123 := n1_;have HO129 := n2_;have HO141 := n3_;have HA_HO141 := n4_;have BK109 := n5_;have BK118 := n6_;have HI0 := n7_;have HK := n8_;have HB := n9_;clear n0_ n1_ n2_ n3_ n4_ n5_ n6_ n7_ n8_ n9_;have hHeld : w64.cell? ⟨gb118, 0, none⟩ = some (.int .i64 (wrap64 (1 + t133))) ∧ w64.cell? ⟨gb118, 1, none⟩ = some (.int .i64 (rd y121 t124)) ∧ w64.cell? ⟨gb118, 2, none⟩ = some (.int .i64 (rd y112 t115)) := hS_;obtain ⟨co65, eo65⟩ := HA_HO141.out;clear HA_HO141;subst eo65;refine zcd (a' := ?_) ?_ ?_;rotate_left
            ·simp only [zec, Act.put, Zs1, Zs2, Zs3]
             rfl
            refine zn (i := 6) (N := some 71) (v := ?_) (a' := ?_) #[true, true, true, true, true, true, true, false, false, false] rfl rfl (zg HT_.out (by kernel_rfl)) (fun _ _ _ h => h) (Or.inl ⟨by rfl, ?_⟩) ?_ ?_;rotate_left
            ·intro w'
             go_simp;with_reducible rfl
            rotate_left
            ·simp only [Act.put, Zs1, Zs2, Zs3, zh, zi]
             rfl
            refine one_ (i := 7) (N := some 72) #[true, true, true, true, true, true, true, true, false, false] rfl rfl (zb0 HT_.out (by kernel_rfl)) (by decide) (fun K hK => ?_);(have p144 : 0 ≤ (t142 : Int) := of_decide_eq_true Zas; have q144 : t142 < (y139.length : Int) := of_decide_eq_true Zas; obtain ⟨ad144, e144, hx144_0⟩ := Kd.zb5 (Kd.zz HO141.out).2.2 t142 p144 q144; obtain rfl : adz_v140 = ad144 := (by injection e144));refine value_ (w1 := ?_) (v := ?_) (by rfl) rfl ?_ ?_;rotate_left 2
            ·go_simp
             constructor
             ·rfl
             ·rfl
            clear hx144_0;refine hK.out _ _ ⟨(ze BK118.out 0).trans rfl, (ze BK118.out 1).trans rfl, (ze BK118.out 2).trans rfl⟩ (fun hHeld => ?_);clear hK K;refine zcd (a' := ?_) ?_ ?_;rotate_left
            ·show Act.put _ (some 72) _ = _
             simp only [Act.put, Zs1, Zs2, Zs3, zh, zi];rfl
            refine zn (i := 8) (N := some 73) (v := ?_) (a' := ?_) #[true, true, true, true, true, true, true, true, true, false] rfl rfl (zg HT_.out (by kernel_rfl)) (fun _ _ _ h => h) (Or.inl ⟨by rfl, ?_⟩) ?_ ?_;rotate_left
            ·intro w'
             go_simp;with_reducible rfl
            rotate_left
            ·simp only [Act.put, Zs1, Zs2, Zs3, zh, zi]
             rfl
            refine last_ (i := 9) (N := none) #[true, true, true, true, true, true, true, true, true, true] rfl rfl (zb0 HT_.out (by kernel_rfl)) (by decide) (fun K hK => ?_);have hs66 : w64.cell? ⟨gb118, 0, none⟩ = some (.int .i64 (wrap64 (1 + t133))) := (ze BK118.out 0).trans rfl;have hfs66 := zw BK118.out 0;have hns66_0 := NB109_118.out;have hms66_0 := NB118_109.out;refine zi6 (w1 := ?_) (by rfl) rfl ?_ ?_;rotate_left
            ·go_simp
             rfl
            refine hK.out _ _ ?_;clear hK K;refine zc5 (zb9 HT_.out (by kernel_rfl)) ?_
            try go_wp2
            go_meet
            case rel => exact ⟨_, (t143), (rd y139 t142), (rd y121 t124), (rd y112 t115), H', ⟨by first | omega | exact Nat.le_refl _⟩, ⟨by (with_reducible repeat (first | refine zbi ?_ _ | refine zbf ?_ | refine zbh ?_ _)); refine zc9 ?_ NB109_118.out _; (with_reducible repeat (first | refine zbi ?_ _ | refine zbf ?_ | refine zbh ?_ _)); exact BK109.out⟩, ⟨by (with_reducible repeat (first | refine zbi ?_ _ | refine zbf ?_ | refine zbh ?_ _)); refine zcv (cs := #[.int .i64 (wrap64 (1 + t133)), .int .i64 (rd y121 t124), .int .i64 (rd y112 t115)]) ?_ 0 _ rfl; (with_reducible repeat (first | refine zbi ?_ _ | refine zbf ?_ | refine zbh ?_ _)); exact BK118.out⟩, ⟨Zq13 HI0 NB0_109 NB0_118⟩, ⟨Zq14 HK GW109 GW118⟩, ⟨Zq15 HB (zy.ge HI0.out) GE109 GE118⟩⟩
           ·rw [if_neg c57] at H
            exact absurd H (by simp)
          ·rw [if_neg c56] at H
           exact absurd H (by simp)
         ·rw [if_neg c54] at H
          have c54b0 : (t137 == 0) = false := beq_eq_false_iff_ne.mpr c54;have c54b1 : (t137 != 0) = true := bne_iff_ne.mpr c54;(first | rw [c54b0] | (simp only [zh, zi]; rw [c54b0]) | skip);by_cases c67 : t137 = 1
          ·rw [if_pos c67] at H
           have c67b0 : (t137 == 1) = true := beq_iff_eq.mpr c67;have c67b1 : (t137 != 1) = false := bne_eq_false_iff_eq.mpr c67;clear c67;obtain ⟨y145, hy145⟩ : ∃ y_ : List Int, y_ = (([0, wrap64 ((rd y112 t115) + 1), (-1)] : List Int)) := ⟨_, rfl⟩;replace H : ((zb.f k s0_0 t138 3).bind fun bt148 => (if 0 ≤ bt148.1 then (if bt148.1 < (y145.length : Int) then (zk.j0 k s0_0 bt148.2 (wrap64 (1 + t133)) (rd y145 bt148.1) (rd y112 t115)) else (none)) else (none))) = some (r1, r2, r3, r4) := by first | (rw [hy145]; with_reducible exact H) | (have H2_ := (Option.bind_some _ _).symm.trans H; rw [hy145]; with_reducible exact H2_) | (have H2_ := (Option.bind_some _ _).symm.trans H; with_reducible exact H2_) | with_reducible exact H | (rw [hy145]; exact H) | exact H
           have Ny145 := za.mk hy145;clear hy145;replace H := Option.bind_eq_some_iff.mp H;obtain ⟨⟨t148, t149⟩, A680, H⟩ := H;replace H : (if 0 ≤ t148 then (if t148 < (y145.length : Int) then (zk.j0 k s0_0 t149 (wrap64 (1 + t133)) (rd y145 t148) (rd y112 t115)) else (none)) else (none)) = some (r1, r2, r3, r4) := H;have A68 := za.mk A680;clear A680;by_cases c69 : 0 ≤ t148
           ·rw [if_pos c69] at H
            have c69b0 : decide (0 ≤ t148) = true := decide_eq_true c69;clear c69;by_cases c70 : t148 < (y145.length : Int)
            ·rw [if_pos c70] at H
             have c70b0 : decide (t148 < (y145.length : Int)) = true := decide_eq_true c70;clear c70;have H' := za.mk H;clear H
             try go_wp2_with (first | ((with_reducible refine zbd (f := 53) rfl ?_); refine zb6 (some 56) rfl rfl Try.func53 (by kernel_rfl) rfl #[.pointer (some ⟨g, 0, none⟩), .int .i64 3] rfl Zmt ?_; (with_reducible refine (zb.calls k g s0_0 t136 3 t137 t138 w0 _ ?side1 ?side2 A53.out).mono ?_); (case side1 => exact Zq13 HI0 NB0_109 NB0_118); (case side2 => exact Zq15 HB (zy.ge HI0.out) GE109 GE118); rintro e w71 ⟨rfl, hi, hb, hk⟩; refine ⟨_, rfl, ?_⟩; have n0_ := za.mk (zx.blk hk (g' := gb109) (o := .cells #[.int .i64 0, .int .i64 0, .int .i64 0] 35 (0, 0)) (Zq2 BK109) NB109_0.out (by simp)); have n1_ := za.mk (Kd.zbs (Kd.zcf (zy.apart (show zy w0 _ g s0_0 t136 from Zq13 HI0 NB0_109 NB0_118) (Zq12 HO114) (by decide)) hk (fun _ h => h.2)) (fun _ h => h.1)); have n2_ := za.mk (zx.blk hk (g' := gb118) (o := .cells #[.int .i64 (wrap64 (1 + t133)), .int .i64 (rd y121 t124), .int .i64 (rd y112 t115)] 35 (0, 0)) (Zq2 BK118) NB118_0.out (by simp)); have n3_ := za.mk (Kd.zbs (Kd.zcf (zy.apart (show zy w0 _ g s0_0 t136 from Zq13 HI0 NB0_109 NB0_118) (Zq12 HO123) (by decide)) hk (fun _ h => h.2)) (fun _ h => h.1)); have n4_ := za.mk (Kd.zbs (Kd.zcf (zy.apart (show zy w0 _ g s0_0 t136 from Zq13 HI0 NB0_109 NB0_118) (Zq12 HO129) (by decide)) hk (fun _ h => h.2)) (fun _ h => h.1)); have n5_ := za.mk (zx.trans (Zq14 HK GW109 GW118) hk (.inl rfl)); have n6_ := za.mk (hb); have n7_ := za.mk (hi); clear BK109; clear HO114; clear BK118; clear HO123; clear HO129; clear HK; clear HB; clear HI0; have BK109 := n0_; have HO114 := n1_; have BK118 := n2_; have HO123 := n3_; have HO129 := n4_; have HK := n5_; have HB := n6_; have HI0 := n7_; clear n0_ n1_ n2_ n3_ n4_ n5_ n6_ n7_; (try clear hb); (try clear hb2); (try clear hk); (try clear hi)))
             have pi150 : (0 ≤ (t148 : Int)) = True := eq_true (of_decide_eq_true Zas);have qi150 : (t148 < (y145.length : Int)) = True := eq_true (of_decide_eq_true Zas);have n0_ := za.mk (Kd.zci HO114.out);have n1_ := za.mk (Kd.zci HO123.out);have n2_ := za.mk (Kd.zci HO129.out);have n3_ := za.mk (zbf BK109.out);have n4_ := za.mk (zbf BK118.out);have n5_ := za.mk (zy.drew HI0.out);have n6_ := za.mk (zea HK.out);have n7_ := za.mk (zbk HB.out);clear HO114;clear HO123;clear HO129;clear BK109;clear BK118;clear HI0;clear HK;clear HB;have HO114 := n0_;have HO123 := n1_;have HO129 := n2_;have BK109 := n3_;have BK118 := n4_;have HI0 := n5_;have HK := n6_;have HB := n7_;clear n0_ n1_ n2_ n3_ n4_ n5_ n6_ n7_;refine zcn (n := 10) (S := fun w' => w'.cell? ⟨gb118, 0, none⟩ = some (.int .i64 (wrap64 (1 + t133))) ∧ w'.cell? ⟨gb118, 1, none⟩ = some (.int .i64 (rd y121 t124)) ∧ w'.cell? ⟨gb118, 2, none⟩ = some (.int .i64 (rd y112 t115))) (ds := [9]) #[false, false, false, false, false, false, false, false, false, false] (by kernel_rfl) rfl rfl ⟨(ze BK118.out 0).trans rfl, (ze BK118.out 1).trans rfl, (ze BK118.out 2).trans rfl⟩ (fun hHeld => ?_); refine zbw zk.tab10 zk.zhh (fun HT_ HW_ => ?_);generalize w71.drew = w72 at HO114 HO123 HO129 BK109 BK118 HI0 HK HB hHeld ⊢;refine zn (i := 0) (N := some 76) (v := ?_) (a' := ?_) #[true, false, false, false, false, false, false, false, false, false] rfl rfl (zg HT_.out (by kernel_rfl)) (fun _ _ _ h => h) (Or.inl ⟨by rfl, ?_⟩) ?_ ?_;rotate_left
             ·intro w'
              go_simp;with_reducible rfl
             rotate_left
             ·simp only [Act.put, Zs1, Zs2, Zs3, zh, zi]
              rfl
             refine zn (i := 4) (N := some 80) (v := ?_) (a' := ?_) #[true, false, false, false, true, false, false, false, false, false] rfl rfl (zg HT_.out (by kernel_rfl)) (fun _ _ _ h => h) (Or.inl ⟨by rfl, ?_⟩) ?_ ?_;rotate_left
             ·intro w'
              go_simp;with_reducible rfl
             rotate_left
             ·simp only [Act.put, Zs1, Zs2, Zs3, zh, zi]
              rfl
             refine zb3 (i := 1) (N := some 77) (v := ?_) (a' := ?_) #[true, true, false, false, true, false, false, false, false, false] rfl rfl (zbc HT_.out HW_.out (by kernel_rfl)) (fun _ _ _ h => h) (Or.inl ⟨by rfl, ?_⟩) hHeld ?_ ?_;rotate_left
             ·rintro w' ⟨s0, s1, s2⟩
              go_simp;with_reducible rfl
             rotate_left
             ·simp only [Act.put, Zs1, Zs2, Zs3, zh, zi]
              rfl
             refine zn (i := 2) (N := some 78) (v := ?_) (a' := ?_) #[true, true, true, false, true, false, false, false, false, false] rfl rfl (zg HT_.out (by kernel_rfl)) (fun _ _ _ h => h) (Or.inl ⟨by rfl, ?_⟩) ?_ ?_;rotate_left
             ·intro w'
              go_simp;with_reducible rfl
             rotate_left
             ·simp only [Act.put, Zs1, Zs2, Zs3, zh, zi]
              rfl
             refine join_ (σ := Value × Addr) 4 #[true, true, true, true, true, true, false, false, false, false] (fun s_ => [(79, s_.1), (81, .int .i64 t148)]) (fun s_ w' => (w'.cell? ⟨gb118, 0, none⟩ = some (.int .i64 (wrap64 (1 + t133))) ∧ w'.cell? ⟨gb118, 1, none⟩ = some (.int .i64 (rd y121 t124)) ∧ w'.cell? ⟨gb118, 2, none⟩ = some (.int .i64 (rd y112 t115))) ∧ (Kd.R (Kd.int .i64) 3 w' w.heap.size (fun k_ => some k_ ≠ (.slice (some adz_v122) y121.length co39 : Value).ownBlock ∧ some k_ ≠ (.slice (some adz_v128) y127.length co48 : Value).ownBlock ∧ some k_ ≠ (s_.1 : Value).ownBlock) (.slice (some ad117) y112.length co26) y112) ∧ (Kd.R (Kd.int .i64) 3 w' w.heap.size (fun k_ => some k_ ≠ (.slice (some ad117) y112.length co26 : Value).ownBlock ∧ some k_ ≠ (.slice (some adz_v128) y127.length co48 : Value).ownBlock ∧ some k_ ≠ (s_.1 : Value).ownBlock) (.slice (some adz_v122) y121.length co39) y121) ∧ (Kd.R (Kd.int .i64) 3 w' w.heap.size (fun k_ => some k_ ≠ (.slice (some ad117) y112.length co26 : Value).ownBlock ∧ some k_ ≠ (.slice (some adz_v122) y121.length co39 : Value).ownBlock ∧ some k_ ≠ (s_.1 : Value).ownBlock) (.slice (some adz_v128) y127.length co48) y127) ∧ (Kd.R (Kd.int .i64) 3 w' w.heap.size (fun k_ => some k_ ≠ (.slice (some ad117) y112.length co26 : Value).ownBlock ∧ some k_ ≠ (.slice (some adz_v122) y121.length co39 : Value).ownBlock ∧ some k_ ≠ (.slice (some adz_v128) y127.length co48 : Value).ownBlock) s_.1 y145) ∧ (∃ c_, (s_.1 : Value) = .slice (some s_.2) y145.length c_) ∧ (w'.heap[gb109]? = some (.cells #[.int .i64 0, .int .i64 0, .int .i64 0] 35 (0, 0))) ∧ (w'.heap[gb118]? = some (.cells #[.int .i64 (wrap64 (1 + t133)), .int .i64 (rd y121 t124), .int .i64 (rd y112 t115)] 35 (0, 0))) ∧ (zy w0 w' g s0_0 t149) ∧ (zx w w' g none) ∧ (Below w0.heap.size w0 w')) ?_ ?_;rotate_left
             ·intro hCont
              refine two_ (i := 3) (j := 5) (Ni := some 79) (Nj := some 81) #[true, true, true, true, true, false, false, false, false, false] #[true, true, true, false, true, true, false, false, false, false] rfl rfl rfl rfl (two_of HT_.out (by kernel_rfl)) (by decide) (by decide) (fun K hK => ?_) (fun K hK => ?_)
              ·skip
               refine Kd.zdu (Kd.int .i64) _ 3 ?hg (N := 79) ?hd (xs := ([0, wrap64 ((rd y112 t115) + 1), (-1)] : List Int)) (inner := [.int .i64 0, .int .i64 (wrap64 ((rd y112 t115) + 1)), .int .i64 (-1)]) (ok := fun _ => True) (okp := fun _ => True) ?hr ?hp (fun _ hk => hk) trivial (Below.refl _ _) (Nat.le_refl _) (by simp) ?_; (case hd => rfl); (case hg => rfl); (case hr => first | (go_simp; done) | (go_simp; rfl)); (case hp => exact (Reps.one (show Kd.M (Kd.int .i64) _ _ _ 0 [.int .i64 0] from rfl) (Reps.one (show Kd.M (Kd.int .i64) _ _ _ (wrap64 ((rd y112 t115) + 1)) [.int .i64 (wrap64 ((rd y112 t115) + 1))] from rfl) (Reps.one (show Kd.M (Kd.int .i64) _ _ _ (-1) [.int .i64 (-1)] from rfl) (Reps.none _ _)))));intro v146 w73 ho74 hb hg_ hnew_;clear hg_ hnew_;(first | rw [← Ny145.out] at ho74 | (simp only [Int.reduceToNat] at ho74; rw [← Ny145.out] at ho74));have n0_ := za.mk (Kd.zct (Zq12 HO114) (Kd.zcy ho74) hb);have n1_ := za.mk (Kd.zct (Zq12 HO123) (Kd.zcy ho74) hb);have n2_ := za.mk (Kd.zct (Zq12 HO129) (Kd.zcy ho74) hb);have n3_ := za.mk (Kd.zcj (Kd.zdk (Kd.zdk (Kd.zdk ho74 (Kd.R_lt (Zq12 HO114))) (Kd.R_lt (Zq12 HO123))) (Kd.R_lt (Zq12 HO129))) (zco (w := w) (g := g) (row := none) (Zq14 HK GW109 GW118)));have n4_ := za.mk (zy.below (Zq13 HI0 NB0_109 NB0_118) hb);have n5_ := za.mk (zbm (g := gb109) (o := .cells #[.int .i64 0, .int .i64 0, .int .i64 0] 35 (0, 0)) (Zq2 BK109) hb);have n6_ := za.mk (zbm (g := gb118) (o := .cells #[.int .i64 (wrap64 (1 + t133)), .int .i64 (rd y121 t124), .int .i64 (rd y112 t115)] 35 (0, 0)) (Zq2 BK118) hb);have n7_ := za.mk (zx.trans (Zq14 HK GW109 GW118) (zx.of_below hb g none) (.inl rfl));have n8_ := za.mk (zl (Zq15 HB (zy.ge HI0.out) GE109 GE118) hb);clear HO114;clear HO123;clear HO129;clear HI0;clear BK109;clear BK118;clear HK;clear HB;have HO114 := n0_;have HO123 := n1_;have HO129 := n2_;have HO147 := n3_;have HI0 := n4_;have BK109 := n5_;have BK118 := n6_;have HK := n7_;have HB := n8_;clear n0_ n1_ n2_ n3_ n4_ n5_ n6_ n7_ n8_;clear hb ho74;obtain ⟨Ao75, co75, eo75⟩ := Kd.zck HO147.out;subst eo75;obtain ⟨ado75, fo75, _⟩ := Kd.zb5 (Kd.zz HO147.out).2.2 0 (by decide) (by rw [Ny145.out]; simp)
               cases fo75
               refine hK.out _ _ ⟨(ze BK118.out 0).trans rfl, (ze BK118.out 1).trans rfl, (ze BK118.out 2).trans rfl⟩ (fun hHeld => ?_);clear hK K;refine zcd (a' := ?_) ?_ ?_;rotate_left
               ·show Act.put _ (some 79) _ = _
                simp only [Act.put, Zs1, Zs2, Zs3, zh, zi];rfl
               refine one_ (i := 5) (N := some 81) #[true, true, true, true, true, true, false, false, false, false] rfl rfl (zb0 HT_.out (by kernel_rfl)) (by decide) (fun K hK => ?_);refine zcs Try.func53 (by kernel_rfl) rfl #[.pointer (some ⟨g, 0, none⟩), .int .i64 3] (by rfl) rfl rfl Zmt ?_;with_reducible refine (zb.calls k g s0_0 t138 3 t148 t149 w0 _ ?side1 ?side2 A68.out).mono ?_
               (case side1 => exact Zq13 HI0 NB0_109 NB0_118);(case side2 => exact Zq15 HB (zy.ge HI0.out) GE109 GE118);rintro e w76 ⟨rfl, hi, hb, hk⟩;refine ⟨_, rfl, ?_⟩;have n0_ := za.mk (zx.blk hk (g' := gb109) (o := .cells #[.int .i64 0, .int .i64 0, .int .i64 0] 35 (0, 0)) (Zq2 BK109) NB109_0.out (by simp));have n1_ := za.mk (Kd.zbs (Kd.zcf (zy.apart (show zy w0 _ g s0_0 t138 from Zq13 HI0 NB0_109 NB0_118) (Zq12 HO114) (by decide)) hk (fun _ h => h.2)) (fun _ h => h.1));have n2_ := za.mk (zx.blk hk (g' := gb118) (o := .cells #[.int .i64 (wrap64 (1 + t133)), .int .i64 (rd y121 t124), .int .i64 (rd y112 t115)] 35 (0, 0)) (Zq2 BK118) NB118_0.out (by simp));have n3_ := za.mk (Kd.zbs (Kd.zcf (zy.apart (show zy w0 _ g s0_0 t138 from Zq13 HI0 NB0_109 NB0_118) (Zq12 HO123) (by decide)) hk (fun _ h => h.2)) (fun _ h => h.1));have n4_ := za.mk (Kd.zbs (Kd.zcf (zy.apart (show zy w0 _ g s0_0 t138 from Zq13 HI0 NB0_109 NB0_118) (Zq12 HO129) (by decide)) hk (fun _ h => h.2)) (fun _ h => h.1));have n5_ := za.mk (Kd.zbs (Kd.zcf (zy.apart (show zy w0 _ g s0_0 t138 from Zq13 HI0 NB0_109 NB0_118) (Zq12 HO147) (by decide)) hk (fun _ h => h.2)) (fun _ h => h.1));have n6_ := za.mk (zx.trans (Zq14 HK GW109 GW118) hk (.inl rfl));have n7_ := za.mk (hb);have n8_ := za.mk (hi);clear BK109;clear HO114;clear BK118;clear HO123;clear HO129;clear HO147;clear HK;clear HB;clear HI0;have BK109 := n0_;have HO114 := n1_;have BK118 := n2_;have HO123 := n3_;have HO129 := n4_;have HO147 := n5_;have HK := n6_;have HB := n7_;have HI0 := n8_;clear n0_ n1_ n2_ n3_ n4_ n5_ n6_ n7_ n8_;(try clear hb);(try clear hb2);(try clear hk);(try clear hi);refine hK.out _ _ ⟨(ze BK118.out 0).trans rfl, (ze BK118.out 1).trans rfl, (ze BK118.out 2).trans rfl⟩ (fun hHeld => ?_);clear hK K;refine zcd (a' := ?_) ?_ ?_;rotate_left
               ·show Act.put _ (some 81) _ = _
                simp only [Act.put, Zs1, Zs2, Zs3, zh, zi];rfl
               exact zcd (by simp only [zec, Act.put, Zs1, Zs2, Zs3]) (hCont (.slice (some ado75) y145.length co75, ado75) _ ⟨hHeld, (by (with_reducible repeat (first | apply Kd.zcl | apply Kd.zcm | apply Kd.zci)); exact Kd.zbs HO114.out (fun _ hk => ⟨hk.1.1, ⟨hk.1.2, hk.2⟩⟩)), (by (with_reducible repeat (first | apply Kd.zcl | apply Kd.zcm | apply Kd.zci)); exact Kd.zbs HO123.out (fun _ hk => ⟨hk.1.1, ⟨hk.1.2, hk.2⟩⟩)), (by (with_reducible repeat (first | apply Kd.zcl | apply Kd.zcm | apply Kd.zci)); exact Kd.zbs HO129.out (fun _ hk => ⟨hk.1.1, ⟨hk.1.2, hk.2⟩⟩)), (by (with_reducible repeat (first | apply Kd.zcl | apply Kd.zcm | apply Kd.zci)); exact Kd.zbs HO147.out (fun _ hk => ⟨hk.1.1.2, ⟨hk.1.2, hk.2⟩⟩)), ⟨_, rfl⟩, (Zq2 BK109), (Zq2 BK118), (Zq13 HI0 NB0_109 NB0_118), (Zq14 HK GW109 GW118), (Zq15 HB (zy.ge HI0.out) GE109 GE118)⟩)
              ·skip
               refine zcs Try.func53 (by kernel_rfl) rfl #[.pointer (some ⟨g, 0, none⟩), .int .i64 3] (by rfl) rfl rfl Zmt ?_;with_reducible refine (zb.calls k g s0_0 t138 3 t148 t149 w0 _ ?side1 ?side2 A68.out).mono ?_
               (case side1 => exact Zq13 HI0 NB0_109 NB0_118);(case side2 => exact Zq15 HB (zy.ge HI0.out) GE109 GE118);rintro e w73 ⟨rfl, hi, hb, hk⟩;refine ⟨_, rfl, ?_⟩;have n0_ := za.mk (zx.blk hk (g' := gb109) (o := .cells #[.int .i64 0, .int .i64 0, .int .i64 0] 35 (0, 0)) (Zq2 BK109) NB109_0.out (by simp));have n1_ := za.mk (Kd.zbs (Kd.zcf (zy.apart (show zy w0 _ g s0_0 t138 from Zq13 HI0 NB0_109 NB0_118) (Zq12 HO114) (by decide)) hk (fun _ h => h.2)) (fun _ h => h.1));have n2_ := za.mk (zx.blk hk (g' := gb118) (o := .cells #[.int .i64 (wrap64 (1 + t133)), .int .i64 (rd y121 t124), .int .i64 (rd y112 t115)] 35 (0, 0)) (Zq2 BK118) NB118_0.out (by simp));have n3_ := za.mk (Kd.zbs (Kd.zcf (zy.apart (show zy w0 _ g s0_0 t138 from Zq13 HI0 NB0_109 NB0_118) (Zq12 HO123) (by decide)) hk (fun _ h => h.2)) (fun _ h => h.1));have n4_ := za.mk (Kd.zbs (Kd.zcf (zy.apart (show zy w0 _ g s0_0 t138 from Zq13 HI0 NB0_109 NB0_118) (Zq12 HO129) (by decide)) hk (fun _ h => h.2)) (fun _ h => h.1));have n5_ := za.mk (zx.trans (Zq14 HK GW109 GW118) hk (.inl rfl));have n6_ := za.mk (hb);have n7_ := za.mk (hi);clear BK109;clear HO114;clear BK118;clear HO123;clear HO129;clear HK;clear HB;clear HI0;have BK109 := n0_;have HO114 := n1_;have BK118 := n2_;have HO123 := n3_;have HO129 := n4_;have HK := n5_;have HB := n6_;have HI0 := n7_;clear n0_ n1_ n2_ n3_ n4_ n5_ n6_ n7_;(try clear hb);(try clear hb2);(try clear hk);(try clear hi);refine hK.out _ _ ⟨(ze BK118.out 0).trans rfl, (ze BK118.out 1).trans rfl, (ze BK118.out 2).trans rfl⟩ (fun hHeld => ?_);clear hK K;refine zcd (a' := ?_) ?_ ?_;rotate_left
               ·show Act.put _ (some 81) _ = _
                simp only [Act.put, Zs1, Zs2, Zs3, zh, zi];rfl
               refine one_ (i := 3) (N := some 79) #[true, true, true, true, true, true, false, false, false, false] rfl rfl (zb0 HT_.out (by kernel_rfl)) (by decide) (fun K hK => ?_);refine Kd.zdu (Kd.int .i64) _ 3 ?hg (N := 79) ?hd (xs := ([0, wrap64 ((rd y112 t115) + 1), (-1)] : List Int)) (inner := [.int .i64 0, .int .i64 (wrap64 ((rd y112 t115) + 1)), .int .i64 (-1)]) (ok := fun _ => True) (okp := fun _ => True) ?hr ?hp (fun _ hk => hk) trivial (Below.refl _ _) (Nat.le_refl _) (by simp) ?_; (case hd => rfl); (case hg => rfl); (case hr => first | (go_simp; done) | (go_simp; rfl)); (case hp => exact (Reps.one (show Kd.M (Kd.int .i64) _ _ _ 0 [.int .i64 0] from rfl) (Reps.one (show Kd.M (Kd.int .i64) _ _ _ (wrap64 ((rd y112 t115) + 1)) [.int .i64 (wrap64 ((rd y112 t115) + 1))] from rfl) (Reps.one (show Kd.M (Kd.int .i64) _ _ _ (-1) [.int .i64 (-1)] from rfl) (Reps.none _ _)))));intro v146 w74 ho75 hb hg_ hnew_;clear hg_ hnew_;(first | rw [← Ny145.out] at ho75 | (simp only [Int.reduceToNat] at ho75; rw [← Ny145.out] at ho75));have n0_ := za.mk (Kd.zct (Zq12 HO114) (Kd.zcy ho75) hb);have n1_ := za.mk (Kd.zct (Zq12 HO123) (Kd.zcy ho75) hb);have n2_ := za.mk (Kd.zct (Zq12 HO129) (Kd.zcy ho75) hb);have n3_ := za.mk (Kd.zcj (Kd.zdk (Kd.zdk (Kd.zdk ho75 (Kd.R_lt (Zq12 HO114))) (Kd.R_lt (Zq12 HO123))) (Kd.R_lt (Zq12 HO129))) (zco (w := w) (g := g) (row := none) (Zq14 HK GW109 GW118)));have n4_ := za.mk (zy.below (Zq13 HI0 NB0_109 NB0_118) hb);have n5_ := za.mk (zbm (g := gb109) (o := .cells #[.int .i64 0, .int .i64 0, .int .i64 0] 35 (0, 0)) (Zq2 BK109) hb);have n6_ := za.mk (zbm (g := gb118) (o := .cells #[.int .i64 (wrap64 (1 + t133)), .int .i64 (rd y121 t124), .int .i64 (rd y112 t115)] 35 (0, 0)) (Zq2 BK118) hb);have n7_ := za.mk (zx.trans (Zq14 HK GW109 GW118) (zx.of_below hb g none) (.inl rfl));have n8_ := za.mk (zl (Zq15 HB (zy.ge HI0.out) GE109 GE118) hb);clear HO114;clear HO123;clear HO129;clear HI0;clear BK109;clear BK118;clear HK;clear HB;have HO114 := n0_;have HO123 := n1_;have HO129 := n2_;have HO147 := n3_;have HI0 := n4_;have BK109 := n5_;have BK118 := n6_;have HK := n7_;have HB := n8_;clear n0_ n1_ n2_ n3_ n4_ n5_ n6_ n7_ n8_;clear hb ho75;obtain ⟨Ao76, co76, eo76⟩ := Kd.zck HO147.out;subst eo76;obtain ⟨ado76, fo76, _⟩ := Kd.zb5 (Kd.zz HO147.out).2.2 0 (by decide) (by rw [Ny145.out]; simp)
               cases fo76
               refine hK.out _ _ ⟨(ze BK118.out 0).trans rfl, (ze BK118.out 1).trans rfl, (ze BK118.out 2).trans rfl⟩ (fun hHeld => ?_);clear hK K;refine zcd (a' := ?_) ?_ ?_;rotate_left
               ·show Act.put _ (some 79) _ = _
                simp only [Act.put, Zs1, Zs2, Zs3, zh, zi];rfl
               exact zcd (by simp only [zec, Act.put, Zs1, Zs2, Zs3]) (hCont (.slice (some ado76) y145.length co76, ado76) _ ⟨hHeld, (by (with_reducible repeat (first | apply Kd.zcl | apply Kd.zcm | apply Kd.zci)); exact Kd.zbs HO114.out (fun _ hk => ⟨hk.1.1, ⟨hk.1.2, hk.2⟩⟩)), (by (with_reducible repeat (first | apply Kd.zcl | apply Kd.zcm | apply Kd.zci)); exact Kd.zbs HO123.out (fun _ hk => ⟨hk.1.1, ⟨hk.1.2, hk.2⟩⟩)), (by (with_reducible repeat (first | apply Kd.zcl | apply Kd.zcm | apply Kd.zci)); exact Kd.zbs HO129.out (fun _ hk => ⟨hk.1.1, ⟨hk.1.2, hk.2⟩⟩)), (by (with_reducible repeat (first | apply Kd.zcl | apply Kd.zcm | apply Kd.zci)); exact Kd.zbs HO147.out (fun _ hk => ⟨hk.1.1.2, ⟨hk.1.2, hk.2⟩⟩)), ⟨_, rfl⟩, (Zq2 BK109), (Zq2 BK118), (Zq13 HI0 NB0_109 NB0_118), (Zq14 HK GW109 GW118), (Zq15 HB (zy.ge HI0.out) GE109 GE118)⟩)
             rintro ⟨v146, adz_v146⟩ w77 ⟨hS_, h0_, h1_, h2_, h3_, h4_, h5_, h6_, h7_, h8_, h9_⟩;have n0_ : za (Kd.R (Kd.int .i64) 3 w77 w.heap.size (fun k_ => some k_ ≠ (.slice (some adz_v122) y121.length co39 : Value).ownBlock ∧ some k_ ≠ (.slice (some adz_v128) y127.length co48 : Value).ownBlock ∧ some k_ ≠ (v146 : Value).ownBlock) (.slice (some ad117) y112.length co26) y112) := ⟨h0_⟩;have n1_ : za (Kd.R (Kd.int .i64) 3 w77 w.heap.size (fun k_ => some k_ ≠ (.slice (some ad117) y112.length co26 : Value).ownBlock ∧ some k_ ≠ (.slice (some adz_v128) y127.length co48 : Value).ownBlock ∧ some k_ ≠ (v146 : Value).ownBlock) (.slice (some adz_v122) y121.length co39) y121) := ⟨h1_⟩;have n2_ : za (Kd.R (Kd.int .i64) 3 w77 w.heap.size (fun k_ => some k_ ≠ (.slice (some ad117) y112.length co26 : Value).ownBlock ∧ some k_ ≠ (.slice (some adz_v122) y121.length co39 : Value).ownBlock ∧ some k_ ≠ (v146 : Value).ownBlock) (.slice (some adz_v128) y127.length co48) y127) := ⟨h2_⟩;have n3_ : za (Kd.R (Kd.int .i64) 3 w77 w.heap.size (fun k_ => some k_ ≠ (.slice (some ad117) y112.length co26 : Value).ownBlock ∧ some k_ ≠ (.slice (some adz_v122) y121.length co39 : Value).ownBlock ∧ some k_ ≠ (.slice (some adz_v128) y127.length co48 : Value).ownBlock) v146 y145) := ⟨h3_⟩;have n4_ : za (∃ c_, (v146 : Value) = .slice (some adz_v146) y145.length c_) := ⟨h4_⟩;have n5_ : za (w77.heap[gb109]? = some (.cells #[.int .i64 0, .int .i64 0, .int .i64 0] 35 (0, 0))) := ⟨h5_⟩;have n6_ : za (w77.heap[gb118]? = some (.cells #[.int .i64 (wrap64 (1 + t133)), .int .i64 (rd y121 t124), .int .i64 (rd y112 t115)] 35 (0, 0))) := ⟨h6_⟩;have n7_ : za (zy w0 w77 g s0_0 t149) := ⟨h7_⟩;have n8_ : za (zx w w77 g none) := ⟨h8_⟩;have n9_ : za (Below w0.heap.size w0 w77) := ⟨h9_⟩;clear HO114;clear HO123;clear HO129;clear BK109;clear BK118;clear HI0;clear HK;clear HB;clear h0_ h1_ h2_ h3_ h4_ h5_ h6_ h7_ h8_ h9_;have HO114 := n0_;have HO123 := n1_;have HO129 := n2_;have HO147 := n3_;have HA_HO147 := n4_;have BK109 := n5_;have BK118 := n6_;have HI0 := n7_;have HK := n8_;have HB := n9_;clear n0_ n1_ n2_ n3_ n4_ n5_ n6_ n7_ n8_ n9_;have hHeld : w77.cell? ⟨gb118, 0, none⟩ = some (.int .i64 (wrap64 (1 + t133))) ∧ w77.cell? ⟨gb118, 1, none⟩ = some (.int .i64 (rd y121 t124)) ∧ w77.cell? ⟨gb118, 2, none⟩ = some (.int .i64 (rd y112 t115)) := hS_;obtain ⟨co78, eo78⟩ := HA_HO147.out;clear HA_HO147;subst eo78;refine zcd (a' := ?_) ?_ ?_;rotate_left
             ·simp only [zec, Act.put, Zs1, Zs2, Zs3]
              rfl
             refine zn (i := 6) (N := some 82) (v := ?_) (a' := ?_) #[true, true, true, true, true, true, true, false, false, false] rfl rfl (zg HT_.out (by kernel_rfl)) (fun _ _ _ h => h) (Or.inl ⟨by rfl, ?_⟩) ?_ ?_;rotate_left
             ·intro w'
              go_simp;with_reducible rfl
             rotate_left
             ·simp only [Act.put, Zs1, Zs2, Zs3, zh, zi]
              rfl
             refine one_ (i := 7) (N := some 83) #[true, true, true, true, true, true, true, true, false, false] rfl rfl (zb0 HT_.out (by kernel_rfl)) (by decide) (fun K hK => ?_);(have p150 : 0 ≤ (t148 : Int) := of_decide_eq_true Zas; have q150 : t148 < (y145.length : Int) := of_decide_eq_true Zas; obtain ⟨ad150, e150, hx150_0⟩ := Kd.zb5 (Kd.zz HO147.out).2.2 t148 p150 q150; obtain rfl : adz_v146 = ad150 := (by injection e150));refine value_ (w1 := ?_) (v := ?_) (by rfl) rfl ?_ ?_;rotate_left 2
             ·go_simp
              constructor
              ·rfl
              ·rfl
             clear hx150_0;refine hK.out _ _ ⟨(ze BK118.out 0).trans rfl, (ze BK118.out 1).trans rfl, (ze BK118.out 2).trans rfl⟩ (fun hHeld => ?_);clear hK K;refine zcd (a' := ?_) ?_ ?_;rotate_left
             ·show Act.put _ (some 83) _ = _
              simp only [Act.put, Zs1, Zs2, Zs3, zh, zi];rfl
             refine zn (i := 8) (N := some 84) (v := ?_) (a' := ?_) #[true, true, true, true, true, true, true, true, true, false] rfl rfl (zg HT_.out (by kernel_rfl)) (fun _ _ _ h => h) (Or.inl ⟨by rfl, ?_⟩) ?_ ?_;rotate_left
             ·intro w'
              go_simp;with_reducible rfl
             rotate_left
             ·simp only [Act.put, Zs1, Zs2, Zs3, zh, zi]
              rfl
             refine last_ (i := 9) (N := none) #[true, true, true, true, true, true, true, true, true, true] rfl rfl (zb0 HT_.out (by kernel_rfl)) (by decide) (fun K hK => ?_);have hs79 : w77.cell? ⟨gb118, 1, none⟩ = some (.int .i64 (rd y121 t124)) := (ze BK118.out 1).trans rfl;have hfs79 := zw BK118.out 1;have hns79_0 := NB109_118.out;have hms79_0 := NB118_109.out;refine zi6 (w1 := ?_) (by rfl) rfl ?_ ?_;rotate_left
             ·go_simp
              rfl
             refine hK.out _ _ ?_;clear hK K;refine zc5 (zb9 HT_.out (by kernel_rfl)) ?_
             try go_wp2
             go_meet
             case rel => exact ⟨_, (t149), (wrap64 (1 + t133)), (rd y145 t148), (rd y112 t115), H', ⟨by first | omega | exact Nat.le_refl _⟩, ⟨by (with_reducible repeat (first | refine zbi ?_ _ | refine zbf ?_ | refine zbh ?_ _)); refine zc9 ?_ NB109_118.out _; (with_reducible repeat (first | refine zbi ?_ _ | refine zbf ?_ | refine zbh ?_ _)); exact BK109.out⟩, ⟨by (with_reducible repeat (first | refine zbi ?_ _ | refine zbf ?_ | refine zbh ?_ _)); refine zcv (cs := #[.int .i64 (wrap64 (1 + t133)), .int .i64 (rd y121 t124), .int .i64 (rd y112 t115)]) ?_ 1 _ rfl; (with_reducible repeat (first | refine zbi ?_ _ | refine zbf ?_ | refine zbh ?_ _)); exact BK118.out⟩, ⟨Zq13 HI0 NB0_109 NB0_118⟩, ⟨Zq14 HK GW109 GW118⟩, ⟨Zq15 HB (zy.ge HI0.out) GE109 GE118⟩⟩
            ·rw [if_neg c70] at H
             exact absurd H (by simp)
           ·rw [if_neg c69] at H
            exact absurd H (by simp)
          ·rw [if_neg c67] at H
           have c67b0 : (t137 == 1) = false := beq_eq_false_iff_ne.mpr c67;have c67b1 : (t137 != 1) = true := bne_iff_ne.mpr c67;obtain ⟨y151, hy151⟩ : ∃ y_ : List Int, y_ = (([0, 13, (-1)] : List Int)) := ⟨_, rfl⟩;replace H : ((zb.f k s0_0 t138 3).bind fun bt154 => (if 0 ≤ bt154.1 then (if bt154.1 < (y151.length : Int) then (zk.j0 k s0_0 bt154.2 (wrap64 (1 + t133)) (rd y121 t124) (rd y151 bt154.1)) else (none)) else (none))) = some (r1, r2, r3, r4) := by first | (rw [hy151]; with_reducible exact H) | (have H2_ := (Option.bind_some _ _).symm.trans H; rw [hy151]; with_reducible exact H2_) | (have H2_ := (Option.bind_some _ _).symm.trans H; with_reducible exact H2_) | with_reducible exact H | (rw [hy151]; exact H) | exact H
           have Ny151 := za.mk hy151;clear hy151;replace H := Option.bind_eq_some_iff.mp H;obtain ⟨⟨t154, t155⟩, A800, H⟩ := H;replace H : (if 0 ≤ t154 then (if t154 < (y151.length : Int) then (zk.j0 k s0_0 t155 (wrap64 (1 + t133)) (rd y121 t124) (rd y151 t154)) else (none)) else (none)) = some (r1, r2, r3, r4) := H;have A80 := za.mk A800;clear A800;by_cases c81 : 0 ≤ t154
           ·rw [if_pos c81] at H
            have c81b0 : decide (0 ≤ t154) = true := decide_eq_true c81;clear c81;by_cases c82 : t154 < (y151.length : Int)
            ·rw [if_pos c82] at H
             have c82b0 : decide (t154 < (y151.length : Int)) = true := decide_eq_true c82;clear c82;have H' := za.mk H;clear H
             go_wp2_with (first | ((with_reducible refine zbd (f := 53) rfl ?_); refine zb6 (some 56) rfl rfl Try.func53 (by kernel_rfl) rfl #[.pointer (some ⟨g, 0, none⟩), .int .i64 3] rfl Zmt ?_; (with_reducible refine (zb.calls k g s0_0 t136 3 t137 t138 w0 _ ?side1 ?side2 A53.out).mono ?_); (case side1 => exact Zq13 HI0 NB0_109 NB0_118); (case side2 => exact Zq15 HB (zy.ge HI0.out) GE109 GE118); rintro e w83 ⟨rfl, hi, hb, hk⟩; refine ⟨_, rfl, ?_⟩; have n0_ := za.mk (zx.blk hk (g' := gb109) (o := .cells #[.int .i64 0, .int .i64 0, .int .i64 0] 35 (0, 0)) (Zq2 BK109) NB109_0.out (by simp)); have n1_ := za.mk (Kd.zbs (Kd.zcf (zy.apart (show zy w0 _ g s0_0 t136 from Zq13 HI0 NB0_109 NB0_118) (Zq12 HO114) (by decide)) hk (fun _ h => h.2)) (fun _ h => h.1)); have n2_ := za.mk (zx.blk hk (g' := gb118) (o := .cells #[.int .i64 (wrap64 (1 + t133)), .int .i64 (rd y121 t124), .int .i64 (rd y112 t115)] 35 (0, 0)) (Zq2 BK118) NB118_0.out (by simp)); have n3_ := za.mk (Kd.zbs (Kd.zcf (zy.apart (show zy w0 _ g s0_0 t136 from Zq13 HI0 NB0_109 NB0_118) (Zq12 HO123) (by decide)) hk (fun _ h => h.2)) (fun _ h => h.1)); have n4_ := za.mk (Kd.zbs (Kd.zcf (zy.apart (show zy w0 _ g s0_0 t136 from Zq13 HI0 NB0_109 NB0_118) (Zq12 HO129) (by decide)) hk (fun _ h => h.2)) (fun _ h => h.1)); have n5_ := za.mk (zx.trans (Zq14 HK GW109 GW118) hk (.inl rfl)); have n6_ := za.mk (hb); have n7_ := za.mk (hi); clear BK109; clear HO114; clear BK118; clear HO123; clear HO129; clear HK; clear HB; clear HI0; have BK109 := n0_; have HO114 := n1_; have BK118 := n2_; have HO123 := n3_; have HO129 := n4_; have HK := n5_; have HB := n6_; have HI0 := n7_; clear n0_ n1_ n2_ n3_ n4_ n5_ n6_ n7_; (try clear hb); (try clear hb2); (try clear hk); (try clear hi)) | ((with_reducible refine zb4 (N := 57) rfl ?_); refine Kd.zif (Kd.int .i64) _ 3 ?hg (N := 57) ?hd (xs := ([0, 13, (-1)] : List Int)) (inner := [.int .i64 0, .int .i64 13, .int .i64 (-1)]) (ok := fun _ => True) (okp := fun _ => True) ?hr ?hp (fun _ hk => hk) trivial (Below.refl _ _) (Nat.le_refl _) (by simp) ?_; (case hd => rfl); (case hg => rfl); (case hr => first | (go_simp; done) | (go_simp; rfl)); (case hp => exact (Reps.one (show Kd.M (Kd.int .i64) _ _ _ 0 [.int .i64 0] from rfl) (Reps.one (show Kd.M (Kd.int .i64) _ _ _ 13 [.int .i64 13] from rfl) (Reps.one (show Kd.M (Kd.int .i64) _ _ _ (-1) [.int .i64 (-1)] from rfl) (Reps.none _ _))))); intro v152 w84 ho85 hb hg_ hnew_; clear hg_ hnew_; (first | rw [← Ny151.out] at ho85 | (simp only [Int.reduceToNat] at ho85; rw [← Ny151.out] at ho85)); have n0_ := za.mk (Kd.zct (Zq12 HO114) (Kd.zcy ho85) hb); have n1_ := za.mk (Kd.zct (Zq12 HO123) (Kd.zcy ho85) hb); have n2_ := za.mk (Kd.zct (Zq12 HO129) (Kd.zcy ho85) hb); have n3_ := za.mk (Kd.zcj (Kd.zdk (Kd.zdk (Kd.zdk ho85 (Kd.R_lt (Zq12 HO114))) (Kd.R_lt (Zq12 HO123))) (Kd.R_lt (Zq12 HO129))) (zco (w := w) (g := g) (row := none) (Zq14 HK GW109 GW118))); have n4_ := za.mk (zy.below (Zq13 HI0 NB0_109 NB0_118) hb); have n5_ := za.mk (zbm (g := gb109) (o := .cells #[.int .i64 0, .int .i64 0, .int .i64 0] 35 (0, 0)) (Zq2 BK109) hb); have n6_ := za.mk (zbm (g := gb118) (o := .cells #[.int .i64 (wrap64 (1 + t133)), .int .i64 (rd y121 t124), .int .i64 (rd y112 t115)] 35 (0, 0)) (Zq2 BK118) hb); have n7_ := za.mk (zx.trans (Zq14 HK GW109 GW118) (zx.of_below hb g none) (.inl rfl)); have n8_ := za.mk (zl (Zq15 HB (zy.ge HI0.out) GE109 GE118) hb); clear HO114; clear HO123; clear HO129; clear HI0; clear BK109; clear BK118; clear HK; clear HB; have HO114 := n0_; have HO123 := n1_; have HO129 := n2_; have HO153 := n3_; have HI0 := n4_; have BK109 := n5_; have BK118 := n6_; have HK := n7_; have HB := n8_; clear n0_ n1_ n2_ n3_ n4_ n5_ n6_ n7_ n8_; clear hb ho85) | ((with_reducible refine zbd (f := 53) rfl ?_); refine zb6 (some 59) rfl rfl Try.func53 (by kernel_rfl) rfl #[.pointer (some ⟨g, 0, none⟩), .int .i64 3] rfl Zmt ?_; (with_reducible refine (zb.calls k g s0_0 t138 3 t154 t155 w0 _ ?side1 ?side2 A80.out).mono ?_); (case side1 => exact Zq13 HI0 NB0_109 NB0_118); (case side2 => exact Zq15 HB (zy.ge HI0.out) GE109 GE118); rintro e w86 ⟨rfl, hi, hb, hk⟩; refine ⟨_, rfl, ?_⟩; have n0_ := za.mk (zx.blk hk (g' := gb109) (o := .cells #[.int .i64 0, .int .i64 0, .int .i64 0] 35 (0, 0)) (Zq2 BK109) NB109_0.out (by simp)); have n1_ := za.mk (Kd.zbs (Kd.zcf (zy.apart (show zy w0 _ g s0_0 t138 from Zq13 HI0 NB0_109 NB0_118) (Zq12 HO114) (by decide)) hk (fun _ h => h.2)) (fun _ h => h.1)); have n2_ := za.mk (zx.blk hk (g' := gb118) (o := .cells #[.int .i64 (wrap64 (1 + t133)), .int .i64 (rd y121 t124), .int .i64 (rd y112 t115)] 35 (0, 0)) (Zq2 BK118) NB118_0.out (by simp)); have n3_ := za.mk (Kd.zbs (Kd.zcf (zy.apart (show zy w0 _ g s0_0 t138 from Zq13 HI0 NB0_109 NB0_118) (Zq12 HO123) (by decide)) hk (fun _ h => h.2)) (fun _ h => h.1)); have n4_ := za.mk (Kd.zbs (Kd.zcf (zy.apart (show zy w0 _ g s0_0 t138 from Zq13 HI0 NB0_109 NB0_118) (Zq12 HO129) (by decide)) hk (fun _ h => h.2)) (fun _ h => h.1)); have n5_ := za.mk (Kd.zbs (Kd.zcf (zy.apart (show zy w0 _ g s0_0 t138 from Zq13 HI0 NB0_109 NB0_118) (Zq12 HO153) (by decide)) hk (fun _ h => h.2)) (fun _ h => h.1)); have n6_ := za.mk (zx.trans (Zq14 HK GW109 GW118) hk (.inl rfl)); have n7_ := za.mk (hb); have n8_ := za.mk (hi); clear BK109; clear HO114; clear BK118; clear HO123; clear HO129; clear HO153; clear HK; clear HB; clear HI0; have BK109 := n0_; have HO114 := n1_; have BK118 := n2_; have HO123 := n3_; have HO129 := n4_; have HO153 := n5_; have HK := n6_; have HB := n7_; have HI0 := n8_; clear n0_ n1_ n2_ n3_ n4_ n5_ n6_ n7_ n8_; (try clear hb); (try clear hb2); (try clear hk); (try clear hi); obtain ⟨Ao87, co87, eo87⟩ := Kd.zck HO153.out; subst eo87; have p156 : 0 ≤ (t154 : Int) := of_decide_eq_true Zas; have q156 : t154 < (y151.length : Int) := of_decide_eq_true Zas; obtain ⟨ad156, e156, hx156_0⟩ := Kd.zb5 (Kd.zz HO153.out).2.2 t154 p156 q156; cases e156; replace p156 := eq_true p156; replace q156 := eq_true q156; have hnb88 := NB118_109.out; have hnc88 := NB109_118.out; have hnb89 := NB118_0.out; have hnc89 := NB0_118.out; have hcz90_0 : w86.cell? ⟨gb118, 0, none⟩ = some (.int .i64 (wrap64 (1 + t133))) := (ze BK118.out 0).trans rfl; have hcz90_1 : w86.cell? ⟨gb118, 1, none⟩ = some (.int .i64 (rd y121 t124)) := (ze BK118.out 1).trans rfl; have hcz90_2 : w86.cell? ⟨gb118, 2, none⟩ = some (.int .i64 (rd y112 t115)) := (ze BK118.out 2).trans rfl; have hfz90_0 := zw BK118.out 0; have hfz90_1 := zw BK118.out 1; have hfz90_2 := zw BK118.out 2))
             go_meet
             case rel => exact ⟨_, (t155), (wrap64 (1 + t133)), (rd y121 t124), (rd y151 t154), H', ⟨by first | omega | exact Nat.le_refl _⟩, ⟨by (with_reducible repeat (first | refine zbi ?_ _ | refine zbf ?_ | refine zbh ?_ _)); refine zc9 ?_ NB109_118.out _; (with_reducible repeat (first | refine zbi ?_ _ | refine zbf ?_ | refine zbh ?_ _)); exact BK109.out⟩, ⟨by (with_reducible repeat (first | refine zbi ?_ _ | refine zbf ?_ | refine zbh ?_ _)); refine zcv (cs := #[.int .i64 (wrap64 (1 + t133)), .int .i64 (rd y121 t124), .int .i64 (rd y112 t115)]) ?_ 2 _ rfl; (with_reducible repeat (first | refine zbi ?_ _ | refine zbf ?_ | refine zbh ?_ _)); exact BK118.out⟩, ⟨Zq13 HI0 NB0_109 NB0_118⟩, ⟨Zq14 HK GW109 GW118⟩, ⟨Zq15 HB (zy.ge HI0.out) GE109 GE118⟩⟩
            ·rw [if_neg c82] at H
             exact absurd H (by simp)
           ·rw [if_neg c81] at H
            exact absurd H (by simp)
        ·replace c52 := Bool.eq_false_iff.mpr c52
         subst c52;have H1 : (zk.j0 k s0_0 t136 (wrap64 (1 + t133)) (rd y121 t124) (rd y112 t115)) = some (r1, r2, r3, r4) := by rw [if_neg (show ¬ (false = true) by decide)] at H; exact H
         clear H;have H := H1;clear H1;have H' := za.mk H;clear H;go_wp2;go_meet
         case rel => exact ⟨_, (t136), (wrap64 (1 + t133)), (rd y121 t124), (rd y112 t115), H', ⟨by first | omega | exact Nat.le_refl _⟩, ⟨Zq2 BK109⟩, ⟨Zq2 BK118⟩, ⟨Zq13 HI0 NB0_109 NB0_118⟩, ⟨Zq14 HK GW109 GW118⟩, ⟨Zq15 HB (zy.ge HI0.out) GE109 GE118⟩⟩
       case rest =>
        clear HC20
        (try clear p1);(try clear q1);(try clear hx1);(try clear qi1);(try clear p2);(try clear c5);(try clear c6);(try clear p6);(try clear c7);(try clear c8);(try clear p14);(try clear q14);(try clear hx14);(try clear p15);(try clear q15);(try clear hx15);(try clear qi15);(try clear c52);(try clear c53);(try clear c54);(try clear c54b0);(try clear c54b1);(try clear c56);(try clear c57);(try clear p64);(try clear c67);(try clear c67b0);(try clear c67b1);(try clear c69);(try clear c69b0);(try clear c70);(try clear c70b0);(try clear c81);(try clear c81b0);(try clear c82);(try clear c82b0);(try clear c88);(try clear c89);(try clear hcz90_0);(try clear hcz90_1);(try clear hcz90_2);(try clear hfz90_0);(try clear hfz90_1);(try clear hfz90_2);(try clear hx144_0);(try clear hx150_0);(try clear hx156_0);(try clear p144);(try clear p150);(try clear p156);(try clear q144);(try clear q150);(try clear q156)
        obtain ⟨kq, x1001_19, x119000_19, x119001_19, x119002_19, HA, HJ19, BK109, BK118, HI0, HK, HB⟩ := hcut
        cases kq with
        | zero => exact absurd HA.out (by simp [zk.j0])
        | succ kj19 =>
         have H := HA.out;clear HA;simp only [zk.j0] at H;simp only [Option.some.injEq, Prod.mk.injEq] at H;obtain ⟨rfl, rfl, rfl, rfl⟩ := H;have hnb91 := NB118_109.out;have hnc91 := NB109_118.out;have hnb92 := NB118_0.out;have hnc92 := NB0_118.out;have hcz93_0 : wc.cell? ⟨gb118, 0, none⟩ = some (.int .i64 x119000_19) := (ze BK118.out 0).trans rfl;have hcz93_1 : wc.cell? ⟨gb118, 1, none⟩ = some (.int .i64 x119001_19) := (ze BK118.out 1).trans rfl;have hcz93_2 : wc.cell? ⟨gb118, 2, none⟩ = some (.int .i64 x119002_19) := (ze BK118.out 2).trans rfl;have hfz93_0 := zw BK118.out 0;have hfz93_1 := zw BK118.out 1;have hfz93_2 := zw BK118.out 2;have hnb94 := NB109_0.out;have hnc94 := NB0_109.out;have hcz95_0 : wc.cell? ⟨gb109, 0, none⟩ = some (.int .i64 0) := (ze BK109.out 0).trans rfl;have hcz95_1 : wc.cell? ⟨gb109, 1, none⟩ = some (.int .i64 0) := (ze BK109.out 1).trans rfl;have hcz95_2 : wc.cell? ⟨gb109, 2, none⟩ = some (.int .i64 0) := (ze BK109.out 2).trans rfl;have hfz95_0 := zw BK109.out 0;have hfz95_1 := zw BK109.out 1;have hfz95_2 := zw BK109.out 2;go_wp2;refine bodyPost_ret (results_cell_row rfl _ _ gb109 35 #[.int .i64 x119000_19, .int .i64 x119001_19, .int .i64 x119002_19] (0, 0) _ rfl (by (with_reducible repeat (first | refine zbi ?_ _ | refine zbf ?_ | refine zbh ?_ _)); refine zcv (cs := #[.int .i64 x119000_19, .int .i64 x119001_19, .int .i64 0]) ?_ 2 _ rfl; (with_reducible repeat (first | refine zbi ?_ _ | refine zbf ?_ | refine zbh ?_ _)); refine zcv (cs := #[.int .i64 x119000_19, .int .i64 0, .int .i64 0]) ?_ 1 _ rfl; (with_reducible repeat (first | refine zbi ?_ _ | refine zbf ?_ | refine zbh ?_ _)); refine zcv (cs := #[.int .i64 0, .int .i64 0, .int .i64 0]) ?_ 0 _ rfl; (with_reducible repeat (first | refine zbi ?_ _ | refine zbf ?_ | refine zbh ?_ _)); exact BK109.out) Try.underlying35 rfl (by kernel_rfl)) rfl ?_;exact ⟨by first | rfl | (simp [zq, zt] <;> rfl) | (simp only [← hji8, ← hji12, ← hji13, ← hji17]; first | rfl | (simp [zq, zt] <;> rfl)) | (simp [*, zq, zt] <;> rfl), Zq13 HI0 NB0_109 NB0_118, Zq15 HB (zy.ge HI0.out) GE109 GE118, Zq14 HK GW109 GW118⟩
      ·rw [if_neg c16] at H
       exact absurd H (by simp)
     ·rw [if_neg c15] at H
      exact absurd H (by simp)
    ·rw [if_neg c11] at H
     exact absurd H (by simp)
   ·rw [if_neg c10] at H
    exact absurd H (by simp)
  ·rw [if_neg c6] at H
   exact absurd H (by simp)
 ·rw [if_neg c5] at H
  exact absurd H (by simp)
mutual
def zbv.l0 : Nat → Int → List (S35) → Int → List Int → Int → Option ((List (S35)) × Int)
 | 0, _, _, _, _, _ => none
 | k + 1, x1, x5, x6, x1000, x1001 => if x6 > 0 then ((zk.f k x1000 x1001 0).bind fun bt162 => (if x5.length < 5864062014805 then (zbv.l0 k x1 (x5 ++ [(⟨bt162.1, bt162.2.1, bt162.2.2.1⟩ : S35)]) (wrap64 (x6 - 1)) x1000 bt162.2.2.2) else (none))) else ((zbn.f k x1000 x1001 x1).bind fun bt169 => (if bt169.1 = true then ((zb.f k x1000 bt169.2 3).bind fun bt171 => (if bt171.1 = 0 then (zbv.l1 k x5 x1000 bt171.2) else ((zk.f k x1000 bt171.2 2).bind fun bt187 => (if x5.length < 5864062014805 then (some ((x5 ++ [(⟨bt187.1, bt187.2.1, bt187.2.2.1⟩ : S35)]), bt187.2.2.2)) else (none))))) else (some (x5, bt169.2))))
def zbv.l1 : Nat → List (S35) → List Int → Int → Option ((List (S35)) × Int)
 | 0, _, _, _ => none
 | k + 1, x5, x1000, x1001 => if (x5.length : Int) ≤ 5 then ((zk.f k x1000 x1001 0).bind fun bt173 => (if x5.length < 5864062014805 then (zbv.l1 k (x5 ++ [(⟨bt173.1, bt173.2.1, bt173.2.2.1⟩ : S35)]) x1000 bt173.2.2.2) else (none))) else ((zk.f k x1000 x1001 2).bind fun bt180 => (if x5.length < 5864062014805 then (some ((x5 ++ [(⟨bt180.1, bt180.2.1, bt180.2.2.1⟩ : S35)]), bt180.2.2.2)) else (none)))
end
def zbv.f (k : Nat) (s0_0 : List Int) (s0_1 : Int) (a1 : Int) : Option ((List (S35)) × Int) := (zb.f k s0_0 s0_1 6).bind fun bt160 => (zbv.l0 k a1 (([] : List (S35))) bt160.1 s0_0 bt160.2)
set_option maxHeartbeats 8000000 in
theorem zbv.calls (k : Nat) (g : Nat) (s0_0 : List Int) (s0_1 : Int) (a1 : Int) (r1 : List (S35)) (r2 : Int) (w0 w : World) (hI : zy w0 w g s0_0 s0_1) (hB : Below w0.heap.size w0 w) (h : zbv.f k s0_0 s0_1 a1 = some (r1, r2)) :
  Calls Try.prog 51 #[.pointer (some ⟨g, 0, none⟩), .int .i64 a1] w fun e w' => ∃ v0_ : Value, e = .returned (v0_) ∧ Kd.R k35 35 w' w.heap.size (fun _ => True) v0_ r1 ∧ zy w0 w' g s0_0 r2 ∧ Below w0.heap.size w0 w' ∧ zx w w' g none := by
 have HI0 := za.mk hI
 have HK := za.mk (zx.refl w g none)
 have HL := za.mk hB.size
 clear hI
 have HW0 := za.mk hB.size
 have HB := za.mk hB
 clear hB
 have H : ((zb.f k s0_0 s0_1 6).bind fun bt160 => (zbv.l0 k a1 (([] : List (S35))) bt160.1 s0_0 bt160.2)) = some (r1, r2) := h
 clear h
 obtain ⟨y157, hy157⟩ : ∃ y_ : List (S35), y_ = (([] : List (S35))) := ⟨_, rfl⟩
 replace H : ((zb.f k s0_0 s0_1 6).bind fun bt160 => (zbv.l0 k a1 y157 bt160.1 s0_0 bt160.2)) = some (r1, r2) := by first | (rw [hy157]; with_reducible exact H) | (have H2_ := (Option.bind_some _ _).symm.trans H; rw [hy157]; with_reducible exact H2_) | (have H2_ := (Option.bind_some _ _).symm.trans H; with_reducible exact H2_) | with_reducible exact H | (rw [hy157]; exact H) | exact H
 have Ny157 := za.mk hy157
 clear hy157
 replace H := Option.bind_eq_some_iff.mp H
 obtain ⟨⟨t160, t161⟩, A30, H⟩ := H
 replace H : (zbv.l0 k a1 y157 t160 s0_0 t161) = some (r1, r2) := H
 have A3 := za.mk A30
 clear A30
 have H' := za.mk H
 clear H
 go_enter Try.func51, Try.ntmps51
 go_wp2_with (first | ((with_reducible refine zb4 (N := 7) rfl ?_); refine Kd.zif k35 _ 35 ?hg (N := 7) ?hd (xs := ([] : List (S35))) (inner := []) (ok := fun _ => True) (okp := fun _ => True) ?hr ?hp (fun _ hk => hk) trivial (Below.refl _ _) (Nat.le_refl _) (by simp) ?_; (case hd => rfl); (case hg => rfl); (case hr => first | (go_simp; done) | (go_simp; rfl)); (case hp => exact (Reps.none _ _)); intro v158 w4 ho5 hb hg_ hnew_; clear hg_ hnew_; (first | rw [← Ny157.out] at ho5 | (simp only [Int.reduceToNat] at ho5; rw [← Ny157.out] at ho5)); have n0_ := za.mk (Kd.zcj ho5 (zco (w := w) (g := g) (row := none) (Zq6 HK))); have n1_ := za.mk (zy.below (Zq5 HI0) hb); have n2_ := za.mk (zx.trans (Zq6 HK) (zx.of_below hb g none) (.inl rfl)); have n3_ := za.mk (zl (Zq7 HB (zy.ge HI0.out)) hb); clear HI0; clear HK; clear HB; have HO159 := n0_; have HI0 := n1_; have HK := n2_; have HB := n3_; clear n0_ n1_ n2_ n3_; clear hb ho5) | ((with_reducible refine zbd (f := 53) rfl ?_); refine zb6 (some 9) rfl rfl Try.func53 (by kernel_rfl) rfl #[.pointer (some ⟨g, 0, none⟩), .int .i64 6] rfl Zmt ?_; (with_reducible refine (zb.calls k g s0_0 s0_1 6 t160 t161 w0 _ ?side1 ?side2 A3.out).mono ?_); (case side1 => exact Zq5 HI0); (case side2 => exact Zq7 HB (zy.ge HI0.out)); rintro e w6 ⟨rfl, hi, hb, hk⟩; refine ⟨_, rfl, ?_⟩; have n0_ := za.mk (Kd.zbs (Kd.zcf (zy.apart (show zy w0 _ g s0_0 s0_1 from Zq5 HI0) (Zq12 HO159) (by decide)) hk (fun _ h => h.2)) (fun _ h => h.1)); have n1_ := za.mk (zx.trans (Zq6 HK) hk (.inl rfl)); have n2_ := za.mk (hb); have n3_ := za.mk (hi); clear HO159; clear HK; clear HB; clear HI0; have HO159 := n0_; have HK := n1_; have HB := n2_; have HI0 := n3_; clear n0_ n1_ n2_ n3_; (try clear hb); (try clear hb2); (try clear hk); (try clear hi)))
 go_loopg [5, 6] k (fun kq v5 v6 w' => ∃ (x5_1 : List (S35)) (x6_1 : Int) (x1001_1 : Int), v6 = .int .i64 x6_1 ∧ za (zbv.l0 kq a1 x5_1 x6_1 s0_0 x1001_1 = some (r1, r2)) ∧ za (kq ≤ k) ∧ za (Kd.R k35 35 w' w.heap.size (fun _ => True) v5 x5_1) ∧ za (zy w0 w' g s0_0 x1001_1) ∧ za (zx w w' g none) ∧ za (Below w0.heap.size w0 w'))
 case atStart => exact ⟨(y157), (t160), (t161), Zrs, H', ⟨Nat.le_refl _⟩, ⟨Zq12 HO159⟩, ⟨Zq5 HI0⟩, ⟨Zq6 HK⟩, ⟨Zq7 HB (zy.ge HI0.out)⟩⟩
 case round =>
  clear H'
  (try clear p2);(try clear c5)
  obtain ⟨x5_1, x6_1, x1001_1, rfl, HA, HK1, HO_5, HI0, HK, HB⟩ := hrel
  cases gk with
  | zero => exact absurd HA.out (by simp [zbv.l0])
  | succ k1 =>
   have H := HA.out;clear HA;simp only [zbv.l0] at H;by_cases c7 : x6_1 > 0
   ·rw [if_pos c7] at H
    have c7b0 : decide (0 < x6_1) = true := decide_eq_true c7;clear c7;replace H := Option.bind_eq_some_iff.mp H;obtain ⟨⟨t162, t163, t164, t165⟩, A80, H⟩ := H;replace H : (if x5_1.length < 5864062014805 then (zbv.l0 k1 a1 (x5_1 ++ [(⟨t162, t163, t164⟩ : S35)]) (wrap64 (x6_1 - 1)) s0_0 t165) else (none)) = some (r1, r2) := H;have A8 := za.mk A80;clear A80;by_cases c9 : x5_1.length < 5864062014805
    ·rw [if_pos c9] at H
     have LMc9 := za.mk c9;clear c9;obtain ⟨y166, hy166⟩ : ∃ y_ : List (S35), y_ = (x5_1 ++ [(⟨t162, t163, t164⟩ : S35)]) := ⟨_, rfl⟩;replace H : (zbv.l0 k1 a1 y166 (wrap64 (x6_1 - 1)) s0_0 t165) = some (r1, r2) := by first | (rw [hy166]; with_reducible exact H) | (have H2_ := (Option.bind_some _ _).symm.trans H; rw [hy166]; with_reducible exact H2_) | (have H2_ := (Option.bind_some _ _).symm.trans H; with_reducible exact H2_) | with_reducible exact H | (rw [hy166]; exact H) | exact H
     have Ny166 := za.mk hy166;clear hy166;have H' := za.mk H;clear H;go_wp2_with (first | ((with_reducible refine zbd (f := 71) rfl ?_); refine zb6 (some 16) rfl rfl Try.func71 (by kernel_rfl) rfl #[.pointer (some ⟨g, 0, none⟩), .int .i64 0] rfl Zmt ?_; (with_reducible refine (zk.calls k1 g s0_0 x1001_1 0 t162 t163 t164 t165 w0 _ ?side1 ?side2 A8.out).mono ?_); (case side1 => exact Zq5 HI0); (case side2 => exact Zq7 HB (zy.ge HI0.out)); rintro e w10 ⟨rfl, hi, hb, hk⟩; refine ⟨_, rfl, ?_⟩; have n0_ := za.mk (Kd.zbs (Kd.zcf (zy.apart (show zy w0 _ g s0_0 x1001_1 from Zq5 HI0) (Zq12 HO_5) (by decide)) hk (fun _ h => h.2)) (fun _ h => h.1)); have n1_ := za.mk (zx.trans (Zq6 HK) hk (.inl rfl)); have n2_ := za.mk (hb); have n3_ := za.mk (hi); clear HO_5; clear HK; clear HB; clear HI0; have HO_5 := n0_; have HK := n1_; have HB := n2_; have HI0 := n3_; clear n0_ n1_ n2_ n3_; (try clear hb); (try clear hb2); (try clear hk); (try clear hi)) | ((with_reducible refine zdc (b := .append) (xs := #[.tmp 14, .tmp 17]) rfl ?_); at_builtin; refine Kd.zek k35 w.heap.size rfl (.tmp 14) (.tmp 17) 23 35 (.agg #[(.int .i64 0), (.int .i64 0), (.int .i64 0)]) 24 rfl Try.underlying23 info35 rfl (by decide) (by omega) u5 x5_1 (⟨t162, t163, t164⟩ : S35) [.int .i64 t162, .int .i64 t163, .int .i64 t164] (fun _ => True) (fun _ => False) rfl rfl ?aP (fun _ hk => hk.elim) ?aF ?aO (Below.refl _ _) ?aS ?aL ?_; (case aP => exact zgs _ _ _ (⟨t162, t163, t164⟩ : S35)); (case aF => exact (fun _ _ => trivial)); (case aO => exact (Zq12 HO_5)); (case aS => exact (zco (w := w) (g := g) (row := none) (Zq6 HK))); (case aL => have := LMc9.out; omega); intro v167 w11 ho hb hg hat; rw [← Ny166.out] at ho; have n0_ := za.mk (zy.grown (Zq5 HI0) hg (zy.own_ne HI0.out HO_5.out (by decide))); have n1_ := za.mk (zc6 (Zq7 HB (zy.ge HI0.out)) HL.out hb); have n2_ := za.mk (zx.trans (Zq6 HK) (zx.zej hg g) (Kd.zgk HO_5.out)); have n3_ := za.mk (ho); clear HI0; clear HB; clear HK; clear HO_5; have HI0 := n0_; have HB := n1_; have HK := n2_; have HO168 := n3_; clear n0_ n1_ n2_ n3_; clear ho hb hg hat));go_roundg k1
     case measure => have := HK1.out; omega
     case rel => exact ⟨(y166), (wrap64 (x6_1 - 1)), (t165), Zrs, H', ⟨by have := HK1.out; omega⟩, ⟨Zq12 HO168⟩, ⟨Zq5 HI0⟩, ⟨Zq6 HK⟩, ⟨Zq7 HB (zy.ge HI0.out)⟩⟩
    ·rw [if_neg c9] at H
     exact absurd H (by simp)
   ·rw [if_neg c7] at H
    have c7b0 : decide (0 < x6_1) = false := decide_eq_false c7;clear c7;replace H := Option.bind_eq_some_iff.mp H;obtain ⟨⟨t169, t170⟩, A120, H⟩ := H;replace H : (if t169 = true then ((zb.f k1 s0_0 t170 3).bind fun bt171 => (if bt171.1 = 0 then (zbv.l1 k1 x5_1 s0_0 bt171.2) else ((zk.f k1 s0_0 bt171.2 2).bind fun bt187 => (if x5_1.length < 5864062014805 then (some ((x5_1 ++ [(⟨bt187.1, bt187.2.1, bt187.2.2.1⟩ : S35)]), bt187.2.2.2)) else (none))))) else (some (x5_1, t170))) = some (r1, r2) := H;have A12 := za.mk A120;clear A120;by_cases c13 : t169 = true
    ·subst c13
     have H1 : ((zb.f k1 s0_0 t170 3).bind fun bt171 => (if bt171.1 = 0 then (zbv.l1 k1 x5_1 s0_0 bt171.2) else ((zk.f k1 s0_0 bt171.2 2).bind fun bt187 => (if x5_1.length < 5864062014805 then (some ((x5_1 ++ [(⟨bt187.1, bt187.2.1, bt187.2.2.1⟩ : S35)]), bt187.2.2.2)) else (none))))) = some (r1, r2) := by rw [if_pos rfl] at H; exact H
     clear H;have H := H1;clear H1;replace H := Option.bind_eq_some_iff.mp H;obtain ⟨⟨t171, t172⟩, A140, H⟩ := H;replace H : (if t171 = 0 then (zbv.l1 k1 x5_1 s0_0 t172) else ((zk.f k1 s0_0 t172 2).bind fun bt187 => (if x5_1.length < 5864062014805 then (some ((x5_1 ++ [(⟨bt187.1, bt187.2.1, bt187.2.2.1⟩ : S35)]), bt187.2.2.2)) else (none)))) = some (r1, r2) := H;have A14 := za.mk A140;clear A140;by_cases c15 : t171 = 0
     ·rw [if_pos c15] at H
      have c15b0 : (t171 == 0) = true := beq_iff_eq.mpr c15;have c15b1 : (t171 != 0) = false := bne_eq_false_iff_eq.mpr c15;clear c15;have H' := za.mk H;clear H;go_wp2_with (first | ((with_reducible refine zbd (f := 52) rfl ?_); refine zb6 (some 21) rfl rfl Try.func52 (by kernel_rfl) rfl #[.pointer (some ⟨g, 0, none⟩), .int .i64 a1] rfl Zmt ?_; (with_reducible refine (zbn.calls k1 g s0_0 x1001_1 a1 true t170 w0 _ ?side1 ?side2 A12.out).mono ?_); (case side1 => exact Zq5 HI0); (case side2 => exact Zq7 HB (zy.ge HI0.out)); rintro e w16 ⟨rfl, hi, hb, hk⟩; refine ⟨_, rfl, ?_⟩; have n0_ := za.mk (Kd.zbs (Kd.zcf (zy.apart (show zy w0 _ g s0_0 x1001_1 from Zq5 HI0) (Zq12 HO_5) (by decide)) hk (fun _ h => h.2)) (fun _ h => h.1)); have n1_ := za.mk (zx.trans (Zq6 HK) hk (.inl rfl)); have n2_ := za.mk (hb); have n3_ := za.mk (hi); clear HO_5; clear HK; clear HB; clear HI0; have HO_5 := n0_; have HK := n1_; have HB := n2_; have HI0 := n3_; clear n0_ n1_ n2_ n3_; (try clear hb); (try clear hb2); (try clear hk); (try clear hi)) | ((with_reducible refine zbd (f := 53) rfl ?_); refine zb6 (some 23) rfl rfl Try.func53 (by kernel_rfl) rfl #[.pointer (some ⟨g, 0, none⟩), .int .i64 3] rfl Zmt ?_; (with_reducible refine (zb.calls k1 g s0_0 t170 3 t171 t172 w0 _ ?side1 ?side2 A14.out).mono ?_); (case side1 => exact Zq5 HI0); (case side2 => exact Zq7 HB (zy.ge HI0.out)); rintro e w17 ⟨rfl, hi, hb, hk⟩; refine ⟨_, rfl, ?_⟩; have n0_ := za.mk (Kd.zbs (Kd.zcf (zy.apart (show zy w0 _ g s0_0 t170 from Zq5 HI0) (Zq12 HO_5) (by decide)) hk (fun _ h => h.2)) (fun _ h => h.1)); have n1_ := za.mk (zx.trans (Zq6 HK) hk (.inl rfl)); have n2_ := za.mk (hb); have n3_ := za.mk (hi); clear HO_5; clear HK; clear HB; clear HI0; have HO_5 := n0_; have HK := n1_; have HB := n2_; have HI0 := n3_; clear n0_ n1_ n2_ n3_; (try clear hb); (try clear hb2); (try clear hk); (try clear hi)))
      go_loopg [5] k1 (fun kq v5 w' => ∃ (x5_2 : List (S35)) (x1001_2 : Int), za (zbv.l1 kq x5_2 s0_0 x1001_2 = some (r1, r2)) ∧ za (kq ≤ k1) ∧ za (Kd.R k35 35 w' w.heap.size (fun _ => True) v5 x5_2) ∧ za (zy w0 w' g s0_0 x1001_2) ∧ za (zx w w' g none) ∧ za (Below w0.heap.size w0 w'))
      case atStart => exact ⟨(x5_1), (t172), H', ⟨Nat.le_refl _⟩, ⟨Zq12 HO_5⟩, ⟨Zq5 HI0⟩, ⟨Zq6 HK⟩, ⟨Zq7 HB (zy.ge HI0.out)⟩⟩
      case round =>
       clear H'
       (try clear c1);(try clear p2);(try clear c5);(try clear p6);(try clear c7);(try clear c7b0);(try clear c9);(try clear c13);(try clear c15);(try clear c15b0);(try clear c15b1);(try clear p2)
       obtain ⟨x5_2, x1001_2, HA, HK2, HO_5, HI0, HK, HB⟩ := hrel
       cases gk with
       | zero => exact absurd HA.out (by simp [zbv.l1])
       | succ k2 =>
        have H := HA.out;clear HA;simp only [zbv.l1] at H;by_cases c18 : (x5_2.length : Int) ≤ 5
        ·rw [if_pos c18] at H
         have c18b0 : decide ((x5_2.length : Int) ≤ 5) = true := decide_eq_true c18;have c18b1 : decide (x5_2.length ≤ 5) = true := decide_eq_true (by omega);clear c18;replace H := Option.bind_eq_some_iff.mp H;obtain ⟨⟨t173, t174, t175, t176⟩, A190, H⟩ := H;replace H : (if x5_2.length < 5864062014805 then (zbv.l1 k2 (x5_2 ++ [(⟨t173, t174, t175⟩ : S35)]) s0_0 t176) else (none)) = some (r1, r2) := H;have A19 := za.mk A190;clear A190;by_cases c20 : x5_2.length < 5864062014805
         ·rw [if_pos c20] at H
          have LMc20 := za.mk c20;clear c20;obtain ⟨y177, hy177⟩ : ∃ y_ : List (S35), y_ = (x5_2 ++ [(⟨t173, t174, t175⟩ : S35)]) := ⟨_, rfl⟩;replace H : (zbv.l1 k2 y177 s0_0 t176) = some (r1, r2) := by first | (rw [hy177]; with_reducible exact H) | (have H2_ := (Option.bind_some _ _).symm.trans H; rw [hy177]; with_reducible exact H2_) | (have H2_ := (Option.bind_some _ _).symm.trans H; with_reducible exact H2_) | with_reducible exact H | (rw [hy177]; exact H) | exact H
          have Ny177 := za.mk hy177;clear hy177;have H' := za.mk H;clear H;obtain ⟨Ao21, co21, eo21⟩ := Kd.zck HO_5.out;subst eo21;go_wp2_with (first | ((with_reducible refine zbd (f := 71) rfl ?_); refine zb6 (some 30) rfl rfl Try.func71 (by kernel_rfl) rfl #[.pointer (some ⟨g, 0, none⟩), .int .i64 0] rfl Zmt ?_; (with_reducible refine (zk.calls k2 g s0_0 x1001_2 0 t173 t174 t175 t176 w0 _ ?side1 ?side2 A19.out).mono ?_); (case side1 => exact Zq5 HI0); (case side2 => exact Zq7 HB (zy.ge HI0.out)); rintro e w22 ⟨rfl, hi, hb, hk⟩; refine ⟨_, rfl, ?_⟩; have n0_ := za.mk (Kd.zbs (Kd.zcf (zy.apart (show zy w0 _ g s0_0 x1001_2 from Zq5 HI0) (Zq12 HO_5) (by decide)) hk (fun _ h => h.2)) (fun _ h => h.1)); have n1_ := za.mk (zx.trans (Zq6 HK) hk (.inl rfl)); have n2_ := za.mk (hb); have n3_ := za.mk (hi); clear HO_5; clear HK; clear HB; clear HI0; have HO_5 := n0_; have HK := n1_; have HB := n2_; have HI0 := n3_; clear n0_ n1_ n2_ n3_; (try clear hb); (try clear hb2); (try clear hk); (try clear hi)) | ((with_reducible refine zdc (b := .append) (xs := #[.tmp 28, .tmp 31]) rfl ?_); at_builtin; refine Kd.zek k35 w.heap.size rfl (.tmp 28) (.tmp 31) 23 35 (.agg #[(.int .i64 0), (.int .i64 0), (.int .i64 0)]) 24 rfl Try.underlying23 info35 rfl (by decide) (by omega) (.slice Ao21 x5_2.length co21) x5_2 (⟨t173, t174, t175⟩ : S35) [.int .i64 t173, .int .i64 t174, .int .i64 t175] (fun _ => True) (fun _ => False) rfl rfl ?aP (fun _ hk => hk.elim) ?aF ?aO (Below.refl _ _) ?aS ?aL ?_; (case aP => exact zgs _ _ _ (⟨t173, t174, t175⟩ : S35)); (case aF => exact (fun _ _ => trivial)); (case aO => exact (Zq12 HO_5)); (case aS => exact (zco (w := w) (g := g) (row := none) (Zq6 HK))); (case aL => have := LMc20.out; omega); intro v178 w23 ho hb hg hat; rw [← Ny177.out] at ho; have n0_ := za.mk (zy.grown (Zq5 HI0) hg (zy.own_ne HI0.out HO_5.out (by decide))); have n1_ := za.mk (zc6 (Zq7 HB (zy.ge HI0.out)) HL.out hb); have n2_ := za.mk (zx.trans (Zq6 HK) (zx.zej hg g) (Kd.zgk HO_5.out)); have n3_ := za.mk (ho); clear HI0; clear HB; clear HK; clear HO_5; have HI0 := n0_; have HB := n1_; have HK := n2_; have HO179 := n3_; clear n0_ n1_ n2_ n3_; clear ho hb hg hat));go_roundg k2
          case measure => have := HK1.out; have := HK2.out; omega
          case rel => exact ⟨(y177), (t176), H', ⟨by have := HK1.out; have := HK2.out; omega⟩, ⟨Zq12 HO179⟩, ⟨Zq5 HI0⟩, ⟨Zq6 HK⟩, ⟨Zq7 HB (zy.ge HI0.out)⟩⟩
         ·rw [if_neg c20] at H
          exact absurd H (by simp)
        ·rw [if_neg c18] at H
         have c18b0 : decide ((x5_2.length : Int) ≤ 5) = false := decide_eq_false c18;have c18b1 : decide (x5_2.length ≤ 5) = false := decide_eq_false (by omega);clear c18;replace H := Option.bind_eq_some_iff.mp H;obtain ⟨⟨t180, t181, t182, t183⟩, A240, H⟩ := H;replace H : (if x5_2.length < 5864062014805 then (some ((x5_2 ++ [(⟨t180, t181, t182⟩ : S35)]), t183)) else (none)) = some (r1, r2) := H;have A24 := za.mk A240;clear A240;by_cases c25 : x5_2.length < 5864062014805
         ·rw [if_pos c25] at H
          have LMc25 := za.mk c25;clear c25;obtain ⟨y184, hy184⟩ : ∃ y_ : List (S35), y_ = (x5_2 ++ [(⟨t180, t181, t182⟩ : S35)]) := ⟨_, rfl⟩;replace H : (some (y184, t183)) = some (r1, r2) := by first | (rw [hy184]; with_reducible exact H) | (have H2_ := (Option.bind_some _ _).symm.trans H; rw [hy184]; with_reducible exact H2_) | (have H2_ := (Option.bind_some _ _).symm.trans H; with_reducible exact H2_) | with_reducible exact H | (rw [hy184]; exact H) | exact H
          have Ny184 := za.mk hy184;clear hy184;simp only [Option.some.injEq, Prod.mk.injEq] at H;obtain ⟨rfl, rfl⟩ := H;obtain ⟨Ao26, co26, eo26⟩ := Kd.zck HO_5.out;subst eo26;go_wp2_with (first | ((with_reducible refine zbd (f := 71) rfl ?_); refine zb6 (some 35) rfl rfl Try.func71 (by kernel_rfl) rfl #[.pointer (some ⟨g, 0, none⟩), .int .i64 2] rfl Zmt ?_; (with_reducible refine (zk.calls k2 g s0_0 x1001_2 2 t180 t181 t182 t183 w0 _ ?side1 ?side2 A24.out).mono ?_); (case side1 => exact Zq5 HI0); (case side2 => exact Zq7 HB (zy.ge HI0.out)); rintro e w27 ⟨rfl, hi, hb, hk⟩; refine ⟨_, rfl, ?_⟩; have n0_ := za.mk (Kd.zbs (Kd.zcf (zy.apart (show zy w0 _ g s0_0 x1001_2 from Zq5 HI0) (Zq12 HO_5) (by decide)) hk (fun _ h => h.2)) (fun _ h => h.1)); have n1_ := za.mk (zx.trans (Zq6 HK) hk (.inl rfl)); have n2_ := za.mk (hb); have n3_ := za.mk (hi); clear HO_5; clear HK; clear HB; clear HI0; have HO_5 := n0_; have HK := n1_; have HB := n2_; have HI0 := n3_; clear n0_ n1_ n2_ n3_; (try clear hb); (try clear hb2); (try clear hk); (try clear hi)) | ((with_reducible refine zdc (b := .append) (xs := #[.tmp 33, .tmp 36]) rfl ?_); at_builtin; refine Kd.zek k35 w.heap.size rfl (.tmp 33) (.tmp 36) 23 35 (.agg #[(.int .i64 0), (.int .i64 0), (.int .i64 0)]) 24 rfl Try.underlying23 info35 rfl (by decide) (by omega) (.slice Ao26 x5_2.length co26) x5_2 (⟨t180, t181, t182⟩ : S35) [.int .i64 t180, .int .i64 t181, .int .i64 t182] (fun _ => True) (fun _ => False) rfl rfl ?aP (fun _ hk => hk.elim) ?aF ?aO (Below.refl _ _) ?aS ?aL ?_; (case aP => exact zgs _ _ _ (⟨t180, t181, t182⟩ : S35)); (case aF => exact (fun _ _ => trivial)); (case aO => exact (Zq12 HO_5)); (case aS => exact (zco (w := w) (g := g) (row := none) (Zq6 HK))); (case aL => have := LMc25.out; omega); intro v185 w28 ho hb hg hat; rw [← Ny184.out] at ho; have n0_ := za.mk (zy.grown (Zq5 HI0) hg (zy.own_ne HI0.out HO_5.out (by decide))); have n1_ := za.mk (zc6 (Zq7 HB (zy.ge HI0.out)) HL.out hb); have n2_ := za.mk (zx.trans (Zq6 HK) (zx.zej hg g) (Kd.zgk HO_5.out)); have n3_ := za.mk (ho); clear HI0; clear HB; clear HK; clear HO_5; have HI0 := n0_; have HB := n1_; have HK := n2_; have HO186 := n3_; clear n0_ n1_ n2_ n3_; clear ho hb hg hat));go_ret;exact ⟨_, by first | rfl | (simp [zq, zt] <;> rfl) | (simp [*, zq, zt] <;> rfl), Zq12 HO186, Zq5 HI0, Zq7 HB (zy.ge HI0.out), Zq6 HK⟩
         ·rw [if_neg c25] at H
          exact absurd H (by simp)
     ·rw [if_neg c15] at H
      have c15b0 : (t171 == 0) = false := beq_eq_false_iff_ne.mpr c15;have c15b1 : (t171 != 0) = true := bne_iff_ne.mpr c15;replace H := Option.bind_eq_some_iff.mp H;obtain ⟨⟨t187, t188, t189, t190⟩, A290, H⟩ := H;replace H : (if x5_1.length < 5864062014805 then (some ((x5_1 ++ [(⟨t187, t188, t189⟩ : S35)]), t190)) else (none)) = some (r1, r2) := H;have A29 := za.mk A290;clear A290;by_cases c30 : x5_1.length < 5864062014805
      ·rw [if_pos c30] at H
       have LMc30 := za.mk c30;clear c30;obtain ⟨y191, hy191⟩ : ∃ y_ : List (S35), y_ = (x5_1 ++ [(⟨t187, t188, t189⟩ : S35)]) := ⟨_, rfl⟩;replace H : (some (y191, t190)) = some (r1, r2) := by first | (rw [hy191]; with_reducible exact H) | (have H2_ := (Option.bind_some _ _).symm.trans H; rw [hy191]; with_reducible exact H2_) | (have H2_ := (Option.bind_some _ _).symm.trans H; with_reducible exact H2_) | with_reducible exact H | (rw [hy191]; exact H) | exact H
       have Ny191 := za.mk hy191;clear hy191;simp only [Option.some.injEq, Prod.mk.injEq] at H;obtain ⟨rfl, rfl⟩ := H;go_wp2_with (first | ((with_reducible refine zbd (f := 52) rfl ?_); refine zb6 (some 21) rfl rfl Try.func52 (by kernel_rfl) rfl #[.pointer (some ⟨g, 0, none⟩), .int .i64 a1] rfl Zmt ?_; (with_reducible refine (zbn.calls k1 g s0_0 x1001_1 a1 true t170 w0 _ ?side1 ?side2 A12.out).mono ?_); (case side1 => exact Zq5 HI0); (case side2 => exact Zq7 HB (zy.ge HI0.out)); rintro e w31 ⟨rfl, hi, hb, hk⟩; refine ⟨_, rfl, ?_⟩; have n0_ := za.mk (Kd.zbs (Kd.zcf (zy.apart (show zy w0 _ g s0_0 x1001_1 from Zq5 HI0) (Zq12 HO_5) (by decide)) hk (fun _ h => h.2)) (fun _ h => h.1)); have n1_ := za.mk (zx.trans (Zq6 HK) hk (.inl rfl)); have n2_ := za.mk (hb); have n3_ := za.mk (hi); clear HO_5; clear HK; clear HB; clear HI0; have HO_5 := n0_; have HK := n1_; have HB := n2_; have HI0 := n3_; clear n0_ n1_ n2_ n3_; (try clear hb); (try clear hb2); (try clear hk); (try clear hi)) | ((with_reducible refine zbd (f := 53) rfl ?_); refine zb6 (some 23) rfl rfl Try.func53 (by kernel_rfl) rfl #[.pointer (some ⟨g, 0, none⟩), .int .i64 3] rfl Zmt ?_; (with_reducible refine (zb.calls k1 g s0_0 t170 3 t171 t172 w0 _ ?side1 ?side2 A14.out).mono ?_); (case side1 => exact Zq5 HI0); (case side2 => exact Zq7 HB (zy.ge HI0.out)); rintro e w32 ⟨rfl, hi, hb, hk⟩; refine ⟨_, rfl, ?_⟩; have n0_ := za.mk (Kd.zbs (Kd.zcf (zy.apart (show zy w0 _ g s0_0 t170 from Zq5 HI0) (Zq12 HO_5) (by decide)) hk (fun _ h => h.2)) (fun _ h => h.1)); have n1_ := za.mk (zx.trans (Zq6 HK) hk (.inl rfl)); have n2_ := za.mk (hb); have n3_ := za.mk (hi); clear HO_5; clear HK; clear HB; clear HI0; have HO_5 := n0_; have HK := n1_; have HB := n2_; have HI0 := n3_; clear n0_ n1_ n2_ n3_; (try clear hb); (try clear hb2); (try clear hk); (try clear hi)) | ((with_reducible refine zbd (f := 71) rfl ?_); refine zb6 (some 35) rfl rfl Try.func71 (by kernel_rfl) rfl #[.pointer (some ⟨g, 0, none⟩), .int .i64 2] rfl Zmt ?_; (with_reducible refine (zk.calls k1 g s0_0 t172 2 t187 t188 t189 t190 w0 _ ?side1 ?side2 A29.out).mono ?_); (case side1 => exact Zq5 HI0); (case side2 => exact Zq7 HB (zy.ge HI0.out)); rintro e w33 ⟨rfl, hi, hb, hk⟩; refine ⟨_, rfl, ?_⟩; have n0_ := za.mk (Kd.zbs (Kd.zcf (zy.apart (show zy w0 _ g s0_0 t172 from Zq5 HI0) (Zq12 HO_5) (by decide)) hk (fun _ h => h.2)) (fun _ h => h.1)); have n1_ := za.mk (zx.trans (Zq6 HK) hk (.inl rfl)); have n2_ := za.mk (hb); have n3_ := za.mk (hi); clear HO_5; clear HK; clear HB; clear HI0; have HO_5 := n0_; have HK := n1_; have HB := n2_; have HI0 := n3_; clear n0_ n1_ n2_ n3_; (try clear hb); (try clear hb2); (try clear hk); (try clear hi)) | ((with_reducible refine zdc (b := .append) (xs := #[.tmp 33, .tmp 36]) rfl ?_); at_builtin; refine Kd.zek k35 w.heap.size rfl (.tmp 33) (.tmp 36) 23 35 (.agg #[(.int .i64 0), (.int .i64 0), (.int .i64 0)]) 24 rfl Try.underlying23 info35 rfl (by decide) (by omega) u5 x5_1 (⟨t187, t188, t189⟩ : S35) [.int .i64 t187, .int .i64 t188, .int .i64 t189] (fun _ => True) (fun _ => False) rfl rfl ?aP (fun _ hk => hk.elim) ?aF ?aO (Below.refl _ _) ?aS ?aL ?_; (case aP => exact zgs _ _ _ (⟨t187, t188, t189⟩ : S35)); (case aF => exact (fun _ _ => trivial)); (case aO => exact (Zq12 HO_5)); (case aS => exact (zco (w := w) (g := g) (row := none) (Zq6 HK))); (case aL => have := LMc30.out; omega); intro v192 w34 ho hb hg hat; rw [← Ny191.out] at ho; have n0_ := za.mk (zy.grown (Zq5 HI0) hg (zy.own_ne HI0.out HO_5.out (by decide))); have n1_ := za.mk (zc6 (Zq7 HB (zy.ge HI0.out)) HL.out hb); have n2_ := za.mk (zx.trans (Zq6 HK) (zx.zej hg g) (Kd.zgk HO_5.out)); have n3_ := za.mk (ho); clear HI0; clear HB; clear HK; clear HO_5; have HI0 := n0_; have HB := n1_; have HK := n2_; have HO193 := n3_; clear n0_ n1_ n2_ n3_; clear ho hb hg hat));go_ret;exact ⟨_, by first | rfl | (simp [zq, zt] <;> rfl) | (simp [*, zq, zt] <;> rfl), Zq12 HO193, Zq5 HI0, Zq7 HB (zy.ge HI0.out), Zq6 HK⟩
      ·rw [if_neg c30] at H
       exact absurd H (by simp)
    ·replace c13 := Bool.eq_false_iff.mpr c13
     subst c13;have H1 : (some (x5_1, t170)) = some (r1, r2) := by rw [if_neg (show ¬ (false = true) by decide)] at H; exact H
     clear H;have H := H1;clear H1;simp only [Option.some.injEq, Prod.mk.injEq] at H;obtain ⟨rfl, rfl⟩ := H;go_wp2_with (first | ((with_reducible refine zbd (f := 52) rfl ?_); refine zb6 (some 21) rfl rfl Try.func52 (by kernel_rfl) rfl #[.pointer (some ⟨g, 0, none⟩), .int .i64 a1] rfl Zmt ?_; (with_reducible refine (zbn.calls k1 g s0_0 x1001_1 a1 false t170 w0 _ ?side1 ?side2 A12.out).mono ?_); (case side1 => exact Zq5 HI0); (case side2 => exact Zq7 HB (zy.ge HI0.out)); rintro e w35 ⟨rfl, hi, hb, hk⟩; refine ⟨_, rfl, ?_⟩; have n0_ := za.mk (Kd.zbs (Kd.zcf (zy.apart (show zy w0 _ g s0_0 x1001_1 from Zq5 HI0) (Zq12 HO_5) (by decide)) hk (fun _ h => h.2)) (fun _ h => h.1)); have n1_ := za.mk (zx.trans (Zq6 HK) hk (.inl rfl)); have n2_ := za.mk (hb); have n3_ := za.mk (hi); clear HO_5; clear HK; clear HB; clear HI0; have HO_5 := n0_; have HK := n1_; have HB := n2_; have HI0 := n3_; clear n0_ n1_ n2_ n3_; (try clear hb); (try clear hb2); (try clear hk); (try clear hi)));go_ret;exact ⟨_, by first | rfl | (simp [zq, zt] <;> rfl) | (simp [*, zq, zt] <;> rfl), Zq12 HO_5, Zq5 HI0, Zq7 HB (zy.ge HI0.out), Zq6 HK⟩
def zbu.l0 : Nat → List (S35) → Int → List Int → Int → Option ((List (S35)) × Int)
 | 0, _, _, _, _ => none
 | k + 1, x5, x6, x1000, x1001 => if x6 < (x5.length : Int) then (if 0 ≤ x6 then (zbu.l0 k (x5.set (x6 : Int).toNat (⟨(zf x5 x6).f0, (zf x5 x6).f2, (zf x5 x6).f2⟩ : S35)) (wrap64 (x6 + 1)) x1000 x1001) else (none)) else (some (x5, x1001))
def zbu.f (k : Nat) (s0_0 : List Int) (s0_1 : Int) (a1 : Int) : Option ((List (S35)) × Int) := (zbv.f k s0_0 s0_1 a1).bind fun bt194 => ((zbn.f k s0_0 bt194.2 a1).bind fun bt198 => (if bt198.1 = true then (some (bt194.1, bt198.2)) else (zbu.l0 k bt194.1 0 s0_0 bt198.2)))
set_option maxHeartbeats 8000000 in
theorem zbu.calls (k : Nat) (g : Nat) (s0_0 : List Int) (s0_1 : Int) (a1 : Int) (r1 : List (S35)) (r2 : Int) (w0 w : World) (hI : zy w0 w g s0_0 s0_1) (hB : Below w0.heap.size w0 w) (h : zbu.f k s0_0 s0_1 a1 = some (r1, r2)) :
  Calls Try.prog 26 #[.pointer (some ⟨g, 0, none⟩), .int .i64 a1] w fun e w' => ∃ v0_ : Value, e = .returned (v0_) ∧ Kd.R k35 35 w' w.heap.size (fun _ => True) v0_ r1 ∧ zy w0 w' g s0_0 r2 ∧ Below w0.heap.size w0 w' ∧ zx w w' g none := by
 have HI0 := za.mk hI
 have HK := za.mk (zx.refl w g none)
 have HL := za.mk hB.size
 clear hI
 have HW0 := za.mk hB.size
 have HB := za.mk hB
 clear hB
 have H : ((zbv.f k s0_0 s0_1 a1).bind fun bt194 => ((zbn.f k s0_0 bt194.2 a1).bind fun bt198 => (if bt198.1 = true then (some (bt194.1, bt198.2)) else (zbu.l0 k bt194.1 0 s0_0 bt198.2)))) = some (r1, r2) := h
 clear h
 replace H := Option.bind_eq_some_iff.mp H
 obtain ⟨⟨t194, t197⟩, A30, H⟩ := H
 replace H : ((zbn.f k s0_0 t197 a1).bind fun bt198 => (if bt198.1 = true then (some (t194, bt198.2)) else (zbu.l0 k t194 0 s0_0 bt198.2))) = some (r1, r2) := H
 have A3 := za.mk A30
 clear A30
 replace H := Option.bind_eq_some_iff.mp H
 obtain ⟨⟨t198, t199⟩, A40, H⟩ := H
 replace H : (if t198 = true then (some (t194, t199)) else (zbu.l0 k t194 0 s0_0 t199)) = some (r1, r2) := H
 have A4 := za.mk A40
 clear A40
 by_cases c5 : t198 = true
 ·subst c5
  have H1 : (some (t194, t199)) = some (r1, r2) := by rw [if_pos rfl] at H; exact H
  clear H;have H := H1;clear H1;simp only [Option.some.injEq, Prod.mk.injEq] at H;obtain ⟨rfl, rfl⟩ := H;go_enter Try.func26, Try.ntmps26;go_wp2_with (first | ((with_reducible refine zbd (f := 51) rfl ?_); refine zb6 (some 9) rfl rfl Try.func51 (by kernel_rfl) rfl #[.pointer (some ⟨g, 0, none⟩), .int .i64 a1] rfl Zmt ?_; (with_reducible refine (zbv.calls k g s0_0 s0_1 a1 t194 t197 w0 _ ?side1 ?side2 A3.out).mono ?_); (case side1 => exact Zq5 HI0); (case side2 => exact Zq7 HB (zy.ge HI0.out)); rintro e w6 ⟨v195, rfl, ho0, hi, hb, hk⟩; refine ⟨_, rfl, ?_⟩; have n0_ := za.mk (Kd.zcj ho0 (zco (w := w) (g := g) (row := none) (Zq6 HK))); have n1_ := za.mk (zx.trans (Zq6 HK) hk (.inl rfl)); have n2_ := za.mk (hb); have n3_ := za.mk (hi); clear HK; clear HB; clear HI0; have HO196 := n0_; have HK := n1_; have HB := n2_; have HI0 := n3_; clear n0_ n1_ n2_ n3_; (try clear hb); (try clear hb2); (try clear hk); (try clear hi); (try clear ho0)) | ((with_reducible refine zbd (f := 52) rfl ?_); refine zb6 (some 12) rfl rfl Try.func52 (by kernel_rfl) rfl #[.pointer (some ⟨g, 0, none⟩), .int .i64 a1] rfl Zmt ?_; (with_reducible refine (zbn.calls k g s0_0 t197 a1 true t199 w0 _ ?side1 ?side2 A4.out).mono ?_); (case side1 => exact Zq5 HI0); (case side2 => exact Zq7 HB (zy.ge HI0.out)); rintro e w7 ⟨rfl, hi, hb, hk⟩; refine ⟨_, rfl, ?_⟩; have n0_ := za.mk (Kd.zbs (Kd.zcf (zy.apart (show zy w0 _ g s0_0 t197 from Zq5 HI0) (Zq12 HO196) (by decide)) hk (fun _ h => h.2)) (fun _ h => h.1)); have n1_ := za.mk (zx.trans (Zq6 HK) hk (.inl rfl)); have n2_ := za.mk (hb); have n3_ := za.mk (hi); clear HO196; clear HK; clear HB; clear HI0; have HO196 := n0_; have HK := n1_; have HB := n2_; have HI0 := n3_; clear n0_ n1_ n2_ n3_; (try clear hb); (try clear hb2); (try clear hk); (try clear hi)));go_ret;exact ⟨_, by first | rfl | (simp [zq, zt] <;> rfl) | (simp [*, zq, zt] <;> rfl), Zq12 HO196, Zq5 HI0, Zq7 HB (zy.ge HI0.out), Zq6 HK⟩
 ·replace c5 := Bool.eq_false_iff.mpr c5
  subst c5;have H1 : (zbu.l0 k t194 0 s0_0 t199) = some (r1, r2) := by rw [if_neg (show ¬ (false = true) by decide)] at H; exact H
  clear H;have H := H1;clear H1;have H' := za.mk H;clear H;go_enter Try.func26, Try.ntmps26;go_wp2_with (first | ((with_reducible refine zbd (f := 51) rfl ?_); refine zb6 (some 9) rfl rfl Try.func51 (by kernel_rfl) rfl #[.pointer (some ⟨g, 0, none⟩), .int .i64 a1] rfl Zmt ?_; (with_reducible refine (zbv.calls k g s0_0 s0_1 a1 t194 t197 w0 _ ?side1 ?side2 A3.out).mono ?_); (case side1 => exact Zq5 HI0); (case side2 => exact Zq7 HB (zy.ge HI0.out)); rintro e w8 ⟨v195, rfl, ho0, hi, hb, hk⟩; refine ⟨_, rfl, ?_⟩; have n0_ := za.mk (Kd.zcj ho0 (zco (w := w) (g := g) (row := none) (Zq6 HK))); have n1_ := za.mk (zx.trans (Zq6 HK) hk (.inl rfl)); have n2_ := za.mk (hb); have n3_ := za.mk (hi); clear HK; clear HB; clear HI0; have HO196 := n0_; have HK := n1_; have HB := n2_; have HI0 := n3_; clear n0_ n1_ n2_ n3_; (try clear hb); (try clear hb2); (try clear hk); (try clear hi); (try clear ho0)) | ((with_reducible refine zbd (f := 52) rfl ?_); refine zb6 (some 12) rfl rfl Try.func52 (by kernel_rfl) rfl #[.pointer (some ⟨g, 0, none⟩), .int .i64 a1] rfl Zmt ?_; (with_reducible refine (zbn.calls k g s0_0 t197 a1 false t199 w0 _ ?side1 ?side2 A4.out).mono ?_); (case side1 => exact Zq5 HI0); (case side2 => exact Zq7 HB (zy.ge HI0.out)); rintro e w9 ⟨rfl, hi, hb, hk⟩; refine ⟨_, rfl, ?_⟩; have n0_ := za.mk (Kd.zbs (Kd.zcf (zy.apart (show zy w0 _ g s0_0 t197 from Zq5 HI0) (Zq12 HO196) (by decide)) hk (fun _ h => h.2)) (fun _ h => h.1)); have n1_ := za.mk (zx.trans (Zq6 HK) hk (.inl rfl)); have n2_ := za.mk (hb); have n3_ := za.mk (hi); clear HO196; clear HK; clear HB; clear HI0; have HO196 := n0_; have HK := n1_; have HB := n2_; have HI0 := n3_; clear n0_ n1_ n2_ n3_; (try clear hb); (try clear hb2); (try clear hk); (try clear hi)))
  go_loopg [6] k (fun kq v6 w' => ∃ (x5_1 : List (S35)) (x6_1 : Int), v6 = .int .i64 x6_1 ∧ za (zbu.l0 kq x5_1 x6_1 s0_0 t199 = some (r1, r2)) ∧ za (kq ≤ k) ∧ za (Kd.R k35 35 w' w.heap.size (fun _ => True) v195 x5_1) ∧ za (zy w0 w' g s0_0 t199) ∧ za (zx w w' g none) ∧ za (Below w0.heap.size w0 w'))
  case atStart => exact ⟨(t194), (0), Zrs, H', ⟨Nat.le_refl _⟩, ⟨Zq12 HO196⟩, ⟨Zq5 HI0⟩, ⟨Zq6 HK⟩, ⟨Zq7 HB (zy.ge HI0.out)⟩⟩
  case round =>
   clear H'
   (try clear c2);(try clear p2);(try clear c5)
   obtain ⟨x5_1, x6_1, rfl, HA, HK1, HO_5, HI0, HK, HB⟩ := hrel
   cases gk with
   | zero => exact absurd HA.out (by simp [zbu.l0])
   | succ k1 =>
    have H := HA.out;clear HA;simp only [zbu.l0] at H;by_cases c10 : x6_1 < (x5_1.length : Int)
    ·rw [if_pos c10] at H
     have c10b0 : decide (x6_1 < (x5_1.length : Int)) = true := decide_eq_true c10;clear c10;by_cases c11 : 0 ≤ x6_1
     ·rw [if_pos c11] at H
      have c11b0 : decide (0 ≤ x6_1) = true := decide_eq_true c11;clear c11;obtain ⟨y201, hy201⟩ : ∃ y_ : List (S35), y_ = (x5_1.set (x6_1 : Int).toNat (⟨(zf x5_1 x6_1).f0, (zf x5_1 x6_1).f2, (zf x5_1 x6_1).f2⟩ : S35)) := ⟨_, rfl⟩;replace H : (zbu.l0 k1 y201 (wrap64 (x6_1 + 1)) s0_0 t199) = some (r1, r2) := by first | (rw [hy201]; with_reducible exact H) | (have H2_ := (Option.bind_some _ _).symm.trans H; rw [hy201]; with_reducible exact H2_) | (have H2_ := (Option.bind_some _ _).symm.trans H; with_reducible exact H2_) | with_reducible exact H | (rw [hy201]; exact H) | exact H
      have Ny201 := za.mk hy201;clear hy201;have H' := za.mk H;clear H;obtain ⟨Ao13, co13, eo13⟩ := Kd.zck HO_5.out;subst eo13;have p200 : 0 ≤ (x6_1 : Int) := of_decide_eq_true Zas;have q200 : x6_1 < (x5_1.length : Int) := of_decide_eq_true Zas;obtain ⟨ad200, e200, hx200_0, hx200_1, hx200_2⟩ := zch (Kd.zz HO_5.out).2.2 x6_1 p200 q200
      cases e200
      replace p200 := eq_true p200;replace q200 := eq_true q200;have p12 : 0 ≤ (x6_1 : Int) := of_decide_eq_true Zas;have q12 : (x6_1 : Int) < ((x5_1.length : Int) : Int) := of_decide_eq_true Zas;obtain ⟨go12, co12, eo12, gb12, gl12, cl12, HG12⟩ := Kd.zgh HO_5.out (by omega);(first | cases eo12 | (injection eo12 with ea_ en_ ec_; (first | subst ea_ | (injection ea_ with ea_; subst ea_)); subst ec_; clear en_));have GB12 := za.mk gb12;have GG12 := za.mk HG12;clear gb12 gl12 HG12;(first | simp only [add_plain] at hx200_0 | skip);(first | simp only [add_plain] at hx200_1 | skip);(first | simp only [add_plain] at hx200_2 | skip);obtain ⟨ce12, hcl12, hM12, hcc12, hfr12⟩ := Kd.zih HO_5.out z35 (x6_1 : Int) p12 q12;obtain rfl := zim hM12;have hx12_0 : wr.cell? ⟨go12, (x6_1 : Int).toNat * 3, none⟩ = some (.int .i64 ((zf x5_1 x6_1).f0)) := hcc12 0 _ rfl;have hx12_1 : wr.cell? ⟨go12, (x6_1 : Int).toNat * 3 + 1, none⟩ = some (.int .i64 ((zf x5_1 x6_1).f1)) := hcc12 1 _ rfl;have hx12_2 : wr.cell? ⟨go12, (x6_1 : Int).toNat * 3 + 2, none⟩ = some (.int .i64 ((zf x5_1 x6_1).f2)) := hcc12 2 _ rfl;have hf12_0 : wr.frozen? ⟨go12, (x6_1 : Int).toNat * 3, none⟩ = false := hfr12 0;have hf12_1 : wr.frozen? ⟨go12, (x6_1 : Int).toNat * 3 + 1, none⟩ = false := hfr12 1;have hf12_2 : wr.frozen? ⟨go12, (x6_1 : Int).toNat * 3 + 2, none⟩ = false := hfr12 2;clear hcl12 hcc12 hfr12 hM12;replace p12 := eq_true p12;replace q12 := eq_true q12;have HX14 := za.mk (show Kd.R k35 35 wr w.heap.size (fun _ => True) (.slice (some ⟨go12, 0, none⟩) x5_1.length co13) x5_1 from (Zq12 HO_5));obtain ⟨ce14, hcl14, hM14, hcc14, hfr14⟩ := Kd.zih HX14.out z35 (x6_1 : Int) (of_decide_eq_true Zas) (by have h_ : (x6_1 : Int) < ((x5_1.length : Int) : Int) := of_decide_eq_true Zas; first | exact h_ | (have e_ := (Kd.zz HO_5.out).1; omega) | simpa using h_);obtain rfl := zim hM14;have HP14 := Kd.R_seg HX14.out (x6_1 : Int) (of_decide_eq_true Zas) (by have h_ : (x6_1 : Int) < ((x5_1.length : Int) : Int) := of_decide_eq_true Zas; first | exact h_ | (have e_ := (Kd.zz HO_5.out).1; omega) | simpa using h_) (seg := [.int .i64 ((zf x5_1 x6_1).f2)]) (j := 1) hcl14 hcc14 (show 2 ≤ 3 from by decide) (x' := (⟨(zf x5_1 x6_1).f0, (zf x5_1 x6_1).f2, (zf x5_1 x6_1).f2⟩ : S35)) (zgs _ _ _ (⟨(zf x5_1 x6_1).f0, (zf x5_1 x6_1).f2, (zf x5_1 x6_1).f2⟩ : S35) ) (fun _ hk => hk);have hx14_1 := hcc14 1 _ rfl;(try simp only [show (k35).sz = 3 from rfl, Nat.mul_one, Nat.add_zero] at hx14_1);have hf14_1 := hfr14 1;(try simp only [show (k35).sz = 3 from rfl, Nat.mul_one, Nat.add_zero] at hf14_1);clear hcl14 hcc14 hfr14 hM14;go_wp2_with (first | ((with_reducible refine zdy (t := 3) (p := 28) rfl ?_); refine zdr (t := 3) (p := 28) (v := ?vo_w15) (w1 := (wr.setCell ⟨go12, (x6_1 : Int).toNat * 3 + 1, none⟩ (.int .i64 ((zf x5_1 x6_1).f2)))) ?hg ?ho ?hn ?hr ?_; (case ho => rfl); (case hg => rfl); (case hn => rfl); (case hr => first | (go_simp; done) | (go_simp; rfl)); intro w15 hw; have hg : wr.grownBy w15 (some go12) := (by rw [hw]; exact HP14.2); have hp_ : Kd.R k35 35 w15 w.heap.size (fun _ => True) (.slice (some ⟨go12, 0, none⟩) x5_1.length co13) y201 := (by rw [hw, Ny201.out]; exact HP14.1); clear HP14; have n0_ := za.mk (hp_); have n1_ := za.mk (zy.grown (Zq5 HI0) hg (zy.own_ne HI0.out HO_5.out (by decide))); have n2_ := za.mk ((by rw [hw]; exact zcz (HB.out) (Nat.le_trans HL.out GB12.out) : Below w0.heap.size w0 w15)); have n3_ := za.mk (zx.trans (Zq6 HK) (zx.zej hg g) (Kd.zgk HO_5.out)); clear HO_5; clear HI0; clear HB; clear HK; have HO_5 := n0_; have HI0 := n1_; have HB := n2_; have HK := n3_; clear n0_ n1_ n2_ n3_; clear hg hw hp_));go_roundg k1
      case measure => have := HK1.out; omega
      case rel => exact ⟨(y201), (wrap64 (x6_1 + 1)), Zrs, H', ⟨by have := HK1.out; omega⟩, ⟨Zq12 HO_5⟩, ⟨Zq5 HI0⟩, ⟨Zq6 HK⟩, ⟨Zq7 HB (zy.ge HI0.out)⟩⟩
     ·rw [if_neg c11] at H
      exact absurd H (by simp)
    ·rw [if_neg c10] at H
     have c10b0 : decide (x6_1 < (x5_1.length : Int)) = false := decide_eq_false c10;clear c10;simp only [Option.some.injEq, Prod.mk.injEq] at H;obtain ⟨rfl, rfl⟩ := H;obtain ⟨Ao16, co16, eo16⟩ := Kd.zck HO_5.out;subst eo16;go_wp2;go_ret;exact ⟨_, by first | rfl | (simp [zq, zt] <;> rfl) | (simp [*, zq, zt] <;> rfl), Zq12 HO_5, Zq5 HI0, Zq7 HB (zy.ge HI0.out), Zq6 HK⟩
def zc1.f (k : Nat) (s0_0 : List Int) (s0_1 : Int) (a1 : Int) : Option (Int × Int) := (zbn.f k s0_0 s0_1 a1).bind fun bt202 => (if bt202.1 = true then ((some (([0, (-1), 6] : List Int) : List Int)).bind fun y204 => ((zb.f k s0_0 bt202.2 3).bind fun bt207 => (if 0 ≤ bt207.1 then (if bt207.1 < (y204.length : Int) then (some (rd y204 bt207.1, bt207.2)) else (none)) else (none)))) else ((zb.f k s0_0 bt202.2 4).bind fun bt210 => (some (wrap64 (1 + bt210.1), bt210.2))))
set_option maxHeartbeats 8000000 in
theorem zc1.calls (k : Nat) (g : Nat) (s0_0 : List Int) (s0_1 : Int) (a1 : Int) (r1 : Int) (r2 : Int) (w0 w : World) (hI : zy w0 w g s0_0 s0_1) (hB : Below w0.heap.size w0 w) (h : zc1.f k s0_0 s0_1 a1 = some (r1, r2)) :
  Calls Try.prog 27 #[.pointer (some ⟨g, 0, none⟩), .int .i64 a1] w fun e w' => e = .returned (.int .i64 r1) ∧ zy w0 w' g s0_0 r2 ∧ Below w0.heap.size w0 w' ∧ zx w w' g none := by
 have HI0 := za.mk hI
 have HK := za.mk (zx.refl w g none)
 have HL := za.mk hB.size
 clear hI
 have HW0 := za.mk hB.size
 have HB := za.mk hB
 clear hB
 have H : ((zbn.f k s0_0 s0_1 a1).bind fun bt202 => (if bt202.1 = true then ((some (([0, (-1), 6] : List Int) : List Int)).bind fun y204 => ((zb.f k s0_0 bt202.2 3).bind fun bt207 => (if 0 ≤ bt207.1 then (if bt207.1 < (y204.length : Int) then (some (rd y204 bt207.1, bt207.2)) else (none)) else (none)))) else ((zb.f k s0_0 bt202.2 4).bind fun bt210 => (some (wrap64 (1 + bt210.1), bt210.2))))) = some (r1, r2) := h
 clear h
 replace H := Option.bind_eq_some_iff.mp H
 obtain ⟨⟨t202, t203⟩, A30, H⟩ := H
 replace H : (if t202 = true then ((some (([0, (-1), 6] : List Int) : List Int)).bind fun y204 => ((zb.f k s0_0 t203 3).bind fun bt207 => (if 0 ≤ bt207.1 then (if bt207.1 < (y204.length : Int) then (some (rd y204 bt207.1, bt207.2)) else (none)) else (none)))) else ((zb.f k s0_0 t203 4).bind fun bt210 => (some (wrap64 (1 + bt210.1), bt210.2)))) = some (r1, r2) := H
 have A3 := za.mk A30
 clear A30
 by_cases c4 : t202 = true
 ·subst c4
  have H1 : ((some (([0, (-1), 6] : List Int) : List Int)).bind fun y204 => ((zb.f k s0_0 t203 3).bind fun bt207 => (if 0 ≤ bt207.1 then (if bt207.1 < (y204.length : Int) then (some (rd y204 bt207.1, bt207.2)) else (none)) else (none)))) = some (r1, r2) := by rw [if_pos rfl] at H; exact H
  clear H;have H := H1;clear H1;obtain ⟨y204, hy204⟩ : ∃ y_ : List Int, y_ = (([0, (-1), 6] : List Int)) := ⟨_, rfl⟩;replace H : ((zb.f k s0_0 t203 3).bind fun bt207 => (if 0 ≤ bt207.1 then (if bt207.1 < (y204.length : Int) then (some (rd y204 bt207.1, bt207.2)) else (none)) else (none))) = some (r1, r2) := by first | (rw [hy204]; with_reducible exact H) | (have H2_ := (Option.bind_some _ _).symm.trans H; rw [hy204]; with_reducible exact H2_) | (have H2_ := (Option.bind_some _ _).symm.trans H; with_reducible exact H2_) | with_reducible exact H | (rw [hy204]; exact H) | exact H
  have Ny204 := za.mk hy204;clear hy204;replace H := Option.bind_eq_some_iff.mp H;obtain ⟨⟨t207, t208⟩, A50, H⟩ := H;replace H : (if 0 ≤ t207 then (if t207 < (y204.length : Int) then (some (rd y204 t207, t208)) else (none)) else (none)) = some (r1, r2) := H;have A5 := za.mk A50;clear A50;by_cases c6 : 0 ≤ t207
  ·rw [if_pos c6] at H
   have c6b0 : decide (0 ≤ t207) = true := decide_eq_true c6;clear c6;by_cases c7 : t207 < (y204.length : Int)
   ·rw [if_pos c7] at H
    have c7b0 : decide (t207 < (y204.length : Int)) = true := decide_eq_true c7;clear c7;simp only [Option.some.injEq, Prod.mk.injEq] at H;obtain ⟨rfl, rfl⟩ := H;go_enter Try.func27, Try.ntmps27;go_wp2_with (first | ((with_reducible refine zbd (f := 52) rfl ?_); refine zb6 (some 7) rfl rfl Try.func52 (by kernel_rfl) rfl #[.pointer (some ⟨g, 0, none⟩), .int .i64 a1] rfl Zmt ?_; (with_reducible refine (zbn.calls k g s0_0 s0_1 a1 true t203 w0 _ ?side1 ?side2 A3.out).mono ?_); (case side1 => exact Zq5 HI0); (case side2 => exact Zq7 HB (zy.ge HI0.out)); rintro e w8 ⟨rfl, hi, hb, hk⟩; refine ⟨_, rfl, ?_⟩; have n0_ := za.mk (zx.trans (Zq6 HK) hk (.inl rfl)); have n1_ := za.mk (hb); have n2_ := za.mk (hi); clear HK; clear HB; clear HI0; have HK := n0_; have HB := n1_; have HI0 := n2_; clear n0_ n1_ n2_; (try clear hb); (try clear hb2); (try clear hk); (try clear hi)) | ((with_reducible refine zb4 (N := 8) rfl ?_); refine Kd.zif (Kd.int .i64) _ 3 ?hg (N := 8) ?hd (xs := ([0, (-1), 6] : List Int)) (inner := [.int .i64 0, .int .i64 (-1), .int .i64 6]) (ok := fun _ => True) (okp := fun _ => True) ?hr ?hp (fun _ hk => hk) trivial (Below.refl _ _) (Nat.le_refl _) (by simp) ?_; (case hd => rfl); (case hg => rfl); (case hr => first | (go_simp; done) | (go_simp; rfl)); (case hp => exact (Reps.one (show Kd.M (Kd.int .i64) _ _ _ 0 [.int .i64 0] from rfl) (Reps.one (show Kd.M (Kd.int .i64) _ _ _ (-1) [.int .i64 (-1)] from rfl) (Reps.one (show Kd.M (Kd.int .i64) _ _ _ 6 [.int .i64 6] from rfl) (Reps.none _ _))))); intro v205 w9 ho10 hb hg_ hnew_; clear hg_ hnew_; (first | rw [← Ny204.out] at ho10 | (simp only [Int.reduceToNat] at ho10; rw [← Ny204.out] at ho10)); have n0_ := za.mk (Kd.zcj ho10 (zco (w := w) (g := g) (row := none) (Zq6 HK))); have n1_ := za.mk (zy.below (Zq5 HI0) hb); have n2_ := za.mk (zx.trans (Zq6 HK) (zx.of_below hb g none) (.inl rfl)); have n3_ := za.mk (zl (Zq7 HB (zy.ge HI0.out)) hb); clear HI0; clear HK; clear HB; have HO206 := n0_; have HI0 := n1_; have HK := n2_; have HB := n3_; clear n0_ n1_ n2_ n3_; clear hb ho10) | ((with_reducible refine zbd (f := 53) rfl ?_); refine zb6 (some 10) rfl rfl Try.func53 (by kernel_rfl) rfl #[.pointer (some ⟨g, 0, none⟩), .int .i64 3] rfl Zmt ?_; (with_reducible refine (zb.calls k g s0_0 t203 3 t207 t208 w0 _ ?side1 ?side2 A5.out).mono ?_); (case side1 => exact Zq5 HI0); (case side2 => exact Zq7 HB (zy.ge HI0.out)); rintro e w11 ⟨rfl, hi, hb, hk⟩; refine ⟨_, rfl, ?_⟩; have n0_ := za.mk (Kd.zbs (Kd.zcf (zy.apart (show zy w0 _ g s0_0 t203 from Zq5 HI0) (Zq12 HO206) (by decide)) hk (fun _ h => h.2)) (fun _ h => h.1)); have n1_ := za.mk (zx.trans (Zq6 HK) hk (.inl rfl)); have n2_ := za.mk (hb); have n3_ := za.mk (hi); clear HO206; clear HK; clear HB; clear HI0; have HO206 := n0_; have HK := n1_; have HB := n2_; have HI0 := n3_; clear n0_ n1_ n2_ n3_; (try clear hb); (try clear hb2); (try clear hk); (try clear hi); obtain ⟨Ao12, co12, eo12⟩ := Kd.zck HO206.out; subst eo12; have p209 : 0 ≤ (t207 : Int) := of_decide_eq_true Zas; have q209 : t207 < (y204.length : Int) := of_decide_eq_true Zas; obtain ⟨ad209, e209, hx209_0⟩ := Kd.zb5 (Kd.zz HO206.out).2.2 t207 p209 q209; cases e209; replace p209 := eq_true p209; replace q209 := eq_true q209));go_ret;exact ⟨by first | rfl | (simp [zq, zt] <;> rfl) | (simp [*, zq, zt] <;> rfl), Zq5 HI0, Zq7 HB (zy.ge HI0.out), Zq6 HK⟩
   ·rw [if_neg c7] at H
    exact absurd H (by simp)
  ·rw [if_neg c6] at H
   exact absurd H (by simp)
 ·replace c4 := Bool.eq_false_iff.mpr c4
  subst c4;have H1 : ((zb.f k s0_0 t203 4).bind fun bt210 => (some (wrap64 (1 + bt210.1), bt210.2))) = some (r1, r2) := by rw [if_neg (show ¬ (false = true) by decide)] at H; exact H
  clear H;have H := H1;clear H1;replace H := Option.bind_eq_some_iff.mp H;obtain ⟨⟨t210, t211⟩, A130, H⟩ := H;replace H : (some (wrap64 (1 + t210), t211)) = some (r1, r2) := H;have A13 := za.mk A130;clear A130;simp only [Option.some.injEq, Prod.mk.injEq] at H;obtain ⟨rfl, rfl⟩ := H;go_enter Try.func27, Try.ntmps27;go_wp2_with (first | ((with_reducible refine zbd (f := 52) rfl ?_); refine zb6 (some 7) rfl rfl Try.func52 (by kernel_rfl) rfl #[.pointer (some ⟨g, 0, none⟩), .int .i64 a1] rfl Zmt ?_; (with_reducible refine (zbn.calls k g s0_0 s0_1 a1 false t203 w0 _ ?side1 ?side2 A3.out).mono ?_); (case side1 => exact Zq5 HI0); (case side2 => exact Zq7 HB (zy.ge HI0.out)); rintro e w14 ⟨rfl, hi, hb, hk⟩; refine ⟨_, rfl, ?_⟩; have n0_ := za.mk (zx.trans (Zq6 HK) hk (.inl rfl)); have n1_ := za.mk (hb); have n2_ := za.mk (hi); clear HK; clear HB; clear HI0; have HK := n0_; have HB := n1_; have HI0 := n2_; clear n0_ n1_ n2_; (try clear hb); (try clear hb2); (try clear hk); (try clear hi)) | ((with_reducible refine zbd (f := 53) rfl ?_); refine zb6 (some 14) rfl rfl Try.func53 (by kernel_rfl) rfl #[.pointer (some ⟨g, 0, none⟩), .int .i64 4] rfl Zmt ?_; (with_reducible refine (zb.calls k g s0_0 t203 4 t210 t211 w0 _ ?side1 ?side2 A13.out).mono ?_); (case side1 => exact Zq5 HI0); (case side2 => exact Zq7 HB (zy.ge HI0.out)); rintro e w15 ⟨rfl, hi, hb, hk⟩; refine ⟨_, rfl, ?_⟩; have n0_ := za.mk (zx.trans (Zq6 HK) hk (.inl rfl)); have n1_ := za.mk (hb); have n2_ := za.mk (hi); clear HK; clear HB; clear HI0; have HK := n0_; have HB := n1_; have HI0 := n2_; clear n0_ n1_ n2_; (try clear hb); (try clear hb2); (try clear hk); (try clear hi)));go_ret;exact ⟨by first | rfl | (simp [zq, zt] <;> rfl) | (simp [*, zq, zt] <;> rfl), Zq5 HI0, Zq7 HB (zy.ge HI0.out), Zq6 HK⟩
def zby.f (k : Nat) (l0 : List Int) : Option ((List (S35)) × Int) := (zdd.f l0).bind fun bt212 => ((zbu.f k bt212.1 bt212.2 12).bind fun bt215 => ((zc1.f k bt212.1 bt215.2 12).bind fun bt219 => (some (bt215.1, bt219.1))))
set_option maxHeartbeats 8000000 in
theorem zby.calls (k : Nat) (A0 : Option Addr) (c0 : Nat) (l0 : List Int) (r1 : List (S35)) (r2 : Int) (w : World) (hr0 : Kd.C (Kd.int .u8) w A0 l0.length l0) (hc0 : l0.length ≤ c0) (h : zby.f k l0 = some (r1, r2)) :
  Calls Try.prog 9 #[.slice A0 l0.length c0] w fun e w' => ∃ v0_ : Value, e = .returned (.tuple #[v0_, .int .i64 r2]) ∧ Kd.R k35 35 w' w.heap.size (fun _ => True) v0_ r1 ∧ Below w.heap.size w w' := by
 have HR0 := za.mk hr0
 have HC0 := za.mk hc0
 clear hr0 hc0
 have HB := za.mk (Below.refl w.heap.size w)
 have H : ((zdd.f l0).bind fun bt212 => ((zbu.f k bt212.1 bt212.2 12).bind fun bt215 => ((zc1.f k bt212.1 bt215.2 12).bind fun bt219 => (some (bt215.1, bt219.1))))) = some (r1, r2) := h
 clear h
 replace H := Option.bind_eq_some_iff.mp H
 obtain ⟨⟨t212, t213⟩, A20, H⟩ := H
 replace H : ((zbu.f k t212 t213 12).bind fun bt215 => ((zc1.f k t212 bt215.2 12).bind fun bt219 => (some (bt215.1, bt219.1)))) = some (r1, r2) := H
 have A2 := za.mk A20
 clear A20
 replace H := Option.bind_eq_some_iff.mp H
 obtain ⟨⟨t215, t218⟩, A30, H⟩ := H
 replace H : ((zc1.f k t212 t218 12).bind fun bt219 => (some (t215, bt219.1))) = some (r1, r2) := H
 have A3 := za.mk A30
 clear A30
 replace H := Option.bind_eq_some_iff.mp H
 obtain ⟨⟨t219, t220⟩, A40, H⟩ := H
 replace H : (some (t215, t219)) = some (r1, r2) := H
 have A4 := za.mk A40
 clear A40
 simp only [Option.some.injEq, Prod.mk.injEq] at H
 obtain ⟨rfl, rfl⟩ := H
 go_enter Try.func9, Try.ntmps9
 go_wp2_with (first | ((with_reducible refine zbd (f := 25) rfl ?_); refine zb6 (some 6) rfl rfl Try.func25 (by kernel_rfl) rfl #[.slice A0 l0.length c0] rfl Zmt ?_; (with_reducible refine (zdd.calls _ _ l0 t212 t213 w _ ?side1 ?side2 ?side3 A2.out).mono ?_); (case side1 => exact Zq1 HB); (case side2 => exact HR0.out); (case side3 => exact HC0.out); rintro e w5 ⟨g214, rfl, hi, hb, hb2⟩; refine ⟨_, rfl, ?_⟩; have n0_ := za.mk (hb); have n1_ := za.mk (hi); clear HB; have HB := n0_; have HI214 := n1_; clear n0_ n1_; (try clear hb); (try clear hb2); (try clear hk); (try clear hi)) | ((with_reducible refine zbd (f := 26) rfl ?_); refine zb6 (some 8) rfl rfl Try.func26 (by kernel_rfl) rfl #[.pointer (some ⟨g214, 0, none⟩), .int .i64 12] rfl Zmt ?_; (with_reducible refine (zbu.calls k g214 t212 t213 12 t215 t218 w _ ?side1 ?side2 A3.out).mono ?_); (case side1 => exact Zq5 HI214); (case side2 => exact Zq7 HB (zy.ge HI214.out)); rintro e w6 ⟨v216, rfl, ho0, hi, hb, hk⟩; refine ⟨_, rfl, ?_⟩; have n0_ := za.mk (Kd.zcj ho0 (zu (Zq7 HB (zy.ge HI214.out)))); have n1_ := za.mk (hb); have n2_ := za.mk (hi); clear HB; clear HI214; have HO217 := n0_; have HB := n1_; have HI214 := n2_; clear n0_ n1_ n2_; (try clear hb); (try clear hb2); (try clear hk); (try clear hi); (try clear ho0)) | ((with_reducible refine zbd (f := 27) rfl ?_); refine zb6 (some 10) rfl rfl Try.func27 (by kernel_rfl) rfl #[.pointer (some ⟨g214, 0, none⟩), .int .i64 12] rfl Zmt ?_; (with_reducible refine (zc1.calls k g214 t212 t218 12 t219 t220 w _ ?side1 ?side2 A4.out).mono ?_); (case side1 => exact Zq5 HI214); (case side2 => exact Zq7 HB (zy.ge HI214.out)); rintro e w7 ⟨rfl, hi, hb, hk⟩; refine ⟨_, rfl, ?_⟩; have n0_ := za.mk (Kd.zbs (Kd.zcf (zy.apart (show zy w _ g214 t212 t218 from Zq5 HI214) (Zq12 HO217) (by decide)) hk (fun _ h => h.2)) (fun _ h => h.1)); have n1_ := za.mk (hb); have n2_ := za.mk (hi); clear HO217; clear HB; clear HI214; have HO217 := n0_; have HB := n1_; have HI214 := n2_; clear n0_ n1_ n2_; (try clear hb); (try clear hb2); (try clear hk); (try clear hi)))
 go_ret2
 exact ⟨_, by first | rfl | (simp [zq, zt] <;> rfl) | (simp [*, zq, zt] <;> rfl), Zq12 HO217, Zq7 HB (zy.ge HI214.out)⟩
def swl (l : List Int) (j : Nat) : List Int := (l.set (j + 1) (rd l (j : Int))).set j (rd l ((j : Int) + 1))
def inn (cf : Int → Int → Int) : Nat → List Int → List Int
  | 0, l => l
  | j + 1, l => if cf (rd l ((j : Int) + 1)) (rd l (j : Int)) < 0 then inn cf j (swl l j) else l
def outr (cf : Int → Int → Int) : Nat → Nat → List Int → List Int
  | 0, _, l => l
  | d + 1, i, l => outr cf d (i + 1) (inn cf i l)
def zdw (cf : Int → Int → Int) (l : List Int) : List Int := outr cf (l.length - 1) 1 l
theorem ze1 (l : List Int) (j : Nat) (h : j < l.length) : rdOf 0 l (j : Int) ∈ l := by
  unfold rdOf
  rw [List.getD_eq_getElem?_getD, Int.toNat_natCast, List.getElem?_eq_getElem h]
  exact List.getElem_mem h
theorem zja (l : List Int) (j : Nat) (h : j + 1 < l.length) : ∀ x ∈ swl l j, x ∈ l := by
  intro x hx
  unfold swl at hx
  have h0 : rd l (j : Int) ∈ l := ze1 l j (by omega)
  have h1 : rd l ((j : Int) + 1) ∈ l := ze1 l (j + 1) h
  rcases List.mem_or_eq_of_mem_set hx with hx | rfl
  · rcases List.mem_or_eq_of_mem_set hx with hx | rfl
    · exact hx
    · exact h0
  · exact h1
theorem zdv (l : List Int) (j : Nat) : (swl l j).length = l.length := by simp [swl]
theorem zd9 (cf : Int → Int → Int) : ∀ (j : Nat) (l : List Int), (inn cf j l).length = l.length
  | 0, l => rfl
  | j + 1, l => by
    rw [inn]
    split
    · rw [zd9 cf j, zdv]
    · rfl
theorem zgt (cf : Int → Int → Int) : ∀ (d i : Nat) (l : List Int), (outr cf d i l).length = l.length
  | 0, _, l => rfl
  | d + 1, i, l => by rw [outr, zgt cf d, zd9]
theorem zeg (cf : Int → Int → Int) (l : List Int) : (zdw cf l).length = l.length := zgt cf _ _ _
set_option maxHeartbeats 4000000 in
theorem zin (cf : Int → Int → Int) (g : Nat) (lb : Array Value) (A : Option Addr) (c : Nat) (w : World) :
    Calls Try.prog 73 #[.slice A 0 c, .int .i64 0, .int .i64 0, .func (.func g) #[] lb] w fun e w' => e = .returned (.tuple #[]) ∧ w' = w ∧ zdw cf [] = [] := by
  go_enter Try.func73, Try.ntmps73
  go_wp2
  go_loopg [8] 0 (fun _ vi wr => vi = .int .i64 1 ∧ wr = w)
  case atStart => exact ⟨by go_num, rfl⟩
  case round =>
    obtain ⟨rfl, rfl⟩ := hrel
    go_wp2
    go_end0
    exact ⟨rfl, rfl, rfl⟩
def insB.T4 : Bool × List (List Nat × List Nat) := (true, [([], []), ([], []), ([0, 1], [0, 1]), ([2], [2]), ([3], [3]), ([3], [3]), ([3], [3]), ([5, 6, 3], [3, 5, 6]), ([7, 3], [3, 7]), ([3], [3]), ([3], [3]), ([10, 3], [3, 10]), ([9, 11, 3], [3, 9, 11]), ([12, 3], [3, 12]), ([4, 8, 13, 3, 3], [3, 4, 8, 13]), ([14, 3], [3, 14]), ([3, 15], [3, 15])])
def insB.B4 : List Nat := [0, 0, 3, 7, 15, 15, 15, 111, 239, 15, 15, 1039, 3599, 7695, 16383, 32767, 65535]
theorem insB.tab4 : rtab .any (opsOf Try.f73 4) = insB.T4 := by kernel_rfl
theorem insB.bits4 : zcw insB.T4.2 insB.B4 = true := by kernel_rfl
set_option maxHeartbeats 4000000 in
theorem zg7 (cf : Int → Int → Int) (g : Nat) (lb : Array Value) (eg : ∀ args w, (callFunc g args).run Try.prog w = .ok (.enter g args) w) (B : Nat) (ok : Nat → Prop) (A : Option Addr) (c : Nat) (l : List Int) (w : World)
    (G : Int → Prop) (hG : ∀ x ∈ l, G x) (hp : ∀ (W : World) (x y : Int), G x → G y → Below B w W → Calls Try.prog g (#[.int .i64 x, .int .i64 y] ++ lb) W fun e w' => e = .returned (.int .i64 (cf x y)) ∧ Below W.heap.size W w')
    (hR : Kd.R (Kd.int .i64) 3 w B ok (.slice A l.length c) l) (hl : 0 < l.length) (hmax : l.length ≤ 1000000) (hB : B ≤ w.heap.size) :
    Calls Try.prog 73 #[.slice A l.length c, .int .i64 0, .int .i64 l.length, .func (.func g) #[] lb] w fun e w' => e = .returned (.tuple #[]) ∧ Kd.R (Kd.int .i64) 3 w' B ok (.slice A l.length c) (zdw cf l) ∧ Below B w w' := by
  obtain ⟨gb, cap, eo, hgb, _, _, _⟩ := Kd.zgh hR hl
  injection eo with ea en ec
  subst ea
  subst ec
  clear en
  have GB := za.mk hgb
  have HP := za.mk hp
  have EG := za.mk eg
  have HG := za.mk hG
  have HR := za.mk hR
  have HBz := za.mk hB
  clear hp hR hgb hB hG
  go_enter Try.func73, Try.ntmps73
  go_wp2
  go_loopg [8] l.length (fun gg vi wr => ∃ (i : Nat) (dk : List Int), vi = .int .i64 i ∧ 1 ≤ i ∧ i ≤ l.length ∧ l.length - i ≤ gg ∧ za (dk.length = l.length ∧ ∀ x ∈ dk, G x) ∧ za (Kd.R (Kd.int .i64) 3 wr B ok (.slice (some ⟨gb, 0, none⟩) l.length c) dk) ∧ za (Below B w wr) ∧ za (outr cf (l.length - i) i dk = zdw cf l))
  case atStart => exact ⟨1, l, by go_num, by omega, by omega, by omega, ⟨rfl, HG.out⟩, HR, ⟨Below.refl _ _⟩, ⟨rfl⟩⟩
  case round =>
    obtain ⟨i, dk, rfl, hi1, hil, hgg, DL, DR, DB, DO⟩ := hrel
    by_cases hlt : i < l.length
    · have hltz : (i : Int) < (l.length : Int) := by omega
      go_wp2
      go_loopg [9] i (fun g2 vj wr2 => ∃ (j : Nat) (dj : List Int), vj = .int .i64 j ∧ j ≤ i ∧ j ≤ g2 ∧ za (dj.length = l.length ∧ ∀ x ∈ dj, G x) ∧ za (Kd.R (Kd.int .i64) 3 wr2 B ok (.slice (some ⟨gb, 0, none⟩) l.length c) dj) ∧ za (Below B w wr2) ∧ za (inn cf j dj = inn cf i dk))
      case atStart => exact ⟨i, dk, rfl, Nat.le_refl _, Nat.le_refl _, DL, DR, DB, ⟨rfl⟩⟩
      case round =>
        obtain ⟨j, dj, rfl, hji, hg2, JL, JR, JB, JI⟩ := hrel
        have out : inn cf j dj = dj → outr cf (l.length - (i + 1)) (i + 1) dj = zdw cf l := fun hs => by
          rw [← DO.out, show l.length - i = (l.length - (i + 1)) + 1 by omega, outr, ← JI.out, hs]
        have OUT := za.mk out
        clear out
        cases j with
        | zero =>
          go_wp2_with fail
          go_big_region
          all_goals go_wp2
          go_roundg (l.length - (i + 1))
          case measure => omega
          case rel => exact ⟨i + 1, dj, by go_num, by omega, by omega, by omega, JL, ⟨Kd.zci JR.out⟩, ⟨zbk JB.out⟩, ⟨OUT.out (by rw [inn])⟩⟩
        | succ jp =>
          have jz : (jp : Int) + 1 < (l.length : Int) := by omega
          have jz1 : (jp : Int) < (l.length : Int) := by omega
          have hwp : IntKind.i64.wrap (jp : Int) = (jp : Int) := by rw [IntKind.wrap_i64]; omega
          have p0 : (0 : Int) ≤ (jp : Int) + 1 := by omega
          have p1 : (0 : Int) < (jp : Int) + 1 := by omega
          have e0 : ((jp : Int) + 1).toNat = jp + 1 := by omega
          obtain ⟨cj, fj⟩ := Kd.zfw 0 JR.out ((jp : Int) + 1) p0 jz
          obtain ⟨cp, fp⟩ := Kd.zfw 0 JR.out (jp : Int) (by omega) jz1
          rw [e0] at cj fj
          rw [Int.toNat_natCast] at cp fp
          obtain ⟨xj, hxj⟩ : ∃ x, rdOf 0 dj ((jp : Int) + 1) = x := ⟨_, rfl⟩
          obtain ⟨xp, hxp⟩ : ∃ x, rdOf 0 dj (jp : Int) = x := ⟨_, rfl⟩
          have HC := za.mk (fun (W : World) (hW : Below B w W) => HP.out W xj xp (by rw [← hxj]; exact JL.out.2 _ (by have := ze1 dj (jp + 1) (by have := JL.out.1; omega); simpa using this)) (by rw [← hxp]; exact JL.out.2 _ (ze1 dj jp (by have := JL.out.1; omega))) hW)
          rw [hxj] at cj
          rw [hxp] at cp
          have XJ := za.mk hxj
          have XP := za.mk hxp
          clear hxj hxp
          have BZ := za.mk (Nat.le_trans HBz.out JB.out.size)
          go_wp2
          refine zcn (n := 17) (S := fun w' => w'.cell? ⟨gb, jp + 1, none⟩ = some (.int .i64 xj) ∧ w'.cell? ⟨gb, jp, none⟩ = some (.int .i64 xp)) (ds := []) #[false, false, false, false, false, false, false, false, false, false, false, false, false, false, false, false, false] (by kernel_rfl) rfl rfl ⟨cj, cp⟩ (fun hHeld => ?_); refine zbw insB.tab4 insB.bits4 (fun HT_ HW_ => ?_)
          refine zn (i := 0) (N := some 18) (v := ?_) (a' := ?_) #[true, false, false, false, false, false, false, false, false, false, false, false, false, false, false, false, false] rfl rfl (zg HT_.out (by kernel_rfl)) (fun _ _ _ h => h) (Or.inl ⟨by rfl, ?_⟩) ?_ ?_
          rotate_left
          · intro w'
            go_simp
            with_reducible rfl
          rotate_left
          · simp only [Act.put, List.setIfInBounds_toArray, List.set_cons_zero, List.set_cons_succ, zh, zi]
            rfl
          refine zn (i := 1) (N := some 19) (v := ?_) (a' := ?_) #[true, true, false, false, false, false, false, false, false, false, false, false, false, false, false, false, false] rfl rfl (zg HT_.out (by kernel_rfl)) (fun _ _ _ h => h) (Or.inl ⟨by rfl, ?_⟩) ?_ ?_
          rotate_left
          · intro w'
            go_simp
            with_reducible rfl
          rotate_left
          · simp only [Act.put, List.setIfInBounds_toArray, List.set_cons_zero, List.set_cons_succ, zh, zi]
            rfl
          refine zn (i := 2) (N := some 20) (v := ?_) (a' := ?_) #[true, true, true, false, false, false, false, false, false, false, false, false, false, false, false, false, false] rfl rfl (zg HT_.out (by kernel_rfl)) (fun _ _ _ h => h) (Or.inl ⟨by rfl, ?_⟩) ?_ ?_
          rotate_left
          · intro w'
            go_simp
            with_reducible rfl
          rotate_left
          · simp only [Act.put, List.setIfInBounds_toArray, List.set_cons_zero, List.set_cons_succ, zh, zi]
            rfl
          refine zn (i := 3) (N := some 21) (v := ?_) (a' := ?_) #[true, true, true, true, false, false, false, false, false, false, false, false, false, false, false, false, false] rfl rfl (zg HT_.out (by kernel_rfl)) (fun _ _ _ h => h) (Or.inl ⟨by rfl, ?_⟩) ?_ ?_
          rotate_left
          · intro w'
            go_simp
            with_reducible rfl
          rotate_left
          · simp only [Act.put, List.setIfInBounds_toArray, List.set_cons_zero, List.set_cons_succ, zh, zi]
            rfl
          refine zn (i := 4) (N := some 22) (v := ?_) (a' := ?_) #[true, true, true, true, true, false, false, false, false, false, false, false, false, false, false, false, false] rfl rfl (zg HT_.out (by kernel_rfl)) (fun _ _ _ h => h) (Or.inl ⟨by rfl, ?_⟩) ?_ ?_
          rotate_left
          · intro w'
            go_simp
            with_reducible rfl
          rotate_left
          · simp only [Act.put, List.setIfInBounds_toArray, List.set_cons_zero, List.set_cons_succ, zh, zi]
            rfl
          refine zn (i := 5) (N := some 23) (v := ?_) (a' := ?_) #[true, true, true, true, true, true, false, false, false, false, false, false, false, false, false, false, false] rfl rfl (zg HT_.out (by kernel_rfl)) (fun _ _ _ h => h) (Or.inl ⟨by rfl, ?_⟩) ?_ ?_
          rotate_left
          · intro w'
            go_simp
            with_reducible rfl
          rotate_left
          · simp only [Act.put, List.setIfInBounds_toArray, List.set_cons_zero, List.set_cons_succ, zh, zi]
            rfl
          refine zn (i := 6) (N := some 24) (v := ?_) (a' := ?_) #[true, true, true, true, true, true, true, false, false, false, false, false, false, false, false, false, false] rfl rfl (zg HT_.out (by kernel_rfl)) (fun _ _ _ h => h) (Or.inl ⟨by rfl, ?_⟩) ?_ ?_
          rotate_left
          · intro w'
            go_simp
            with_reducible rfl
          rotate_left
          · simp only [Act.put, List.setIfInBounds_toArray, List.set_cons_zero, List.set_cons_succ, zh, zi]
            rfl
          refine zn (i := 7) (N := some 25) (v := ?_) (a' := ?_) #[true, true, true, true, true, true, true, true, false, false, false, false, false, false, false, false, false] rfl rfl (zg HT_.out (by kernel_rfl)) (fun _ _ _ h => h) (Or.inl ⟨by rfl, ?_⟩) ?_ ?_
          rotate_left
          · intro w'
            go_simp
            with_reducible rfl
          rotate_left
          · simp only [Act.put, List.setIfInBounds_toArray, List.set_cons_zero, List.set_cons_succ, zh, zi]
            rfl
          refine zn (i := 9) (N := some 27) (v := ?_) (a' := ?_) #[true, true, true, true, true, true, true, true, false, true, false, false, false, false, false, false, false] rfl rfl (zg HT_.out (by kernel_rfl)) (fun _ _ _ h => h) (Or.inl ⟨by rfl, ?_⟩) ?_ ?_
          rotate_left
          · intro w'
            go_simp
            with_reducible rfl
          rotate_left
          · simp only [Act.put, List.setIfInBounds_toArray, List.set_cons_zero, List.set_cons_succ, zh, zi]
            rfl
          refine zn (i := 10) (N := some 28) (v := ?_) (a' := ?_) #[true, true, true, true, true, true, true, true, false, true, true, false, false, false, false, false, false] rfl rfl (zg HT_.out (by kernel_rfl)) (fun _ _ _ h => h) (Or.inl ⟨by rfl, ?_⟩) ?_ ?_
          rotate_left
          · intro w'
            go_simp
            with_reducible rfl
          rotate_left
          · simp only [Act.put, List.setIfInBounds_toArray, List.set_cons_zero, List.set_cons_succ, zh, zi]
            rfl
          refine zn (i := 11) (N := some 29) (v := ?_) (a' := ?_) #[true, true, true, true, true, true, true, true, false, true, true, true, false, false, false, false, false] rfl rfl (zg HT_.out (by kernel_rfl)) (fun _ _ _ h => h) (Or.inl ⟨by rfl, ?_⟩) ?_ ?_
          rotate_left
          · intro w'
            go_simp
            with_reducible rfl
          rotate_left
          · simp only [Act.put, List.setIfInBounds_toArray, List.set_cons_zero, List.set_cons_succ, zh, zi]
            rfl
          refine zn (i := 12) (N := some 30) (v := ?_) (a' := ?_) #[true, true, true, true, true, true, true, true, false, true, true, true, true, false, false, false, false] rfl rfl (zg HT_.out (by kernel_rfl)) (fun _ _ _ h => h) (Or.inl ⟨by rfl, ?_⟩) ?_ ?_
          rotate_left
          · intro w'
            go_simp
            with_reducible rfl
          rotate_left
          · simp only [Act.put, List.setIfInBounds_toArray, List.set_cons_zero, List.set_cons_succ, zh, zi]
            rfl
          refine zb3 (i := 8) (N := some 26) (v := ?_) (a' := ?_) #[true, true, true, true, true, true, true, true, true, true, true, true, true, false, false, false, false] rfl rfl (zbc HT_.out HW_.out (by kernel_rfl)) (fun _ _ _ h => h) (Or.inl ⟨by rfl, ?_⟩) hHeld ?_ ?_
          rotate_left
          · rintro w' ⟨s0, s1⟩
            go_simp
            with_reducible rfl
          rotate_left
          · simp only [Act.put, List.setIfInBounds_toArray, List.set_cons_zero, List.set_cons_succ, zh, zi]
            rfl
          refine zb3 (i := 13) (N := some 31) (v := ?_) (a' := ?_) #[true, true, true, true, true, true, true, true, true, true, true, true, true, true, false, false, false] rfl rfl (zbc HT_.out HW_.out (by kernel_rfl)) (fun _ _ _ h => h) (Or.inl ⟨by rfl, ?_⟩) hHeld ?_ ?_
          rotate_left
          · rintro w' ⟨s0, s1⟩
            go_simp
            with_reducible rfl
          rotate_left
          · simp only [Act.put, List.setIfInBounds_toArray, List.set_cons_zero, List.set_cons_succ, zh, zi]
            rfl
          refine one_ (i := 14) (N := some 32) #[true, true, true, true, true, true, true, true, true, true, true, true, true, true, true, false, false] rfl rfl (zb0 HT_.out (by kernel_rfl)) (by decide) (fun K hK => ?_)
          refine call_ g (#[.int .i64 xj, .int .i64 xp] ++ lb) (by rfl) rfl ?_ ?_
          · have he := EG.out (#[.int .i64 xj, .int .i64 xp] ++ lb) wr.drew
            simp [execOp, resolve, Deferred.ofValue, invoke, Act.eval, he]
          refine (HC.out _ (zbk JB.out)).mono ?_
          rintro e wq2 ⟨rfl, hb⟩
          refine ⟨_, rfl, ?_⟩
          have JR2 := za.mk (Kd.zb7 (Kd.zci JR.out) hb)
          have JB2 := za.mk (zha (zbk JB.out) (Nat.le_trans HBz.out JB.out.size) hb)
          have cj2 : wq2.cell? ⟨gb, jp + 1, none⟩ = some (.int .i64 xj) := (hb.cell (World.block_lt_of_cell? _ _ cj)).trans cj
          have cp2 : wq2.cell? ⟨gb, jp, none⟩ = some (.int .i64 xp) := (hb.cell (World.block_lt_of_cell? _ _ cp)).trans cp
          have fj2 : wq2.frozen? ⟨gb, jp + 1, none⟩ = false := (hb.frozen (World.block_lt_of_cell? _ _ cj)).trans fj
          have fp2 : wq2.frozen? ⟨gb, jp, none⟩ = false := (hb.frozen (World.block_lt_of_cell? _ _ cp)).trans fp
          clear hb
          refine hK.out _ _ ⟨cj2, cp2⟩ (fun hHeld => ?_)
          clear hK K
          refine zcd (a' := ?_) ?_ ?_
          rotate_left
          · show Act.put _ (some 32) _ = _
            simp only [Act.put, List.setIfInBounds_toArray, List.set_cons_zero, List.set_cons_succ, zh, zi]
            rfl
          refine zn (i := 15) (N := some 33) (v := ?_) (a' := ?_) #[true, true, true, true, true, true, true, true, true, true, true, true, true, true, true, true, false] rfl rfl (zg HT_.out (by kernel_rfl)) (fun _ _ _ h => h) (Or.inl ⟨by rfl, ?_⟩) ?_ ?_
          rotate_left
          · intro w'
            go_simp
            with_reducible rfl
          rotate_left
          · simp only [Act.put, List.setIfInBounds_toArray, List.set_cons_zero, List.set_cons_succ, zh, zi]
            rfl
          refine zn (i := 16) (N := some 34) (v := ?_) (a' := ?_) #[true, true, true, true, true, true, true, true, true, true, true, true, true, true, true, true, true] rfl rfl (zg HT_.out (by kernel_rfl)) (fun _ _ _ h => h) (Or.inl ⟨by rfl, ?_⟩) ?_ ?_
          rotate_left
          · intro w'
            go_simp
            with_reducible rfl
          rotate_left
          · simp only [Act.put, List.setIfInBounds_toArray, List.set_cons_zero, List.set_cons_succ, zh, zi]
            rfl
          refine zc5 (zb9 HT_.out (by kernel_rfl)) ?_
          by_cases hlv : cf xj xp < 0
          · have hlb : decide (cf xj xp < 0) = true := decide_eq_true hlv
            go_wp2_with fail
            obtain ⟨j1, hj1⟩ : ∃ j1, j1 = jp + 1 := ⟨_, rfl⟩
            rw [← hj1] at cj2 fj2 e0
            have J1 := za.mk hj1
            clear hj1
            go_big_region
            all_goals go_wp2
            go_roundg jp
            case measure => omega
            case rel =>
              refine ⟨jp, swl dj jp, by first | rfl | go_num | (congr 1; omega), by omega, Nat.le_refl _, ⟨by rw [zdv]; exact JL.out.1, fun x hx => JL.out.2 x (zja dj jp (by have := JL.out.1; omega) x hx)⟩, ⟨?_⟩, ⟨?_⟩, ⟨?_⟩⟩
              · have h1 := (Kd.zer (Kd.zci JR2.out) (((jp + 1 : Nat)) : Int) xp).1
                have h2 := (Kd.zer h1 (jp : Int) xj).1
                rw [Int.toNat_natCast, Int.toNat_natCast] at h2
                rw [J1.out]
                have e : swl dj jp = (dj.set (jp + 1) xp).set jp xj := by unfold swl; rw [← show rd dj ((jp : Int) + 1) = xj from XJ.out, ← show rd dj (jp : Int) = xp from XP.out]
                rw [e]
                exact h2
              · exact ((zbk JB2.out).setCell GB.out _).setCell GB.out _
              · rw [← JI.out, inn, if_pos (by rw [show rd dj ((jp : Int) + 1) = xj from XJ.out, show rd dj (jp : Int) = xp from XP.out]; exact hlv)]
          · have hlb : decide (cf xj xp < 0) = false := decide_eq_false hlv
            go_wp2
            go_roundg (l.length - (i + 1))
            case measure => omega
            case rel => exact ⟨i + 1, dj, by go_num, by omega, by omega, by omega, JL, JR2, JB2, ⟨OUT.out (by rw [inn]; exact if_neg (by rw [show rd dj ((jp : Int) + 1) = xj from XJ.out, show rd dj (jp : Int) = xp from XP.out]; omega))⟩⟩
    · have hltz : ¬ (i : Int) < (l.length : Int) := by omega
      go_wp2
      go_end0
      refine ⟨rfl, ?_, DB.out⟩
      have := DO.out
      rw [show l.length - i = 0 by omega, outr] at this
      rw [← this]
      exact DR.out
theorem zio (cf : Int → Int → Int) (g : Nat) (lb : Array Value) (eg : ∀ args w, (callFunc g args).run Try.prog w = .ok (.enter g args) w) (B : Nat) (ok : Nat → Prop) (A : Option Addr) (c : Nat) (l : List Int) (w : World)
    (G : Int → Prop) (hG : ∀ x ∈ l, G x) (hp : ∀ (W : World) (x y : Int), G x → G y → Below B w W → Calls Try.prog g (#[.int .i64 x, .int .i64 y] ++ lb) W fun e w' => e = .returned (.int .i64 (cf x y)) ∧ Below W.heap.size W w')
    (hR : Kd.R (Kd.int .i64) 3 w B ok (.slice A l.length c) l) (hmax : l.length ≤ 1000000) (hB : B ≤ w.heap.size) :
    Calls Try.prog 73 #[.slice A l.length c, .int .i64 0, .int .i64 l.length, .func (.func g) #[] lb] w fun e w' => e = .returned (.tuple #[]) ∧ Kd.R (Kd.int .i64) 3 w' B ok (.slice A l.length c) (zdw cf l) ∧ Below B w w' := by
  rcases Nat.eq_zero_or_pos l.length with h0 | h0
  · obtain rfl := List.eq_nil_of_length_eq_zero h0
    refine (zin cf g lb A c w).mono ?_
    rintro e w' ⟨rfl, rfl, he⟩
    rw [he]
    exact ⟨rfl, hR, Below.refl _ _⟩
  · exact zg7 cf g lb eg B ok A c l w G hG hp hR h0 hmax hB
set_option maxHeartbeats 4000000 in
theorem zhx (cf : Int → Int → Int) (g : Nat) (lb : Array Value) (eg : ∀ args w, (callFunc g args).run Try.prog w = .ok (.enter g args) w) (B : Nat) (ok : Nat → Prop) (A : Option Addr) (c : Nat) (l : List Int) (w : World)
    (G : Int → Prop) (hG : ∀ x ∈ l, G x) (hp : ∀ (W : World) (x y : Int), G x → G y → Below B w W → Calls Try.prog g (#[.int .i64 x, .int .i64 y] ++ lb) W fun e w' => e = .returned (.int .i64 (cf x y)) ∧ Below W.heap.size W w')
    (hR : Kd.R (Kd.int .i64) 3 w B ok (.slice A l.length c) l) (hmax : l.length < 20) (hB : B ≤ w.heap.size) :
    Calls Try.prog 57 #[.slice A l.length c, .int .i64 l.length, .func (.func g) #[] lb] w fun e w' => e = .returned (.tuple #[]) ∧ Kd.R (Kd.int .i64) 3 w' B ok (.slice A l.length c) (zdw cf l) ∧ Below B w w' := by
  have HC := za.mk (fun W (hW : W = w) => zio cf g lb eg B ok A c l W G hG (by subst hW; exact hp) (by subst hW; exact hR) (by omega) (by subst hW; exact hB))
  clear hp hR hB eg hG
  have h20 : ¬ (20 : Int) ≤ (l.length : Int) := by omega
  have h21 : ¬ (20 : Int) < (l.length : Int) := by omega
  go_enter Try.func57, Try.ntmps57
  go_wp2
  go_loopg [7, 8] 0 (fun _ va vb wr => va = .int .i64 0 ∧ vb = .int .i64 20 ∧ w = wr)
  case atStart => exact ⟨by go_num, by go_num, rfl⟩
  case round =>
    obtain ⟨rfl, rfl, rfl⟩ := hrel
    go_wp2_with (go_at_call 73; refine (HC.out _ rfl).mono ?_; rintro e w' ⟨rfl, hR', hB'⟩; have HR' := za.mk hR'; have HB' := za.mk hB'; clear hR' hB')
    go_loopg [6] 0 (fun _ va wr => va = .int .i64 20 ∧ za (Kd.R (Kd.int .i64) 3 wr B ok (.slice A l.length c) (zdw cf l)) ∧ za (Below B w wr))
    case atStart => exact ⟨by go_num, HR', HB'⟩
    case round =>
      obtain ⟨rfl, R2, B2⟩ := hrel
      go_wp2
      go_end0
      exact ⟨rfl, R2.out, B2.out⟩
set_option maxHeartbeats 4000000 in
theorem zf1 (cf : Int → Int → Int) (g : Nat) (lb : Array Value) (eg : ∀ args w, (callFunc g args).run Try.prog w = .ok (.enter g args) w) (B : Nat) (ok : Nat → Prop) (A : Option Addr) (c : Nat) (l : List Int) (w : World)
    (G : Int → Prop) (hG : ∀ x ∈ l, G x) (hp : ∀ (W : World) (x y : Int), G x → G y → Below B w W → Calls Try.prog g (#[.int .i64 x, .int .i64 y] ++ lb) W fun e w' => e = .returned (.int .i64 (cf x y)) ∧ Below W.heap.size W w')
    (hR : Kd.R (Kd.int .i64) 3 w B ok (.slice A l.length c) l) (hmax : l.length < 20) (hB : B ≤ w.heap.size) :
    Calls Try.prog 31 #[.slice A l.length c, .func (.func g) #[] lb] w fun e w' => e = .returned (.tuple #[]) ∧ Kd.R (Kd.int .i64) 3 w' B ok (.slice A l.length c) (zdw cf l) ∧ Below B w w' := by
  have HC := za.mk (fun W (hW : W = w) => zhx cf g lb eg B ok A c l W G hG (by subst hW; exact hp) (by subst hW; exact hR) hmax (by subst hW; exact hB))
  clear hp hR hB eg hG
  go_enter Try.func31, Try.ntmps31
  go_wp2_with (go_at_call 57; refine (HC.out _ rfl).mono ?_; rintro e w' ⟨rfl, hR', hB'⟩; have HR' := za.mk hR'; have HB' := za.mk hB'; clear hR' hB')
  go_end0
  exact ⟨rfl, HR'.out, HB'.out⟩
def ClipOf (v v' : Value) : Prop := v = v' ∨ ∃ ad n c c', v = .slice (some ad) n c ∧ v' = .slice (some ad) n c' ∧ n ≤ c ∧ c ≤ c'
theorem ClipOf.own {v v' : Value} (h : ClipOf v v') : v'.ownBlock = v.ownBlock := by
  rcases h with rfl | ⟨ad, n, c, c', rfl, rfl, _, _⟩
  · rfl
  · rfl
def Kd.Qc {α : Type} (d : Kd α) (e : Nat) (w : World) (base : Nat) (ok : Nat → Prop) (v : Value) (xs : List α) : Prop := ∃ v', ClipOf v v' ∧ Kd.R d e w base ok v' xs
section
variable {α : Type} {d : Kd α} {e base N : Nat} {w w1 W W2 : World} {ok ok' ok1 S : Nat → Prop} {u v : Value} {xs : List α}
theorem Kd.Qc_of (h : Kd.R d e w base ok v xs) : Kd.Qc d e w base ok v xs := ⟨v, .inl rfl, h⟩
theorem Kd.Qc_clip {ad : Addr} {n c c' : Nat} (h : Kd.R d e w base ok (.slice (some ad) n c') xs) (h1 : n ≤ c) (h2 : c ≤ c') : Kd.Qc d e w base ok (.slice (some ad) n c) xs := ⟨_, .inr ⟨ad, n, c, c', rfl, rfl, h1, h2⟩, h⟩
theorem Kd.ziq (d : Kd α) (e : Nat) (w : World) (base : Nat) (ok : Nat → Prop) : Kd.Qc d e w base ok (.slice none 0 0) [] := Kd.Qc_of (Kd.R_nil d e w base ok)
theorem Kd.zem (h : Kd.Qc d e w base ok v xs) : Kd.Qc d e w.drew base ok v xs := let ⟨v', hc, h⟩ := h; ⟨v', hc, Kd.zci h⟩
theorem Kd.zd0 (h : Kd.Qc d e w base ok v xs) (m : Nat) : Kd.Qc d e (w.drewN m) base ok v xs := let ⟨v', hc, h⟩ := h; ⟨v', hc, Kd.zcm h m⟩
theorem Kd.zd7 (h : Kd.Qc d e w base ok v xs) (o : Obj) : Kd.Qc d e (w.alloc o) base ok v xs := let ⟨v', hc, h⟩ := h; ⟨v', hc, Kd.zcl h o⟩
theorem Kd.ze2 (h : Kd.Qc d e w base ok v xs) (hb : Below w.heap.size w w1) : Kd.Qc d e w1 base ok v xs := let ⟨v', hc, h⟩ := h; ⟨v', hc, Kd.zb7 h hb⟩
theorem Kd.zeh (h : Kd.Qc d e w base ok v xs) (hok : ∀ k, ok k → ok' k) : Kd.Qc d e w base ok' v xs := let ⟨v', hc, h⟩ := h; ⟨v', hc, Kd.zbs h hok⟩
theorem Kd.zcp {base' : Nat} (h : Kd.Qc d e w base ok v xs) (hb : base' ≤ base) : Kd.Qc d e w base' ok v xs := let ⟨v', hc, h⟩ := h; ⟨v', hc, Kd.zcj h hb⟩
theorem Kd.Qc_far (h : Kd.Qc d e w base ok v xs) {p : Addr} (hok : ∀ k, ok k → k ≠ p.block) (u : Value) : Kd.Qc d e (w.setCell p u) base ok v xs := let ⟨v', hc, h⟩ := h; ⟨v', hc, Kd.zf8 h hok u⟩
theorem Kd.zd4 (h : Kd.Qc d e w1 W.heap.size ok v xs) (hlt : ∀ k, u.ownBlock = some k → k < W.heap.size) : Kd.Qc d e w1 W.heap.size (fun k => ok k ∧ some k ≠ u.ownBlock) v xs := let ⟨v', hc, h⟩ := h; ⟨v', hc, Kd.zdk h hlt⟩
theorem Kd.zcu (hu : Kd.Qc d e W base ok u xs) (hbase : ∀ k, v.ownBlock = some k → W.heap.size ≤ k) (hb : Below W.heap.size W w1) : Kd.Qc d e w1 base (fun k => ok k ∧ some k ≠ v.ownBlock) u xs := let ⟨v', hc, h⟩ := hu; ⟨v', hc, Kd.zct h hbase hb⟩
theorem Kd.zf9 (h : Kd.Qc d e w base ok v xs) : ∀ k, v.ownBlock = some k → k < w.heap.size := by
  obtain ⟨v', hc, h⟩ := h
  rw [← hc.own]
  exact Kd.R_lt h
theorem Kd.zd5 (h : Kd.Qc d e w base ok v xs) : ∀ k, v.ownBlock = some k → base ≤ k := by
  obtain ⟨v', hc, h⟩ := h
  rw [← hc.own]
  exact Kd.zcy h
theorem Kd.zhy (h : Kd.Qc d e w base ok v xs) : ∃ A c, v = .slice A xs.length c ∧ xs.length ≤ c ∧ Kd.C d w A xs.length xs := by
  obtain ⟨v', hc, h⟩ := h
  obtain ⟨A, c, rfl, h1, h2⟩ := Kd.zhr h
  rcases hc with rfl | ⟨ad, n, c1, c', rfl, he, h3, h4⟩
  · exact ⟨A, c, rfl, h1, h2⟩
  · injection he with e1 e2 e3
    subst e1 e2 e3
    exact ⟨_, c1, rfl, h3, h2⟩
theorem Kd.Qc_bnd (h : Kd.Qc d e w base ok v xs) : Kd.Qc d e w base (fun k => ok k ∧ base ≤ k ∧ k < w.heap.size) v xs := let ⟨v', hc, h⟩ := h; ⟨v', hc, Kd.zbs (Kd.zdx h) (fun _ hk => ⟨hk.1, hk.2.1, hk.2.2.1⟩)⟩
theorem Kd.zcr (h : Kd.Qc d e w base ok v xs) : ∃ A c, v = .slice A xs.length c := by
  obtain ⟨A, c, he, _⟩ := Kd.zhy h
  exact ⟨A, c, he⟩
theorem Kd.zbo {A : Option Addr} {n c : Nat} (h : Kd.Qc d e w base ok (.slice A n c) xs) : n = xs.length ∧ n ≤ c ∧ Kd.C d w A xs.length xs := by
  obtain ⟨A', c', he, h1, h2⟩ := Kd.zhy h
  injection he with e1 e2 e3
  subst e1 e2 e3
  exact ⟨rfl, h1, h2⟩
end
section
variable {α : Type} {enc : α → Value} {h1 : ∀ x, (enc x).oneCell' = true} {e base g n cap : Nat} {W : World} {ok : Nat → Prop} {xs : List α}
end
def Kd.cut {α : Type} (e : Nat) (d : Kd α) : Kd (List α) where
  sz := 1
  E := e :: d.E
  K := fun w xs cs => ∃ A c, cs = [.slice A xs.length c] ∧ xs.length ≤ c ∧ Kd.C d w A xs.length xs
  M := fun w base ok xs cs => ∃ v, cs = [v] ∧ Kd.Qc d e w base ok v xs
  K_len := by
    rintro w x cs ⟨A, c, rfl, _⟩
    rfl
  K_one := by
    rintro w x cs ⟨A, c, rfl, _⟩ u hu
    rw [List.mem_singleton.1 hu]
    rfl
  K_below := by
    rintro w w1 x cs hb ⟨A, c, rfl, hl, hr⟩
    exact ⟨A, c, rfl, hl, Kd.zdq hr hb⟩
  K_of_M := by
    rintro w base ok x cs ⟨v, rfl, h⟩
    obtain ⟨A, c, rfl, hl, hr⟩ := Kd.zhy h
    exact ⟨A, c, rfl, hl, hr⟩
  M_mono := by
    rintro w base ok ok' x cs hok ⟨v, rfl, h⟩
    exact ⟨v, rfl, Kd.zeh h hok⟩
  M_bound := by
    rintro w base ok x cs ⟨v, rfl, v', hc, h⟩
    exact ⟨v, rfl, v', hc, Kd.zdx h⟩
  M_move := by
    rintro w w1 base ok x cs hm ⟨v, rfl, v', hc, h⟩
    exact ⟨v, rfl, v', hc, Kd.zgg h hm⟩
  M_lower := by
    rintro w base base' ok x cs hb ⟨v, rfl, h⟩
    exact ⟨v, rfl, Kd.zcp h hb⟩
theorem Kd.cut_of {α : Type} {d : Kd α} {e e1 base : Nat} {w : World} {ok : Nat → Prop} {v : Value} {xs : List (List α)} (h : Kd.R (Kd.slice e d) e1 w base ok v xs) : Kd.R (Kd.cut e d) e1 w base ok v xs := by
  obtain ⟨h0, inner, ho, hr⟩ := h
  exact ⟨h0, inner, ho, hr.imp_ (fun _ _ hp => let ⟨v, he, h⟩ := hp; ⟨v, he, Kd.Qc_of h⟩)⟩
set_option maxHeartbeats 4000000 in
theorem ze5 (w : World) : Calls Try.prog 61 #[.slice none 0 0] w fun e w' => e = .returned (.slice none 0 0) ∧ zbx w w' := by
  go_enter Try.func61, Try.ntmps61
  go_wp2
  go_ret
  exact ⟨rfl, zbx.refl _⟩
set_option maxHeartbeats 4000000 in
theorem zgu (ad : Addr) (n c : Nat) (hn : n ≤ c) (w : World) : Calls Try.prog 61 #[.slice (some ad) n c] w fun e w' => e = .returned (.slice (some ad) n n) ∧ zbx w w' := by
  have hnz : (n : Int) ≤ (c : Int) := by omega
  go_enter Try.func61, Try.ntmps61
  go_wp2
  go_ret
  exact ⟨rfl, zbx.refl _⟩
set_option maxHeartbeats 4000000 in
theorem zjb (ad : Addr) (c : Nat) (l : List Int) (hn : l.length ≤ 1000000) (w : World) (hr : Kd.C (Kd.int .i64) w (some ad) l.length l) :
    Calls Try.prog 62 #[.slice (some ad) l.length c] w fun e w' => ∃ v : Value, e = .returned v ∧ Kd.R (Kd.int .i64) 3 w' w.heap.size (fun _ => True) v l ∧ Below w.heap.size w w' := by
  have HR := za.mk hr
  have HN := za.mk hn
  clear hr hn
  have qn : ∀ (w : World) (a : Option Addr) (n c n' c' : Nat), (binOp .eql 33 (.slice a n c) (.slice none n' c')).run Try.prog w = .ok (.bool a.isNone) w := fun w a n c n' c' => Lib.run_eql_slice_nil w _ 3 a n c n' c' Try.underlying33
  go_enter Try.func62, Try.ntmps62
  go_wp2_with (first
    | ((with_reducible refine zb4 (N := 5) rfl ?_); refine Kd.zif (Kd.int .i64) _ 3 ?hg (N := 5) ?hd (xs := ([] : List Int)) (inner := []) (ok := fun _ => True) (okp := fun _ => True) ?hr ?hp (fun _ hk => hk) trivial (Below.refl _ _) (Nat.le_refl _) (by simp) ?_; (case hd => rfl); (case hg => rfl); (case hr => first | (go_simp; done) | (go_simp; rfl)); (case hp => exact (Reps.none _ _)); intro v4 w4 ho4 hb4 hg_ hnew_; have R4 := za.mk ho4; have B4 := za.mk hb4; clear hg_ hnew_ ho4 hb4)
    | ((with_reducible refine zdc (b := .append) (xs := #[.tmp 5, .tmp 6]) rfl ?_); at_builtin; refine Kd.zhs (Kd.int .i64) (w0 := w) w.heap.size rfl (.tmp 5) (.tmp 6) 33 3 (.int .i64 0) 8 rfl Try.underlying33 info3 rfl (by decide) (by omega) v4 ([] : List Int) l _ _ _ (fun _ => True) (fun _ => False) rfl rfl ?aO ?aR (fun _ _ h => h) (fun _ h => h.elim) ?aF ?aB ?aS ?aL ?_; (case aR => exact Kd.zdq HR.out B4.out); (case aB => exact B4.out); (case aF => exact (fun _ _ => trivial)); (case aO => exact R4.out); (case aS => exact B4.out.size); (case aL => have := HN.out; simp; omega); intro v5 w5 ho5 hb5 hg5 hat5; rw [List.nil_append] at ho5; have R5 := za.mk ho5; have B5 := za.mk hb5; clear ho5 hb5 hg5 hat5))
  go_ret
  exact ⟨_, rfl, R5.out, B5.out⟩
set_option maxHeartbeats 4000000 in
theorem zgv (n c : Nat) (w : World) :
    Calls Try.prog 62 #[.slice none n c] w fun e w' => e = .returned (.slice none 0 0) ∧ zbx w w' := by
  have qn : ∀ (w : World) (a : Option Addr) (n c n' c' : Nat), (binOp .eql 33 (.slice a n c) (.slice none n' c')).run Try.prog w = .ok (.bool a.isNone) w := fun w a n c n' c' => Lib.run_eql_slice_nil w _ 3 a n c n' c' Try.underlying33
  go_enter Try.func62, Try.ntmps62
  go_wp2
  go_ret
  exact ⟨rfl, zbx.refl _⟩
theorem C_none {d : Kd Int} {w : World} {l : List Int} (h : Kd.C d w none l.length l) : l = [] := by
  rcases Nat.eq_zero_or_pos l.length with h0 | h0
  · exact List.eq_nil_of_length_eq_zero h0
  · obtain ⟨ad, h1, _⟩ := h.2.2 h0
    cases h1
set_option maxHeartbeats 4000000 in
theorem zjc (A : Option Addr) (c : Nat) (l : List Int) (hn : l.length ≤ 1000000) (w : World) (hr : Kd.C (Kd.int .i64) w A l.length l) :
    Calls Try.prog 34 #[.slice A l.length c] w fun e w' => ∃ v : Value, e = .returned v ∧ Kd.Qc (Kd.int .i64) 3 w' w.heap.size (fun _ => True) v l ∧ Below w.heap.size w w' := by
  cases A with
  | none =>
    obtain rfl := C_none hr
    clear hr hn
    go_enter Try.func34, Try.ntmps34
    go_wp2_with (first | (go_at_call 62; refine (zgv _ _ _).mono ?_; rintro e w1 ⟨rfl, ⟨q1, rfl⟩⟩) | (go_at_call 61; refine (ze5 _).mono ?_; rintro e w2 ⟨rfl, ⟨q2, rfl⟩⟩))
    go_ret
    exact ⟨_, rfl, Kd.ziq _ _ _ _ _, zce (Below.refl _ _) _⟩
  | some ad =>
    have HR := za.mk hr
    have HN := za.mk hn
    clear hr hn
    go_enter Try.func34, Try.ntmps34
    go_wp2_with (go_at_call 62; refine (zjb ad c l HN.out _ HR.out).mono ?_; rintro e w1 ⟨v1, rfl, h1, hb1⟩; have R1 := za.mk h1; have B1 := za.mk hb1; clear h1 hb1)
    obtain ⟨X, c3, ev⟩ := Kd.zck R1.out
    subst ev
    cases X with
    | none =>
      obtain ⟨h5, inner, h6, h7⟩ := R1.out
      have h8 : (Value.slice none l.length c3) = .slice none 0 0 := by
        rcases h6.2 with ⟨hv, _⟩ | ⟨g, cap, cur, hv, _⟩
        · exact hv
        · injection hv with h1; cases h1
      injection h8 with _ h9 h10
      obtain rfl := List.eq_nil_of_length_eq_zero h9
      subst h10
      clear h9 h5 h6 h7
      go_wp2_with (go_at_call 61; refine (ze5 _).mono ?_; rintro e w2 ⟨rfl, ⟨q2, rfl⟩⟩)
      go_ret
      exact ⟨_, rfl, Kd.ziq _ _ _ _ _, zce B1.out _⟩
    | some ad2 =>
      have hle := (Kd.zz R1.out).2.1
      go_wp2_with (go_at_call 61; refine (zgu ad2 _ c3 hle _).mono ?_; rintro e w2 ⟨rfl, ⟨q2, rfl⟩⟩)
      go_ret
      exact ⟨_, rfl, Kd.Qc_clip (Kd.zcm R1.out _) (Nat.le_refl _) hle, zce B1.out _⟩
def idxOf {α : Type} (p : α → Bool) (l : List α) : Int := match l.findIdx? p with
  | some i => (i : Int)
  | none => -1
theorem idxOf_hit {α : Type} (p : α → Bool) (l : List α) (k : Nat) (hk : k < l.length) (hp : p l[k] = true) (hn : ∀ j (h : j < k), p (l[j]'(by omega)) = false) : idxOf p l = (k : Int) := by
  have : l.findIdx? p = some k := by
    rw [List.findIdx?_eq_some_iff_getElem]
    exact ⟨hk, hp, fun j hj => by simp [hn j hj]⟩
  unfold idxOf
  rw [this]
theorem idxOf_miss {α : Type} (p : α → Bool) (l : List α) (hn : ∀ j (h : j < l.length), p l[j] = false) : idxOf p l = -1 := by
  have : l.findIdx? p = none := by
    rw [List.findIdx?_eq_none_iff]
    intro x hx
    obtain ⟨j, hj, rfl⟩ := List.getElem_of_mem hx
    exact hn j hj
  unfold idxOf
  rw [this]
theorem idxOf_any {α : Type} (p : α → Bool) (l : List α) : decide (0 ≤ idxOf p l) = l.any p := by
  unfold idxOf
  cases h : l.findIdx? p with
  | none =>
    rw [List.findIdx?_eq_none_iff] at h
    have : l.any p = false := by
      rw [List.any_eq_false]
      intro x hx
      simp [h x hx]
    rw [this]
    rfl
  | some i =>
    rw [List.findIdx?_eq_some_iff_getElem] at h
    obtain ⟨hi, hp, _⟩ := h
    have : l.any p = true := List.any_eq_true.2 ⟨_, List.getElem_mem hi, hp⟩
    rw [this]
    exact decide_eq_true (show (0 : Int) ≤ (i : Int) by omega)
set_option maxHeartbeats 2000000 in
theorem zhz (p : S35 → Bool) (g : Nat) (lb : Array Value) (eg : ∀ args w, (callFunc g args).run Try.prog w = .ok (.enter g args) w) (A : Option Addr) (c : Nat) (l : List S35) (w : World)
    (hp : ∀ (W : World) (x : S35), Below w.heap.size w W → Calls Try.prog g (#[.agg #[.int .i64 x.f0, .int .i64 x.f1, .int .i64 x.f2]] ++ lb) W fun e w' => e = .returned (.bool (p x)) ∧ Below W.heap.size W w')
    (hr : Kd.C k35 w A l.length l) :
    Calls Try.prog 72 #[.slice A l.length c, .func (.func g) #[] lb] w fun e w' => e = .returned (.int .i64 (idxOf p l)) ∧ Below w.heap.size w w' := by
  have hbig := za.mk (Kd.C_max hr)
  have HR := za.mk hr
  have HP := za.mk hp
  clear hr hp
  go_enter Try.func72, Try.ntmps72
  go_wp2
  go_loopg [5, 8] l.length (fun gg _ s8 wr => ∃ kk : Nat, kk ≤ l.length ∧ l.length - kk ≤ gg ∧ s8 = .int .i64 kk ∧ za (Below w.heap.size w wr) ∧ za (∀ j (h : j < kk) (h2 : j < l.length), p l[j] = false))
  case atStart => exact ⟨0, Nat.zero_le _, by omega, rfl, ⟨Below.refl _ w⟩, ⟨fun j hj => absurd hj (Nat.not_lt_zero _)⟩⟩
  case round =>
    obtain ⟨kk, hkk, hg, rfl, BW, N⟩ := hrel
    by_cases hlt : kk < l.length
    · have hltz : (kk : Int) < (l.length : Int) := by omega
      have hb1 := hbig.out
      obtain ⟨ad, ea, hx0, hx1, hx2⟩ := zch HR.out (kk : Int) (by omega) hltz
      cases ea
      have hy0 := (BW.out.cell (World.block_lt_of_cell? w _ hx0)).trans hx0
      have hy1 := (BW.out.cell (World.block_lt_of_cell? w _ hx1)).trans hx1
      have hy2 := (BW.out.cell (World.block_lt_of_cell? w _ hx2)).trans hx2
      have er : zf l (kk : Int) = l[kk] := by rw [zf, List.getD_eq_getElem?_getD, Int.toNat_natCast, List.getElem?_eq_getElem hlt]; rfl
      rw [er, Int.toNat_natCast] at hy0 hy1 hy2
      have hcall := HP.out wr l[kk] BW.out
      generalize hy : l[kk] = y at hy0 hy1 hy2 hcall
      have Y := za.mk hy
      clear hy hx0 hx1 hx2 er
      cases hq : p y with
      | true =>
        rw [hq] at hcall
        go_wp2_with (go_at_fn g; refine hcall.mono ?_; rintro e w' ⟨rfl, hb'⟩)
        go_ret
        refine ⟨?_, Below.trans BW.out (hb'.mono BW.out.size)⟩
        rw [idxOf_hit p l kk hlt (by rw [Y.out]; exact hq) (fun j hj => N.out j hj (by omega))]
        rfl
      | false =>
        rw [hq] at hcall
        go_wp2_with (go_at_fn g; refine hcall.mono ?_; rintro e w' ⟨rfl, hb'⟩)
        go_roundg (l.length - (kk + 1))
        case measure => omega
        case rel =>
          refine ⟨kk + 1, by omega, by omega, by go_num, ⟨Below.trans BW.out (hb'.mono BW.out.size)⟩, ⟨fun j hj hj2 => ?_⟩⟩
          by_cases e : j = kk
          · subst e
            rw [Y.out]; exact hq
          · exact N.out j (by omega) hj2
    · have hltz : ¬ (kk : Int) < (l.length : Int) := by omega
      go_wp2
      go_ret
      refine ⟨?_, BW.out⟩
      rw [idxOf_miss p l (fun j hj => N.out j (by omega) hj)]
      rfl
set_option maxHeartbeats 2000000 in
theorem zfn (p : S35 → Bool) (g : Nat) (lb : Array Value) (eg : ∀ args w, (callFunc g args).run Try.prog w = .ok (.enter g args) w) (A : Option Addr) (c : Nat) (l : List S35) (w : World)
    (hp : ∀ (W : World) (x : S35), Below w.heap.size w W → Calls Try.prog g (#[.agg #[.int .i64 x.f0, .int .i64 x.f1, .int .i64 x.f2]] ++ lb) W fun e w' => e = .returned (.bool (p x)) ∧ Below W.heap.size W w')
    (hr : Kd.C k35 w A l.length l) :
    Calls Try.prog 54 #[.slice A l.length c, .func (.func g) #[] lb] w fun e w' => e = .returned (.bool (l.any p)) ∧ Below w.heap.size w w' := by
  have Y := za.mk (idxOf_any p l)
  have h := za.mk (fun W (hW : W = w) => zhz p g lb eg A c l W (by subst hW; exact hp) (by subst hW; exact hr))
  clear hp hr eg
  go_enter Try.func54, Try.ntmps54
  go_wp2_with (go_at_call 72; refine (h.out _ rfl).mono ?_; rintro e w' ⟨rfl, hb'⟩)
  go_ret
  exact ⟨by rw [← Y.out]; rfl, hb'⟩
def zdm.f (a0_0 : Int) (a0_1 : Int) (a0_2 : Int) : Option (Bool) := some (a0_1 != a0_2)
set_option maxHeartbeats 8000000 in
theorem zdm.calls (a0_0 : Int) (a0_1 : Int) (a0_2 : Int) (r : Bool) (w : World) (h : zdm.f a0_0 a0_1 a0_2 = some r) :
  Calls Try.prog 55 #[.agg #[.int .i64 a0_0, .int .i64 a0_1, .int .i64 a0_2]] w fun e w' => e = .returned (.bool r) ∧ Below w.heap.size w w' := by
 have hu35 := Try.underlying35
 have HB := za.mk (Below.refl w.heap.size w)
 have H : (some (a0_1 != a0_2)) = some r := h
 clear h
 obtain rfl := Option.some.inj H
 go_enter Try.func55, Try.ntmps55
 go_wp2_with (first | ((with_reducible refine zb4 (N := 1) rfl ?_); refine zcb ?hg (N := 1) ?hd (cs := #[.int .i64 a0_0, .int .i64 a0_1, .int .i64 a0_2]) (t := 35) ?hr ?_; (case hd => rfl); (case hg => rfl); (case hr => first | (go_simp; done) | (go_simp; rfl)); intro gb227 hg w2 hbox hb; have n0_ := za.mk (zl (Zq1 HB) hb); have n1_ := za.mk (hbox); have n2_ := za.mk ((by rw [hg]; exact (zu (Zq1 HB)) : w.heap.size ≤ gb227)); have n3_ := za.mk ((by rw [hg]; exact (zu (Zq1 HB)) : w.heap.size ≤ gb227)); clear HB; have HB := n0_; have BK227 := n1_; have GW227 := n2_; have GE227 := n3_; clear n0_ n1_ n2_ n3_; clear hb hbox hg; have hcz3_0 : w2.cell? ⟨gb227, 0, none⟩ = some (.int .i64 a0_0) := (ze BK227.out 0).trans rfl; have hcz3_1 : w2.cell? ⟨gb227, 1, none⟩ = some (.int .i64 a0_1) := (ze BK227.out 1).trans rfl; have hcz3_2 : w2.cell? ⟨gb227, 2, none⟩ = some (.int .i64 a0_2) := (ze BK227.out 2).trans rfl; have hfz3_0 := zw BK227.out 0; have hfz3_1 := zw BK227.out 1; have hfz3_2 := zw BK227.out 2))
 go_ret
 exact ⟨by first | rfl | (simp [zq, zt] <;> rfl) | (simp [*, zq, zt] <;> rfl), Zq3 HB GE227⟩
def zc7.bad (x : S35) : Bool := x.f1 != x.f2
theorem zc7.is (x : S35) : zdm.f x.f0 x.f1 x.f2 = some (zc7.bad x) := by
  unfold zdm.f zc7.bad
  rfl
def zc7.f (l0 : List S35) : Option Bool := some (l0.any zc7.bad)
theorem zc7.calls (A0 : Option Addr) (c0 : Nat) (l0 : List S35) (r : Bool) (w : World) (hr0 : Kd.C k35 w A0 l0.length l0) (hc0 : l0.length ≤ c0) (h : zc7.f l0 = some r) :
    Calls Try.prog 54 #[.slice A0 l0.length c0, .func (.func 55) #[] #[]] w fun e w' => e = .returned (.bool r) ∧ Below w.heap.size w w' := by
  obtain rfl := Option.some.inj h
  exact zfn zc7.bad 55 #[] (enters_of Try.func55 (by kernel_rfl) rfl) A0 c0 l0 w (fun W' x _ => (zdm.calls x.f0 x.f1 x.f2 _ W' (zc7.is x)).mono fun e w' hh => ⟨hh.1, hh.2⟩) hr0
def zdf.f (a0 : Int) (a1 : Int) (a2 : Int) : Option (Bool) := if a0 ≥ a1 then (some (decide (a0 ≤ a2))) else (some false)
set_option maxHeartbeats 8000000 in
theorem zdf.calls (a0 : Int) (a1 : Int) (a2 : Int) (r : Bool) (w : World) (h : zdf.f a0 a1 a2 = some r) :
  Calls Try.prog 45 #[.int .i64 a0, .int .i64 a1, .int .i64 a2] w fun e w' => e = .returned (.bool r) ∧ zbx w w' := by
 have H : (if a0 ≥ a1 then (some (decide (a0 ≤ a2))) else (some false)) = some r := h
 clear h
 by_cases c4 : a0 ≥ a1
 ·rw [if_pos c4] at H
  have c4b0 : decide (a1 ≤ a0) = true := decide_eq_true c4;clear c4;obtain rfl := Option.some.inj H;go_enter Try.func45, Try.ntmps45;go_wp2;go_ret;exact ⟨by first | rfl | (simp; done) | (simp [*]; done), by repeat (first | exact zbx.refl _ | apply zbx.step)⟩
 ·rw [if_neg c4] at H
  have c4b0 : decide (a1 ≤ a0) = false := decide_eq_false c4;clear c4;obtain rfl := Option.some.inj H;go_enter Try.func45, Try.ntmps45;go_wp2;go_ret;exact ⟨by first | rfl | (simp; done) | (simp [*]; done), by repeat (first | exact zbx.refl _ | apply zbx.step)⟩
end Go.Proofs.Ytnilnaabjpcfjaa.P
