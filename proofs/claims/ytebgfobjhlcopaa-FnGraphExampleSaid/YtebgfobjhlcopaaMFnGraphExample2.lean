/- The law FnGraphExample for every input, part 2 of its proof: what the program's functions answer, and the plain law. No condition. -/
import Derived.Test.YtebgfobjhlcopaaMFnGraphExample1
set_option maxRecDepth 100000
namespace Go.Proofs.Ytebgfobjhlcopaa.P
open Go.RowKit Go.Proofs.YtebgfobjhlcopaaW.PrintWords Go.Proofs.YtebgfobjhlcopaaW.PrintLast Go.Proofs.YtebgfobjhlcopaaW.PrintMore
attribute [local go_sem] zf4 zf5 zhe zhf ze3 ze4 zf6 zf7
set_option linter.unusedVariables false
set_option linter.unusedSimpArgs false
theorem Zrs {P : Prop} (h : P := by first | rfl | (simp; done) | (simp [*]; done)) : P := h
theorem Zq2 {X0 P : Prop} (x0 : za X0) (h : X0 → P := by intro x0; repeat (first | (with_reducible first | exact x0 | apply zbv | apply zbr | apply zcm) | exact x0)) : P := h x0.out
theorem Zas {P : Prop} (h : P := by first | (with_reducible assumption) | assumption) : P := h
theorem Zq4 {X0 P : Prop} (x0 : X0) (h : X0 → P := by intro x0; repeat (first | exact x0 | (with_reducible refine Kd.zg5 ?_ _) | (with_reducible refine Kd.zg6 ?_ _) | (with_reducible refine Kd.C_drew ?_))) : P := h x0
theorem Zs1 {α : Type} {l : List α} {i : Nat} {a : α} : l.toArray.setIfInBounds i a = (l.set i a).toArray := List.setIfInBounds_toArray ..
theorem Zs2 {α : Type} {a b : α} {l : List α} : (a :: l).set 0 b = b :: l := rfl
theorem Zs3 {α : Type} {a b : α} {l : List α} {i : Nat} : (a :: l).set (i + 1) b = a :: l.set i b := rfl
def ze.l0 : Nat → List Int → List (List Int) → List (List Int) → Int → Int → Option (Bool)
 | 0, _, _, _, _, _ => none
 | k + 1, x0, x1, x7, x8, x9 => if x9 < x8 then (if 0 ≤ x9 then (if x9 < (x7.length : Int) then (if ((zbd x7 x9).length : Int) = 2 then (if 0 < ((zbd x7 x9).length : Int) then ((zco.f (rd (zbd x7 x9) 0) 0 (wrap64 ((x0.length : Int) - 1))).bind fun t198 => (if t198 = true then (if 1 < ((zbd x7 x9).length : Int) then ((zco.f (rd (zbd x7 x9) 1) (rd (zbd x7 x9) 0) (wrap64 ((x0.length : Int) - 1))).bind fun t201 => (if t201 = true then (if (rd (zbd x7 x9) 0) = (rd (zbd x7 x9) 1) then (some false) else (ze.l0 k x0 x1 x7 x8 (wrap64 (x9 + 1)))) else (some false))) else (none)) else (some false))) else (none)) else (some false)) else (none)) else (none)) else (if (x0.length : Int) ≤ 8 then (if (x1.length : Int) ≤ 64 then ((zcq.f x0).bind fun t195 => (some (!t195))) else (some false)) else (some false))
def ze.f (k : Nat) (l0 : List Int) (l1 : List (List Int)) : Option (Bool) := ze.l0 k l0 l1 l1 (l1.length : Int) 0
def ze.T4 : Bool × List (List Nat × List Nat) := (true, [([], []), ([0], [0]), ([1], [1]), ([2], [2]), ([3], [3]), ([4, 3], [3, 4]), ([5, 3], [3, 5]), ([3], [3]), ([7, 3], [3, 7]), ([8, 3], [3, 8]), ([6, 9, 3, 3], [3, 6, 9]), ([10, 3], [3, 10]), ([3, 11], [3, 11]), ([12, 10], [12]), ([13], [13]), ([14, 13], [13, 14]), ([15, 13], [13, 15]), ([13], [13]), ([17, 13], [13, 17]), ([18, 13], [13, 18]), ([13], [13]), ([20, 13], [13, 20]), ([21, 13], [13, 21]), ([16, 19, 22, 13, 13], [13, 16, 19, 22]), ([23, 13], [13, 23]), ([13, 24], [13, 24]), ([25, 23], [25]), ([26], [26]), ([27, 26], [26, 27]), ([28, 26], [26, 28]), ([26], [26]), ([30, 26], [26, 30]), ([31, 26], [26, 31]), ([29, 32, 26], [26, 29, 32]), ([26, 33], [26, 33])])
def ze.B4 : List Nat := [0, 1, 3, 7, 15, 31, 63, 15, 143, 399, 1023, 2047, 4095, 8191, 16383, 32767, 65535, 16383, 147455, 409599, 16383, 1064959, 3162111, 8388607, 16777215, 33554431, 67108863, 134217727, 268435455, 536870911, 134217727, 1207959551, 3355443199, 8589934591, 17179869183]
theorem ze.tab4 : rtab .any (opsOf Try.f30 4) = ze.T4 := by kernel_rfl
theorem ze.bits4 : zd9 ze.T4.2 ze.B4 = true := by kernel_rfl
set_option maxHeartbeats 8000000 in
theorem ze.calls (k : Nat) (A0 : Option Addr) (c0 : Nat) (l0 : List Int) (A1 : Option Addr) (c1 : Nat) (l1 : List (List Int)) (r : Bool) (w : World) (hr0 : Kd.C (Kd.int .i64) w A0 l0.length l0) (hc0 : l0.length ≤ c0) (hr1 : Kd.C (Kd.slice 3 (Kd.int .i64)) w A1 l1.length l1) (hc1 : l1.length ≤ c1) (h : ze.f k l0 l1 = some r) :
  Calls Try.prog 30 #[.slice A0 l0.length c0, .slice A1 l1.length c1] w fun e w' => e = .returned (.bool r) ∧ Below w.heap.size w w' := by
 have HR0 := za.mk hr0
 have HC0 := za.mk hc0
 clear hr0 hc0
 have HR1 := za.mk hr1
 have HC1 := za.mk hc1
 clear hr1 hc1
 have HB := za.mk (Below.refl w.heap.size w)
 have H : (ze.l0 k l0 l1 l1 (l1.length : Int) 0) = some r := h
 clear h
 have H' := za.mk H
 clear H
 go_enter Try.func30, Try.ntmps30
 go_wp2
 go_loopg [9] k (fun kq v9 w' => ∃ (x9_1 : Int), v9 = .int .i64 x9_1 ∧ za (ze.l0 kq l0 l1 l1 (l1.length : Int) x9_1 = some r) ∧ za (kq ≤ k) ∧ za (Below w.heap.size w w'))
 case atStart => exact ⟨(0), Zrs, H', ⟨Nat.le_refl _⟩, ⟨Zq2 HB⟩⟩
 case round =>
  clear H'
  (try clear c1);(try clear p2)
  obtain ⟨x9_1, rfl, HA, HK1, HB⟩ := hrel
  cases gk with
  | zero => exact absurd HA.out (by simp [ze.l0])
  | succ k1 =>
   have H := HA.out;clear HA;simp only [ze.l0] at H;by_cases c3 : x9_1 < (l1.length : Int)
   ·rw [if_pos c3] at H
    have c3b0 : decide (x9_1 < (l1.length : Int)) = true := decide_eq_true c3;clear c3;by_cases c4 : 0 ≤ x9_1
    ·rw [if_pos c4] at H
     have c4b0 : decide (0 ≤ x9_1) = true := decide_eq_true c4;clear c4;by_cases c5 : x9_1 < (l1.length : Int)
     ·rw [if_pos c5] at H
      have c5b0 : decide (x9_1 < (l1.length : Int)) = true := decide_eq_true c5;clear c5;by_cases c6 : ((zbd l1 x9_1).length : Int) = 2
      ·rw [if_pos c6] at H
       have c6b0 : (((zbd l1 x9_1).length : Int) == 2) = true := beq_iff_eq.mpr c6;have c6b1 : (((zbd l1 x9_1).length : Int) != 2) = false := bne_eq_false_iff_eq.mpr c6;clear c6;by_cases c7 : 0 < ((zbd l1 x9_1).length : Int)
       ·rw [if_pos c7] at H
        have c7b0 : decide (0 < ((zbd l1 x9_1).length : Int)) = true := decide_eq_true c7;have c7b1 : decide (0 < (zbd l1 x9_1).length) = true := decide_eq_true (by omega);clear c7;replace H := Option.bind_eq_some_iff.mp H;obtain ⟨t198, A80, H⟩ := H;replace H : (if t198 = true then (if 1 < ((zbd l1 x9_1).length : Int) then ((zco.f (rd (zbd l1 x9_1) 1) (rd (zbd l1 x9_1) 0) (wrap64 ((l0.length : Int) - 1))).bind fun t201 => (if t201 = true then (if (rd (zbd l1 x9_1) 0) = (rd (zbd l1 x9_1) 1) then (some false) else (ze.l0 k1 l0 l1 l1 (l1.length : Int) (wrap64 (x9_1 + 1)))) else (some false))) else (none)) else (some false)) = some r := H;have A8 := za.mk A80;clear A80;by_cases c9 : t198 = true
        ·subst c9
         have H1 : (if 1 < ((zbd l1 x9_1).length : Int) then ((zco.f (rd (zbd l1 x9_1) 1) (rd (zbd l1 x9_1) 0) (wrap64 ((l0.length : Int) - 1))).bind fun t201 => (if t201 = true then (if (rd (zbd l1 x9_1) 0) = (rd (zbd l1 x9_1) 1) then (some false) else (ze.l0 k1 l0 l1 l1 (l1.length : Int) (wrap64 (x9_1 + 1)))) else (some false))) else (none)) = some r := by rw [if_pos rfl] at H; exact H
         clear H;have H := H1;clear H1;by_cases c10 : 1 < ((zbd l1 x9_1).length : Int)
         ·rw [if_pos c10] at H
          have c10b0 : decide (1 < ((zbd l1 x9_1).length : Int)) = true := decide_eq_true c10;have c10b1 : decide (1 < (zbd l1 x9_1).length) = true := decide_eq_true (by omega);clear c10;replace H := Option.bind_eq_some_iff.mp H;obtain ⟨t201, A110, H⟩ := H;replace H : (if t201 = true then (if (rd (zbd l1 x9_1) 0) = (rd (zbd l1 x9_1) 1) then (some false) else (ze.l0 k1 l0 l1 l1 (l1.length : Int) (wrap64 (x9_1 + 1)))) else (some false)) = some r := H;have A11 := za.mk A110;clear A110;by_cases c12 : t201 = true
          ·subst c12
           have H1 : (if (rd (zbd l1 x9_1) 0) = (rd (zbd l1 x9_1) 1) then (some false) else (ze.l0 k1 l0 l1 l1 (l1.length : Int) (wrap64 (x9_1 + 1)))) = some r := by rw [if_pos rfl] at H; exact H
           clear H;have H := H1;clear H1;by_cases c13 : (rd (zbd l1 x9_1) 0) = (rd (zbd l1 x9_1) 1)
           ·rw [if_pos c13] at H
            have c13b0 : ((rd (zbd l1 x9_1) 0) == (rd (zbd l1 x9_1) 1)) = true := beq_iff_eq.mpr c13;have c13b1 : ((rd (zbd l1 x9_1) 0) != (rd (zbd l1 x9_1) 1)) = false := bne_eq_false_iff_eq.mpr c13;clear c13;obtain rfl := Option.some.inj H;have p196 : 0 ≤ (x9_1 : Int) := of_decide_eq_true Zas;have q196 : x9_1 < (l1.length : Int) := of_decide_eq_true Zas;obtain ⟨ad196, A196_0, c196_0, e196, hx196_0, hl196_0, hi196_0⟩ := zhg HR1.out x9_1 p196 q196
            cases e196
            replace hx196_0 := (HB.out.cell (World.block_lt_of_cell? w _ hx196_0)).trans hx196_0;have HR196_0 := za.mk hi196_0;have HC196_0 := za.mk hl196_0;clear hi196_0 hl196_0;replace p196 := eq_true p196;replace q196 := eq_true q196
            try go_wp2
            have n0_ := za.mk (zcm HB.out);clear HB;have HB := n0_;clear n0_;have p197 : 0 ≤ (0 : Int) := (by omega);have q197 : 0 < ((zbd l1 x9_1).length : Int) := of_decide_eq_true Zas;obtain ⟨ad197, e197, hx197_0⟩ := Kd.zck HR196_0.out 0 p197 q197;have hw197_0 := hx197_0;(try rw [show ((0 : Int)).toNat = 0 from rfl] at hw197_0);(try rw [show 0 * 1 = 0 from rfl] at hw197_0);(try rw [Addr.add_zero'] at hw197_0)
            cases e197
            have qi197 : (0 < (zbd l1 x9_1).length) = True := eq_true (by omega);(try rw [show ((0 : Int)).toNat = 0 from rfl] at hx197_0);(try rw [Addr.add_zero'] at hx197_0);replace hx197_0 := (HB.out.cell (World.block_lt_of_cell? w _ hx197_0)).trans hx197_0;replace p197 := eq_true p197;replace q197 := eq_true q197;have p199 : 0 ≤ (1 : Int) := (by omega);have q199 : 1 < ((zbd l1 x9_1).length : Int) := of_decide_eq_true Zas;obtain ⟨ad199, e199, hx199_0⟩ := Kd.zck HR196_0.out 1 p199 q199;have hw199_0 := hx199_0;(try rw [show ((1 : Int)).toNat = 1 from rfl] at hw199_0);(try rw [show 1 * 1 = 1 from rfl] at hw199_0);(try simp only [Nat.reduceMul, Nat.reduceEqDiff, Go.Addr.add, ↓reduceIte] at hw199_0);obtain rfl : ad197 = ad199 := (by injection e199);(try simp only [show (1 : Int).toNat = 1 from rfl, Nat.reduceMul, Nat.reduceEqDiff, Go.Addr.add, ↓reduceIte] at hx199_0);have qi199 : (1 < (zbd l1 x9_1).length) = True := eq_true (by omega);(try rw [show ((1 : Int)).toNat = 1 from rfl] at hx199_0);replace hx199_0 := (HB.out.cell (World.block_lt_of_cell? w _ hx199_0)).trans hx199_0;replace p199 := eq_true p199;replace q199 := eq_true q199;have p200 : 0 ≤ (0 : Int) := (by omega);have q200 : 0 < ((zbd l1 x9_1).length : Int) := of_decide_eq_true Zas;obtain ⟨ad200, e200, hx200_0⟩ := Kd.zck HR196_0.out 0 p200 q200;have hw200_0 := hx200_0;(try rw [show ((0 : Int)).toNat = 0 from rfl] at hw200_0);(try rw [show 0 * 1 = 0 from rfl] at hw200_0);(try rw [Addr.add_zero'] at hw200_0);obtain rfl : ad197 = ad200 := (by injection e200);have qi200 : (0 < (zbd l1 x9_1).length) = True := eq_true (by omega);(try rw [show ((0 : Int)).toNat = 0 from rfl] at hx200_0);(try rw [Addr.add_zero'] at hx200_0);replace hx200_0 := (HB.out.cell (World.block_lt_of_cell? w _ hx200_0)).trans hx200_0;replace p200 := eq_true p200;replace q200 := eq_true q200;have p202 : 0 ≤ (0 : Int) := (by omega);have q202 : 0 < ((zbd l1 x9_1).length : Int) := of_decide_eq_true Zas;obtain ⟨ad202, e202, hx202_0⟩ := Kd.zck HR196_0.out 0 p202 q202;have hw202_0 := hx202_0;(try rw [show ((0 : Int)).toNat = 0 from rfl] at hw202_0);(try rw [show 0 * 1 = 0 from rfl] at hw202_0);(try rw [Addr.add_zero'] at hw202_0);obtain rfl : ad197 = ad202 := (by injection e202);have qi202 : (0 < (zbd l1 x9_1).length) = True := eq_true (by omega);(try rw [show ((0 : Int)).toNat = 0 from rfl] at hx202_0);(try rw [Addr.add_zero'] at hx202_0);replace hx202_0 := (HB.out.cell (World.block_lt_of_cell? w _ hx202_0)).trans hx202_0;replace p202 := eq_true p202;replace q202 := eq_true q202;have p203 : 0 ≤ (1 : Int) := (by omega);have q203 : 1 < ((zbd l1 x9_1).length : Int) := of_decide_eq_true Zas;obtain ⟨ad203, e203, hx203_0⟩ := Kd.zck HR196_0.out 1 p203 q203;have hw203_0 := hx203_0;(try rw [show ((1 : Int)).toNat = 1 from rfl] at hw203_0);(try rw [show 1 * 1 = 1 from rfl] at hw203_0);(try simp only [Nat.reduceMul, Nat.reduceEqDiff, Go.Addr.add, ↓reduceIte] at hw203_0);obtain rfl : ad197 = ad203 := (by injection e203);(try simp only [show (1 : Int).toNat = 1 from rfl, Nat.reduceMul, Nat.reduceEqDiff, Go.Addr.add, ↓reduceIte] at hx203_0);have qi203 : (1 < (zbd l1 x9_1).length) = True := eq_true (by omega);(try rw [show ((1 : Int)).toNat = 1 from rfl] at hx203_0);replace hx203_0 := (HB.out.cell (World.block_lt_of_cell? w _ hx203_0)).trans hx203_0;replace p203 := eq_true p203;replace q203 := eq_true q203;refine ze1 (n := 35) (S := fun w' => w'.cell? ad197 = some (.int .i64 (rd (zbd l1 x9_1) 0)) ∧ w'.cell? ⟨ad197.block, ad197.off + 1, none⟩ = some (.int .i64 (rd (zbd l1 x9_1) 1)) ∧ w'.cell? ad197 = some (.int .i64 (rd (zbd l1 x9_1) 0)) ∧ w'.cell? ad197 = some (.int .i64 (rd (zbd l1 x9_1) 0)) ∧ w'.cell? ⟨ad197.block, ad197.off + 1, none⟩ = some (.int .i64 (rd (zbd l1 x9_1) 1))) (ds := []) #[false, false, false, false, false, false, false, false, false, false, false, false, false, false, false, false, false, false, false, false, false, false, false, false, false, false, false, false, false, false, false, false, false, false, false] (by kernel_rfl) rfl rfl ⟨((HB.out.cell (World.block_lt_of_cell? w _ hw197_0)).trans hw197_0), ((HB.out.cell (World.block_lt_of_cell? w _ hw199_0)).trans hw199_0), ((HB.out.cell (World.block_lt_of_cell? w _ hw200_0)).trans hw200_0), ((HB.out.cell (World.block_lt_of_cell? w _ hw202_0)).trans hw202_0), ((HB.out.cell (World.block_lt_of_cell? w _ hw203_0)).trans hw203_0)⟩ (fun hHeld => ?_); refine zdj ze.tab4 ze.bits4 (fun HT_ HW_ => ?_);generalize wr.drew = w14 at HB hx197_0 hx199_0 hx200_0 hx202_0 hx203_0 hHeld ⊢;refine z8 (i := 0) (N := some 13) (v := ?_) (a' := ?_) #[true, false, false, false, false, false, false, false, false, false, false, false, false, false, false, false, false, false, false, false, false, false, false, false, false, false, false, false, false, false, false, false, false, false, false] rfl rfl (zk HT_.out (by kernel_rfl)) (fun _ _ _ h => h) (Or.inl ⟨by rfl, ?_⟩) ?_ ?_;rotate_left
            ·intro w'
             go_simp;with_reducible rfl
            rotate_left
            ·simp only [Act.put, Zs1, Zs2, Zs3, zq, zt]
             rfl
            refine z8 (i := 1) (N := some 14) (v := ?_) (a' := ?_) #[true, true, false, false, false, false, false, false, false, false, false, false, false, false, false, false, false, false, false, false, false, false, false, false, false, false, false, false, false, false, false, false, false, false, false] rfl rfl (zk HT_.out (by kernel_rfl)) (fun _ _ _ h => h) (Or.inl ⟨by rfl, ?_⟩) ?_ ?_;rotate_left
            ·intro w'
             go_simp;with_reducible rfl
            rotate_left
            ·simp only [Act.put, Zs1, Zs2, Zs3, zq, zt]
             rfl
            refine z8 (i := 2) (N := some 15) (v := ?_) (a' := ?_) #[true, true, true, false, false, false, false, false, false, false, false, false, false, false, false, false, false, false, false, false, false, false, false, false, false, false, false, false, false, false, false, false, false, false, false] rfl rfl (zk HT_.out (by kernel_rfl)) (fun _ _ _ h => h) (Or.inl ⟨by rfl, ?_⟩) ?_ ?_;rotate_left
            ·intro w'
             go_simp;with_reducible rfl
            rotate_left
            ·simp only [Act.put, Zs1, Zs2, Zs3, zq, zt]
             rfl
            refine z8 (i := 3) (N := some 16) (v := ?_) (a' := ?_) #[true, true, true, true, false, false, false, false, false, false, false, false, false, false, false, false, false, false, false, false, false, false, false, false, false, false, false, false, false, false, false, false, false, false, false] rfl rfl (zk HT_.out (by kernel_rfl)) (fun _ _ _ h => h) (Or.inl ⟨by rfl, ?_⟩) ?_ ?_;rotate_left
            ·intro w'
             go_simp;with_reducible rfl
            rotate_left
            ·simp only [Act.put, Zs1, Zs2, Zs3, zq, zt]
             rfl
            refine z8 (i := 4) (N := some 17) (v := ?_) (a' := ?_) #[true, true, true, true, true, false, false, false, false, false, false, false, false, false, false, false, false, false, false, false, false, false, false, false, false, false, false, false, false, false, false, false, false, false, false] rfl rfl (zk HT_.out (by kernel_rfl)) (fun _ _ _ h => h) (Or.inl ⟨by rfl, ?_⟩) ?_ ?_;rotate_left
            ·intro w'
             go_simp;with_reducible rfl
            rotate_left
            ·simp only [Act.put, Zs1, Zs2, Zs3, zq, zt]
             rfl
            refine z8 (i := 5) (N := some 18) (v := ?_) (a' := ?_) #[true, true, true, true, true, true, false, false, false, false, false, false, false, false, false, false, false, false, false, false, false, false, false, false, false, false, false, false, false, false, false, false, false, false, false] rfl rfl (zk HT_.out (by kernel_rfl)) (fun _ _ _ h => h) (Or.inl ⟨by rfl, ?_⟩) ?_ ?_;rotate_left
            ·intro w'
             go_simp;with_reducible rfl
            rotate_left
            ·simp only [Act.put, Zs1, Zs2, Zs3, zq, zt]
             rfl
            refine z8 (i := 7) (N := some 20) (v := ?_) (a' := ?_) #[true, true, true, true, true, true, false, true, false, false, false, false, false, false, false, false, false, false, false, false, false, false, false, false, false, false, false, false, false, false, false, false, false, false, false] rfl rfl (zk HT_.out (by kernel_rfl)) (fun _ _ _ h => h) (Or.inl ⟨by rfl, ?_⟩) ?_ ?_;rotate_left
            ·intro w'
             go_simp;with_reducible rfl
            rotate_left
            ·simp only [Act.put, Zs1, Zs2, Zs3, zq, zt]
             rfl
            refine z8 (i := 8) (N := some 21) (v := ?_) (a' := ?_) #[true, true, true, true, true, true, false, true, true, false, false, false, false, false, false, false, false, false, false, false, false, false, false, false, false, false, false, false, false, false, false, false, false, false, false] rfl rfl (zk HT_.out (by kernel_rfl)) (fun _ _ _ h => h) (Or.inl ⟨by rfl, ?_⟩) ?_ ?_;rotate_left
            ·intro w'
             go_simp;with_reducible rfl
            rotate_left
            ·simp only [Act.put, Zs1, Zs2, Zs3, zq, zt]
             rfl
            refine z8 (i := 9) (N := some 22) (v := ?_) (a' := ?_) #[true, true, true, true, true, true, false, true, true, true, false, false, false, false, false, false, false, false, false, false, false, false, false, false, false, false, false, false, false, false, false, false, false, false, false] rfl rfl (zk HT_.out (by kernel_rfl)) (fun _ _ _ h => h) (Or.inl ⟨by rfl, ?_⟩) ?_ ?_;rotate_left
            ·intro w'
             go_simp;with_reducible rfl
            rotate_left
            ·simp only [Act.put, Zs1, Zs2, Zs3, zq, zt]
             rfl
            refine zdq (i := 6) (N := some 19) (v := ?_) (a' := ?_) #[true, true, true, true, true, true, true, true, true, true, false, false, false, false, false, false, false, false, false, false, false, false, false, false, false, false, false, false, false, false, false, false, false, false, false] rfl rfl (zcn HT_.out HW_.out (by kernel_rfl)) (fun _ _ _ h => h) (Or.inl ⟨by rfl, ?_⟩) hHeld ?_ ?_;rotate_left
            ·rintro w' ⟨s0, s1, s2, s3, s4⟩
             go_simp;with_reducible rfl
            rotate_left
            ·simp only [Act.put, Zs1, Zs2, Zs3, zq, zt]
             rfl
            refine one_ (i := 10) (N := some 23) #[true, true, true, true, true, true, true, true, true, true, true, false, false, false, false, false, false, false, false, false, false, false, false, false, false, false, false, false, false, false, false, false, false, false, false] rfl rfl (zdw HT_.out (by kernel_rfl)) (by decide) (fun K hK => ?_);refine zgn Try.func52 (by kernel_rfl) rfl #[.int .i64 (rd (zbd l1 x9_1) 0), .int .i64 0, .int .i64 (wrap64 ((l0.length : Int) - 1))] (by rfl) rfl rfl Zmt ?_;with_reducible refine (zco.calls (rd (zbd l1 x9_1) 0) 0 (wrap64 ((l0.length : Int) - 1)) true _ A8.out).mono ?_
            rintro e w' ⟨rfl, ⟨nd, rfl⟩⟩;refine ⟨_, rfl, ?_⟩;refine hK.out _ _ ⟨((HB.out.cell (World.block_lt_of_cell? w _ hw197_0)).trans hw197_0), ((HB.out.cell (World.block_lt_of_cell? w _ hw199_0)).trans hw199_0), ((HB.out.cell (World.block_lt_of_cell? w _ hw200_0)).trans hw200_0), ((HB.out.cell (World.block_lt_of_cell? w _ hw202_0)).trans hw202_0), ((HB.out.cell (World.block_lt_of_cell? w _ hw203_0)).trans hw203_0)⟩ (fun hHeld => ?_);clear hK K;refine zfh (a' := ?_) ?_ ?_;rotate_left
            ·show Act.put _ (some 23) _ = _
             simp only [Act.put, Zs1, Zs2, Zs3, zq, zt];rfl
            refine z8 (i := 11) (N := some 24) (v := ?_) (a' := ?_) #[true, true, true, true, true, true, true, true, true, true, true, true, false, false, false, false, false, false, false, false, false, false, false, false, false, false, false, false, false, false, false, false, false, false, false] rfl rfl (zk HT_.out (by kernel_rfl)) (fun _ _ _ h => h) (Or.inl ⟨by rfl, ?_⟩) ?_ ?_;rotate_left
            ·intro w'
             go_simp;with_reducible rfl
            rotate_left
            ·simp only [Act.put, Zs1, Zs2, Zs3, zq, zt]
             rfl
            refine z8 (i := 12) (N := some 25) (v := ?_) (a' := ?_) #[true, true, true, true, true, true, true, true, true, true, true, true, true, false, false, false, false, false, false, false, false, false, false, false, false, false, false, false, false, false, false, false, false, false, false] rfl rfl (zk HT_.out (by kernel_rfl)) (fun _ _ _ h => h) (Or.inl ⟨by rfl, ?_⟩) ?_ ?_;rotate_left
            ·intro w'
             go_simp;with_reducible rfl
            rotate_left
            ·simp only [Act.put, Zs1, Zs2, Zs3, zq, zt]
             rfl
            refine z8 (i := 13) (N := some 26) (v := ?_) (a' := ?_) #[true, true, true, true, true, true, true, true, true, true, true, true, true, true, false, false, false, false, false, false, false, false, false, false, false, false, false, false, false, false, false, false, false, false, false] rfl rfl (zk HT_.out (by kernel_rfl)) (fun _ _ _ h => h) (Or.inl ⟨by rfl, ?_⟩) ?_ ?_;rotate_left
            ·intro w'
             go_simp;with_reducible rfl
            rotate_left
            ·simp only [Act.put, Zs1, Zs2, Zs3, zq, zt]
             rfl
            refine z8 (i := 14) (N := some 27) (v := ?_) (a' := ?_) #[true, true, true, true, true, true, true, true, true, true, true, true, true, true, true, false, false, false, false, false, false, false, false, false, false, false, false, false, false, false, false, false, false, false, false] rfl rfl (zk HT_.out (by kernel_rfl)) (fun _ _ _ h => h) (Or.inl ⟨by rfl, ?_⟩) ?_ ?_;rotate_left
            ·intro w'
             go_simp;with_reducible rfl
            rotate_left
            ·simp only [Act.put, Zs1, Zs2, Zs3, zq, zt]
             rfl
            refine z8 (i := 15) (N := some 28) (v := ?_) (a' := ?_) #[true, true, true, true, true, true, true, true, true, true, true, true, true, true, true, true, false, false, false, false, false, false, false, false, false, false, false, false, false, false, false, false, false, false, false] rfl rfl (zk HT_.out (by kernel_rfl)) (fun _ _ _ h => h) (Or.inl ⟨by rfl, ?_⟩) ?_ ?_;rotate_left
            ·intro w'
             go_simp;with_reducible rfl
            rotate_left
            ·simp only [Act.put, Zs1, Zs2, Zs3, zq, zt]
             rfl
            refine z8 (i := 17) (N := some 30) (v := ?_) (a' := ?_) #[true, true, true, true, true, true, true, true, true, true, true, true, true, true, true, true, false, true, false, false, false, false, false, false, false, false, false, false, false, false, false, false, false, false, false] rfl rfl (zk HT_.out (by kernel_rfl)) (fun _ _ _ h => h) (Or.inl ⟨by rfl, ?_⟩) ?_ ?_;rotate_left
            ·intro w'
             go_simp;with_reducible rfl
            rotate_left
            ·simp only [Act.put, Zs1, Zs2, Zs3, zq, zt]
             rfl
            refine z8 (i := 18) (N := some 31) (v := ?_) (a' := ?_) #[true, true, true, true, true, true, true, true, true, true, true, true, true, true, true, true, false, true, true, false, false, false, false, false, false, false, false, false, false, false, false, false, false, false, false] rfl rfl (zk HT_.out (by kernel_rfl)) (fun _ _ _ h => h) (Or.inl ⟨by rfl, ?_⟩) ?_ ?_;rotate_left
            ·intro w'
             go_simp;with_reducible rfl
            rotate_left
            ·simp only [Act.put, Zs1, Zs2, Zs3, zq, zt]
             rfl
            refine z8 (i := 20) (N := some 33) (v := ?_) (a' := ?_) #[true, true, true, true, true, true, true, true, true, true, true, true, true, true, true, true, false, true, true, false, true, false, false, false, false, false, false, false, false, false, false, false, false, false, false] rfl rfl (zk HT_.out (by kernel_rfl)) (fun _ _ _ h => h) (Or.inl ⟨by rfl, ?_⟩) ?_ ?_;rotate_left
            ·intro w'
             go_simp;with_reducible rfl
            rotate_left
            ·simp only [Act.put, Zs1, Zs2, Zs3, zq, zt]
             rfl
            refine z8 (i := 21) (N := some 34) (v := ?_) (a' := ?_) #[true, true, true, true, true, true, true, true, true, true, true, true, true, true, true, true, false, true, true, false, true, true, false, false, false, false, false, false, false, false, false, false, false, false, false] rfl rfl (zk HT_.out (by kernel_rfl)) (fun _ _ _ h => h) (Or.inl ⟨by rfl, ?_⟩) ?_ ?_;rotate_left
            ·intro w'
             go_simp;with_reducible rfl
            rotate_left
            ·simp only [Act.put, Zs1, Zs2, Zs3, zq, zt]
             rfl
            refine z8 (i := 22) (N := some 35) (v := ?_) (a' := ?_) #[true, true, true, true, true, true, true, true, true, true, true, true, true, true, true, true, false, true, true, false, true, true, true, false, false, false, false, false, false, false, false, false, false, false, false] rfl rfl (zk HT_.out (by kernel_rfl)) (fun _ _ _ h => h) (Or.inl ⟨by rfl, ?_⟩) ?_ ?_;rotate_left
            ·intro w'
             go_simp;with_reducible rfl
            rotate_left
            ·simp only [Act.put, Zs1, Zs2, Zs3, zq, zt]
             rfl
            refine zdq (i := 16) (N := some 29) (v := ?_) (a' := ?_) #[true, true, true, true, true, true, true, true, true, true, true, true, true, true, true, true, true, true, true, false, true, true, true, false, false, false, false, false, false, false, false, false, false, false, false] rfl rfl (zcn HT_.out HW_.out (by kernel_rfl)) (fun _ _ _ h => h) (Or.inl ⟨by rfl, ?_⟩) hHeld ?_ ?_;rotate_left
            ·rintro w' ⟨s0, s1, s2, s3, s4⟩
             go_simp;with_reducible rfl
            rotate_left
            ·simp only [Act.put, Zs1, Zs2, Zs3, zq, zt]
             rfl
            refine zdq (i := 19) (N := some 32) (v := ?_) (a' := ?_) #[true, true, true, true, true, true, true, true, true, true, true, true, true, true, true, true, true, true, true, true, true, true, true, false, false, false, false, false, false, false, false, false, false, false, false] rfl rfl (zcn HT_.out HW_.out (by kernel_rfl)) (fun _ _ _ h => h) (Or.inl ⟨by rfl, ?_⟩) hHeld ?_ ?_;rotate_left
            ·rintro w' ⟨s0, s1, s2, s3, s4⟩
             go_simp;with_reducible rfl
            rotate_left
            ·simp only [Act.put, Zs1, Zs2, Zs3, zq, zt]
             rfl
            refine one_ (i := 23) (N := some 36) #[true, true, true, true, true, true, true, true, true, true, true, true, true, true, true, true, true, true, true, true, true, true, true, true, false, false, false, false, false, false, false, false, false, false, false] rfl rfl (zdw HT_.out (by kernel_rfl)) (by decide) (fun K hK => ?_);refine zgn Try.func52 (by kernel_rfl) rfl #[.int .i64 (rd (zbd l1 x9_1) 1), .int .i64 (rd (zbd l1 x9_1) 0), .int .i64 (wrap64 ((l0.length : Int) - 1))] (by rfl) rfl rfl Zmt ?_;with_reducible refine (zco.calls (rd (zbd l1 x9_1) 1) (rd (zbd l1 x9_1) 0) (wrap64 ((l0.length : Int) - 1)) true _ A11.out).mono ?_
            rintro e w' ⟨rfl, ⟨nd, rfl⟩⟩;refine ⟨_, rfl, ?_⟩;refine hK.out _ _ ⟨((HB.out.cell (World.block_lt_of_cell? w _ hw197_0)).trans hw197_0), ((HB.out.cell (World.block_lt_of_cell? w _ hw199_0)).trans hw199_0), ((HB.out.cell (World.block_lt_of_cell? w _ hw200_0)).trans hw200_0), ((HB.out.cell (World.block_lt_of_cell? w _ hw202_0)).trans hw202_0), ((HB.out.cell (World.block_lt_of_cell? w _ hw203_0)).trans hw203_0)⟩ (fun hHeld => ?_);clear hK K;refine zfh (a' := ?_) ?_ ?_;rotate_left
            ·show Act.put _ (some 36) _ = _
             simp only [Act.put, Zs1, Zs2, Zs3, zq, zt];rfl
            refine z8 (i := 24) (N := some 37) (v := ?_) (a' := ?_) #[true, true, true, true, true, true, true, true, true, true, true, true, true, true, true, true, true, true, true, true, true, true, true, true, true, false, false, false, false, false, false, false, false, false, false] rfl rfl (zk HT_.out (by kernel_rfl)) (fun _ _ _ h => h) (Or.inl ⟨by rfl, ?_⟩) ?_ ?_;rotate_left
            ·intro w'
             go_simp;with_reducible rfl
            rotate_left
            ·simp only [Act.put, Zs1, Zs2, Zs3, zq, zt]
             rfl
            refine z8 (i := 25) (N := some 38) (v := ?_) (a' := ?_) #[true, true, true, true, true, true, true, true, true, true, true, true, true, true, true, true, true, true, true, true, true, true, true, true, true, true, false, false, false, false, false, false, false, false, false] rfl rfl (zk HT_.out (by kernel_rfl)) (fun _ _ _ h => h) (Or.inl ⟨by rfl, ?_⟩) ?_ ?_;rotate_left
            ·intro w'
             go_simp;with_reducible rfl
            rotate_left
            ·simp only [Act.put, Zs1, Zs2, Zs3, zq, zt]
             rfl
            refine z8 (i := 26) (N := some 39) (v := ?_) (a' := ?_) #[true, true, true, true, true, true, true, true, true, true, true, true, true, true, true, true, true, true, true, true, true, true, true, true, true, true, true, false, false, false, false, false, false, false, false] rfl rfl (zk HT_.out (by kernel_rfl)) (fun _ _ _ h => h) (Or.inl ⟨by rfl, ?_⟩) ?_ ?_;rotate_left
            ·intro w'
             go_simp;with_reducible rfl
            rotate_left
            ·simp only [Act.put, Zs1, Zs2, Zs3, zq, zt]
             rfl
            refine z8 (i := 27) (N := some 40) (v := ?_) (a' := ?_) #[true, true, true, true, true, true, true, true, true, true, true, true, true, true, true, true, true, true, true, true, true, true, true, true, true, true, true, true, false, false, false, false, false, false, false] rfl rfl (zk HT_.out (by kernel_rfl)) (fun _ _ _ h => h) (Or.inl ⟨by rfl, ?_⟩) ?_ ?_;rotate_left
            ·intro w'
             go_simp;with_reducible rfl
            rotate_left
            ·simp only [Act.put, Zs1, Zs2, Zs3, zq, zt]
             rfl
            refine z8 (i := 28) (N := some 41) (v := ?_) (a' := ?_) #[true, true, true, true, true, true, true, true, true, true, true, true, true, true, true, true, true, true, true, true, true, true, true, true, true, true, true, true, true, false, false, false, false, false, false] rfl rfl (zk HT_.out (by kernel_rfl)) (fun _ _ _ h => h) (Or.inl ⟨by rfl, ?_⟩) ?_ ?_;rotate_left
            ·intro w'
             go_simp;with_reducible rfl
            rotate_left
            ·simp only [Act.put, Zs1, Zs2, Zs3, zq, zt]
             rfl
            refine z8 (i := 30) (N := some 43) (v := ?_) (a' := ?_) #[true, true, true, true, true, true, true, true, true, true, true, true, true, true, true, true, true, true, true, true, true, true, true, true, true, true, true, true, true, false, true, false, false, false, false] rfl rfl (zk HT_.out (by kernel_rfl)) (fun _ _ _ h => h) (Or.inl ⟨by rfl, ?_⟩) ?_ ?_;rotate_left
            ·intro w'
             go_simp;with_reducible rfl
            rotate_left
            ·simp only [Act.put, Zs1, Zs2, Zs3, zq, zt]
             rfl
            refine z8 (i := 31) (N := some 44) (v := ?_) (a' := ?_) #[true, true, true, true, true, true, true, true, true, true, true, true, true, true, true, true, true, true, true, true, true, true, true, true, true, true, true, true, true, false, true, true, false, false, false] rfl rfl (zk HT_.out (by kernel_rfl)) (fun _ _ _ h => h) (Or.inl ⟨by rfl, ?_⟩) ?_ ?_;rotate_left
            ·intro w'
             go_simp;with_reducible rfl
            rotate_left
            ·simp only [Act.put, Zs1, Zs2, Zs3, zq, zt]
             rfl
            refine zdq (i := 29) (N := some 42) (v := ?_) (a' := ?_) #[true, true, true, true, true, true, true, true, true, true, true, true, true, true, true, true, true, true, true, true, true, true, true, true, true, true, true, true, true, true, true, true, false, false, false] rfl rfl (zcn HT_.out HW_.out (by kernel_rfl)) (fun _ _ _ h => h) (Or.inl ⟨by rfl, ?_⟩) hHeld ?_ ?_;rotate_left
            ·rintro w' ⟨s0, s1, s2, s3, s4⟩
             go_simp;with_reducible rfl
            rotate_left
            ·simp only [Act.put, Zs1, Zs2, Zs3, zq, zt]
             rfl
            refine zdq (i := 32) (N := some 45) (v := ?_) (a' := ?_) #[true, true, true, true, true, true, true, true, true, true, true, true, true, true, true, true, true, true, true, true, true, true, true, true, true, true, true, true, true, true, true, true, true, false, false] rfl rfl (zcn HT_.out HW_.out (by kernel_rfl)) (fun _ _ _ h => h) (Or.inl ⟨by rfl, ?_⟩) hHeld ?_ ?_;rotate_left
            ·rintro w' ⟨s0, s1, s2, s3, s4⟩
             go_simp;with_reducible rfl
            rotate_left
            ·simp only [Act.put, Zs1, Zs2, Zs3, zq, zt]
             rfl
            refine z8 (i := 33) (N := some 46) (v := ?_) (a' := ?_) #[true, true, true, true, true, true, true, true, true, true, true, true, true, true, true, true, true, true, true, true, true, true, true, true, true, true, true, true, true, true, true, true, true, true, false] rfl rfl (zk HT_.out (by kernel_rfl)) (fun _ _ _ h => h) (Or.inl ⟨by rfl, ?_⟩) ?_ ?_;rotate_left
            ·intro w'
             go_simp;with_reducible rfl
            rotate_left
            ·simp only [Act.put, Zs1, Zs2, Zs3, zq, zt]
             rfl
            refine z8 (i := 34) (N := some 47) (v := ?_) (a' := ?_) #[true, true, true, true, true, true, true, true, true, true, true, true, true, true, true, true, true, true, true, true, true, true, true, true, true, true, true, true, true, true, true, true, true, true, true] rfl rfl (zk HT_.out (by kernel_rfl)) (fun _ _ _ h => h) (Or.inl ⟨by rfl, ?_⟩) ?_ ?_;rotate_left
            ·intro w'
             go_simp;with_reducible rfl
            rotate_left
            ·simp only [Act.put, Zs1, Zs2, Zs3, zq, zt]
             rfl
            refine zg9 (zd8 HT_.out (by kernel_rfl)) ?_
            try go_wp2
            go_ret;exact ⟨by first | rfl | (simp [zbn, zbo] <;> rfl) | (simp [*, zbn, zbo] <;> rfl), Zq2 HB⟩
           ·rw [if_neg c13] at H
            have c13b0 : ((rd (zbd l1 x9_1) 0) == (rd (zbd l1 x9_1) 1)) = false := beq_eq_false_iff_ne.mpr c13;have c13b1 : ((rd (zbd l1 x9_1) 0) != (rd (zbd l1 x9_1) 1)) = true := bne_iff_ne.mpr c13;have H' := za.mk H;clear H;have p196 : 0 ≤ (x9_1 : Int) := of_decide_eq_true Zas;have q196 : x9_1 < (l1.length : Int) := of_decide_eq_true Zas;obtain ⟨ad196, A196_0, c196_0, e196, hx196_0, hl196_0, hi196_0⟩ := zhg HR1.out x9_1 p196 q196
            cases e196
            replace hx196_0 := (HB.out.cell (World.block_lt_of_cell? w _ hx196_0)).trans hx196_0;have HR196_0 := za.mk hi196_0;have HC196_0 := za.mk hl196_0;clear hi196_0 hl196_0;replace p196 := eq_true p196;replace q196 := eq_true q196
            try go_wp2
            have n0_ := za.mk (zcm HB.out);clear HB;have HB := n0_;clear n0_;have p197 : 0 ≤ (0 : Int) := (by omega);have q197 : 0 < ((zbd l1 x9_1).length : Int) := of_decide_eq_true Zas;obtain ⟨ad197, e197, hx197_0⟩ := Kd.zck HR196_0.out 0 p197 q197;have hw197_0 := hx197_0;(try rw [show ((0 : Int)).toNat = 0 from rfl] at hw197_0);(try rw [show 0 * 1 = 0 from rfl] at hw197_0);(try rw [Addr.add_zero'] at hw197_0)
            cases e197
            have qi197 : (0 < (zbd l1 x9_1).length) = True := eq_true (by omega);(try rw [show ((0 : Int)).toNat = 0 from rfl] at hx197_0);(try rw [Addr.add_zero'] at hx197_0);replace hx197_0 := (HB.out.cell (World.block_lt_of_cell? w _ hx197_0)).trans hx197_0;replace p197 := eq_true p197;replace q197 := eq_true q197;have p199 : 0 ≤ (1 : Int) := (by omega);have q199 : 1 < ((zbd l1 x9_1).length : Int) := of_decide_eq_true Zas;obtain ⟨ad199, e199, hx199_0⟩ := Kd.zck HR196_0.out 1 p199 q199;have hw199_0 := hx199_0;(try rw [show ((1 : Int)).toNat = 1 from rfl] at hw199_0);(try rw [show 1 * 1 = 1 from rfl] at hw199_0);(try simp only [Nat.reduceMul, Nat.reduceEqDiff, Go.Addr.add, ↓reduceIte] at hw199_0);obtain rfl : ad197 = ad199 := (by injection e199);(try simp only [show (1 : Int).toNat = 1 from rfl, Nat.reduceMul, Nat.reduceEqDiff, Go.Addr.add, ↓reduceIte] at hx199_0);have qi199 : (1 < (zbd l1 x9_1).length) = True := eq_true (by omega);(try rw [show ((1 : Int)).toNat = 1 from rfl] at hx199_0);replace hx199_0 := (HB.out.cell (World.block_lt_of_cell? w _ hx199_0)).trans hx199_0;replace p199 := eq_true p199;replace q199 := eq_true q199;have p200 : 0 ≤ (0 : Int) := (by omega);have q200 : 0 < ((zbd l1 x9_1).length : Int) := of_decide_eq_true Zas;obtain ⟨ad200, e200, hx200_0⟩ := Kd.zck HR196_0.out 0 p200 q200;have hw200_0 := hx200_0;(try rw [show ((0 : Int)).toNat = 0 from rfl] at hw200_0);(try rw [show 0 * 1 = 0 from rfl] at hw200_0);(try rw [Addr.add_zero'] at hw200_0);obtain rfl : ad197 = ad200 := (by injection e200);have qi200 : (0 < (zbd l1 x9_1).length) = True := eq_true (by omega);(try rw [show ((0 : Int)).toNat = 0 from rfl] at hx200_0);(try rw [Addr.add_zero'] at hx200_0);replace hx200_0 := (HB.out.cell (World.block_lt_of_cell? w _ hx200_0)).trans hx200_0;replace p200 := eq_true p200;replace q200 := eq_true q200;have p202 : 0 ≤ (0 : Int) := (by omega);have q202 : 0 < ((zbd l1 x9_1).length : Int) := of_decide_eq_true Zas;obtain ⟨ad202, e202, hx202_0⟩ := Kd.zck HR196_0.out 0 p202 q202;have hw202_0 := hx202_0;(try rw [show ((0 : Int)).toNat = 0 from rfl] at hw202_0);(try rw [show 0 * 1 = 0 from rfl] at hw202_0);(try rw [Addr.add_zero'] at hw202_0);obtain rfl : ad197 = ad202 := (by injection e202);have qi202 : (0 < (zbd l1 x9_1).length) = True := eq_true (by omega);(try rw [show ((0 : Int)).toNat = 0 from rfl] at hx202_0);(try rw [Addr.add_zero'] at hx202_0);replace hx202_0 := (HB.out.cell (World.block_lt_of_cell? w _ hx202_0)).trans hx202_0;replace p202 := eq_true p202;replace q202 := eq_true q202;have p203 : 0 ≤ (1 : Int) := (by omega);have q203 : 1 < ((zbd l1 x9_1).length : Int) := of_decide_eq_true Zas;obtain ⟨ad203, e203, hx203_0⟩ := Kd.zck HR196_0.out 1 p203 q203;have hw203_0 := hx203_0;(try rw [show ((1 : Int)).toNat = 1 from rfl] at hw203_0);(try rw [show 1 * 1 = 1 from rfl] at hw203_0);(try simp only [Nat.reduceMul, Nat.reduceEqDiff, Go.Addr.add, ↓reduceIte] at hw203_0);obtain rfl : ad197 = ad203 := (by injection e203);(try simp only [show (1 : Int).toNat = 1 from rfl, Nat.reduceMul, Nat.reduceEqDiff, Go.Addr.add, ↓reduceIte] at hx203_0);have qi203 : (1 < (zbd l1 x9_1).length) = True := eq_true (by omega);(try rw [show ((1 : Int)).toNat = 1 from rfl] at hx203_0);replace hx203_0 := (HB.out.cell (World.block_lt_of_cell? w _ hx203_0)).trans hx203_0;replace p203 := eq_true p203;replace q203 := eq_true q203;refine ze1 (n := 35) (S := fun w' => w'.cell? ad197 = some (.int .i64 (rd (zbd l1 x9_1) 0)) ∧ w'.cell? ⟨ad197.block, ad197.off + 1, none⟩ = some (.int .i64 (rd (zbd l1 x9_1) 1)) ∧ w'.cell? ad197 = some (.int .i64 (rd (zbd l1 x9_1) 0)) ∧ w'.cell? ad197 = some (.int .i64 (rd (zbd l1 x9_1) 0)) ∧ w'.cell? ⟨ad197.block, ad197.off + 1, none⟩ = some (.int .i64 (rd (zbd l1 x9_1) 1))) (ds := []) #[false, false, false, false, false, false, false, false, false, false, false, false, false, false, false, false, false, false, false, false, false, false, false, false, false, false, false, false, false, false, false, false, false, false, false] (by kernel_rfl) rfl rfl ⟨((HB.out.cell (World.block_lt_of_cell? w _ hw197_0)).trans hw197_0), ((HB.out.cell (World.block_lt_of_cell? w _ hw199_0)).trans hw199_0), ((HB.out.cell (World.block_lt_of_cell? w _ hw200_0)).trans hw200_0), ((HB.out.cell (World.block_lt_of_cell? w _ hw202_0)).trans hw202_0), ((HB.out.cell (World.block_lt_of_cell? w _ hw203_0)).trans hw203_0)⟩ (fun hHeld => ?_); refine zdj ze.tab4 ze.bits4 (fun HT_ HW_ => ?_);generalize wr.drew = w15 at HB hx197_0 hx199_0 hx200_0 hx202_0 hx203_0 hHeld ⊢;refine z8 (i := 0) (N := some 13) (v := ?_) (a' := ?_) #[true, false, false, false, false, false, false, false, false, false, false, false, false, false, false, false, false, false, false, false, false, false, false, false, false, false, false, false, false, false, false, false, false, false, false] rfl rfl (zk HT_.out (by kernel_rfl)) (fun _ _ _ h => h) (Or.inl ⟨by rfl, ?_⟩) ?_ ?_;rotate_left
            ·intro w'
             go_simp;with_reducible rfl
            rotate_left
            ·simp only [Act.put, Zs1, Zs2, Zs3, zq, zt]
             rfl
            refine z8 (i := 1) (N := some 14) (v := ?_) (a' := ?_) #[true, true, false, false, false, false, false, false, false, false, false, false, false, false, false, false, false, false, false, false, false, false, false, false, false, false, false, false, false, false, false, false, false, false, false] rfl rfl (zk HT_.out (by kernel_rfl)) (fun _ _ _ h => h) (Or.inl ⟨by rfl, ?_⟩) ?_ ?_;rotate_left
            ·intro w'
             go_simp;with_reducible rfl
            rotate_left
            ·simp only [Act.put, Zs1, Zs2, Zs3, zq, zt]
             rfl
            refine z8 (i := 2) (N := some 15) (v := ?_) (a' := ?_) #[true, true, true, false, false, false, false, false, false, false, false, false, false, false, false, false, false, false, false, false, false, false, false, false, false, false, false, false, false, false, false, false, false, false, false] rfl rfl (zk HT_.out (by kernel_rfl)) (fun _ _ _ h => h) (Or.inl ⟨by rfl, ?_⟩) ?_ ?_;rotate_left
            ·intro w'
             go_simp;with_reducible rfl
            rotate_left
            ·simp only [Act.put, Zs1, Zs2, Zs3, zq, zt]
             rfl
            refine z8 (i := 3) (N := some 16) (v := ?_) (a' := ?_) #[true, true, true, true, false, false, false, false, false, false, false, false, false, false, false, false, false, false, false, false, false, false, false, false, false, false, false, false, false, false, false, false, false, false, false] rfl rfl (zk HT_.out (by kernel_rfl)) (fun _ _ _ h => h) (Or.inl ⟨by rfl, ?_⟩) ?_ ?_;rotate_left
            ·intro w'
             go_simp;with_reducible rfl
            rotate_left
            ·simp only [Act.put, Zs1, Zs2, Zs3, zq, zt]
             rfl
            refine z8 (i := 4) (N := some 17) (v := ?_) (a' := ?_) #[true, true, true, true, true, false, false, false, false, false, false, false, false, false, false, false, false, false, false, false, false, false, false, false, false, false, false, false, false, false, false, false, false, false, false] rfl rfl (zk HT_.out (by kernel_rfl)) (fun _ _ _ h => h) (Or.inl ⟨by rfl, ?_⟩) ?_ ?_;rotate_left
            ·intro w'
             go_simp;with_reducible rfl
            rotate_left
            ·simp only [Act.put, Zs1, Zs2, Zs3, zq, zt]
             rfl
            refine z8 (i := 5) (N := some 18) (v := ?_) (a' := ?_) #[true, true, true, true, true, true, false, false, false, false, false, false, false, false, false, false, false, false, false, false, false, false, false, false, false, false, false, false, false, false, false, false, false, false, false] rfl rfl (zk HT_.out (by kernel_rfl)) (fun _ _ _ h => h) (Or.inl ⟨by rfl, ?_⟩) ?_ ?_;rotate_left
            ·intro w'
             go_simp;with_reducible rfl
            rotate_left
            ·simp only [Act.put, Zs1, Zs2, Zs3, zq, zt]
             rfl
            refine z8 (i := 7) (N := some 20) (v := ?_) (a' := ?_) #[true, true, true, true, true, true, false, true, false, false, false, false, false, false, false, false, false, false, false, false, false, false, false, false, false, false, false, false, false, false, false, false, false, false, false] rfl rfl (zk HT_.out (by kernel_rfl)) (fun _ _ _ h => h) (Or.inl ⟨by rfl, ?_⟩) ?_ ?_;rotate_left
            ·intro w'
             go_simp;with_reducible rfl
            rotate_left
            ·simp only [Act.put, Zs1, Zs2, Zs3, zq, zt]
             rfl
            refine z8 (i := 8) (N := some 21) (v := ?_) (a' := ?_) #[true, true, true, true, true, true, false, true, true, false, false, false, false, false, false, false, false, false, false, false, false, false, false, false, false, false, false, false, false, false, false, false, false, false, false] rfl rfl (zk HT_.out (by kernel_rfl)) (fun _ _ _ h => h) (Or.inl ⟨by rfl, ?_⟩) ?_ ?_;rotate_left
            ·intro w'
             go_simp;with_reducible rfl
            rotate_left
            ·simp only [Act.put, Zs1, Zs2, Zs3, zq, zt]
             rfl
            refine z8 (i := 9) (N := some 22) (v := ?_) (a' := ?_) #[true, true, true, true, true, true, false, true, true, true, false, false, false, false, false, false, false, false, false, false, false, false, false, false, false, false, false, false, false, false, false, false, false, false, false] rfl rfl (zk HT_.out (by kernel_rfl)) (fun _ _ _ h => h) (Or.inl ⟨by rfl, ?_⟩) ?_ ?_;rotate_left
            ·intro w'
             go_simp;with_reducible rfl
            rotate_left
            ·simp only [Act.put, Zs1, Zs2, Zs3, zq, zt]
             rfl
            refine zdq (i := 6) (N := some 19) (v := ?_) (a' := ?_) #[true, true, true, true, true, true, true, true, true, true, false, false, false, false, false, false, false, false, false, false, false, false, false, false, false, false, false, false, false, false, false, false, false, false, false] rfl rfl (zcn HT_.out HW_.out (by kernel_rfl)) (fun _ _ _ h => h) (Or.inl ⟨by rfl, ?_⟩) hHeld ?_ ?_;rotate_left
            ·rintro w' ⟨s0, s1, s2, s3, s4⟩
             go_simp;with_reducible rfl
            rotate_left
            ·simp only [Act.put, Zs1, Zs2, Zs3, zq, zt]
             rfl
            refine one_ (i := 10) (N := some 23) #[true, true, true, true, true, true, true, true, true, true, true, false, false, false, false, false, false, false, false, false, false, false, false, false, false, false, false, false, false, false, false, false, false, false, false] rfl rfl (zdw HT_.out (by kernel_rfl)) (by decide) (fun K hK => ?_);refine zgn Try.func52 (by kernel_rfl) rfl #[.int .i64 (rd (zbd l1 x9_1) 0), .int .i64 0, .int .i64 (wrap64 ((l0.length : Int) - 1))] (by rfl) rfl rfl Zmt ?_;with_reducible refine (zco.calls (rd (zbd l1 x9_1) 0) 0 (wrap64 ((l0.length : Int) - 1)) true _ A8.out).mono ?_
            rintro e w' ⟨rfl, ⟨nd, rfl⟩⟩;refine ⟨_, rfl, ?_⟩;refine hK.out _ _ ⟨((HB.out.cell (World.block_lt_of_cell? w _ hw197_0)).trans hw197_0), ((HB.out.cell (World.block_lt_of_cell? w _ hw199_0)).trans hw199_0), ((HB.out.cell (World.block_lt_of_cell? w _ hw200_0)).trans hw200_0), ((HB.out.cell (World.block_lt_of_cell? w _ hw202_0)).trans hw202_0), ((HB.out.cell (World.block_lt_of_cell? w _ hw203_0)).trans hw203_0)⟩ (fun hHeld => ?_);clear hK K;refine zfh (a' := ?_) ?_ ?_;rotate_left
            ·show Act.put _ (some 23) _ = _
             simp only [Act.put, Zs1, Zs2, Zs3, zq, zt];rfl
            refine z8 (i := 11) (N := some 24) (v := ?_) (a' := ?_) #[true, true, true, true, true, true, true, true, true, true, true, true, false, false, false, false, false, false, false, false, false, false, false, false, false, false, false, false, false, false, false, false, false, false, false] rfl rfl (zk HT_.out (by kernel_rfl)) (fun _ _ _ h => h) (Or.inl ⟨by rfl, ?_⟩) ?_ ?_;rotate_left
            ·intro w'
             go_simp;with_reducible rfl
            rotate_left
            ·simp only [Act.put, Zs1, Zs2, Zs3, zq, zt]
             rfl
            refine z8 (i := 12) (N := some 25) (v := ?_) (a' := ?_) #[true, true, true, true, true, true, true, true, true, true, true, true, true, false, false, false, false, false, false, false, false, false, false, false, false, false, false, false, false, false, false, false, false, false, false] rfl rfl (zk HT_.out (by kernel_rfl)) (fun _ _ _ h => h) (Or.inl ⟨by rfl, ?_⟩) ?_ ?_;rotate_left
            ·intro w'
             go_simp;with_reducible rfl
            rotate_left
            ·simp only [Act.put, Zs1, Zs2, Zs3, zq, zt]
             rfl
            refine z8 (i := 13) (N := some 26) (v := ?_) (a' := ?_) #[true, true, true, true, true, true, true, true, true, true, true, true, true, true, false, false, false, false, false, false, false, false, false, false, false, false, false, false, false, false, false, false, false, false, false] rfl rfl (zk HT_.out (by kernel_rfl)) (fun _ _ _ h => h) (Or.inl ⟨by rfl, ?_⟩) ?_ ?_;rotate_left
            ·intro w'
             go_simp;with_reducible rfl
            rotate_left
            ·simp only [Act.put, Zs1, Zs2, Zs3, zq, zt]
             rfl
            refine z8 (i := 14) (N := some 27) (v := ?_) (a' := ?_) #[true, true, true, true, true, true, true, true, true, true, true, true, true, true, true, false, false, false, false, false, false, false, false, false, false, false, false, false, false, false, false, false, false, false, false] rfl rfl (zk HT_.out (by kernel_rfl)) (fun _ _ _ h => h) (Or.inl ⟨by rfl, ?_⟩) ?_ ?_;rotate_left
            ·intro w'
             go_simp;with_reducible rfl
            rotate_left
            ·simp only [Act.put, Zs1, Zs2, Zs3, zq, zt]
             rfl
            refine z8 (i := 15) (N := some 28) (v := ?_) (a' := ?_) #[true, true, true, true, true, true, true, true, true, true, true, true, true, true, true, true, false, false, false, false, false, false, false, false, false, false, false, false, false, false, false, false, false, false, false] rfl rfl (zk HT_.out (by kernel_rfl)) (fun _ _ _ h => h) (Or.inl ⟨by rfl, ?_⟩) ?_ ?_;rotate_left
            ·intro w'
             go_simp;with_reducible rfl
            rotate_left
            ·simp only [Act.put, Zs1, Zs2, Zs3, zq, zt]
             rfl
            refine z8 (i := 17) (N := some 30) (v := ?_) (a' := ?_) #[true, true, true, true, true, true, true, true, true, true, true, true, true, true, true, true, false, true, false, false, false, false, false, false, false, false, false, false, false, false, false, false, false, false, false] rfl rfl (zk HT_.out (by kernel_rfl)) (fun _ _ _ h => h) (Or.inl ⟨by rfl, ?_⟩) ?_ ?_;rotate_left
            ·intro w'
             go_simp;with_reducible rfl
            rotate_left
            ·simp only [Act.put, Zs1, Zs2, Zs3, zq, zt]
             rfl
            refine z8 (i := 18) (N := some 31) (v := ?_) (a' := ?_) #[true, true, true, true, true, true, true, true, true, true, true, true, true, true, true, true, false, true, true, false, false, false, false, false, false, false, false, false, false, false, false, false, false, false, false] rfl rfl (zk HT_.out (by kernel_rfl)) (fun _ _ _ h => h) (Or.inl ⟨by rfl, ?_⟩) ?_ ?_;rotate_left
            ·intro w'
             go_simp;with_reducible rfl
            rotate_left
            ·simp only [Act.put, Zs1, Zs2, Zs3, zq, zt]
             rfl
            refine z8 (i := 20) (N := some 33) (v := ?_) (a' := ?_) #[true, true, true, true, true, true, true, true, true, true, true, true, true, true, true, true, false, true, true, false, true, false, false, false, false, false, false, false, false, false, false, false, false, false, false] rfl rfl (zk HT_.out (by kernel_rfl)) (fun _ _ _ h => h) (Or.inl ⟨by rfl, ?_⟩) ?_ ?_;rotate_left
            ·intro w'
             go_simp;with_reducible rfl
            rotate_left
            ·simp only [Act.put, Zs1, Zs2, Zs3, zq, zt]
             rfl
            refine z8 (i := 21) (N := some 34) (v := ?_) (a' := ?_) #[true, true, true, true, true, true, true, true, true, true, true, true, true, true, true, true, false, true, true, false, true, true, false, false, false, false, false, false, false, false, false, false, false, false, false] rfl rfl (zk HT_.out (by kernel_rfl)) (fun _ _ _ h => h) (Or.inl ⟨by rfl, ?_⟩) ?_ ?_;rotate_left
            ·intro w'
             go_simp;with_reducible rfl
            rotate_left
            ·simp only [Act.put, Zs1, Zs2, Zs3, zq, zt]
             rfl
            refine z8 (i := 22) (N := some 35) (v := ?_) (a' := ?_) #[true, true, true, true, true, true, true, true, true, true, true, true, true, true, true, true, false, true, true, false, true, true, true, false, false, false, false, false, false, false, false, false, false, false, false] rfl rfl (zk HT_.out (by kernel_rfl)) (fun _ _ _ h => h) (Or.inl ⟨by rfl, ?_⟩) ?_ ?_;rotate_left
            ·intro w'
             go_simp;with_reducible rfl
            rotate_left
            ·simp only [Act.put, Zs1, Zs2, Zs3, zq, zt]
             rfl
            refine zdq (i := 16) (N := some 29) (v := ?_) (a' := ?_) #[true, true, true, true, true, true, true, true, true, true, true, true, true, true, true, true, true, true, true, false, true, true, true, false, false, false, false, false, false, false, false, false, false, false, false] rfl rfl (zcn HT_.out HW_.out (by kernel_rfl)) (fun _ _ _ h => h) (Or.inl ⟨by rfl, ?_⟩) hHeld ?_ ?_;rotate_left
            ·rintro w' ⟨s0, s1, s2, s3, s4⟩
             go_simp;with_reducible rfl
            rotate_left
            ·simp only [Act.put, Zs1, Zs2, Zs3, zq, zt]
             rfl
            refine zdq (i := 19) (N := some 32) (v := ?_) (a' := ?_) #[true, true, true, true, true, true, true, true, true, true, true, true, true, true, true, true, true, true, true, true, true, true, true, false, false, false, false, false, false, false, false, false, false, false, false] rfl rfl (zcn HT_.out HW_.out (by kernel_rfl)) (fun _ _ _ h => h) (Or.inl ⟨by rfl, ?_⟩) hHeld ?_ ?_;rotate_left
            ·rintro w' ⟨s0, s1, s2, s3, s4⟩
             go_simp;with_reducible rfl
            rotate_left
            ·simp only [Act.put, Zs1, Zs2, Zs3, zq, zt]
             rfl
            refine one_ (i := 23) (N := some 36) #[true, true, true, true, true, true, true, true, true, true, true, true, true, true, true, true, true, true, true, true, true, true, true, true, false, false, false, false, false, false, false, false, false, false, false] rfl rfl (zdw HT_.out (by kernel_rfl)) (by decide) (fun K hK => ?_);refine zgn Try.func52 (by kernel_rfl) rfl #[.int .i64 (rd (zbd l1 x9_1) 1), .int .i64 (rd (zbd l1 x9_1) 0), .int .i64 (wrap64 ((l0.length : Int) - 1))] (by rfl) rfl rfl Zmt ?_;with_reducible refine (zco.calls (rd (zbd l1 x9_1) 1) (rd (zbd l1 x9_1) 0) (wrap64 ((l0.length : Int) - 1)) true _ A11.out).mono ?_
            rintro e w' ⟨rfl, ⟨nd, rfl⟩⟩;refine ⟨_, rfl, ?_⟩;refine hK.out _ _ ⟨((HB.out.cell (World.block_lt_of_cell? w _ hw197_0)).trans hw197_0), ((HB.out.cell (World.block_lt_of_cell? w _ hw199_0)).trans hw199_0), ((HB.out.cell (World.block_lt_of_cell? w _ hw200_0)).trans hw200_0), ((HB.out.cell (World.block_lt_of_cell? w _ hw202_0)).trans hw202_0), ((HB.out.cell (World.block_lt_of_cell? w _ hw203_0)).trans hw203_0)⟩ (fun hHeld => ?_);clear hK K;refine zfh (a' := ?_) ?_ ?_;rotate_left
            ·show Act.put _ (some 36) _ = _
             simp only [Act.put, Zs1, Zs2, Zs3, zq, zt];rfl
            refine z8 (i := 24) (N := some 37) (v := ?_) (a' := ?_) #[true, true, true, true, true, true, true, true, true, true, true, true, true, true, true, true, true, true, true, true, true, true, true, true, true, false, false, false, false, false, false, false, false, false, false] rfl rfl (zk HT_.out (by kernel_rfl)) (fun _ _ _ h => h) (Or.inl ⟨by rfl, ?_⟩) ?_ ?_;rotate_left
            ·intro w'
             go_simp;with_reducible rfl
            rotate_left
            ·simp only [Act.put, Zs1, Zs2, Zs3, zq, zt]
             rfl
            refine z8 (i := 25) (N := some 38) (v := ?_) (a' := ?_) #[true, true, true, true, true, true, true, true, true, true, true, true, true, true, true, true, true, true, true, true, true, true, true, true, true, true, false, false, false, false, false, false, false, false, false] rfl rfl (zk HT_.out (by kernel_rfl)) (fun _ _ _ h => h) (Or.inl ⟨by rfl, ?_⟩) ?_ ?_;rotate_left
            ·intro w'
             go_simp;with_reducible rfl
            rotate_left
            ·simp only [Act.put, Zs1, Zs2, Zs3, zq, zt]
             rfl
            refine z8 (i := 26) (N := some 39) (v := ?_) (a' := ?_) #[true, true, true, true, true, true, true, true, true, true, true, true, true, true, true, true, true, true, true, true, true, true, true, true, true, true, true, false, false, false, false, false, false, false, false] rfl rfl (zk HT_.out (by kernel_rfl)) (fun _ _ _ h => h) (Or.inl ⟨by rfl, ?_⟩) ?_ ?_;rotate_left
            ·intro w'
             go_simp;with_reducible rfl
            rotate_left
            ·simp only [Act.put, Zs1, Zs2, Zs3, zq, zt]
             rfl
            refine z8 (i := 27) (N := some 40) (v := ?_) (a' := ?_) #[true, true, true, true, true, true, true, true, true, true, true, true, true, true, true, true, true, true, true, true, true, true, true, true, true, true, true, true, false, false, false, false, false, false, false] rfl rfl (zk HT_.out (by kernel_rfl)) (fun _ _ _ h => h) (Or.inl ⟨by rfl, ?_⟩) ?_ ?_;rotate_left
            ·intro w'
             go_simp;with_reducible rfl
            rotate_left
            ·simp only [Act.put, Zs1, Zs2, Zs3, zq, zt]
             rfl
            refine z8 (i := 28) (N := some 41) (v := ?_) (a' := ?_) #[true, true, true, true, true, true, true, true, true, true, true, true, true, true, true, true, true, true, true, true, true, true, true, true, true, true, true, true, true, false, false, false, false, false, false] rfl rfl (zk HT_.out (by kernel_rfl)) (fun _ _ _ h => h) (Or.inl ⟨by rfl, ?_⟩) ?_ ?_;rotate_left
            ·intro w'
             go_simp;with_reducible rfl
            rotate_left
            ·simp only [Act.put, Zs1, Zs2, Zs3, zq, zt]
             rfl
            refine z8 (i := 30) (N := some 43) (v := ?_) (a' := ?_) #[true, true, true, true, true, true, true, true, true, true, true, true, true, true, true, true, true, true, true, true, true, true, true, true, true, true, true, true, true, false, true, false, false, false, false] rfl rfl (zk HT_.out (by kernel_rfl)) (fun _ _ _ h => h) (Or.inl ⟨by rfl, ?_⟩) ?_ ?_;rotate_left
            ·intro w'
             go_simp;with_reducible rfl
            rotate_left
            ·simp only [Act.put, Zs1, Zs2, Zs3, zq, zt]
             rfl
            refine z8 (i := 31) (N := some 44) (v := ?_) (a' := ?_) #[true, true, true, true, true, true, true, true, true, true, true, true, true, true, true, true, true, true, true, true, true, true, true, true, true, true, true, true, true, false, true, true, false, false, false] rfl rfl (zk HT_.out (by kernel_rfl)) (fun _ _ _ h => h) (Or.inl ⟨by rfl, ?_⟩) ?_ ?_;rotate_left
            ·intro w'
             go_simp;with_reducible rfl
            rotate_left
            ·simp only [Act.put, Zs1, Zs2, Zs3, zq, zt]
             rfl
            refine zdq (i := 29) (N := some 42) (v := ?_) (a' := ?_) #[true, true, true, true, true, true, true, true, true, true, true, true, true, true, true, true, true, true, true, true, true, true, true, true, true, true, true, true, true, true, true, true, false, false, false] rfl rfl (zcn HT_.out HW_.out (by kernel_rfl)) (fun _ _ _ h => h) (Or.inl ⟨by rfl, ?_⟩) hHeld ?_ ?_;rotate_left
            ·rintro w' ⟨s0, s1, s2, s3, s4⟩
             go_simp;with_reducible rfl
            rotate_left
            ·simp only [Act.put, Zs1, Zs2, Zs3, zq, zt]
             rfl
            refine zdq (i := 32) (N := some 45) (v := ?_) (a' := ?_) #[true, true, true, true, true, true, true, true, true, true, true, true, true, true, true, true, true, true, true, true, true, true, true, true, true, true, true, true, true, true, true, true, true, false, false] rfl rfl (zcn HT_.out HW_.out (by kernel_rfl)) (fun _ _ _ h => h) (Or.inl ⟨by rfl, ?_⟩) hHeld ?_ ?_;rotate_left
            ·rintro w' ⟨s0, s1, s2, s3, s4⟩
             go_simp;with_reducible rfl
            rotate_left
            ·simp only [Act.put, Zs1, Zs2, Zs3, zq, zt]
             rfl
            refine z8 (i := 33) (N := some 46) (v := ?_) (a' := ?_) #[true, true, true, true, true, true, true, true, true, true, true, true, true, true, true, true, true, true, true, true, true, true, true, true, true, true, true, true, true, true, true, true, true, true, false] rfl rfl (zk HT_.out (by kernel_rfl)) (fun _ _ _ h => h) (Or.inl ⟨by rfl, ?_⟩) ?_ ?_;rotate_left
            ·intro w'
             go_simp;with_reducible rfl
            rotate_left
            ·simp only [Act.put, Zs1, Zs2, Zs3, zq, zt]
             rfl
            refine z8 (i := 34) (N := some 47) (v := ?_) (a' := ?_) #[true, true, true, true, true, true, true, true, true, true, true, true, true, true, true, true, true, true, true, true, true, true, true, true, true, true, true, true, true, true, true, true, true, true, true] rfl rfl (zk HT_.out (by kernel_rfl)) (fun _ _ _ h => h) (Or.inl ⟨by rfl, ?_⟩) ?_ ?_;rotate_left
            ·intro w'
             go_simp;with_reducible rfl
            rotate_left
            ·simp only [Act.put, Zs1, Zs2, Zs3, zq, zt]
             rfl
            refine zg9 (zd8 HT_.out (by kernel_rfl)) ?_
            try go_wp2
            go_roundg k1
            case measure => have := HK1.out; omega
            case rel => exact ⟨(wrap64 (x9_1 + 1)), Zrs, H', ⟨by have := HK1.out; omega⟩, ⟨Zq2 HB⟩⟩
          ·replace c12 := Bool.eq_false_iff.mpr c12
           subst c12;have H1 : (some false) = some r := by rw [if_neg (show ¬ (false = true) by decide)] at H; exact H
           clear H;have H := H1;clear H1;obtain rfl := Option.some.inj H;have p196 : 0 ≤ (x9_1 : Int) := of_decide_eq_true Zas;have q196 : x9_1 < (l1.length : Int) := of_decide_eq_true Zas;obtain ⟨ad196, A196_0, c196_0, e196, hx196_0, hl196_0, hi196_0⟩ := zhg HR1.out x9_1 p196 q196
           cases e196
           replace hx196_0 := (HB.out.cell (World.block_lt_of_cell? w _ hx196_0)).trans hx196_0;have HR196_0 := za.mk hi196_0;have HC196_0 := za.mk hl196_0;clear hi196_0 hl196_0;replace p196 := eq_true p196;replace q196 := eq_true q196
           try go_wp2
           have n0_ := za.mk (zcm HB.out);clear HB;have HB := n0_;clear n0_;have p197 : 0 ≤ (0 : Int) := (by omega);have q197 : 0 < ((zbd l1 x9_1).length : Int) := of_decide_eq_true Zas;obtain ⟨ad197, e197, hx197_0⟩ := Kd.zck HR196_0.out 0 p197 q197;have hw197_0 := hx197_0;(try rw [show ((0 : Int)).toNat = 0 from rfl] at hw197_0);(try rw [show 0 * 1 = 0 from rfl] at hw197_0);(try rw [Addr.add_zero'] at hw197_0)
           cases e197
           have qi197 : (0 < (zbd l1 x9_1).length) = True := eq_true (by omega);(try rw [show ((0 : Int)).toNat = 0 from rfl] at hx197_0);(try rw [Addr.add_zero'] at hx197_0);replace hx197_0 := (HB.out.cell (World.block_lt_of_cell? w _ hx197_0)).trans hx197_0;replace p197 := eq_true p197;replace q197 := eq_true q197;have p199 : 0 ≤ (1 : Int) := (by omega);have q199 : 1 < ((zbd l1 x9_1).length : Int) := of_decide_eq_true Zas;obtain ⟨ad199, e199, hx199_0⟩ := Kd.zck HR196_0.out 1 p199 q199;have hw199_0 := hx199_0;(try rw [show ((1 : Int)).toNat = 1 from rfl] at hw199_0);(try rw [show 1 * 1 = 1 from rfl] at hw199_0);(try simp only [Nat.reduceMul, Nat.reduceEqDiff, Go.Addr.add, ↓reduceIte] at hw199_0);obtain rfl : ad197 = ad199 := (by injection e199);(try simp only [show (1 : Int).toNat = 1 from rfl, Nat.reduceMul, Nat.reduceEqDiff, Go.Addr.add, ↓reduceIte] at hx199_0);have qi199 : (1 < (zbd l1 x9_1).length) = True := eq_true (by omega);(try rw [show ((1 : Int)).toNat = 1 from rfl] at hx199_0);replace hx199_0 := (HB.out.cell (World.block_lt_of_cell? w _ hx199_0)).trans hx199_0;replace p199 := eq_true p199;replace q199 := eq_true q199;have p200 : 0 ≤ (0 : Int) := (by omega);have q200 : 0 < ((zbd l1 x9_1).length : Int) := of_decide_eq_true Zas;obtain ⟨ad200, e200, hx200_0⟩ := Kd.zck HR196_0.out 0 p200 q200;have hw200_0 := hx200_0;(try rw [show ((0 : Int)).toNat = 0 from rfl] at hw200_0);(try rw [show 0 * 1 = 0 from rfl] at hw200_0);(try rw [Addr.add_zero'] at hw200_0);obtain rfl : ad197 = ad200 := (by injection e200);have qi200 : (0 < (zbd l1 x9_1).length) = True := eq_true (by omega);(try rw [show ((0 : Int)).toNat = 0 from rfl] at hx200_0);(try rw [Addr.add_zero'] at hx200_0);replace hx200_0 := (HB.out.cell (World.block_lt_of_cell? w _ hx200_0)).trans hx200_0;replace p200 := eq_true p200;replace q200 := eq_true q200;refine ze1 (n := 35) (S := fun w' => w'.cell? ad197 = some (.int .i64 (rd (zbd l1 x9_1) 0)) ∧ w'.cell? ⟨ad197.block, ad197.off + 1, none⟩ = some (.int .i64 (rd (zbd l1 x9_1) 1)) ∧ w'.cell? ad197 = some (.int .i64 (rd (zbd l1 x9_1) 0))) (ds := []) #[false, false, false, false, false, false, false, false, false, false, false, false, false, false, false, false, false, false, false, false, false, false, false, false, false, false, false, false, false, false, false, false, false, false, false] (by kernel_rfl) rfl rfl ⟨((HB.out.cell (World.block_lt_of_cell? w _ hw197_0)).trans hw197_0), ((HB.out.cell (World.block_lt_of_cell? w _ hw199_0)).trans hw199_0), ((HB.out.cell (World.block_lt_of_cell? w _ hw200_0)).trans hw200_0)⟩ (fun hHeld => ?_); refine zdj ze.tab4 ze.bits4 (fun HT_ HW_ => ?_);generalize wr.drew = w16 at HB hx197_0 hx199_0 hx200_0 hHeld ⊢;refine z8 (i := 0) (N := some 13) (v := ?_) (a' := ?_) #[true, false, false, false, false, false, false, false, false, false, false, false, false, false, false, false, false, false, false, false, false, false, false, false, false, false, false, false, false, false, false, false, false, false, false] rfl rfl (zk HT_.out (by kernel_rfl)) (fun _ _ _ h => h) (Or.inl ⟨by rfl, ?_⟩) ?_ ?_;rotate_left
           ·intro w'
            go_simp;with_reducible rfl
           rotate_left
           ·simp only [Act.put, Zs1, Zs2, Zs3, zq, zt]
            rfl
           refine z8 (i := 1) (N := some 14) (v := ?_) (a' := ?_) #[true, true, false, false, false, false, false, false, false, false, false, false, false, false, false, false, false, false, false, false, false, false, false, false, false, false, false, false, false, false, false, false, false, false, false] rfl rfl (zk HT_.out (by kernel_rfl)) (fun _ _ _ h => h) (Or.inl ⟨by rfl, ?_⟩) ?_ ?_;rotate_left
           ·intro w'
            go_simp;with_reducible rfl
           rotate_left
           ·simp only [Act.put, Zs1, Zs2, Zs3, zq, zt]
            rfl
           refine z8 (i := 2) (N := some 15) (v := ?_) (a' := ?_) #[true, true, true, false, false, false, false, false, false, false, false, false, false, false, false, false, false, false, false, false, false, false, false, false, false, false, false, false, false, false, false, false, false, false, false] rfl rfl (zk HT_.out (by kernel_rfl)) (fun _ _ _ h => h) (Or.inl ⟨by rfl, ?_⟩) ?_ ?_;rotate_left
           ·intro w'
            go_simp;with_reducible rfl
           rotate_left
           ·simp only [Act.put, Zs1, Zs2, Zs3, zq, zt]
            rfl
           refine z8 (i := 3) (N := some 16) (v := ?_) (a' := ?_) #[true, true, true, true, false, false, false, false, false, false, false, false, false, false, false, false, false, false, false, false, false, false, false, false, false, false, false, false, false, false, false, false, false, false, false] rfl rfl (zk HT_.out (by kernel_rfl)) (fun _ _ _ h => h) (Or.inl ⟨by rfl, ?_⟩) ?_ ?_;rotate_left
           ·intro w'
            go_simp;with_reducible rfl
           rotate_left
           ·simp only [Act.put, Zs1, Zs2, Zs3, zq, zt]
            rfl
           refine z8 (i := 4) (N := some 17) (v := ?_) (a' := ?_) #[true, true, true, true, true, false, false, false, false, false, false, false, false, false, false, false, false, false, false, false, false, false, false, false, false, false, false, false, false, false, false, false, false, false, false] rfl rfl (zk HT_.out (by kernel_rfl)) (fun _ _ _ h => h) (Or.inl ⟨by rfl, ?_⟩) ?_ ?_;rotate_left
           ·intro w'
            go_simp;with_reducible rfl
           rotate_left
           ·simp only [Act.put, Zs1, Zs2, Zs3, zq, zt]
            rfl
           refine z8 (i := 5) (N := some 18) (v := ?_) (a' := ?_) #[true, true, true, true, true, true, false, false, false, false, false, false, false, false, false, false, false, false, false, false, false, false, false, false, false, false, false, false, false, false, false, false, false, false, false] rfl rfl (zk HT_.out (by kernel_rfl)) (fun _ _ _ h => h) (Or.inl ⟨by rfl, ?_⟩) ?_ ?_;rotate_left
           ·intro w'
            go_simp;with_reducible rfl
           rotate_left
           ·simp only [Act.put, Zs1, Zs2, Zs3, zq, zt]
            rfl
           refine z8 (i := 7) (N := some 20) (v := ?_) (a' := ?_) #[true, true, true, true, true, true, false, true, false, false, false, false, false, false, false, false, false, false, false, false, false, false, false, false, false, false, false, false, false, false, false, false, false, false, false] rfl rfl (zk HT_.out (by kernel_rfl)) (fun _ _ _ h => h) (Or.inl ⟨by rfl, ?_⟩) ?_ ?_;rotate_left
           ·intro w'
            go_simp;with_reducible rfl
           rotate_left
           ·simp only [Act.put, Zs1, Zs2, Zs3, zq, zt]
            rfl
           refine z8 (i := 8) (N := some 21) (v := ?_) (a' := ?_) #[true, true, true, true, true, true, false, true, true, false, false, false, false, false, false, false, false, false, false, false, false, false, false, false, false, false, false, false, false, false, false, false, false, false, false] rfl rfl (zk HT_.out (by kernel_rfl)) (fun _ _ _ h => h) (Or.inl ⟨by rfl, ?_⟩) ?_ ?_;rotate_left
           ·intro w'
            go_simp;with_reducible rfl
           rotate_left
           ·simp only [Act.put, Zs1, Zs2, Zs3, zq, zt]
            rfl
           refine z8 (i := 9) (N := some 22) (v := ?_) (a' := ?_) #[true, true, true, true, true, true, false, true, true, true, false, false, false, false, false, false, false, false, false, false, false, false, false, false, false, false, false, false, false, false, false, false, false, false, false] rfl rfl (zk HT_.out (by kernel_rfl)) (fun _ _ _ h => h) (Or.inl ⟨by rfl, ?_⟩) ?_ ?_;rotate_left
           ·intro w'
            go_simp;with_reducible rfl
           rotate_left
           ·simp only [Act.put, Zs1, Zs2, Zs3, zq, zt]
            rfl
           refine zdq (i := 6) (N := some 19) (v := ?_) (a' := ?_) #[true, true, true, true, true, true, true, true, true, true, false, false, false, false, false, false, false, false, false, false, false, false, false, false, false, false, false, false, false, false, false, false, false, false, false] rfl rfl (zcn HT_.out HW_.out (by kernel_rfl)) (fun _ _ _ h => h) (Or.inl ⟨by rfl, ?_⟩) hHeld ?_ ?_;rotate_left
           ·rintro w' ⟨s0, s1, s2⟩
            go_simp;with_reducible rfl
           rotate_left
           ·simp only [Act.put, Zs1, Zs2, Zs3, zq, zt]
            rfl
           refine one_ (i := 10) (N := some 23) #[true, true, true, true, true, true, true, true, true, true, true, false, false, false, false, false, false, false, false, false, false, false, false, false, false, false, false, false, false, false, false, false, false, false, false] rfl rfl (zdw HT_.out (by kernel_rfl)) (by decide) (fun K hK => ?_);refine zgn Try.func52 (by kernel_rfl) rfl #[.int .i64 (rd (zbd l1 x9_1) 0), .int .i64 0, .int .i64 (wrap64 ((l0.length : Int) - 1))] (by rfl) rfl rfl Zmt ?_;with_reducible refine (zco.calls (rd (zbd l1 x9_1) 0) 0 (wrap64 ((l0.length : Int) - 1)) true _ A8.out).mono ?_
           rintro e w' ⟨rfl, ⟨nd, rfl⟩⟩;refine ⟨_, rfl, ?_⟩;refine hK.out _ _ ⟨((HB.out.cell (World.block_lt_of_cell? w _ hw197_0)).trans hw197_0), ((HB.out.cell (World.block_lt_of_cell? w _ hw199_0)).trans hw199_0), ((HB.out.cell (World.block_lt_of_cell? w _ hw200_0)).trans hw200_0)⟩ (fun hHeld => ?_);clear hK K;refine zfh (a' := ?_) ?_ ?_;rotate_left
           ·show Act.put _ (some 23) _ = _
            simp only [Act.put, Zs1, Zs2, Zs3, zq, zt];rfl
           refine z8 (i := 11) (N := some 24) (v := ?_) (a' := ?_) #[true, true, true, true, true, true, true, true, true, true, true, true, false, false, false, false, false, false, false, false, false, false, false, false, false, false, false, false, false, false, false, false, false, false, false] rfl rfl (zk HT_.out (by kernel_rfl)) (fun _ _ _ h => h) (Or.inl ⟨by rfl, ?_⟩) ?_ ?_;rotate_left
           ·intro w'
            go_simp;with_reducible rfl
           rotate_left
           ·simp only [Act.put, Zs1, Zs2, Zs3, zq, zt]
            rfl
           refine z8 (i := 12) (N := some 25) (v := ?_) (a' := ?_) #[true, true, true, true, true, true, true, true, true, true, true, true, true, false, false, false, false, false, false, false, false, false, false, false, false, false, false, false, false, false, false, false, false, false, false] rfl rfl (zk HT_.out (by kernel_rfl)) (fun _ _ _ h => h) (Or.inl ⟨by rfl, ?_⟩) ?_ ?_;rotate_left
           ·intro w'
            go_simp;with_reducible rfl
           rotate_left
           ·simp only [Act.put, Zs1, Zs2, Zs3, zq, zt]
            rfl
           refine z8 (i := 13) (N := some 26) (v := ?_) (a' := ?_) #[true, true, true, true, true, true, true, true, true, true, true, true, true, true, false, false, false, false, false, false, false, false, false, false, false, false, false, false, false, false, false, false, false, false, false] rfl rfl (zk HT_.out (by kernel_rfl)) (fun _ _ _ h => h) (Or.inl ⟨by rfl, ?_⟩) ?_ ?_;rotate_left
           ·intro w'
            go_simp;with_reducible rfl
           rotate_left
           ·simp only [Act.put, Zs1, Zs2, Zs3, zq, zt]
            rfl
           refine z8 (i := 14) (N := some 27) (v := ?_) (a' := ?_) #[true, true, true, true, true, true, true, true, true, true, true, true, true, true, true, false, false, false, false, false, false, false, false, false, false, false, false, false, false, false, false, false, false, false, false] rfl rfl (zk HT_.out (by kernel_rfl)) (fun _ _ _ h => h) (Or.inl ⟨by rfl, ?_⟩) ?_ ?_;rotate_left
           ·intro w'
            go_simp;with_reducible rfl
           rotate_left
           ·simp only [Act.put, Zs1, Zs2, Zs3, zq, zt]
            rfl
           refine z8 (i := 15) (N := some 28) (v := ?_) (a' := ?_) #[true, true, true, true, true, true, true, true, true, true, true, true, true, true, true, true, false, false, false, false, false, false, false, false, false, false, false, false, false, false, false, false, false, false, false] rfl rfl (zk HT_.out (by kernel_rfl)) (fun _ _ _ h => h) (Or.inl ⟨by rfl, ?_⟩) ?_ ?_;rotate_left
           ·intro w'
            go_simp;with_reducible rfl
           rotate_left
           ·simp only [Act.put, Zs1, Zs2, Zs3, zq, zt]
            rfl
           refine z8 (i := 17) (N := some 30) (v := ?_) (a' := ?_) #[true, true, true, true, true, true, true, true, true, true, true, true, true, true, true, true, false, true, false, false, false, false, false, false, false, false, false, false, false, false, false, false, false, false, false] rfl rfl (zk HT_.out (by kernel_rfl)) (fun _ _ _ h => h) (Or.inl ⟨by rfl, ?_⟩) ?_ ?_;rotate_left
           ·intro w'
            go_simp;with_reducible rfl
           rotate_left
           ·simp only [Act.put, Zs1, Zs2, Zs3, zq, zt]
            rfl
           refine z8 (i := 18) (N := some 31) (v := ?_) (a' := ?_) #[true, true, true, true, true, true, true, true, true, true, true, true, true, true, true, true, false, true, true, false, false, false, false, false, false, false, false, false, false, false, false, false, false, false, false] rfl rfl (zk HT_.out (by kernel_rfl)) (fun _ _ _ h => h) (Or.inl ⟨by rfl, ?_⟩) ?_ ?_;rotate_left
           ·intro w'
            go_simp;with_reducible rfl
           rotate_left
           ·simp only [Act.put, Zs1, Zs2, Zs3, zq, zt]
            rfl
           refine z8 (i := 20) (N := some 33) (v := ?_) (a' := ?_) #[true, true, true, true, true, true, true, true, true, true, true, true, true, true, true, true, false, true, true, false, true, false, false, false, false, false, false, false, false, false, false, false, false, false, false] rfl rfl (zk HT_.out (by kernel_rfl)) (fun _ _ _ h => h) (Or.inl ⟨by rfl, ?_⟩) ?_ ?_;rotate_left
           ·intro w'
            go_simp;with_reducible rfl
           rotate_left
           ·simp only [Act.put, Zs1, Zs2, Zs3, zq, zt]
            rfl
           refine z8 (i := 21) (N := some 34) (v := ?_) (a' := ?_) #[true, true, true, true, true, true, true, true, true, true, true, true, true, true, true, true, false, true, true, false, true, true, false, false, false, false, false, false, false, false, false, false, false, false, false] rfl rfl (zk HT_.out (by kernel_rfl)) (fun _ _ _ h => h) (Or.inl ⟨by rfl, ?_⟩) ?_ ?_;rotate_left
           ·intro w'
            go_simp;with_reducible rfl
           rotate_left
           ·simp only [Act.put, Zs1, Zs2, Zs3, zq, zt]
            rfl
           refine z8 (i := 22) (N := some 35) (v := ?_) (a' := ?_) #[true, true, true, true, true, true, true, true, true, true, true, true, true, true, true, true, false, true, true, false, true, true, true, false, false, false, false, false, false, false, false, false, false, false, false] rfl rfl (zk HT_.out (by kernel_rfl)) (fun _ _ _ h => h) (Or.inl ⟨by rfl, ?_⟩) ?_ ?_;rotate_left
           ·intro w'
            go_simp;with_reducible rfl
           rotate_left
           ·simp only [Act.put, Zs1, Zs2, Zs3, zq, zt]
            rfl
           refine zdq (i := 16) (N := some 29) (v := ?_) (a' := ?_) #[true, true, true, true, true, true, true, true, true, true, true, true, true, true, true, true, true, true, true, false, true, true, true, false, false, false, false, false, false, false, false, false, false, false, false] rfl rfl (zcn HT_.out HW_.out (by kernel_rfl)) (fun _ _ _ h => h) (Or.inl ⟨by rfl, ?_⟩) hHeld ?_ ?_;rotate_left
           ·rintro w' ⟨s0, s1, s2⟩
            go_simp;with_reducible rfl
           rotate_left
           ·simp only [Act.put, Zs1, Zs2, Zs3, zq, zt]
            rfl
           refine zdq (i := 19) (N := some 32) (v := ?_) (a' := ?_) #[true, true, true, true, true, true, true, true, true, true, true, true, true, true, true, true, true, true, true, true, true, true, true, false, false, false, false, false, false, false, false, false, false, false, false] rfl rfl (zcn HT_.out HW_.out (by kernel_rfl)) (fun _ _ _ h => h) (Or.inl ⟨by rfl, ?_⟩) hHeld ?_ ?_;rotate_left
           ·rintro w' ⟨s0, s1, s2⟩
            go_simp;with_reducible rfl
           rotate_left
           ·simp only [Act.put, Zs1, Zs2, Zs3, zq, zt]
            rfl
           refine one_ (i := 23) (N := some 36) #[true, true, true, true, true, true, true, true, true, true, true, true, true, true, true, true, true, true, true, true, true, true, true, true, false, false, false, false, false, false, false, false, false, false, false] rfl rfl (zdw HT_.out (by kernel_rfl)) (by decide) (fun K hK => ?_);refine zgn Try.func52 (by kernel_rfl) rfl #[.int .i64 (rd (zbd l1 x9_1) 1), .int .i64 (rd (zbd l1 x9_1) 0), .int .i64 (wrap64 ((l0.length : Int) - 1))] (by rfl) rfl rfl Zmt ?_;with_reducible refine (zco.calls (rd (zbd l1 x9_1) 1) (rd (zbd l1 x9_1) 0) (wrap64 ((l0.length : Int) - 1)) false _ A11.out).mono ?_
           rintro e w' ⟨rfl, ⟨nd, rfl⟩⟩;refine ⟨_, rfl, ?_⟩;refine hK.out _ _ ⟨((HB.out.cell (World.block_lt_of_cell? w _ hw197_0)).trans hw197_0), ((HB.out.cell (World.block_lt_of_cell? w _ hw199_0)).trans hw199_0), ((HB.out.cell (World.block_lt_of_cell? w _ hw200_0)).trans hw200_0)⟩ (fun hHeld => ?_);clear hK K;refine zfh (a' := ?_) ?_ ?_;rotate_left
           ·show Act.put _ (some 36) _ = _
            simp only [Act.put, Zs1, Zs2, Zs3, zq, zt];rfl
           refine z8 (i := 24) (N := some 37) (v := ?_) (a' := ?_) #[true, true, true, true, true, true, true, true, true, true, true, true, true, true, true, true, true, true, true, true, true, true, true, true, true, false, false, false, false, false, false, false, false, false, false] rfl rfl (zk HT_.out (by kernel_rfl)) (fun _ _ _ h => h) (Or.inl ⟨by rfl, ?_⟩) ?_ ?_;rotate_left
           ·intro w'
            go_simp;with_reducible rfl
           rotate_left
           ·simp only [Act.put, Zs1, Zs2, Zs3, zq, zt]
            rfl
           refine z8 (i := 25) (N := some 38) (v := ?_) (a' := ?_) #[true, true, true, true, true, true, true, true, true, true, true, true, true, true, true, true, true, true, true, true, true, true, true, true, true, true, false, false, false, false, false, false, false, false, false] rfl rfl (zk HT_.out (by kernel_rfl)) (fun _ _ _ h => h) (Or.inl ⟨by rfl, ?_⟩) ?_ ?_;rotate_left
           ·intro w'
            go_simp;with_reducible rfl
           rotate_left
           ·simp only [Act.put, Zs1, Zs2, Zs3, zq, zt]
            rfl
           refine z8 (i := 26) (N := some 39) (v := ?_) (a' := ?_) #[true, true, true, true, true, true, true, true, true, true, true, true, true, true, true, true, true, true, true, true, true, true, true, true, true, true, true, false, false, false, false, false, false, false, false] rfl rfl (zk HT_.out (by kernel_rfl)) (fun _ _ _ h => h) (Or.inl ⟨by rfl, ?_⟩) ?_ ?_;rotate_left
           ·intro w'
            go_simp;with_reducible rfl
           rotate_left
           ·simp only [Act.put, Zs1, Zs2, Zs3, zq, zt]
            rfl
           refine z8 (i := 27) (N := some 40) (v := undef) (a' := ?_) #[true, true, true, true, true, true, true, true, true, true, true, true, true, true, true, true, true, true, true, true, true, true, true, true, true, true, true, true, false, false, false, false, false, false, false] rfl rfl (zk HT_.out (by kernel_rfl)) (fun _ _ _ h => h) (Or.inr ⟨by rfl, rfl⟩) ?_ ?_;rotate_left
           ·simp only [Act.put, Zs1, Zs2, Zs3, zq, zt]
            rfl
           refine z8 (i := 28) (N := some 41) (v := undef) (a' := ?_) #[true, true, true, true, true, true, true, true, true, true, true, true, true, true, true, true, true, true, true, true, true, true, true, true, true, true, true, true, true, false, false, false, false, false, false] rfl rfl (zk HT_.out (by kernel_rfl)) (fun _ _ _ h => h) (Or.inr ⟨by rfl, rfl⟩) ?_ ?_;rotate_left
           ·simp only [Act.put, Zs1, Zs2, Zs3, zq, zt]
            rfl
           refine z8 (i := 29) (N := some 42) (v := undef) (a' := ?_) #[true, true, true, true, true, true, true, true, true, true, true, true, true, true, true, true, true, true, true, true, true, true, true, true, true, true, true, true, true, true, false, false, false, false, false] rfl rfl (zk HT_.out (by kernel_rfl)) (fun _ _ _ h => h) (Or.inr ⟨by rfl, rfl⟩) ?_ ?_;rotate_left
           ·simp only [Act.put, Zs1, Zs2, Zs3, zq, zt]
            rfl
           refine z8 (i := 30) (N := some 43) (v := undef) (a' := ?_) #[true, true, true, true, true, true, true, true, true, true, true, true, true, true, true, true, true, true, true, true, true, true, true, true, true, true, true, true, true, true, true, false, false, false, false] rfl rfl (zk HT_.out (by kernel_rfl)) (fun _ _ _ h => h) (Or.inr ⟨by rfl, rfl⟩) ?_ ?_;rotate_left
           ·simp only [Act.put, Zs1, Zs2, Zs3, zq, zt]
            rfl
           refine z8 (i := 31) (N := some 44) (v := undef) (a' := ?_) #[true, true, true, true, true, true, true, true, true, true, true, true, true, true, true, true, true, true, true, true, true, true, true, true, true, true, true, true, true, true, true, true, false, false, false] rfl rfl (zk HT_.out (by kernel_rfl)) (fun _ _ _ h => h) (Or.inr ⟨by rfl, rfl⟩) ?_ ?_;rotate_left
           ·simp only [Act.put, Zs1, Zs2, Zs3, zq, zt]
            rfl
           refine z8 (i := 32) (N := some 45) (v := undef) (a' := ?_) #[true, true, true, true, true, true, true, true, true, true, true, true, true, true, true, true, true, true, true, true, true, true, true, true, true, true, true, true, true, true, true, true, true, false, false] rfl rfl (zk HT_.out (by kernel_rfl)) (fun _ _ _ h => h) (Or.inr ⟨by rfl, rfl⟩) ?_ ?_;rotate_left
           ·simp only [Act.put, Zs1, Zs2, Zs3, zq, zt]
            rfl
           refine z8 (i := 33) (N := some 46) (v := undef) (a' := ?_) #[true, true, true, true, true, true, true, true, true, true, true, true, true, true, true, true, true, true, true, true, true, true, true, true, true, true, true, true, true, true, true, true, true, true, false] rfl rfl (zk HT_.out (by kernel_rfl)) (fun _ _ _ h => h) (Or.inr ⟨by rfl, rfl⟩) ?_ ?_;rotate_left
           ·simp only [Act.put, Zs1, Zs2, Zs3, zq, zt]
            rfl
           refine z8 (i := 34) (N := some 47) (v := ?_) (a' := ?_) #[true, true, true, true, true, true, true, true, true, true, true, true, true, true, true, true, true, true, true, true, true, true, true, true, true, true, true, true, true, true, true, true, true, true, true] rfl rfl (zk HT_.out (by kernel_rfl)) (fun _ _ _ h => h) (Or.inl ⟨by rfl, ?_⟩) ?_ ?_;rotate_left
           ·intro w'
            go_simp;with_reducible rfl
           rotate_left
           ·simp only [Act.put, Zs1, Zs2, Zs3, zq, zt]
            rfl
           refine zg9 (zd8 HT_.out (by kernel_rfl)) ?_
           try go_wp2
           go_ret;exact ⟨by first | rfl | (simp [zbn, zbo] <;> rfl) | (simp [*, zbn, zbo] <;> rfl), Zq2 HB⟩
         ·rw [if_neg c10] at H
          exact absurd H (by simp)
        ·replace c9 := Bool.eq_false_iff.mpr c9
         subst c9;have H1 : (some false) = some r := by rw [if_neg (show ¬ (false = true) by decide)] at H; exact H
         clear H;have H := H1;clear H1;obtain rfl := Option.some.inj H;have p196 : 0 ≤ (x9_1 : Int) := of_decide_eq_true Zas;have q196 : x9_1 < (l1.length : Int) := of_decide_eq_true Zas;obtain ⟨ad196, A196_0, c196_0, e196, hx196_0, hl196_0, hi196_0⟩ := zhg HR1.out x9_1 p196 q196
         cases e196
         replace hx196_0 := (HB.out.cell (World.block_lt_of_cell? w _ hx196_0)).trans hx196_0;have HR196_0 := za.mk hi196_0;have HC196_0 := za.mk hl196_0;clear hi196_0 hl196_0;replace p196 := eq_true p196;replace q196 := eq_true q196
         try go_wp2
         have n0_ := za.mk (zcm HB.out);clear HB;have HB := n0_;clear n0_;have p197 : 0 ≤ (0 : Int) := (by omega);have q197 : 0 < ((zbd l1 x9_1).length : Int) := of_decide_eq_true Zas;obtain ⟨ad197, e197, hx197_0⟩ := Kd.zck HR196_0.out 0 p197 q197;have hw197_0 := hx197_0;(try rw [show ((0 : Int)).toNat = 0 from rfl] at hw197_0);(try rw [show 0 * 1 = 0 from rfl] at hw197_0);(try rw [Addr.add_zero'] at hw197_0)
         cases e197
         have qi197 : (0 < (zbd l1 x9_1).length) = True := eq_true (by omega);(try rw [show ((0 : Int)).toNat = 0 from rfl] at hx197_0);(try rw [Addr.add_zero'] at hx197_0);replace hx197_0 := (HB.out.cell (World.block_lt_of_cell? w _ hx197_0)).trans hx197_0;replace p197 := eq_true p197;replace q197 := eq_true q197;refine ze1 (n := 35) (S := fun w' => w'.cell? ad197 = some (.int .i64 (rd (zbd l1 x9_1) 0))) (ds := []) #[false, false, false, false, false, false, false, false, false, false, false, false, false, false, false, false, false, false, false, false, false, false, false, false, false, false, false, false, false, false, false, false, false, false, false] (by kernel_rfl) rfl rfl (((HB.out.cell (World.block_lt_of_cell? w _ hw197_0)).trans hw197_0)) (fun hHeld => ?_); refine zdj ze.tab4 ze.bits4 (fun HT_ HW_ => ?_);generalize wr.drew = w17 at HB hx197_0 hHeld ⊢;refine z8 (i := 0) (N := some 13) (v := ?_) (a' := ?_) #[true, false, false, false, false, false, false, false, false, false, false, false, false, false, false, false, false, false, false, false, false, false, false, false, false, false, false, false, false, false, false, false, false, false, false] rfl rfl (zk HT_.out (by kernel_rfl)) (fun _ _ _ h => h) (Or.inl ⟨by rfl, ?_⟩) ?_ ?_;rotate_left
         ·intro w'
          go_simp;with_reducible rfl
         rotate_left
         ·simp only [Act.put, Zs1, Zs2, Zs3, zq, zt]
          rfl
         refine z8 (i := 1) (N := some 14) (v := ?_) (a' := ?_) #[true, true, false, false, false, false, false, false, false, false, false, false, false, false, false, false, false, false, false, false, false, false, false, false, false, false, false, false, false, false, false, false, false, false, false] rfl rfl (zk HT_.out (by kernel_rfl)) (fun _ _ _ h => h) (Or.inl ⟨by rfl, ?_⟩) ?_ ?_;rotate_left
         ·intro w'
          go_simp;with_reducible rfl
         rotate_left
         ·simp only [Act.put, Zs1, Zs2, Zs3, zq, zt]
          rfl
         refine z8 (i := 2) (N := some 15) (v := ?_) (a' := ?_) #[true, true, true, false, false, false, false, false, false, false, false, false, false, false, false, false, false, false, false, false, false, false, false, false, false, false, false, false, false, false, false, false, false, false, false] rfl rfl (zk HT_.out (by kernel_rfl)) (fun _ _ _ h => h) (Or.inl ⟨by rfl, ?_⟩) ?_ ?_;rotate_left
         ·intro w'
          go_simp;with_reducible rfl
         rotate_left
         ·simp only [Act.put, Zs1, Zs2, Zs3, zq, zt]
          rfl
         refine z8 (i := 3) (N := some 16) (v := ?_) (a' := ?_) #[true, true, true, true, false, false, false, false, false, false, false, false, false, false, false, false, false, false, false, false, false, false, false, false, false, false, false, false, false, false, false, false, false, false, false] rfl rfl (zk HT_.out (by kernel_rfl)) (fun _ _ _ h => h) (Or.inl ⟨by rfl, ?_⟩) ?_ ?_;rotate_left
         ·intro w'
          go_simp;with_reducible rfl
         rotate_left
         ·simp only [Act.put, Zs1, Zs2, Zs3, zq, zt]
          rfl
         refine z8 (i := 4) (N := some 17) (v := ?_) (a' := ?_) #[true, true, true, true, true, false, false, false, false, false, false, false, false, false, false, false, false, false, false, false, false, false, false, false, false, false, false, false, false, false, false, false, false, false, false] rfl rfl (zk HT_.out (by kernel_rfl)) (fun _ _ _ h => h) (Or.inl ⟨by rfl, ?_⟩) ?_ ?_;rotate_left
         ·intro w'
          go_simp;with_reducible rfl
         rotate_left
         ·simp only [Act.put, Zs1, Zs2, Zs3, zq, zt]
          rfl
         refine z8 (i := 5) (N := some 18) (v := ?_) (a' := ?_) #[true, true, true, true, true, true, false, false, false, false, false, false, false, false, false, false, false, false, false, false, false, false, false, false, false, false, false, false, false, false, false, false, false, false, false] rfl rfl (zk HT_.out (by kernel_rfl)) (fun _ _ _ h => h) (Or.inl ⟨by rfl, ?_⟩) ?_ ?_;rotate_left
         ·intro w'
          go_simp;with_reducible rfl
         rotate_left
         ·simp only [Act.put, Zs1, Zs2, Zs3, zq, zt]
          rfl
         refine z8 (i := 7) (N := some 20) (v := ?_) (a' := ?_) #[true, true, true, true, true, true, false, true, false, false, false, false, false, false, false, false, false, false, false, false, false, false, false, false, false, false, false, false, false, false, false, false, false, false, false] rfl rfl (zk HT_.out (by kernel_rfl)) (fun _ _ _ h => h) (Or.inl ⟨by rfl, ?_⟩) ?_ ?_;rotate_left
         ·intro w'
          go_simp;with_reducible rfl
         rotate_left
         ·simp only [Act.put, Zs1, Zs2, Zs3, zq, zt]
          rfl
         refine z8 (i := 8) (N := some 21) (v := ?_) (a' := ?_) #[true, true, true, true, true, true, false, true, true, false, false, false, false, false, false, false, false, false, false, false, false, false, false, false, false, false, false, false, false, false, false, false, false, false, false] rfl rfl (zk HT_.out (by kernel_rfl)) (fun _ _ _ h => h) (Or.inl ⟨by rfl, ?_⟩) ?_ ?_;rotate_left
         ·intro w'
          go_simp;with_reducible rfl
         rotate_left
         ·simp only [Act.put, Zs1, Zs2, Zs3, zq, zt]
          rfl
         refine z8 (i := 9) (N := some 22) (v := ?_) (a' := ?_) #[true, true, true, true, true, true, false, true, true, true, false, false, false, false, false, false, false, false, false, false, false, false, false, false, false, false, false, false, false, false, false, false, false, false, false] rfl rfl (zk HT_.out (by kernel_rfl)) (fun _ _ _ h => h) (Or.inl ⟨by rfl, ?_⟩) ?_ ?_;rotate_left
         ·intro w'
          go_simp;with_reducible rfl
         rotate_left
         ·simp only [Act.put, Zs1, Zs2, Zs3, zq, zt]
          rfl
         refine zdq (i := 6) (N := some 19) (v := ?_) (a' := ?_) #[true, true, true, true, true, true, true, true, true, true, false, false, false, false, false, false, false, false, false, false, false, false, false, false, false, false, false, false, false, false, false, false, false, false, false] rfl rfl (zcn HT_.out HW_.out (by kernel_rfl)) (fun _ _ _ h => h) (Or.inl ⟨by rfl, ?_⟩) hHeld ?_ ?_;rotate_left
         ·intro w' s0
          go_simp;with_reducible rfl
         rotate_left
         ·simp only [Act.put, Zs1, Zs2, Zs3, zq, zt]
          rfl
         refine one_ (i := 10) (N := some 23) #[true, true, true, true, true, true, true, true, true, true, true, false, false, false, false, false, false, false, false, false, false, false, false, false, false, false, false, false, false, false, false, false, false, false, false] rfl rfl (zdw HT_.out (by kernel_rfl)) (by decide) (fun K hK => ?_);refine zgn Try.func52 (by kernel_rfl) rfl #[.int .i64 (rd (zbd l1 x9_1) 0), .int .i64 0, .int .i64 (wrap64 ((l0.length : Int) - 1))] (by rfl) rfl rfl Zmt ?_;with_reducible refine (zco.calls (rd (zbd l1 x9_1) 0) 0 (wrap64 ((l0.length : Int) - 1)) false _ A8.out).mono ?_
         rintro e w' ⟨rfl, ⟨nd, rfl⟩⟩;refine ⟨_, rfl, ?_⟩;refine hK.out _ _ (((HB.out.cell (World.block_lt_of_cell? w _ hw197_0)).trans hw197_0)) (fun hHeld => ?_);clear hK K;refine zfh (a' := ?_) ?_ ?_;rotate_left
         ·show Act.put _ (some 23) _ = _
          simp only [Act.put, Zs1, Zs2, Zs3, zq, zt];rfl
         refine z8 (i := 11) (N := some 24) (v := ?_) (a' := ?_) #[true, true, true, true, true, true, true, true, true, true, true, true, false, false, false, false, false, false, false, false, false, false, false, false, false, false, false, false, false, false, false, false, false, false, false] rfl rfl (zk HT_.out (by kernel_rfl)) (fun _ _ _ h => h) (Or.inl ⟨by rfl, ?_⟩) ?_ ?_;rotate_left
         ·intro w'
          go_simp;with_reducible rfl
         rotate_left
         ·simp only [Act.put, Zs1, Zs2, Zs3, zq, zt]
          rfl
         refine z8 (i := 12) (N := some 25) (v := ?_) (a' := ?_) #[true, true, true, true, true, true, true, true, true, true, true, true, true, false, false, false, false, false, false, false, false, false, false, false, false, false, false, false, false, false, false, false, false, false, false] rfl rfl (zk HT_.out (by kernel_rfl)) (fun _ _ _ h => h) (Or.inl ⟨by rfl, ?_⟩) ?_ ?_;rotate_left
         ·intro w'
          go_simp;with_reducible rfl
         rotate_left
         ·simp only [Act.put, Zs1, Zs2, Zs3, zq, zt]
          rfl
         refine z8 (i := 13) (N := some 26) (v := ?_) (a' := ?_) #[true, true, true, true, true, true, true, true, true, true, true, true, true, true, false, false, false, false, false, false, false, false, false, false, false, false, false, false, false, false, false, false, false, false, false] rfl rfl (zk HT_.out (by kernel_rfl)) (fun _ _ _ h => h) (Or.inl ⟨by rfl, ?_⟩) ?_ ?_;rotate_left
         ·intro w'
          go_simp;with_reducible rfl
         rotate_left
         ·simp only [Act.put, Zs1, Zs2, Zs3, zq, zt]
          rfl
         refine z8 (i := 14) (N := some 27) (v := undef) (a' := ?_) #[true, true, true, true, true, true, true, true, true, true, true, true, true, true, true, false, false, false, false, false, false, false, false, false, false, false, false, false, false, false, false, false, false, false, false] rfl rfl (zk HT_.out (by kernel_rfl)) (fun _ _ _ h => h) (Or.inr ⟨by rfl, rfl⟩) ?_ ?_;rotate_left
         ·simp only [Act.put, Zs1, Zs2, Zs3, zq, zt]
          rfl
         refine z8 (i := 15) (N := some 28) (v := undef) (a' := ?_) #[true, true, true, true, true, true, true, true, true, true, true, true, true, true, true, true, false, false, false, false, false, false, false, false, false, false, false, false, false, false, false, false, false, false, false] rfl rfl (zk HT_.out (by kernel_rfl)) (fun _ _ _ h => h) (Or.inr ⟨by rfl, rfl⟩) ?_ ?_;rotate_left
         ·simp only [Act.put, Zs1, Zs2, Zs3, zq, zt]
          rfl
         refine z8 (i := 16) (N := some 29) (v := undef) (a' := ?_) #[true, true, true, true, true, true, true, true, true, true, true, true, true, true, true, true, true, false, false, false, false, false, false, false, false, false, false, false, false, false, false, false, false, false, false] rfl rfl (zk HT_.out (by kernel_rfl)) (fun _ _ _ h => h) (Or.inr ⟨by rfl, rfl⟩) ?_ ?_;rotate_left
         ·simp only [Act.put, Zs1, Zs2, Zs3, zq, zt]
          rfl
         refine z8 (i := 17) (N := some 30) (v := undef) (a' := ?_) #[true, true, true, true, true, true, true, true, true, true, true, true, true, true, true, true, true, true, false, false, false, false, false, false, false, false, false, false, false, false, false, false, false, false, false] rfl rfl (zk HT_.out (by kernel_rfl)) (fun _ _ _ h => h) (Or.inr ⟨by rfl, rfl⟩) ?_ ?_;rotate_left
         ·simp only [Act.put, Zs1, Zs2, Zs3, zq, zt]
          rfl
         refine z8 (i := 18) (N := some 31) (v := undef) (a' := ?_) #[true, true, true, true, true, true, true, true, true, true, true, true, true, true, true, true, true, true, true, false, false, false, false, false, false, false, false, false, false, false, false, false, false, false, false] rfl rfl (zk HT_.out (by kernel_rfl)) (fun _ _ _ h => h) (Or.inr ⟨by rfl, rfl⟩) ?_ ?_;rotate_left
         ·simp only [Act.put, Zs1, Zs2, Zs3, zq, zt]
          rfl
         refine z8 (i := 19) (N := some 32) (v := undef) (a' := ?_) #[true, true, true, true, true, true, true, true, true, true, true, true, true, true, true, true, true, true, true, true, false, false, false, false, false, false, false, false, false, false, false, false, false, false, false] rfl rfl (zk HT_.out (by kernel_rfl)) (fun _ _ _ h => h) (Or.inr ⟨by rfl, rfl⟩) ?_ ?_;rotate_left
         ·simp only [Act.put, Zs1, Zs2, Zs3, zq, zt]
          rfl
         refine z8 (i := 20) (N := some 33) (v := undef) (a' := ?_) #[true, true, true, true, true, true, true, true, true, true, true, true, true, true, true, true, true, true, true, true, true, false, false, false, false, false, false, false, false, false, false, false, false, false, false] rfl rfl (zk HT_.out (by kernel_rfl)) (fun _ _ _ h => h) (Or.inr ⟨by rfl, rfl⟩) ?_ ?_;rotate_left
         ·simp only [Act.put, Zs1, Zs2, Zs3, zq, zt]
          rfl
         refine z8 (i := 21) (N := some 34) (v := undef) (a' := ?_) #[true, true, true, true, true, true, true, true, true, true, true, true, true, true, true, true, true, true, true, true, true, true, false, false, false, false, false, false, false, false, false, false, false, false, false] rfl rfl (zk HT_.out (by kernel_rfl)) (fun _ _ _ h => h) (Or.inr ⟨by rfl, rfl⟩) ?_ ?_;rotate_left
         ·simp only [Act.put, Zs1, Zs2, Zs3, zq, zt]
          rfl
         refine z8 (i := 22) (N := some 35) (v := undef) (a' := ?_) #[true, true, true, true, true, true, true, true, true, true, true, true, true, true, true, true, true, true, true, true, true, true, true, false, false, false, false, false, false, false, false, false, false, false, false] rfl rfl (zk HT_.out (by kernel_rfl)) (fun _ _ _ h => h) (Or.inr ⟨by rfl, rfl⟩) ?_ ?_;rotate_left
         ·simp only [Act.put, Zs1, Zs2, Zs3, zq, zt]
          rfl
         refine z8 (i := 23) (N := some 36) (v := undef) (a' := ?_) #[true, true, true, true, true, true, true, true, true, true, true, true, true, true, true, true, true, true, true, true, true, true, true, true, false, false, false, false, false, false, false, false, false, false, false] rfl rfl (zk HT_.out (by kernel_rfl)) (fun _ _ _ h => h) (Or.inr ⟨by rfl, rfl⟩) ?_ ?_;rotate_left
         ·simp only [Act.put, Zs1, Zs2, Zs3, zq, zt]
          rfl
         refine z8 (i := 24) (N := some 37) (v := undef) (a' := ?_) #[true, true, true, true, true, true, true, true, true, true, true, true, true, true, true, true, true, true, true, true, true, true, true, true, true, false, false, false, false, false, false, false, false, false, false] rfl rfl (zk HT_.out (by kernel_rfl)) (fun _ _ _ h => h) (Or.inr ⟨by rfl, rfl⟩) ?_ ?_;rotate_left
         ·simp only [Act.put, Zs1, Zs2, Zs3, zq, zt]
          rfl
         refine z8 (i := 25) (N := some 38) (v := ?_) (a' := ?_) #[true, true, true, true, true, true, true, true, true, true, true, true, true, true, true, true, true, true, true, true, true, true, true, true, true, true, false, false, false, false, false, false, false, false, false] rfl rfl (zk HT_.out (by kernel_rfl)) (fun _ _ _ h => h) (Or.inl ⟨by rfl, ?_⟩) ?_ ?_;rotate_left
         ·intro w'
          go_simp;with_reducible rfl
         rotate_left
         ·simp only [Act.put, Zs1, Zs2, Zs3, zq, zt]
          rfl
         refine z8 (i := 26) (N := some 39) (v := ?_) (a' := ?_) #[true, true, true, true, true, true, true, true, true, true, true, true, true, true, true, true, true, true, true, true, true, true, true, true, true, true, true, false, false, false, false, false, false, false, false] rfl rfl (zk HT_.out (by kernel_rfl)) (fun _ _ _ h => h) (Or.inl ⟨by rfl, ?_⟩) ?_ ?_;rotate_left
         ·intro w'
          go_simp;with_reducible rfl
         rotate_left
         ·simp only [Act.put, Zs1, Zs2, Zs3, zq, zt]
          rfl
         refine z8 (i := 27) (N := some 40) (v := undef) (a' := ?_) #[true, true, true, true, true, true, true, true, true, true, true, true, true, true, true, true, true, true, true, true, true, true, true, true, true, true, true, true, false, false, false, false, false, false, false] rfl rfl (zk HT_.out (by kernel_rfl)) (fun _ _ _ h => h) (Or.inr ⟨by rfl, rfl⟩) ?_ ?_;rotate_left
         ·simp only [Act.put, Zs1, Zs2, Zs3, zq, zt]
          rfl
         refine z8 (i := 28) (N := some 41) (v := undef) (a' := ?_) #[true, true, true, true, true, true, true, true, true, true, true, true, true, true, true, true, true, true, true, true, true, true, true, true, true, true, true, true, true, false, false, false, false, false, false] rfl rfl (zk HT_.out (by kernel_rfl)) (fun _ _ _ h => h) (Or.inr ⟨by rfl, rfl⟩) ?_ ?_;rotate_left
         ·simp only [Act.put, Zs1, Zs2, Zs3, zq, zt]
          rfl
         refine z8 (i := 29) (N := some 42) (v := undef) (a' := ?_) #[true, true, true, true, true, true, true, true, true, true, true, true, true, true, true, true, true, true, true, true, true, true, true, true, true, true, true, true, true, true, false, false, false, false, false] rfl rfl (zk HT_.out (by kernel_rfl)) (fun _ _ _ h => h) (Or.inr ⟨by rfl, rfl⟩) ?_ ?_;rotate_left
         ·simp only [Act.put, Zs1, Zs2, Zs3, zq, zt]
          rfl
         refine z8 (i := 30) (N := some 43) (v := undef) (a' := ?_) #[true, true, true, true, true, true, true, true, true, true, true, true, true, true, true, true, true, true, true, true, true, true, true, true, true, true, true, true, true, true, true, false, false, false, false] rfl rfl (zk HT_.out (by kernel_rfl)) (fun _ _ _ h => h) (Or.inr ⟨by rfl, rfl⟩) ?_ ?_;rotate_left
         ·simp only [Act.put, Zs1, Zs2, Zs3, zq, zt]
          rfl
         refine z8 (i := 31) (N := some 44) (v := undef) (a' := ?_) #[true, true, true, true, true, true, true, true, true, true, true, true, true, true, true, true, true, true, true, true, true, true, true, true, true, true, true, true, true, true, true, true, false, false, false] rfl rfl (zk HT_.out (by kernel_rfl)) (fun _ _ _ h => h) (Or.inr ⟨by rfl, rfl⟩) ?_ ?_;rotate_left
         ·simp only [Act.put, Zs1, Zs2, Zs3, zq, zt]
          rfl
         refine z8 (i := 32) (N := some 45) (v := undef) (a' := ?_) #[true, true, true, true, true, true, true, true, true, true, true, true, true, true, true, true, true, true, true, true, true, true, true, true, true, true, true, true, true, true, true, true, true, false, false] rfl rfl (zk HT_.out (by kernel_rfl)) (fun _ _ _ h => h) (Or.inr ⟨by rfl, rfl⟩) ?_ ?_;rotate_left
         ·simp only [Act.put, Zs1, Zs2, Zs3, zq, zt]
          rfl
         refine z8 (i := 33) (N := some 46) (v := undef) (a' := ?_) #[true, true, true, true, true, true, true, true, true, true, true, true, true, true, true, true, true, true, true, true, true, true, true, true, true, true, true, true, true, true, true, true, true, true, false] rfl rfl (zk HT_.out (by kernel_rfl)) (fun _ _ _ h => h) (Or.inr ⟨by rfl, rfl⟩) ?_ ?_;rotate_left
         ·simp only [Act.put, Zs1, Zs2, Zs3, zq, zt]
          rfl
         refine z8 (i := 34) (N := some 47) (v := ?_) (a' := ?_) #[true, true, true, true, true, true, true, true, true, true, true, true, true, true, true, true, true, true, true, true, true, true, true, true, true, true, true, true, true, true, true, true, true, true, true] rfl rfl (zk HT_.out (by kernel_rfl)) (fun _ _ _ h => h) (Or.inl ⟨by rfl, ?_⟩) ?_ ?_;rotate_left
         ·intro w'
          go_simp;with_reducible rfl
         rotate_left
         ·simp only [Act.put, Zs1, Zs2, Zs3, zq, zt]
          rfl
         refine zg9 (zd8 HT_.out (by kernel_rfl)) ?_
         try go_wp2
         go_ret;exact ⟨by first | rfl | (simp [zbn, zbo] <;> rfl) | (simp [*, zbn, zbo] <;> rfl), Zq2 HB⟩
       ·rw [if_neg c7] at H
        exact absurd H (by simp)
      ·rw [if_neg c6] at H
       have c6b0 : (((zbd l1 x9_1).length : Int) == 2) = false := beq_eq_false_iff_ne.mpr c6;have c6b1 : (((zbd l1 x9_1).length : Int) != 2) = true := bne_iff_ne.mpr c6;obtain rfl := Option.some.inj H;have p196 : 0 ≤ (x9_1 : Int) := of_decide_eq_true Zas;have q196 : x9_1 < (l1.length : Int) := of_decide_eq_true Zas;obtain ⟨ad196, A196_0, c196_0, e196, hx196_0, hl196_0, hi196_0⟩ := zhg HR1.out x9_1 p196 q196
       cases e196
       replace hx196_0 := (HB.out.cell (World.block_lt_of_cell? w _ hx196_0)).trans hx196_0;have HR196_0 := za.mk hi196_0;have HC196_0 := za.mk hl196_0;clear hi196_0 hl196_0;replace p196 := eq_true p196;replace q196 := eq_true q196
       try go_wp2
       have n0_ := za.mk (zcm HB.out);clear HB;have HB := n0_;clear n0_;refine ze1 (n := 35) (S := fun w' => True) (ds := []) #[false, false, false, false, false, false, false, false, false, false, false, false, false, false, false, false, false, false, false, false, false, false, false, false, false, false, false, false, false, false, false, false, false, false, false] (by kernel_rfl) rfl rfl trivial (fun hHeld => ?_); refine zdj ze.tab4 ze.bits4 (fun HT_ HW_ => ?_);generalize wr.drew = w18 at HB hHeld ⊢;refine z8 (i := 0) (N := some 13) (v := ?_) (a' := ?_) #[true, false, false, false, false, false, false, false, false, false, false, false, false, false, false, false, false, false, false, false, false, false, false, false, false, false, false, false, false, false, false, false, false, false, false] rfl rfl (zk HT_.out (by kernel_rfl)) (fun _ _ _ h => h) (Or.inl ⟨by rfl, ?_⟩) ?_ ?_;rotate_left
       ·intro w'
        go_simp;with_reducible rfl
       rotate_left
       ·simp only [Act.put, Zs1, Zs2, Zs3, zq, zt]
        rfl
       refine z8 (i := 1) (N := some 14) (v := ?_) (a' := ?_) #[true, true, false, false, false, false, false, false, false, false, false, false, false, false, false, false, false, false, false, false, false, false, false, false, false, false, false, false, false, false, false, false, false, false, false] rfl rfl (zk HT_.out (by kernel_rfl)) (fun _ _ _ h => h) (Or.inl ⟨by rfl, ?_⟩) ?_ ?_;rotate_left
       ·intro w'
        go_simp;with_reducible rfl
       rotate_left
       ·simp only [Act.put, Zs1, Zs2, Zs3, zq, zt]
        rfl
       refine z8 (i := 2) (N := some 15) (v := ?_) (a' := ?_) #[true, true, true, false, false, false, false, false, false, false, false, false, false, false, false, false, false, false, false, false, false, false, false, false, false, false, false, false, false, false, false, false, false, false, false] rfl rfl (zk HT_.out (by kernel_rfl)) (fun _ _ _ h => h) (Or.inl ⟨by rfl, ?_⟩) ?_ ?_;rotate_left
       ·intro w'
        go_simp;with_reducible rfl
       rotate_left
       ·simp only [Act.put, Zs1, Zs2, Zs3, zq, zt]
        rfl
       refine z8 (i := 3) (N := some 16) (v := ?_) (a' := ?_) #[true, true, true, true, false, false, false, false, false, false, false, false, false, false, false, false, false, false, false, false, false, false, false, false, false, false, false, false, false, false, false, false, false, false, false] rfl rfl (zk HT_.out (by kernel_rfl)) (fun _ _ _ h => h) (Or.inl ⟨by rfl, ?_⟩) ?_ ?_;rotate_left
       ·intro w'
        go_simp;with_reducible rfl
       rotate_left
       ·simp only [Act.put, Zs1, Zs2, Zs3, zq, zt]
        rfl
       refine z8 (i := 4) (N := some 17) (v := undef) (a' := ?_) #[true, true, true, true, true, false, false, false, false, false, false, false, false, false, false, false, false, false, false, false, false, false, false, false, false, false, false, false, false, false, false, false, false, false, false] rfl rfl (zk HT_.out (by kernel_rfl)) (fun _ _ _ h => h) (Or.inr ⟨by rfl, rfl⟩) ?_ ?_;rotate_left
       ·simp only [Act.put, Zs1, Zs2, Zs3, zq, zt]
        rfl
       refine z8 (i := 5) (N := some 18) (v := undef) (a' := ?_) #[true, true, true, true, true, true, false, false, false, false, false, false, false, false, false, false, false, false, false, false, false, false, false, false, false, false, false, false, false, false, false, false, false, false, false] rfl rfl (zk HT_.out (by kernel_rfl)) (fun _ _ _ h => h) (Or.inr ⟨by rfl, rfl⟩) ?_ ?_;rotate_left
       ·simp only [Act.put, Zs1, Zs2, Zs3, zq, zt]
        rfl
       refine z8 (i := 6) (N := some 19) (v := undef) (a' := ?_) #[true, true, true, true, true, true, true, false, false, false, false, false, false, false, false, false, false, false, false, false, false, false, false, false, false, false, false, false, false, false, false, false, false, false, false] rfl rfl (zk HT_.out (by kernel_rfl)) (fun _ _ _ h => h) (Or.inr ⟨by rfl, rfl⟩) ?_ ?_;rotate_left
       ·simp only [Act.put, Zs1, Zs2, Zs3, zq, zt]
        rfl
       refine z8 (i := 7) (N := some 20) (v := undef) (a' := ?_) #[true, true, true, true, true, true, true, true, false, false, false, false, false, false, false, false, false, false, false, false, false, false, false, false, false, false, false, false, false, false, false, false, false, false, false] rfl rfl (zk HT_.out (by kernel_rfl)) (fun _ _ _ h => h) (Or.inr ⟨by rfl, rfl⟩) ?_ ?_;rotate_left
       ·simp only [Act.put, Zs1, Zs2, Zs3, zq, zt]
        rfl
       refine z8 (i := 8) (N := some 21) (v := undef) (a' := ?_) #[true, true, true, true, true, true, true, true, true, false, false, false, false, false, false, false, false, false, false, false, false, false, false, false, false, false, false, false, false, false, false, false, false, false, false] rfl rfl (zk HT_.out (by kernel_rfl)) (fun _ _ _ h => h) (Or.inr ⟨by rfl, rfl⟩) ?_ ?_;rotate_left
       ·simp only [Act.put, Zs1, Zs2, Zs3, zq, zt]
        rfl
       refine z8 (i := 9) (N := some 22) (v := undef) (a' := ?_) #[true, true, true, true, true, true, true, true, true, true, false, false, false, false, false, false, false, false, false, false, false, false, false, false, false, false, false, false, false, false, false, false, false, false, false] rfl rfl (zk HT_.out (by kernel_rfl)) (fun _ _ _ h => h) (Or.inr ⟨by rfl, rfl⟩) ?_ ?_;rotate_left
       ·simp only [Act.put, Zs1, Zs2, Zs3, zq, zt]
        rfl
       refine z8 (i := 10) (N := some 23) (v := undef) (a' := ?_) #[true, true, true, true, true, true, true, true, true, true, true, false, false, false, false, false, false, false, false, false, false, false, false, false, false, false, false, false, false, false, false, false, false, false, false] rfl rfl (zk HT_.out (by kernel_rfl)) (fun _ _ _ h => h) (Or.inr ⟨by rfl, rfl⟩) ?_ ?_;rotate_left
       ·simp only [Act.put, Zs1, Zs2, Zs3, zq, zt]
        rfl
       refine z8 (i := 11) (N := some 24) (v := undef) (a' := ?_) #[true, true, true, true, true, true, true, true, true, true, true, true, false, false, false, false, false, false, false, false, false, false, false, false, false, false, false, false, false, false, false, false, false, false, false] rfl rfl (zk HT_.out (by kernel_rfl)) (fun _ _ _ h => h) (Or.inr ⟨by rfl, rfl⟩) ?_ ?_;rotate_left
       ·simp only [Act.put, Zs1, Zs2, Zs3, zq, zt]
        rfl
       refine z8 (i := 12) (N := some 25) (v := ?_) (a' := ?_) #[true, true, true, true, true, true, true, true, true, true, true, true, true, false, false, false, false, false, false, false, false, false, false, false, false, false, false, false, false, false, false, false, false, false, false] rfl rfl (zk HT_.out (by kernel_rfl)) (fun _ _ _ h => h) (Or.inl ⟨by rfl, ?_⟩) ?_ ?_;rotate_left
       ·intro w'
        go_simp;with_reducible rfl
       rotate_left
       ·simp only [Act.put, Zs1, Zs2, Zs3, zq, zt]
        rfl
       refine z8 (i := 13) (N := some 26) (v := ?_) (a' := ?_) #[true, true, true, true, true, true, true, true, true, true, true, true, true, true, false, false, false, false, false, false, false, false, false, false, false, false, false, false, false, false, false, false, false, false, false] rfl rfl (zk HT_.out (by kernel_rfl)) (fun _ _ _ h => h) (Or.inl ⟨by rfl, ?_⟩) ?_ ?_;rotate_left
       ·intro w'
        go_simp;with_reducible rfl
       rotate_left
       ·simp only [Act.put, Zs1, Zs2, Zs3, zq, zt]
        rfl
       refine z8 (i := 14) (N := some 27) (v := undef) (a' := ?_) #[true, true, true, true, true, true, true, true, true, true, true, true, true, true, true, false, false, false, false, false, false, false, false, false, false, false, false, false, false, false, false, false, false, false, false] rfl rfl (zk HT_.out (by kernel_rfl)) (fun _ _ _ h => h) (Or.inr ⟨by rfl, rfl⟩) ?_ ?_;rotate_left
       ·simp only [Act.put, Zs1, Zs2, Zs3, zq, zt]
        rfl
       refine z8 (i := 15) (N := some 28) (v := undef) (a' := ?_) #[true, true, true, true, true, true, true, true, true, true, true, true, true, true, true, true, false, false, false, false, false, false, false, false, false, false, false, false, false, false, false, false, false, false, false] rfl rfl (zk HT_.out (by kernel_rfl)) (fun _ _ _ h => h) (Or.inr ⟨by rfl, rfl⟩) ?_ ?_;rotate_left
       ·simp only [Act.put, Zs1, Zs2, Zs3, zq, zt]
        rfl
       refine z8 (i := 16) (N := some 29) (v := undef) (a' := ?_) #[true, true, true, true, true, true, true, true, true, true, true, true, true, true, true, true, true, false, false, false, false, false, false, false, false, false, false, false, false, false, false, false, false, false, false] rfl rfl (zk HT_.out (by kernel_rfl)) (fun _ _ _ h => h) (Or.inr ⟨by rfl, rfl⟩) ?_ ?_;rotate_left
       ·simp only [Act.put, Zs1, Zs2, Zs3, zq, zt]
        rfl
       refine z8 (i := 17) (N := some 30) (v := undef) (a' := ?_) #[true, true, true, true, true, true, true, true, true, true, true, true, true, true, true, true, true, true, false, false, false, false, false, false, false, false, false, false, false, false, false, false, false, false, false] rfl rfl (zk HT_.out (by kernel_rfl)) (fun _ _ _ h => h) (Or.inr ⟨by rfl, rfl⟩) ?_ ?_;rotate_left
       ·simp only [Act.put, Zs1, Zs2, Zs3, zq, zt]
        rfl
       refine z8 (i := 18) (N := some 31) (v := undef) (a' := ?_) #[true, true, true, true, true, true, true, true, true, true, true, true, true, true, true, true, true, true, true, false, false, false, false, false, false, false, false, false, false, false, false, false, false, false, false] rfl rfl (zk HT_.out (by kernel_rfl)) (fun _ _ _ h => h) (Or.inr ⟨by rfl, rfl⟩) ?_ ?_;rotate_left
       ·simp only [Act.put, Zs1, Zs2, Zs3, zq, zt]
        rfl
       refine z8 (i := 19) (N := some 32) (v := undef) (a' := ?_) #[true, true, true, true, true, true, true, true, true, true, true, true, true, true, true, true, true, true, true, true, false, false, false, false, false, false, false, false, false, false, false, false, false, false, false] rfl rfl (zk HT_.out (by kernel_rfl)) (fun _ _ _ h => h) (Or.inr ⟨by rfl, rfl⟩) ?_ ?_;rotate_left
       ·simp only [Act.put, Zs1, Zs2, Zs3, zq, zt]
        rfl
       refine z8 (i := 20) (N := some 33) (v := undef) (a' := ?_) #[true, true, true, true, true, true, true, true, true, true, true, true, true, true, true, true, true, true, true, true, true, false, false, false, false, false, false, false, false, false, false, false, false, false, false] rfl rfl (zk HT_.out (by kernel_rfl)) (fun _ _ _ h => h) (Or.inr ⟨by rfl, rfl⟩) ?_ ?_;rotate_left
       ·simp only [Act.put, Zs1, Zs2, Zs3, zq, zt]
        rfl
       refine z8 (i := 21) (N := some 34) (v := undef) (a' := ?_) #[true, true, true, true, true, true, true, true, true, true, true, true, true, true, true, true, true, true, true, true, true, true, false, false, false, false, false, false, false, false, false, false, false, false, false] rfl rfl (zk HT_.out (by kernel_rfl)) (fun _ _ _ h => h) (Or.inr ⟨by rfl, rfl⟩) ?_ ?_;rotate_left
       ·simp only [Act.put, Zs1, Zs2, Zs3, zq, zt]
        rfl
       refine z8 (i := 22) (N := some 35) (v := undef) (a' := ?_) #[true, true, true, true, true, true, true, true, true, true, true, true, true, true, true, true, true, true, true, true, true, true, true, false, false, false, false, false, false, false, false, false, false, false, false] rfl rfl (zk HT_.out (by kernel_rfl)) (fun _ _ _ h => h) (Or.inr ⟨by rfl, rfl⟩) ?_ ?_;rotate_left
       ·simp only [Act.put, Zs1, Zs2, Zs3, zq, zt]
        rfl
       refine z8 (i := 23) (N := some 36) (v := undef) (a' := ?_) #[true, true, true, true, true, true, true, true, true, true, true, true, true, true, true, true, true, true, true, true, true, true, true, true, false, false, false, false, false, false, false, false, false, false, false] rfl rfl (zk HT_.out (by kernel_rfl)) (fun _ _ _ h => h) (Or.inr ⟨by rfl, rfl⟩) ?_ ?_;rotate_left
       ·simp only [Act.put, Zs1, Zs2, Zs3, zq, zt]
        rfl
       refine z8 (i := 24) (N := some 37) (v := undef) (a' := ?_) #[true, true, true, true, true, true, true, true, true, true, true, true, true, true, true, true, true, true, true, true, true, true, true, true, true, false, false, false, false, false, false, false, false, false, false] rfl rfl (zk HT_.out (by kernel_rfl)) (fun _ _ _ h => h) (Or.inr ⟨by rfl, rfl⟩) ?_ ?_;rotate_left
       ·simp only [Act.put, Zs1, Zs2, Zs3, zq, zt]
        rfl
       refine z8 (i := 25) (N := some 38) (v := ?_) (a' := ?_) #[true, true, true, true, true, true, true, true, true, true, true, true, true, true, true, true, true, true, true, true, true, true, true, true, true, true, false, false, false, false, false, false, false, false, false] rfl rfl (zk HT_.out (by kernel_rfl)) (fun _ _ _ h => h) (Or.inl ⟨by rfl, ?_⟩) ?_ ?_;rotate_left
       ·intro w'
        go_simp;with_reducible rfl
       rotate_left
       ·simp only [Act.put, Zs1, Zs2, Zs3, zq, zt]
        rfl
       refine z8 (i := 26) (N := some 39) (v := ?_) (a' := ?_) #[true, true, true, true, true, true, true, true, true, true, true, true, true, true, true, true, true, true, true, true, true, true, true, true, true, true, true, false, false, false, false, false, false, false, false] rfl rfl (zk HT_.out (by kernel_rfl)) (fun _ _ _ h => h) (Or.inl ⟨by rfl, ?_⟩) ?_ ?_;rotate_left
       ·intro w'
        go_simp;with_reducible rfl
       rotate_left
       ·simp only [Act.put, Zs1, Zs2, Zs3, zq, zt]
        rfl
       refine z8 (i := 27) (N := some 40) (v := undef) (a' := ?_) #[true, true, true, true, true, true, true, true, true, true, true, true, true, true, true, true, true, true, true, true, true, true, true, true, true, true, true, true, false, false, false, false, false, false, false] rfl rfl (zk HT_.out (by kernel_rfl)) (fun _ _ _ h => h) (Or.inr ⟨by rfl, rfl⟩) ?_ ?_;rotate_left
       ·simp only [Act.put, Zs1, Zs2, Zs3, zq, zt]
        rfl
       refine z8 (i := 28) (N := some 41) (v := undef) (a' := ?_) #[true, true, true, true, true, true, true, true, true, true, true, true, true, true, true, true, true, true, true, true, true, true, true, true, true, true, true, true, true, false, false, false, false, false, false] rfl rfl (zk HT_.out (by kernel_rfl)) (fun _ _ _ h => h) (Or.inr ⟨by rfl, rfl⟩) ?_ ?_;rotate_left
       ·simp only [Act.put, Zs1, Zs2, Zs3, zq, zt]
        rfl
       refine z8 (i := 29) (N := some 42) (v := undef) (a' := ?_) #[true, true, true, true, true, true, true, true, true, true, true, true, true, true, true, true, true, true, true, true, true, true, true, true, true, true, true, true, true, true, false, false, false, false, false] rfl rfl (zk HT_.out (by kernel_rfl)) (fun _ _ _ h => h) (Or.inr ⟨by rfl, rfl⟩) ?_ ?_;rotate_left
       ·simp only [Act.put, Zs1, Zs2, Zs3, zq, zt]
        rfl
       refine z8 (i := 30) (N := some 43) (v := undef) (a' := ?_) #[true, true, true, true, true, true, true, true, true, true, true, true, true, true, true, true, true, true, true, true, true, true, true, true, true, true, true, true, true, true, true, false, false, false, false] rfl rfl (zk HT_.out (by kernel_rfl)) (fun _ _ _ h => h) (Or.inr ⟨by rfl, rfl⟩) ?_ ?_;rotate_left
       ·simp only [Act.put, Zs1, Zs2, Zs3, zq, zt]
        rfl
       refine z8 (i := 31) (N := some 44) (v := undef) (a' := ?_) #[true, true, true, true, true, true, true, true, true, true, true, true, true, true, true, true, true, true, true, true, true, true, true, true, true, true, true, true, true, true, true, true, false, false, false] rfl rfl (zk HT_.out (by kernel_rfl)) (fun _ _ _ h => h) (Or.inr ⟨by rfl, rfl⟩) ?_ ?_;rotate_left
       ·simp only [Act.put, Zs1, Zs2, Zs3, zq, zt]
        rfl
       refine z8 (i := 32) (N := some 45) (v := undef) (a' := ?_) #[true, true, true, true, true, true, true, true, true, true, true, true, true, true, true, true, true, true, true, true, true, true, true, true, true, true, true, true, true, true, true, true, true, false, false] rfl rfl (zk HT_.out (by kernel_rfl)) (fun _ _ _ h => h) (Or.inr ⟨by rfl, rfl⟩) ?_ ?_;rotate_left
       ·simp only [Act.put, Zs1, Zs2, Zs3, zq, zt]
        rfl
       refine z8 (i := 33) (N := some 46) (v := undef) (a' := ?_) #[true, true, true, true, true, true, true, true, true, true, true, true, true, true, true, true, true, true, true, true, true, true, true, true, true, true, true, true, true, true, true, true, true, true, false] rfl rfl (zk HT_.out (by kernel_rfl)) (fun _ _ _ h => h) (Or.inr ⟨by rfl, rfl⟩) ?_ ?_;rotate_left
       ·simp only [Act.put, Zs1, Zs2, Zs3, zq, zt]
        rfl
       refine z8 (i := 34) (N := some 47) (v := ?_) (a' := ?_) #[true, true, true, true, true, true, true, true, true, true, true, true, true, true, true, true, true, true, true, true, true, true, true, true, true, true, true, true, true, true, true, true, true, true, true] rfl rfl (zk HT_.out (by kernel_rfl)) (fun _ _ _ h => h) (Or.inl ⟨by rfl, ?_⟩) ?_ ?_;rotate_left
       ·intro w'
        go_simp;with_reducible rfl
       rotate_left
       ·simp only [Act.put, Zs1, Zs2, Zs3, zq, zt]
        rfl
       refine zg9 (zd8 HT_.out (by kernel_rfl)) ?_
       try go_wp2
       go_ret;exact ⟨by first | rfl | (simp [zbn, zbo] <;> rfl) | (simp [*, zbn, zbo] <;> rfl), Zq2 HB⟩
     ·rw [if_neg c5] at H
      exact absurd H (by simp)
    ·rw [if_neg c4] at H
     exact absurd H (by simp)
   ·rw [if_neg c3] at H
    have c3b0 : decide (x9_1 < (l1.length : Int)) = false := decide_eq_false c3;clear c3;by_cases c19 : (l0.length : Int) ≤ 8
    ·rw [if_pos c19] at H
     have c19b0 : decide ((l0.length : Int) ≤ 8) = true := decide_eq_true c19;have c19b1 : decide (l0.length ≤ 8) = true := decide_eq_true (by omega);clear c19;by_cases c20 : (l1.length : Int) ≤ 64
     ·rw [if_pos c20] at H
      have c20b0 : decide ((l1.length : Int) ≤ 64) = true := decide_eq_true c20;have c20b1 : decide (l1.length ≤ 64) = true := decide_eq_true (by omega);clear c20;replace H := Option.bind_eq_some_iff.mp H;obtain ⟨t195, A210, H⟩ := H;replace H : (some (!t195)) = some r := H;have A21 := za.mk A210;clear A210;obtain rfl := Option.some.inj H;go_wp2_with (first | (go_at_call 53; (with_reducible refine (zcq.calls _ _ l0  t195 _ ?side1 ?side2 A21.out).mono ?_); (case side1 => exact Zq4 (Kd.zcl HR0.out HB.out)); (case side2 => exact HC0.out); rintro e w22 ⟨rfl, hb⟩; have n0_ := za.mk (zf (Zq2 HB) hb); clear HB; have HB := n0_; clear n0_; (try clear hb); (try clear hb2); (try clear hk); (try clear hi)));go_ret;exact ⟨by first | rfl | (simp [zbn, zbo] <;> rfl) | (simp [*, zbn, zbo] <;> rfl), Zq2 HB⟩
     ·rw [if_neg c20] at H
      have c20b0 : decide ((l1.length : Int) ≤ 64) = false := decide_eq_false c20;have c20b1 : decide (l1.length ≤ 64) = false := decide_eq_false (by omega);clear c20;obtain rfl := Option.some.inj H;go_wp2;go_ret;exact ⟨by first | rfl | (simp [zbn, zbo] <;> rfl) | (simp [*, zbn, zbo] <;> rfl), Zq2 HB⟩
    ·rw [if_neg c19] at H
     have c19b0 : decide ((l0.length : Int) ≤ 8) = false := decide_eq_false c19;have c19b1 : decide (l0.length ≤ 8) = false := decide_eq_false (by omega);clear c19;obtain rfl := Option.some.inj H;go_wp2;go_ret;exact ⟨by first | rfl | (simp [zbn, zbo] <;> rfl) | (simp [*, zbn, zbo] <;> rfl), Zq2 HB⟩
def zcb.f (a0 : Int) : Option (Bool) := (zco.f a0 1 5).bind fun t204 => (some t204)
set_option maxHeartbeats 8000000 in
theorem zcb.calls (a0 : Int) (r : Bool) (w : World) (h : zcb.f a0 = some r) :
  Calls Try.prog 31 #[.int .i64 a0] w fun e w' => e = .returned (.bool r) ∧ zbs w w' := by
 have H : ((zco.f a0 1 5).bind fun t204 => (some t204)) = some r := h
 clear h
 replace H := Option.bind_eq_some_iff.mp H
 obtain ⟨t204, A20, H⟩ := H
 replace H : (some t204) = some r := H
 have A2 := za.mk A20
 clear A20
 obtain rfl := Option.some.inj H
 go_enter Try.func31, Try.ntmps31
 go_wp2_with (first | ((with_reducible refine zbw (f := 52) rfl ?_); refine zc0 (some 4) rfl rfl Try.func52 (by kernel_rfl) rfl #[.int .i64 a0, .int .i64 1, .int .i64 5] rfl Zmt ?_; (with_reducible refine (zco.calls a0 1 5 t204 _ A2.out).mono ?_); rintro e w' ⟨rfl, ⟨nd, rfl⟩⟩; refine ⟨_, rfl, ?_⟩))
 go_ret
 exact ⟨by first | rfl | (simp; done) | (simp [*]; done), by repeat (first | exact zbs.refl _ | apply zbs.step)⟩
def bits_Mul64.f (a0 : Int) (a1 : Int) : Option (Int × Int) := some (IntKind.u64.wrap ((IntKind.u64.wrap ((IntKind.u64.wrap ((a0 / 4294967296) * (a1 / 4294967296))) + ((IntKind.u64.wrap ((IntKind.u64.wrap ((a0 / 4294967296) * (Go.bits .and .u64 a1 4294967295))) + ((IntKind.u64.wrap ((Go.bits .and .u64 a0 4294967295) * (Go.bits .and .u64 a1 4294967295))) / 4294967296))) / 4294967296))) + ((IntKind.u64.wrap ((Go.bits .and .u64 (IntKind.u64.wrap ((IntKind.u64.wrap ((a0 / 4294967296) * (Go.bits .and .u64 a1 4294967295))) + ((IntKind.u64.wrap ((Go.bits .and .u64 a0 4294967295) * (Go.bits .and .u64 a1 4294967295))) / 4294967296))) 4294967295) + (IntKind.u64.wrap ((Go.bits .and .u64 a0 4294967295) * (a1 / 4294967296))))) / 4294967296)), IntKind.u64.wrap (a0 * a1))
set_option maxHeartbeats 8000000 in
theorem bits_Mul64.calls (a0 : Int) (a1 : Int) (r1 : Int) (r2 : Int) (w : World) (h : bits_Mul64.f a0 a1 = some (r1, r2)) :
  Calls Try.prog 65 #[.int .u64 a0, .int .u64 a1] w fun e w' => e = .returned (.tuple #[.int .u64 r1, .int .u64 r2]) ∧ zbs w w' := by
 have H : (some (IntKind.u64.wrap ((IntKind.u64.wrap ((IntKind.u64.wrap ((a0 / 4294967296) * (a1 / 4294967296))) + ((IntKind.u64.wrap ((IntKind.u64.wrap ((a0 / 4294967296) * (Go.bits .and .u64 a1 4294967295))) + ((IntKind.u64.wrap ((Go.bits .and .u64 a0 4294967295) * (Go.bits .and .u64 a1 4294967295))) / 4294967296))) / 4294967296))) + ((IntKind.u64.wrap ((Go.bits .and .u64 (IntKind.u64.wrap ((IntKind.u64.wrap ((a0 / 4294967296) * (Go.bits .and .u64 a1 4294967295))) + ((IntKind.u64.wrap ((Go.bits .and .u64 a0 4294967295) * (Go.bits .and .u64 a1 4294967295))) / 4294967296))) 4294967295) + (IntKind.u64.wrap ((Go.bits .and .u64 a0 4294967295) * (a1 / 4294967296))))) / 4294967296)), IntKind.u64.wrap (a0 * a1))) = some (r1, r2) := h
 clear h
 simp only [Option.some.injEq, Prod.mk.injEq] at H
 obtain ⟨rfl, rfl⟩ := H
 go_enter Try.func65, Try.ntmps65
 go_wp2
 go_ret2
 exact ⟨by first | rfl | (simp; done) | (simp [*]; done), by repeat (first | exact zbs.refl _ | apply zbs.step)⟩
def bits_Mul.f (a0 : Int) (a1 : Int) : Option (Int × Int) := (bits_Mul64.f a0 a1).bind fun bt205 => (some (bt205.1, bt205.2))
set_option maxHeartbeats 8000000 in
theorem bits_Mul.calls (a0 : Int) (a1 : Int) (r1 : Int) (r2 : Int) (w : World) (h : bits_Mul.f a0 a1 = some (r1, r2)) :
  Calls Try.prog 63 #[.int .u64 a0, .int .u64 a1] w fun e w' => e = .returned (.tuple #[.int .u64 r1, .int .u64 r2]) ∧ zbs w w' := by
 have H : ((bits_Mul64.f a0 a1).bind fun bt205 => (some (bt205.1, bt205.2))) = some (r1, r2) := h
 clear h
 replace H := Option.bind_eq_some_iff.mp H
 obtain ⟨⟨t205, t206⟩, A30, H⟩ := H
 replace H : (some (t205, t206)) = some (r1, r2) := H
 have A3 := za.mk A30
 clear A30
 simp only [Option.some.injEq, Prod.mk.injEq] at H
 obtain ⟨rfl, rfl⟩ := H
 go_enter Try.func63, Try.ntmps63
 go_wp2_with (first | ((with_reducible refine zbw (f := 65) rfl ?_); refine zc0 (some 25) rfl rfl Try.func65 (by kernel_rfl) rfl #[.int .u64 a0, .int .u64 a1] rfl Zmt ?_; (with_reducible refine (bits_Mul64.calls a0 a1 t205 t206 _ A3.out).mono ?_); rintro e w' ⟨rfl, ⟨nd, rfl⟩⟩; refine ⟨_, rfl, ?_⟩))
 go_ret2
 exact ⟨by first | rfl | (simp; done) | (simp [*]; done), by repeat (first | exact zbs.refl _ | apply zbs.step)⟩
theorem and_lo (x : Int) (h0 : 0 ≤ x) (h1 : x < 4294967296) : Go.bits .and .u64 x 4294967295 = x := by
  obtain ⟨a, rfl⟩ := Int.eq_ofNat_of_zero_le h0
  have ha : a < 4294967296 := by omega
  have hb : (4294967295 : Int) = ((4294967295 : Nat) : Int) := rfl
  simp only [Go.bits]
  rw [show IntKind.u64.bits = 64 from rfl, hb, BitVec.toNat_and, BitVec.ofInt_natCast, BitVec.ofInt_natCast, BitVec.toNat_ofNat, BitVec.toNat_ofNat, Nat.mod_eq_of_lt (show a < 2 ^ 64 by omega), Nat.mod_eq_of_lt (show 4294967295 < 2 ^ 64 by omega)]
  rw [show (4294967295 : Nat) = 2 ^ 32 - 1 by decide, Nat.and_two_pow_sub_one_eq_mod, Nat.mod_eq_of_lt (by omega)]
  rw [IntKind.wrap_u64]
  omega
theorem zgu (n : Int) (h0 : 0 ≤ n) (h1 : n ≤ 1000000) : bits_Mul.f 1 n = some (0, n) := by
  have hd : n / 4294967296 = 0 := Int.ediv_eq_zero_of_lt h0 (by omega)
  have w0 : ∀ x : Int, 0 ≤ x → x ≤ 1000000 → IntKind.u64.wrap x = x := fun x h h' => by rw [IntKind.wrap_u64]; omega
  unfold bits_Mul.f bits_Mul64.f
  rw [and_lo 1 (by omega) (by omega), and_lo n h0 (by omega), hd]
  simp only [Int.one_mul, show (1 : Int) / 4294967296 = 0 by decide, Int.zero_mul, w0 0 (by omega) (by omega), w0 n h0 h1, hd, Int.add_zero, Int.mul_zero, and_lo 0 (by omega) (by omega), show (0 : Int) / 4294967296 = 0 by decide, Option.bind_some]
def rowAt (n m : Nat) : List Int := List.replicate m (-1) ++ List.replicate (n - m) 0
theorem rowAt_set (n m : Nat) (h : m < n) : (rowAt n m).set m (-1) = rowAt n (m + 1) := by
  unfold rowAt
  rw [List.set_append_right _ _ (by simp), List.length_replicate, Nat.sub_self, show n - m = (n - (m + 1)) + 1 by omega, List.replicate_succ, List.set_cons_zero, List.replicate_succ', List.append_assoc, List.singleton_append]
theorem rowAt_rd (n m i : Nat) (h : i < m) (hm : m ≤ n) : rdOf 0 (rowAt n m) (i : Int) = -1 := by
  unfold rdOf rowAt
  rw [List.getD_eq_getElem?_getD, Int.toNat_natCast, List.getElem?_append_left (by simpa using h), List.getElem?_replicate, if_pos h]
  rfl
theorem R_rowAt {e base : Nat} {ok : Nat → Prop} {g n cap : Nat} : ∀ (q m : Nat) (W : World), m + q ≤ n → Kd.R (Kd.int .i64) e W base ok (.slice (some ⟨g, 0, none⟩) n cap) (rowAt n m) → Kd.R (Kd.int .i64) e (W.setCells g m (List.replicate q (.int .i64 (-1)))) base ok (.slice (some ⟨g, 0, none⟩) n cap) (rowAt n (m + q))
  | 0, m, W, _, h => h
  | q + 1, m, W, hq, h => by
    rw [List.replicate_succ, World.setCells]
    have h1 := (Kd.zec h (m : Int) (-1)).1
    rw [Int.toNat_natCast, rowAt_set n m (by omega)] at h1
    have := R_rowAt q (m + 1) _ (by omega) h1
    rwa [show m + 1 + q = m + (q + 1) by omega] at this
theorem below_setCells {base : Nat} {w : World} {g : Nat} (hg : base ≤ g) : ∀ (vs : List Value) (o : Nat) (W : World), Below base w W → Below base w (W.setCells g o vs)
  | [], _, _, h => h
  | v :: vs, o, W, h => below_setCells hg vs (o + 1) _ (h.setCell hg _)
theorem self_copy {base : Nat} {ok : Nat → Prop} {g n cap m : Nat} {W : World} (hm : 1 ≤ m) (hmn : m ≤ n) (h : Kd.R (Kd.int .i64) 3 W base ok (.slice (some ⟨g, 0, none⟩) n cap) (rowAt n m)) (ty dc sc : Nat) :
    (Builtin.copy_ #[23, 23] ty #[.slice (some ⟨g, m, none⟩) (n - m) dc, .slice (some ⟨g, 0, none⟩) m sc]).run Try.prog W = .ok (goInt ((List.replicate (min m (n - m)) (Value.int .i64 (-1))).length)) (W.setCells g m (List.replicate (min m (n - m)) (.int .i64 (-1)))) := by
  have hc := fun (i : Nat) (hi : i < n) => Kd.zek 0 h (i : Int) (by omega) (by omega)
  refine run_copy_cells W 23 23 ty 3 g m (n - m) dc ⟨g, 0, none⟩ m sc _ Try.underlying23 (by kernel_rfl) (by rw [List.length_replicate]) (fun j v hj => ?_) (fun j hj => ?_) (fun j hj => ?_) (fun v hv => ?_)
  · rw [List.getElem?_replicate] at hj
    split at hj
    · rename_i hlt
      have := (hc j (by omega)).1
      rw [rowAt_rd n m j (by omega) hmn, Int.toNat_natCast] at this
      injection hj with hj
      rw [← hj, ← this]
      simp only [Addr.add]
      split
      · rename_i h0; subst h0; rfl
      · simp
    · cases hj
  · rw [List.length_replicate] at hj
    have := (hc (m + j) (by omega)).1
    rw [Int.toNat_natCast] at this
    rw [this]; rfl
  · rw [List.length_replicate] at hj
    have := (hc (m + j) (by omega)).2
    rwa [Int.toNat_natCast] at this
  · rw [List.eq_of_mem_replicate hv]; rfl
theorem zgv {P : Program} (w : World) {o : Oper} {a : Act} {K : Act → World → Prop} {Q : Exit → Act → World → Prop} (d s : Operand) (t t' : TypeId)
    (ho : o.op = .call { callee := .builtin .copy, args := #[d, s], argTypes := #[t, t'] }) (v u : Value) (hd : a.eval d = v) (hs : a.eval s = u) {v' : Value} {w' : World}
    (hr : (Builtin.copy_ #[t, t'] o.type #[v, u]).run P w = .ok v' w') (h : K (a.put o.dst v') w') : o.wp P a w K Q := by
  unfold Oper.wp execOp
  simp only [ho, resolve, invoke, builtin, Sem.run_bind, Sem.run_pure, Result.andThen_ok, List.map_toArray, List.map_cons, List.map_nil, hd, hs, hr]
  exact h
theorem zfj {P : Program} {ops : Array Oper} {o : Oper} {a : Act} {w : World} {K : Act → World → Prop} {Q : Exit → Act → World → Prop} {E : Prop}
    (hg : o.guard = none) (d x : Operand) (dT sT : TypeId) (hop : o.op = Op.call { callee := Callee.builtin Builtin.copy, args := #[d, x], argTypes := #[dT, sT] })
    (v u : Value) (hd : a.eval d = v) (hx : a.eval x = u) {v' : Value} {w' : World} (hr : (Builtin.copy_ #[dT, sT] o.type #[v, u]).run P w = .ok v' w') (hK : K (a.put o.dst v') w') :
    if Region.wanted o (yielded ops a.tmps) = true then Oper.wp P o a w K Q else E := by
  have hw : Region.wanted o (yielded ops a.tmps) = true := by simp [Region.wanted, hg]
  rw [if_pos hw]
  exact zgv w d x dT sT hop v u hd hx hr hK
set_option maxHeartbeats 4000000 in
theorem zgw (n : Nat) (hn : n ≤ 1000000) (hpos : 0 < n) (A : Option Addr) (c : Nat) (w : World) (hr : Kd.C (Kd.int .i64) w A 1 [-1]) :
    Calls Try.prog 55 #[.slice A 1 c, .int .i64 n] w fun e w' => ∃ v0_ : Value, e = .returned v0_ ∧ Kd.R (Kd.int .i64) 3 w' w.heap.size (fun _ => True) v0_ (List.replicate n (-1)) ∧ Below w.heap.size w w' := by
  have HR := za.mk hr
  clear hr
  have hM := za.mk (zgu (n : Int) (by omega) (by omega))
  have hn0 : ¬ (n : Int) < 0 := by omega
  have hn1 : IntKind.u64.wrap (n : Int) = (n : Int) := by rw [IntKind.wrap_u64]; omega
  have hn2 : IntKind.i64.wrap (n : Int) = (n : Int) := by rw [IntKind.wrap_i64]; omega
  have hn3 : ¬ (n : Int) > 9223372036854775807 := by omega
  have hn4 : decide ((n : Int) > 9223372036854775807) = false := decide_eq_false (by omega)
  go_enter Try.func55, Try.ntmps55
  go_wp2_with (first
    | (go_at_call 63; refine (bits_Mul.calls 1 (n : Int) 0 (n : Int) _ hM.out).mono ?_; rintro e w' ⟨rfl, ⟨nq, rfl⟩⟩)
    | ((with_reducible refine zbk (N := 30) rfl ?_); refine Kd.R_make (Kd.int .i64) _ 3 rfl (N := 30) rfl 23 _ _ rfl (n : Int) rfl rfl Try.underlying23 (.int .i64 0) 8 info3 rfl (by decide) (by omega) 0 (ok := fun _ => True) (okp := fun _ => True) rfl (fun _ hk => hk) trivial (by omega) (by omega) (Below.refl _ _) (Nat.le_refl _) ?_; intro v w4 ho5 hb hg_ hnew_; rw [Int.toNat_natCast] at ho5; obtain ⟨gb, cap, ev, hgb, _, _, _⟩ := Kd.R_form ho5 (by rw [List.length_replicate]; exact hpos); subst ev; rw [List.length_replicate] at ho5; have HO := za.mk ho5; have HB := za.mk hb; have GB := za.mk hgb; clear hg_ hnew_ ho5 hb hgb)
    | ((with_reducible refine zbk (N := 33) rfl ?_); refine Kd.R_copy (0 : Int) (w.drewN nq).heap.size rfl _ _ 23 23 3 rfl Try.underlying23 (by kernel_rfl) _ _ [-1] A 1 c (fun _ => True) rfl rfl HO.out (Kd.zcl HR.out ((zbr (Below.refl _ _) nq).trans HB.out)) HB.out HB.out.size ?_; intro w5 ho6 hb6 hg6; rw [show [(-1 : Int)].take (min 1 (List.replicate n (0 : Int)).length) ++ (List.replicate n (0 : Int)).drop (min 1 (List.replicate n (0 : Int)).length) = rowAt n 1 by rw [List.length_replicate, Nat.min_eq_left hpos]; simp [rowAt]] at ho6; have HO6 : za (Kd.R (Kd.int .i64) 3 w5 (w.drewN nq).heap.size (fun _ => True) (.slice (some ⟨gb, 0, none⟩) n cap) (rowAt n 1)) := ⟨ho6⟩; have HB6 := za.mk hb6; clear ho6 hb6 hg6))
  go_loopg [8] n (fun gg v8 wr => ∃ m : Nat, v8 = .int .i64 m ∧ 1 ≤ m ∧ m ≤ n ∧ n - m ≤ gg ∧ za (Kd.R (Kd.int .i64) 3 wr (w.drewN nq).heap.size (fun _ => True) (.slice (some ⟨gb, 0, none⟩) n cap) (rowAt n m)) ∧ za (Below (w.drewN nq).heap.size (w.drewN nq) wr))
  case atStart => exact ⟨1, by rw [Nat.min_eq_left hpos], by omega, by omega, by omega, HO6, HB6⟩
  case round =>
    obtain ⟨m, rfl, hm1, hmn, hgg, R7, B7⟩ := hrel
    by_cases hlt : m < n
    · have hltz : (m : Int) < (n : Int) := by omega
      have hmz : (m : Int) ≤ (n : Int) := by omega
      have hm0 : (0 : Int) ≤ (m : Int) := by omega
      have hcap : n ≤ cap := (Kd.zo R7.out).2.1
      have hmc : m ≤ cap := by omega
      have hcm : ¬ cap = m := by omega
      go_wp2_with fail
      go_region_law (refine zfj rfl _ _ 23 23 rfl (.slice (some ⟨gb, m, none⟩) (n - m) (cap - m)) (.slice (some ⟨gb, 0, none⟩) m cap) (by simp [Act.eval, Act.put]) (by simp [Act.eval, Act.put]) (self_copy hm1 hmn (Kd.zce R7.out) _ _ _) ?_)
      all_goals go_wp2
      go_roundg (n - (m + min m (n - m)))
      case measure => omega
      case rel =>
        refine ⟨m + min m (n - m), ?_, by omega, by omega, Nat.le_refl _, ⟨R_rowAt _ _ _ (by omega) (Kd.zce R7.out)⟩, ⟨below_setCells GB.out _ _ _ (zcm B7.out)⟩⟩
        first | rfl | (congr 1; unfold wrap64; omega) | (congr 1; rw [IntKind.wrap_i64]; omega)
    · have hltz : ¬ (m : Int) < (n : Int) := by omega
      go_wp2
      go_ret
      refine ⟨_, rfl, ?_, ?_⟩
      · have := R7.out
        rw [show m = n by omega] at this
        unfold rowAt at this
        rw [Nat.sub_self, List.replicate_zero, List.append_nil] at this
        exact Kd.zb9 this (Nat.le_refl _)
      · exact zd2 (zbr (Below.refl _ _) nq) (Nat.le_refl _) B7.out
set_option maxHeartbeats 4000000 in
theorem zhk (A : Option Addr) (c : Nat) (w : World) (hr : Kd.C (Kd.int .i64) w A 1 [-1]) :
    Calls Try.prog 55 #[.slice A 1 c, .int .i64 0] w fun e w' => ∃ v0_ : Value, e = .returned v0_ ∧ Kd.R (Kd.int .i64) 3 w' w.heap.size (fun _ => True) v0_ [] ∧ Below w.heap.size w w' := by
  have HR := za.mk hr
  clear hr
  have hM := za.mk (zgu 0 (by omega) (by omega))
  go_enter Try.func55, Try.ntmps55
  go_wp2_with (first
    | (go_at_call 63; refine (bits_Mul.calls 1 0 0 0 _ hM.out).mono ?_; rintro e w' ⟨rfl, ⟨nq, rfl⟩⟩)
    | ((with_reducible refine zbk (N := 30) rfl ?_); refine Kd.R_make (Kd.int .i64) _ 3 rfl (N := 30) rfl 23 _ _ rfl 0 rfl rfl Try.underlying23 (.int .i64 0) 8 info3 rfl (by decide) (by omega) 0 (ok := fun _ => True) (okp := fun _ => True) rfl (fun _ hk => hk) trivial (by omega) (by omega) (Below.refl _ _) (Nat.le_refl _) ?_; intro v w4 ho5 hb hg_ hnew_; have HO := za.mk ho5; have HB := za.mk hb; clear hg_ hnew_ ho5 hb; obtain ⟨A2, c2, ev⟩ := Kd.zb6 HO.out; subst ev)
    | ((with_reducible refine zbk (N := 33) rfl ?_); refine Kd.R_copy (0 : Int) (w.drewN nq).heap.size rfl _ _ 23 23 3 rfl Try.underlying23 (by kernel_rfl) _ _ [-1] A 1 c (fun _ => True) rfl rfl HO.out (Kd.zcl HR.out ((zbr (Below.refl _ _) nq).trans HB.out)) HB.out HB.out.size ?_; intro w5 ho6 hb6 hg6; have HO6 : za (Kd.R (Kd.int .i64) 3 w5 (w.drewN nq).heap.size (fun _ => True) (.slice A2 0 c2) []) := ⟨ho6⟩; have HB6 := za.mk hb6; clear ho6 hb6 hg6))
  go_loopg [8] 0 (fun gg v8 wr => v8 = .int .i64 0 ∧ za (Kd.R (Kd.int .i64) 3 wr (w.drewN nq).heap.size (fun _ => True) (.slice A2 0 c2) []) ∧ za (Below (w.drewN nq).heap.size (w.drewN nq) wr))
  case atStart => exact ⟨rfl, HO6, HB6⟩
  case round =>
    obtain ⟨rfl, R7, B7⟩ := hrel
    go_wp2
    go_ret
    exact ⟨_, rfl, Kd.zb9 R7.out (Nat.le_refl _), zd2 (zbr (Below.refl _ _) nq) (Nat.le_refl _) B7.out⟩
theorem repeat_any (n : Nat) (hn : n ≤ 1000000) (A : Option Addr) (c : Nat) (w : World) (hr : Kd.C (Kd.int .i64) w A 1 [-1]) :
    Calls Try.prog 55 #[.slice A 1 c, .int .i64 n] w fun e w' => ∃ v0_ : Value, e = .returned v0_ ∧ Kd.R (Kd.int .i64) 3 w' w.heap.size (fun _ => True) v0_ (List.replicate n (-1)) ∧ Below w.heap.size w w' := by
  rcases Nat.eq_zero_or_pos n with rfl | h
  · exact zhk A c w hr
  · exact zgw n hn h A c w hr
def zd1.f (a0 : Int) : Option (List Int) := if 0 ≤ a0 ∧ a0 ≤ 1000000 then (some (List.replicate a0.toNat (-1))) else (none)
set_option maxHeartbeats 4000000 in
theorem zd1.calls (a0 : Int) (r : List Int) (w : World) (h : zd1.f a0 = some r) :
    Calls Try.prog 32 #[.int .i64 a0] w fun e w' => ∃ v0_ : Value, e = .returned (v0_) ∧ Kd.R (Kd.int .i64) 3 w' w.heap.size (fun _ => True) v0_ r ∧ Below w.heap.size w w' := by
  unfold zd1.f at h
  by_cases hc : 0 ≤ a0 ∧ a0 ≤ 1000000
  · rw [if_pos hc] at h
    obtain rfl := Option.some.inj h
    clear h
    obtain ⟨n, rfl⟩ := Int.eq_ofNat_of_zero_le hc.1
    rw [Int.toNat_natCast]
    have hn : n ≤ 1000000 := by omega
    clear hc
    go_enter Try.func32, Try.ntmps32
    go_wp2_with (go_at_call 55; refine (repeat_any n hn _ _ _ ?_).mono ?_)
    · refine ⟨rfl, by omega, fun _ => ⟨_, rfl, fun j p hj => ?_⟩⟩
      match j, hj with
      | 0, hj =>
        injection hj with hj
        subst hj
        refine ⟨[.int .i64 (-1)], rfl, rfl, fun i u hi => ?_⟩
        match i, hi with
        | 0, hi =>
          injection hi with hi
          subst hi
          show (w.alloc _).cell? (Addr.add _ 0) = _
          rw [Addr.add_zero']
          simp
        | i + 1, hi => simp at hi
      | j + 1, hj => simp at hj
    · rintro e w' ⟨v0_, rfl, hR, hB⟩
      have HR := za.mk hR
      have HB := za.mk hB
      clear hR hB
      go_wp2
      go_ret
      exact ⟨_, rfl, Kd.zb9 HR.out (by simp), zgl (zbv (Below.refl _ _) _) (by simp) HB.out⟩
  · rw [if_neg hc] at h
    cases h
def zi.l0 : Nat → List Int → Int → Int → Int → Option (Int)
 | 0, _, _, _, _ => none
 | k + 1, x0, x1, x7, x8 => if x8 < x7 then (if 0 ≤ x8 then (if x8 < (x0.length : Int) then (if x1 = (rd x0 x8) then (some x8) else (zi.l0 k x0 x1 x7 (wrap64 (x8 + 1)))) else (none)) else (none)) else (some (-1))
def zi.f (k : Nat) (l0 : List Int) (a1 : Int) : Option (Int) := zi.l0 k l0 a1 (l0.length : Int) 0
theorem zi.mono_l : ∀ k, (∀ y0 y1 y2 y3, LeO (zi.l0 k y0 y1 y2 y3) (zi.l0 (k + 1) y0 y1 y2 y3))
 | 0 => fun _ _ _ _ r h => by simp [zi.l0] at h
 | k + 1 => by
  have ih0 := zi.mono_l k
  ·intro y0 y1 y2 y3
   unfold zi.l0
   repeat' first
   | (with_reducible exact ih0 _ _ _ _)
   | (with_reducible exact LeO.refl _)
   | (with_reducible exact LeO.none _)
   | (with_reducible refine LeO.ite ?_ ?_)
   | (with_reducible refine LeO.bind ?_ (fun _ => ?_))
   | exact ih0 _ _ _ _
   | exact LeO.none _
   | refine LeO.ite ?_ ?_
   | refine LeO.bind ?_ (fun _ => ?_)
theorem zi.mono : ∀ a0 a1 k, LeO (zi.f k a0 a1) (zi.f (k + 1) a0 a1) := by
 intro a0 a1 k
 have ih0 := zi.mono_l k
 unfold zi.f
 repeat' first
   | (with_reducible exact ih0 _ _ _ _)
   | (with_reducible exact LeO.refl _)
   | (with_reducible exact LeO.none _)
   | (with_reducible refine LeO.ite ?_ ?_)
   | (with_reducible refine LeO.bind ?_ (fun _ => ?_))
   | exact ih0 _ _ _ _
   | exact LeO.none _
   | refine LeO.ite ?_ ?_
   | refine LeO.bind ?_ (fun _ => ?_)
set_option maxHeartbeats 8000000 in
theorem zi.calls (k : Nat) (A0 : Option Addr) (c0 : Nat) (l0 : List Int) (a1 : Int) (r : Int) (w : World) (hr0 : Kd.C (Kd.int .i64) w A0 l0.length l0) (hc0 : l0.length ≤ c0) (h : zi.f k l0 a1 = some r) :
  Calls Try.prog 57 #[.slice A0 l0.length c0, .int .i64 a1] w fun e w' => e = .returned (.int .i64 r) ∧ zbs w w' := by
 have HR0 := za.mk hr0
 have HC0 := za.mk hc0
 clear hr0 hc0
 have H : (zi.l0 k l0 a1 (l0.length : Int) 0) = some r := h
 clear h
 have H' := za.mk H
 clear H
 go_enter Try.func57, Try.ntmps57
 go_wp2
 go_loopg [8] k (fun kq v8 w' => ∃ (x8_1 : Int), v8 = .int .i64 x8_1 ∧ za (zi.l0 kq l0 a1 (l0.length : Int) x8_1 = some r) ∧ za (kq ≤ k) ∧ zbs w w')
 case atStart => exact ⟨(0), Zrs, H', ⟨Nat.le_refl _⟩, by repeat (first | exact zbs.refl _ | apply zbs.step)⟩
 case round =>
  clear H'
  try clear p2
  obtain ⟨x8_1, rfl, HA, HK1, ⟨m1, rfl⟩⟩ := hrel
  cases gk with
  | zero => exact absurd HA.out (by simp [zi.l0])
  | succ k1 =>
   have H := HA.out;clear HA;simp only [zi.l0] at H;by_cases c3 : x8_1 < (l0.length : Int)
   ·rw [if_pos c3] at H
    have c3b0 : decide (x8_1 < (l0.length : Int)) = true := decide_eq_true c3;clear c3;by_cases c4 : 0 ≤ x8_1
    ·rw [if_pos c4] at H
     have c4b0 : decide (0 ≤ x8_1) = true := decide_eq_true c4;clear c4;by_cases c5 : x8_1 < (l0.length : Int)
     ·rw [if_pos c5] at H
      have c5b0 : decide (x8_1 < (l0.length : Int)) = true := decide_eq_true c5;clear c5;by_cases c6 : a1 = (rd l0 x8_1)
      ·rw [if_pos c6] at H
       have c6b0 : (a1 == (rd l0 x8_1)) = true := beq_iff_eq.mpr c6;have c6b1 : (a1 != (rd l0 x8_1)) = false := bne_eq_false_iff_eq.mpr c6;clear c6;obtain rfl := Option.some.inj H;have p207 : 0 ≤ (x8_1 : Int) := of_decide_eq_true Zas;have q207 : x8_1 < (l0.length : Int) := of_decide_eq_true Zas;obtain ⟨ad207, e207, hx207_0⟩ := Kd.zck HR0.out x8_1 p207 q207
       cases e207
       replace p207 := eq_true p207;replace q207 := eq_true q207;go_wp2;go_ret;exact ⟨by first | rfl | (simp; done) | (simp [*]; done), by repeat (first | exact zbs.refl _ | apply zbs.step)⟩
      ·rw [if_neg c6] at H
       have c6b0 : (a1 == (rd l0 x8_1)) = false := beq_eq_false_iff_ne.mpr c6;have c6b1 : (a1 != (rd l0 x8_1)) = true := bne_iff_ne.mpr c6;have H' := za.mk H;clear H;have p207 : 0 ≤ (x8_1 : Int) := of_decide_eq_true Zas;have q207 : x8_1 < (l0.length : Int) := of_decide_eq_true Zas;obtain ⟨ad207, e207, hx207_0⟩ := Kd.zck HR0.out x8_1 p207 q207
       cases e207
       replace p207 := eq_true p207;replace q207 := eq_true q207;go_wp2;go_roundg k1
       case measure => have := HK1.out; omega
       case rel => exact ⟨(wrap64 (x8_1 + 1)), Zrs, H', ⟨by have := HK1.out; omega⟩, by repeat (first | exact zbs.refl _ | apply zbs.step)⟩
     ·rw [if_neg c5] at H
      exact absurd H (by simp)
    ·rw [if_neg c4] at H
     exact absurd H (by simp)
   ·rw [if_neg c3] at H
    have c3b0 : decide (x8_1 < (l0.length : Int)) = false := decide_eq_false c3;clear c3;obtain rfl := Option.some.inj H;go_wp2;go_ret;exact ⟨by first | rfl | (simp; done) | (simp [*]; done), by repeat (first | exact zbs.refl _ | apply zbs.step)⟩
theorem Zq6 {X0 P : Prop} (x0 : za X0) (h : X0 → P := by intro x0; repeat (first | exact x0 | (with_reducible refine Kd.zg5 ?_ _) | (with_reducible refine Kd.zg6 ?_ _) | (with_reducible refine Kd.C_drew ?_))) : P := h x0.out
def zbf.f (k : Nat) (l0 : List Int) (a1 : Int) : Option (Bool) := (zi.f k l0 a1).bind fun t208 => (some (decide (t208 ≥ 0)))
theorem zbf.mono : ∀ a0 a1 k, LeO (zbf.f k a0 a1) (zbf.f (k + 1) a0 a1) := by
 intro a0 a1 k
 unfold zbf.f
 repeat' first
   | (with_reducible exact zi.mono _ _ _)
   | (with_reducible exact LeO.refl _)
   | (with_reducible exact LeO.none _)
   | (with_reducible refine LeO.ite ?_ ?_)
   | (with_reducible refine LeO.bind ?_ (fun _ => ?_))
   | exact zi.mono _ _ _
   | exact LeO.none _
   | refine LeO.ite ?_ ?_
   | refine LeO.bind ?_ (fun _ => ?_)
set_option maxHeartbeats 8000000 in
theorem zbf.calls (k : Nat) (A0 : Option Addr) (c0 : Nat) (l0 : List Int) (a1 : Int) (r : Bool) (w : World) (hr0 : Kd.C (Kd.int .i64) w A0 l0.length l0) (hc0 : l0.length ≤ c0) (h : zbf.f k l0 a1 = some r) :
  Calls Try.prog 34 #[.slice A0 l0.length c0, .int .i64 a1] w fun e w' => e = .returned (.bool r) ∧ zbs w w' := by
 have HR0 := za.mk hr0
 have HC0 := za.mk hc0
 clear hr0 hc0
 have H : ((zi.f k l0 a1).bind fun t208 => (some (decide (t208 ≥ 0)))) = some r := h
 clear h
 replace H := Option.bind_eq_some_iff.mp H
 obtain ⟨t208, A30, H⟩ := H
 replace H : (some (decide (t208 ≥ 0))) = some r := H
 have A3 := za.mk A30
 clear A30
 obtain rfl := Option.some.inj H
 go_enter Try.func34, Try.ntmps34
 go_wp2_with (first | ((with_reducible refine zbw (f := 57) rfl ?_); refine zc0 (some 7) rfl rfl Try.func57 (by kernel_rfl) rfl #[.slice A0 l0.length c0, .int .i64 a1] rfl Zmt ?_; (with_reducible refine (zi.calls k _ _ l0 a1 t208 _ ?side1 ?side2 A3.out).mono ?_); (case side1 => exact Zq6 HR0); (case side2 => exact HC0.out); rintro e w' ⟨rfl, ⟨nd, rfl⟩⟩; refine ⟨_, rfl, ?_⟩))
 go_ret
 exact ⟨by first | rfl | (simp; done) | (simp [*]; done), by repeat (first | exact zbs.refl _ | apply zbs.step)⟩
section
variable {α : Type} {d : Kd α} {e base m : Nat} {w w' w1 W : World} {ok : Nat → Prop} {u v v1 : Value} {xs : List α}
end
def zcr (es : List (List Int)) (left : List Int) (m : Int) : Nat → List Int
  | 0 => []
  | i + 1 => if rd left (i : Int) > 0 then (if es.any (blkE left i) = true then zcr es left m i else (if ((zcr es left m i).length : Int) < m then zcr es left m i ++ [(i : Int)] else zcr es left m i)) else zcr es left m i
def zdx (now : Int) (p : List Int × List Int) (i : Int) : List Int × List Int := (p.1.set i.toNat (wrap64 (rd p.1 i - 1)), if wrap64 (rd p.1 i - 1) = 0 then p.2.set i.toNat (wrap64 (now + 1)) else p.2)
def zh.l0 (c : List Int) (es : List (List Int)) (m : Int) : Nat → Int → List Int → List Int → List (List Int) → Option (List (List Int) × List Int)
  | 0, _, _, _, _ => none
  | k + 1, now, left, fin, rows => (zbf.f k fin (-1)).bind fun t => (if t = true then (if rows.length < 1000000 then (zh.l0 c es m k (wrap64 (now + 1)) ((zcr es left m c.length).foldl (zdx now) (left, fin)).1 ((zcr es left m c.length).foldl (zdx now) (left, fin)).2 (rows ++ [zcr es left m c.length])) else (none)) else (some (rows, fin)))
def zh.f (k : Nat) (l0 : List Int) (l1 : List (List Int)) (a2 : Int) : Option (List (List Int) × List Int) := (ze.f k l0 l1).bind fun t => (if t = true then ((zcb.f a2).bind fun u => (if u = true then (if l0.length ≤ 1000 ∧ ∀ e ∈ l1, e.length = 2 ∧ 0 ≤ rd e 0 ∧ rd e 0 < (l0.length : Int) then (zh.l0 l0 l1 a2 k 0 l0 (List.replicate l0.length (-1)) []) else (none)) else (some ([], [])))) else (some ([], [])))
theorem gpick_mem (es : List (List Int)) (left : List Int) (m : Int) : ∀ n, ∀ x ∈ zcr es left m n, ∃ i : Nat, i < n ∧ x = (i : Int) := by
  intro n
  induction n with
  | zero => intro x hx; simp [zcr] at hx
  | succ n ih =>
    intro x hx
    have old : x ∈ zcr es left m n → ∃ i : Nat, i < n + 1 ∧ x = (i : Int) := fun h => by
      obtain ⟨i, h1, h2⟩ := ih x h
      exact ⟨i, by omega, h2⟩
    rw [zcr] at hx
    split at hx
    · split at hx
      · exact old hx
      · split at hx
        · rcases List.mem_append.1 hx with h | h
          · exact old h
          · exact ⟨n, by omega, by simpa using h⟩
        · exact old hx
    · exact old hx
theorem zgx (es : List (List Int)) (left : List Int) (m : Int) : ∀ n, (zcr es left m n).length ≤ n := by
  intro n
  induction n with
  | zero => exact Nat.le_refl _
  | succ n ih =>
    rw [zcr]
    split
    · split
      · omega
      · split
        · rw [List.length_append, List.length_singleton]; omega
        · omega
    · omega
theorem ze7 (now : Int) : ∀ (l : List Int) (p : List Int × List Int), (l.foldl (zdx now) p).1.length = p.1.length ∧ (l.foldl (zdx now) p).2.length = p.2.length := by
  intro l
  induction l with
  | nil => intro p; exact ⟨rfl, rfl⟩
  | cons a l ih =>
    intro p
    have := ih (zdx now p a)
    rw [List.foldl_cons, this.1, this.2]
    unfold zdx
    refine ⟨by simp, ?_⟩
    simp only
    split <;> simp
theorem Q_addr {e base n c : Nat} {W : World} {ok : Nat → Prop} {A : Option Addr} {xs : List Int} (h : Kd.Qc (Kd.int .i64) e W base ok (.slice A n c) xs) (hn : 0 < n) : ∃ g, A = some ⟨g, 0, none⟩ := by
  obtain ⟨v', hc, h⟩ := h
  obtain ⟨_, inner, ho, _⟩ := h
  rcases ho.2 with ⟨hv, hz⟩ | ⟨g, cap, cur, hv, _⟩
  · rcases hc with rfl | ⟨ad, n1, c1, c', he, rfl, _, _⟩
    · injection hv with _ h2; omega
    · injection hv with h1; cases h1
  · rcases hc with rfl | ⟨ad, n1, c1, c', he, rfl, _, _⟩
    · injection hv with h1; exact ⟨g, h1⟩
    · injection hv with h1; injection he with h2; exact ⟨g, h2.trans h1⟩
def zh.T23 : Bool × List (List Nat × List Nat) := (true, [([], []), ([0], [0]), ([], []), ([2], [2]), ([3], [3]), ([1, 4, 3], [1, 4]), ([0, 1, 2, 3, 4, 5], []), ([6, 5, 5, 0, 1, 2, 3, 4, 5], [5, 6])])
def zh.B23 : List Nat := [0, 1, 0, 4, 12, 31, 63, 127]
theorem zh.tab23 : rtab .any (opsOf Try.f9 23) = zh.T23 := by kernel_rfl
theorem zh.bits23 : zd9 zh.T23.2 zh.B23 = true := by kernel_rfl
structure GrW (w : World) (n gl go : Nat) (L F : Option Addr) (cl cf : Nat) (vr : Value) (left fin : List Int) (rows : List (List Int)) (W : World) : Prop where
  lv : W.cell? ⟨gl, 0, none⟩ = some (.slice L n cl)
  o0 : W.cell? ⟨go, 0, none⟩ = some vr
  f0 : W.frozen? ⟨go, 0, none⟩ = false
  o1 : W.cell? ⟨go, 1, none⟩ = some (.slice F n cf)
  lR : Kd.Qc (Kd.int .i64) 3 W w.heap.size (fun k => some k = (Value.slice L n cl).ownBlock) (.slice L n cl) left
  fR : Kd.R (Kd.int .i64) 3 W w.heap.size (fun k => some k = (Value.slice F n cf).ownBlock) (.slice F n cf) fin
  rR : Kd.R (Kd.cut 3 (Kd.int .i64)) 23 W w.heap.size (fun k => k ≠ gl ∧ k ≠ go ∧ some k ≠ (Value.slice L n cl).ownBlock ∧ some k ≠ (Value.slice F n cf).ownBlock) vr rows
  bel : Below w.heap.size w W
structure GrNe (w : World) (n gl go : Nat) (L F : Option Addr) (cl cf : Nat) : Prop where
  gn : w.heap.size ≤ gl
  gon : w.heap.size ≤ go
  ggo : gl ≠ go
  gL : ∀ k, (Value.slice L n cl).ownBlock = some k → w.heap.size ≤ k ∧ k ≠ gl ∧ k ≠ go
  gF : ∀ k, (Value.slice F n cf).ownBlock = some k → w.heap.size ≤ k ∧ k ≠ gl ∧ k ≠ go
  LF : ∀ k, (Value.slice L n cl).ownBlock = some k → some k ≠ (Value.slice F n cf).ownBlock
section
variable {w W W1 : World} {n gl go : Nat} {L F : Option Addr} {cl cf : Nat} {vr : Value} {left fin : List Int} {rows : List (List Int)}
theorem GrW.below (h : GrW w n gl go L F cl cf vr left fin rows W) (hb : Below W.heap.size W W1) : GrW w n gl go L F cl cf vr left fin rows W1 :=
  ⟨(hb.cell (World.block_lt_of_cell? _ _ h.lv)).trans h.lv, (hb.cell (World.block_lt_of_cell? _ _ h.o0)).trans h.o0, (hb.frozen (World.block_lt_of_cell? _ _ h.o0)).trans h.f0, (hb.cell (World.block_lt_of_cell? _ _ h.o1)).trans h.o1,
   Kd.zu h.lR hb, Kd.zby h.fR hb, Kd.zby h.rR hb, zf h.bel hb⟩
theorem GrW.setLeft {g : Nat} (h : GrW w n gl go (some ⟨g, 0, none⟩) F cl cf vr left fin rows W) (ne : GrNe w n gl go (some ⟨g, 0, none⟩) F cl cf) (i : Nat) (x : Int) :
    GrW w n gl go (some ⟨g, 0, none⟩) F cl cf vr (left.set i x) fin rows (W.setCell ⟨g, i, none⟩ (.int .i64 x)) := by
  have ho : (Value.slice (some ⟨g, 0, none⟩) n cl).ownBlock = some g := rfl
  have hg := ne.gL g ho
  have h1 := (Kd.Qc_putg h.lR (i : Int) x).1
  rw [Int.toNat_natCast] at h1
  refine ⟨?_, ?_, by rw [World.frozen?_setCell]; exact h.f0, ?_, h1, Kd.zbz h.fR (fun k hk e => ne.LF g ho (by rw [← hk]; exact congrArg some e.symm)) _, Kd.zbz h.rR (fun k hk e => hk.2.2.1 (by rw [ho]; exact congrArg some e)) _, h.bel.setCell hg.1 _⟩
  · rw [World.cell?_setCell_far _ _ _ _ hg.2.1]; exact h.lv
  · rw [World.cell?_setCell_far _ _ _ _ hg.2.2]; exact h.o0
  · rw [World.cell?_setCell_far _ _ _ _ hg.2.2]; exact h.o1
theorem GrW.setFin {g : Nat} (h : GrW w n gl go L (some ⟨g, 0, none⟩) cl cf vr left fin rows W) (ne : GrNe w n gl go L (some ⟨g, 0, none⟩) cl cf) (i : Nat) (x : Int) :
    GrW w n gl go L (some ⟨g, 0, none⟩) cl cf vr left (fin.set i x) rows (W.setCell ⟨g, i, none⟩ (.int .i64 x)) := by
  have ho : (Value.slice (some ⟨g, 0, none⟩) n cf).ownBlock = some g := rfl
  have hg := ne.gF g ho
  have h1 := (Kd.zec h.fR (i : Int) x).1
  rw [Int.toNat_natCast] at h1
  refine ⟨?_, ?_, by rw [World.frozen?_setCell]; exact h.f0, ?_, Kd.zbb h.lR (fun k hk e => ne.LF k hk.symm (by rw [ho]; exact congrArg some e)) _, h1, Kd.zbz h.rR (fun k hk e => hk.2.2.2 (by rw [ho]; exact congrArg some e)) _, h.bel.setCell hg.1 _⟩
  · rw [World.cell?_setCell_far _ _ _ _ hg.2.1]; exact h.lv
  · rw [World.cell?_setCell_far _ _ _ _ hg.2.2]; exact h.o0
  · rw [World.cell?_setCell_far _ _ _ _ hg.2.2]; exact h.o1
end
theorem GrW.setRows {w W W1 : World} {n gl go : Nat} {L F : Option Addr} {cl cf : Nat} {vr v1 : Value} {left fin : List Int} {rows rows1 : List (List Int)} (h : GrW w n gl go L F cl cf vr left fin rows W) (ne : GrNe w n gl go L F cl cf) (hg : W.grownBy W1 vr.ownBlock) (hb : Below w.heap.size w W1)
    (hr : Kd.R (Kd.cut 3 (Kd.int .i64)) 23 W1 w.heap.size (fun k => k ≠ gl ∧ k ≠ go ∧ some k ≠ (Value.slice L n cl).ownBlock ∧ some k ≠ (Value.slice F n cf).ownBlock) v1 rows1) : GrW w n gl go L F cl cf v1 left fin rows1 (W1.setCell ⟨go, 0, none⟩ v1) := by
  have hv := h.rR.1
  have hgl : some gl ≠ vr.ownBlock := fun e => (hv gl e.symm).1 rfl
  have hgo : some go ≠ vr.ownBlock := fun e => (hv go e.symm).2.1 rfl
  have c0 := hg.cell h.o0 hgo
  have c1 := hg.cell h.o1 hgo
  have fz : W1.frozen? ⟨go, 0, none⟩ = false := (World.frozen?_of_block (hg.block go (World.block_lt_of_cell? _ _ h.o0) hgo)).trans h.f0
  refine ⟨?_, World.cell?_setCell_same _ _ _ c0, by rw [World.frozen?_setCell]; exact fz, ?_, ?_, ?_, Kd.zbz hr (fun k hk e => hk.2.1 e) _, hb.setCell ne.gon _⟩
  · rw [World.cell?_setCell_far _ _ _ _ (fun e => ne.ggo e.symm)]; exact hg.cell h.lv hgl
  · rw [World.cell?_setCell_other _ _ _ _ (by simp)]; exact c1
  · obtain ⟨v', hc, hR⟩ := h.lR
    exact Kd.zbb ⟨v', hc, Kd.zfw hR hg (fun k hk e => (hv k e.symm).2.2.1 hk)⟩ (fun k hk e => (ne.gL k hk.symm).2.2 e) _
  · exact Kd.zbz (Kd.zfw h.fR hg (fun k hk e => (hv k e.symm).2.2.2 hk)) (fun k hk e => (ne.gF k hk.symm).2.2 e) _
set_option maxHeartbeats 16000000 in
theorem zh.calls (k : Nat) (A0 : Option Addr) (c0 : Nat) (l0 : List Int) (A1 : Option Addr) (c1 : Nat) (l1 : List (List Int)) (a2 : Int) (r1 : List (List Int)) (r2 : List Int) (w : World) (hr0 : Kd.C (Kd.int .i64) w A0 l0.length l0) (hc0 : l0.length ≤ c0) (hr1 : Kd.C (Kd.slice 3 (Kd.int .i64)) w A1 l1.length l1) (hc1 : l1.length ≤ c1) (h : zh.f k l0 l1 a2 = some (r1, r2)) :
    Calls Try.prog 9 #[.slice A0 l0.length c0, .slice A1 l1.length c1, .int .i64 a2] w fun e w' => ∃ v0_ v1_ : Value, e = .returned (.agg #[v0_, v1_]) ∧ Kd.Qc (Kd.cut 3 (Kd.int .i64)) 23 w' w.heap.size (fun k_ => some k_ ≠ (v1_ : Value).ownBlock) v0_ r1 ∧ Kd.Qc (Kd.int .i64) 3 w' w.heap.size (fun k_ => some k_ ≠ (v0_ : Value).ownBlock) v1_ r2 ∧ Below w.heap.size w w' := by
  unfold zh.f at h
  have B0 := za.mk (zbv (Below.refl w.heap.size w) (.cells #[.slice none 0 0, .slice none 0 0] 28))
  have K0 := za.mk (zdb w (.cells #[.slice none 0 0, .slice none 0 0] 28))
  have S0 := za.mk (show w.heap.size < (w.alloc (.cells #[.slice none 0 0, .slice none 0 0] 28)).heap.size by simp)
  generalize hW0 : w.alloc (.cells #[.slice none 0 0, .slice none 0 0] 28) = W0 at B0 K0 S0
  have HW := za.mk hW0
  have HR0 := za.mk (Kd.zcl hr0 B0.out)
  have HC0 := za.mk hc0
  have HR1 := za.mk (Kd.zcl hr1 B0.out)
  have HC1 := za.mk hc1
  clear hr0 hc0 hr1 hc1 hW0
  cases hs : ze.f k l0 l1 with
  | none => rw [hs] at h; simp at h
  | some t =>
    rw [hs] at h
    have HS := za.mk hs
    clear hs
    cases t with
    | false =>
      simp at h
      obtain ⟨rfl, rfl⟩ := h
      go_enter Try.func9, Try.ntmps9
      go_wp2_with (go_at_call 30; (try rw [HW.out]); refine (ze.calls k A0 c0 l0 A1 c1 l1 false _ HR0.out HC0.out HR1.out HC1.out HS.out).mono ?_; rintro e w1 ⟨rfl, hb⟩; have BK1 := zbm K0.out hb; have r0 := (zba BK1 0); have r1 := (zba BK1 1); have f0 := zw BK1 0; have f1 := zw BK1 1; have BK := za.mk BK1; have HB := za.mk (zf B0.out hb); clear hb BK1)
      refine bodyPost_ret (results_cell_row rfl _ _ w.heap.size 28 #[.slice none 0 0, .slice none 0 0] (0, 0) _ rfl (by first | exact BK.out | (refine zb1 (cs := #[.slice none 0 0, .slice none 0 0]) ?_ 1 _ rfl; refine zb1 (cs := #[.slice none 0 0, .slice none 0 0]) ?_ 0 _ rfl; exact BK.out)) Try.underlying28 rfl (by kernel_rfl)) rfl ?_
      exact ⟨_, _, rfl, Kd.zfr _ _ _ _ _, Kd.zfr _ _ _ _ _, by first | exact HB.out | exact (HB.out.setCell (Nat.le_refl _) _).setCell (Nat.le_refl _) _⟩
    | true =>
      simp only [Option.bind_some, if_true] at h
      cases hu : zcb.f a2 with
      | none => rw [hu] at h; simp at h
      | some u =>
        rw [hu] at h
        have HU := za.mk hu
        clear hu
        cases u with
        | false =>
          simp at h
          obtain ⟨rfl, rfl⟩ := h
          go_enter Try.func9, Try.ntmps9
          go_wp2_with (first | (go_at_call 30; (try rw [HW.out]); refine (ze.calls k A0 c0 l0 A1 c1 l1 true _ HR0.out HC0.out HR1.out HC1.out HS.out).mono ?_; rintro e w1 ⟨rfl, hb⟩; have BK1 := zbm K0.out hb; have r0 := (zba BK1 0); have r1 := (zba BK1 1); have f0 := zw BK1 0; have f1 := zw BK1 1; have BK := za.mk BK1; have HB := za.mk (zf B0.out hb); clear hb BK1) | (go_at_call 31; refine (zcb.calls a2 false _ HU.out).mono ?_; rintro e w2 ⟨rfl, ⟨q2, rfl⟩⟩))
          refine bodyPost_ret (results_cell_row rfl _ _ w.heap.size 28 #[.slice none 0 0, .slice none 0 0] (0, 0) _ rfl (by first | exact zm BK.out _ | (refine zb1 (cs := #[.slice none 0 0, .slice none 0 0]) ?_ 1 _ rfl; refine zb1 (cs := #[.slice none 0 0, .slice none 0 0]) ?_ 0 _ rfl; exact zm BK.out _)) Try.underlying28 rfl (by kernel_rfl)) rfl ?_
          exact ⟨_, _, rfl, Kd.zfr _ _ _ _ _, Kd.zfr _ _ _ _ _, by first | exact zbr HB.out _ | exact ((zbr HB.out _).setCell (Nat.le_refl _) _).setCell (Nat.le_refl _) _⟩
        | true =>
          simp only [Option.bind_some, if_true] at h
          by_cases hh : l0.length ≤ 1000 ∧ ∀ e ∈ l1, e.length = 2 ∧ 0 ≤ rd e 0 ∧ rd e 0 < (l0.length : Int)
          · rw [if_pos hh] at h
            have HN := za.mk hh.1
            have HE := za.mk hh.2
            have H := za.mk h
            clear hh h
            go_enter Try.func9, Try.ntmps9
            go_wp2_with (first
              | (go_at_call 30; (try rw [HW.out]); refine (ze.calls k A0 c0 l0 A1 c1 l1 true _ HR0.out HC0.out HR1.out HC1.out HS.out).mono ?_; rintro e w1 ⟨rfl, hb⟩; have BK := za.mk (zbm K0.out hb); have HB := za.mk (zf B0.out hb); have HB1 := za.mk hb; clear hb)
              | (go_at_call 31; refine (zcb.calls a2 true _ HU.out).mono ?_; rintro e w2 ⟨rfl, ⟨q2, rfl⟩⟩)
              | (go_at_call 32; refine (zd1.calls (l0.length : Int) (List.replicate l0.length (-1)) _ (by unfold zd1.f; rw [if_pos ⟨by omega, by have := HN.out; omega⟩, Int.toNat_natCast])).mono ?_; rintro e w3 ⟨vF, rfl, hF, hb3⟩; obtain ⟨F, cf, eF⟩ := Kd.zb6 hF; rw [List.length_replicate] at eF; subst eF; have RF := za.mk hF; have B3 := za.mk hb3; clear hF hb3)
              | (go_at_call 33; refine (zhj A0 c0 l0 (by have := HN.out; omega) _ (Kd.zg5 (Kd.zcl (Kd.zg6 (Kd.zcl HR0.out HB1.out) _) B3.out) _)).mono ?_; rintro e w4 ⟨vL, rfl, hL, hb4⟩; obtain ⟨L, cl, eL⟩ := Kd.zcc hL; subst eL; have RL := za.mk hL; have B4 := za.mk hb4; clear hL hb4))
            obtain ⟨go, hgo⟩ : ∃ go, go = w3.heap.size := ⟨_, rfl⟩
            obtain ⟨gl, hgl⟩ : ∃ gl, gl = w4.heap.size := ⟨_, rfl⟩
            have s1 := B0.out.size
            have s2 : W0.heap.size ≤ w1.heap.size := HB1.out.size
            have s3 : (w1.drewN q2).heap.size ≤ w3.heap.size := B3.out.size
            have s3' : (w1.drewN q2).heap.size = w1.heap.size := rfl
            have s4 := B4.out.size
            have s4' : (w3.alloc (.cells #[.slice none 0 0, .slice F l0.length cf] 28)).heap.size = w3.heap.size + 1 := by simp
            have NE := za.mk (show GrNe W0 l0.length gl go L F cl cf from ⟨by omega, by omega, by omega, fun k hk => by
              have h1 := Kd.zbp RL.out k hk
              have h2 := Kd.zdk RL.out k hk
              omega, fun k hk => by
              have h1 := Kd.zca RF.out k hk
              have h2 := Kd.R_lt RF.out k hk
              omega, fun k hk e => by
              have h1 := Kd.zbp RL.out k hk
              have h2 := Kd.R_lt RF.out k e.symm
              omega⟩)
            have BKo := zn (zbm (zdb w3 (.cells #[.slice none 0 0, .slice F l0.length cf] 28)) B4.out) (.cells #[.slice L l0.length cl] 23)
            have BKl := zdb w4 (.cells #[.slice L l0.length cl] 23)
            have BELL : Below W0.heap.size W0 (w4.alloc (.cells #[.slice L l0.length cl] 23)) := zbv (zf (zbv (zf (zbr HB1.out _) B3.out) _) B4.out) _
            have GW := za.mk (show GrW W0 l0.length gl go L F cl cf (.slice none 0 0) l0 (List.replicate l0.length (-1)) [] (w4.alloc (.cells #[.slice L l0.length cl] 23)) from ⟨by rw [hgl]; exact (zba BKl 0).trans rfl, by rw [hgo]; exact (zba BKo 0).trans rfl, by rw [hgo]; exact zw BKo 0, by rw [hgo]; exact (zba BKo 1).trans rfl,
              Kd.Qc_tight rfl (Kd.zb7 (Kd.zbh RL.out _) (by omega)), Kd.zhb rfl (Kd.zb9 (Kd.zb0 (Kd.zby (Kd.zb0 RF.out _) B4.out) _) (by omega)), Kd.R_nil _ _ _ _ _, BELL⟩)
            clear BKo BKl BELL s1 s2 s3 s3' s4 s4'
            generalize w4.alloc (.cells #[.slice L l0.length cl] 23) = W5 at GW ⊢
            rw [← hgo, ← hgl]
            clear hgo hgl
            go_loopg [9] k (fun gg v9 wr => ∃ (k2 : Nat) (now : Int) (left fin : List Int) (rows : List (List Int)) (vr : Value), v9 = .int .i64 now ∧ k2 ≤ gg ∧ k2 ≤ k ∧ left.length = l0.length ∧ fin.length = l0.length ∧ za (zh.l0 l0 l1 a2 k2 now left fin rows = some (r1, r2)) ∧ za (GrW W0 l0.length gl go L F cl cf vr left fin rows wr))
            case atStart => exact ⟨k, 0, l0, List.replicate l0.length (-1), [], .slice none 0 0, rfl, Nat.le_refl _, Nat.le_refl _, rfl, List.length_replicate, H, GW⟩
            case round =>
              obtain ⟨k2, now, left, fin, rows, vr, rfl, hg, hk2, hll, hfl, HL, GR⟩ := hrel
              clear GW H
              cases k2 with
              | zero => exact absurd HL.out (by simp [zh.l0])
              | succ k3 =>
                have hL := HL.out
                rw [zh.l0] at hL
                clear HL
                cases hct : zbf.f k3 fin (-1) with
                | none => rw [hct] at hL; simp at hL
                | some tc =>
                  rw [hct] at hL
                  have FR := Kd.zo GR.out.fR
                  have hcon := zbf.calls k3 F cf fin (-1) tc wr FR.2.2 (by omega) hct
                  rw [hfl] at hcon
                  have HCON := za.mk hcon
                  have cO1 := GR.out.o1
                  have HLL := za.mk hll
                  have HFL := za.mk hfl
                  clear hct hcon FR hll hfl
                  cases tc with
                  | false =>
                    simp at hL
                    obtain ⟨rfl, rfl⟩ := hL
                    obtain ⟨X, cr, ev⟩ := Kd.zb6 GR.out.rR
                    subst ev
                    have cO0 := GR.out.o0
                    have fO0 := GR.out.f0
                    have BKr : wr.heap[w.heap.size]? = some (.cells #[.slice none 0 0, .slice none 0 0] 28 (0, 0)) := (GR.out.bel.block w.heap.size S0.out).trans K0.out
                    have d0 : wr.cell? ⟨w.heap.size, 0, none⟩ = some (.slice none 0 0) := (zba BKr 0).trans rfl
                    have d1 : wr.cell? ⟨w.heap.size, 1, none⟩ = some (.slice none 0 0) := (zba BKr 1).trans rfl
                    have f0 := zw BKr 0
                    have f1 := zw BKr 1
                    have BK := za.mk BKr
                    have ngo := NE.out.gon
                    have hs0 := S0.out
                    have ngo1 : go ≠ w.heap.size := by omega
                    clear BKr ngo hs0
                    obtain ⟨c2, HCL⟩ : ∃ c2, za ((∀ W : World, Calls Try.prog 38 #[.slice X rows.length cr] W fun e w' => e = .returned (.slice X rows.length c2) ∧ zbs W w') ∧ Kd.Qc (Kd.cut 3 (Kd.int .i64)) 23 wr W0.heap.size (fun k => k ≠ gl ∧ k ≠ go ∧ some k ≠ (Value.slice L l0.length cl).ownBlock ∧ some k ≠ (Value.slice F l0.length cf).ownBlock) (.slice X rows.length c2) rows) := clipR_own GR.out.rR
                    go_wp2_with (first | (go_at_call 34; refine HCON.out.mono ?_; rintro e w6 ⟨rfl, ⟨q6, rfl⟩⟩) | (go_at_call 38; refine (HCL.out.1 _).mono ?_; rintro e w7 ⟨rfl, ⟨q7, rfl⟩⟩))
                    refine bodyPost_ret (results_cell_row rfl _ _ w.heap.size 28 #[.slice X rows.length c2, .slice F l0.length cf] (0, 0) _ rfl (by refine zb1 (cs := #[.slice X rows.length c2, .slice none 0 0]) ?_ 1 _ rfl; refine zb1 (cs := #[.slice none 0 0, .slice none 0 0]) ?_ 0 _ rfl; exact (Below.heap_setCell _ _ _ _ (by exact ngo1.symm)).trans (zm BK.out _)) Try.underlying28 rfl (by kernel_rfl)) rfl ?_
                    have hs0 := S0.out
                    have hfb : ∀ k, (Value.slice F l0.length cf).ownBlock = some k → W0.heap.size ≤ k ∧ k ≠ gl ∧ k ≠ go := NE.out.gF
                    have hxb := Kd.Qc_1 HCL.out.2
                    have hgo := NE.out.gon
                    refine ⟨_, _, rfl, ?_, ?_, ?_⟩
                    · exact Kd.zx (Kd.zb7 (Kd.zbb (Kd.zbb (Kd.zbb (Kd.zdm (Kd.zbg HCL.out.2 _)) (fun k hk e => hk.1.2.1 e) _) (fun k hk e => by simp only at e; omega) _) (fun k hk e => by simp only at e; omega) _) (by omega)) (fun k hk => hk.1.2.2.2)
                    · exact Kd.Qc_of (Kd.zbl (Kd.zb9 (Kd.zbz (Kd.zbz (Kd.zbz (Kd.zb2 GR.out.fR _) (fun k hk e => (hfb k hk.symm).2.2 e) _) (fun k hk e => by have := hfb k hk.symm; simp only at e; omega) _) (fun k hk e => by have := hfb k hk.symm; simp only at e; omega) _) (by omega)) (fun k hk e => (hxb k e.symm).2.2.2 hk))
                    · exact (((zbr (zd2 B0.out B0.out.size GR.out.bel) _).setCell (by show w.heap.size ≤ go; omega) _).setCell (Nat.le_refl _) _).setCell (Nat.le_refl _) _
                  | true =>
                    simp only [Option.bind_some, if_true] at hL
                    by_cases hrl : rows.length < 1000000
                    · rw [if_pos hrl] at hL
                      have HL := za.mk hL
                      have HRL := za.mk hrl
                      clear hL hrl
                      go_wp2_with (go_at_call 34; refine HCON.out.mono ?_; rintro e w6 ⟨rfl, ⟨q6, rfl⟩⟩)
                      have G6 := za.mk (GR.out.below (zbr (Below.refl _ _) q6))
                      clear GR HCON cO1
                      generalize wr.drewN q6 = w6 at G6 ⊢
                      go_loopg [10, 38] l0.length (fun gg v10 v38 wr => ∃ i : Nat, v38 = .int .i64 i ∧ i ≤ l0.length ∧ l0.length - i ≤ gg ∧ za (Kd.R (Kd.int .i64) 3 wr w6.heap.size (fun _ => True) v10 (zcr l1 left a2 i)) ∧ za (Below w6.heap.size w6 wr))
                      case atStart => exact ⟨0, by go_num, Nat.zero_le _, by omega, ⟨Kd.R_nil _ _ _ _ _⟩, ⟨Below.refl _ _⟩⟩
                      case round =>
                        obtain ⟨i, rfl, hil, hgi, RP, BP⟩ := hrel
                        by_cases hlt : i < l0.length
                        · have hltz : (i : Int) < (l0.length : Int) := by omega
                          have GI := za.mk (G6.out.below BP.out)
                          obtain ⟨P, cp, eP⟩ := Kd.zb6 RP.out
                          subst eP
                          have hN := HN.out
                          have hlp := zgx l1 left a2 i
                          have HLP := za.mk hlp
                          obtain ⟨ad, ea, hx⟩ := Kd.zck (Kd.zeg GI.out.lR).2.2 (i : Int) (by omega) (by have := HLL.out; omega)
                          cases ea
                          rw [Int.toNat_natCast] at hx
                          have HCF : za (∀ W : World, Below (wr.alloc (.cells #[.int .i64 (i : Int)] 3)).heap.size (wr.alloc (.cells #[.int .i64 (i : Int)] 3)) W → Calls Try.prog 35 #[.slice A1 l1.length c1, .func (.func 36) #[] #[.pointer (some ⟨wr.heap.size, 0, none⟩), .pointer (some ⟨gl, 0, none⟩)]] W fun e w' => e = .returned (.bool (l1.any (blkE left i))) ∧ Below W.heap.size W w') := ⟨fun W hW => by
                            have hcell : (wr.alloc (.cells #[.int .i64 (i : Int)] 3)).cell? ⟨wr.heap.size, 0, none⟩ = some (.int .i64 (i : Int)) := (zba (zdb wr _) 0).trans rfl
                            have GA := (GI.out.below (zbv (Below.refl _ _) (.cells #[.int .i64 (i : Int)] 3))).below hW
                            refine zga (blkE left i) 36 #[.pointer (some ⟨wr.heap.size, 0, none⟩), .pointer (some ⟨gl, 0, none⟩)] (enters_of Try.func36 (by kernel_rfl) rfl) A1 c1 l1 W (fun W2 x B cb hx hB hC => ?_) (Kd.zcl HR1.out GA.bel)
                            have hE := HE.out x hx
                            have G2 := GA.below hB
                            exact blkE_calls wr.heap.size gl i _ cl left B cb x W2 ((hB.cell (World.block_lt_of_cell? _ _ ((hW.cell (World.block_lt_of_cell? _ _ hcell)).trans hcell))).trans ((hW.cell (World.block_lt_of_cell? _ _ hcell)).trans hcell)) (by rw [HLL.out]; exact G2.lv) (Kd.zeg G2.lR).2.2 hC hE.1 hE.2.1 (by rw [HLL.out]; exact hE.2.2)⟩
                          obtain ⟨x, hxx⟩ : ∃ x, rd left (i : Int) = x := ⟨_, rfl⟩
                          rw [hxx] at hx
                          have HX := za.mk (show (wr.alloc (.cells #[.int .i64 (i : Int)] 3)).cell? (ad.add i) = some (.int .i64 x) from ((zbv (Below.refl _ _) _).cell (World.block_lt_of_cell? _ _ hx)).trans hx)
                          obtain ⟨bq, hbq⟩ : ∃ b, l1.any (blkE left i) = b := ⟨_, rfl⟩
                          rw [hbq] at HCF
                          clear hx hlp
                          by_cases h1 : x > 0
                          · have h1b : decide (x > 0) = true := decide_eq_true h1
                            cases bq with
                            | true =>
                                have PK := za.mk (show zcr l1 left a2 (i + 1) = zcr l1 left a2 i by rw [zcr, hxx, if_pos h1, if_pos hbq])
                                clear hxx hbq
                                go_wp2_with (first
                                  | (go_at_call 35; refine (HCF.out _ (Below.refl _ _)).mono ?_; rintro e w7 ⟨rfl, hb7⟩; have G7 := za.mk ((GI.out.below (zbv (Below.refl _ _) (.cells #[.int .i64 (i : Int)] 3))).below hb7); have cgl := G7.out.lv; have cgi : w7.cell? ⟨wr.heap.size, 0, none⟩ = some (.int .i64 (i : Int)) := (hb7.cell (World.block_lt_of_cell? _ _ ((zba (zdb wr (.cells #[.int .i64 (i : Int)] 3)) 0).trans rfl))).trans ((zba (zdb wr (.cells #[.int .i64 (i : Int)] 3)) 0).trans rfl); have cx : w7.cell? (ad.add i) = some (.int .i64 x) := (hb7.cell (World.block_lt_of_cell? _ _ (HX.out))).trans HX.out; have R7 := za.mk (Kd.zby (Kd.zb0 RP.out (.cells #[.int .i64 (i : Int)] 3)) hb7); have B7 := za.mk (zf (zbv BP.out (.cells #[.int .i64 (i : Int)] 3)) hb7); clear hb7)
                                  | ((with_reducible refine zdc (b := .append) (xs := #[.tmp 59, .tmp 61]) rfl ?_); at_builtin; refine Kd.zet (Kd.int .i64) (w0 := w6) w6.heap.size rfl (.tmp 59) (.tmp 61) 23 3 (.int .i64 0) 8 rfl Try.underlying23 info3 rfl (by decide) (by omega) (.slice P (zcr l1 left a2 i).length cp) (zcr l1 left a2 i) (i : Int) [.int .i64 (i : Int)] (fun _ => True) (fun _ => False) rfl rfl ?aP (fun _ hk => hk.elim) ?aF ?aO ?aB ?aS ?aL ?_; (case aP => exact rfl); (case aB => exact B7.out); (case aF => exact (fun _ _ => trivial)); (case aO => exact R7.out); (case aS => exact B7.out.size); (case aL => have := HLP.out; have := HN.out; omega); intro v8 w8 ho hb hg hat; have R8 := za.mk ho; have B8 := za.mk hb; clear ho hb hg hat))
                                go_roundg (l0.length - (i + 1))
                                case measure => omega
                                case rel => exact ⟨i + 1, by have := HN.out; go_num, by omega, by omega, ⟨by rw [PK.out]; exact R7.out⟩, B7⟩
                            | false =>
                              by_cases h2 : ((zcr l1 left a2 i).length : Int) < a2
                              · have h2b : decide (((zcr l1 left a2 i).length : Int) < a2) = true := decide_eq_true h2
                                have PK := za.mk (show zcr l1 left a2 (i + 1) = zcr l1 left a2 i ++ [(i : Int)] by rw [zcr, hxx, if_pos h1, if_neg (by rw [hbq]; decide), if_pos h2])
                                clear hxx hbq
                                go_wp2_with (first
                                  | (go_at_call 35; refine (HCF.out _ (Below.refl _ _)).mono ?_; rintro e w7 ⟨rfl, hb7⟩; have G7 := za.mk ((GI.out.below (zbv (Below.refl _ _) (.cells #[.int .i64 (i : Int)] 3))).below hb7); have cgl := G7.out.lv; have cgi : w7.cell? ⟨wr.heap.size, 0, none⟩ = some (.int .i64 (i : Int)) := (hb7.cell (World.block_lt_of_cell? _ _ ((zba (zdb wr (.cells #[.int .i64 (i : Int)] 3)) 0).trans rfl))).trans ((zba (zdb wr (.cells #[.int .i64 (i : Int)] 3)) 0).trans rfl); have cx : w7.cell? (ad.add i) = some (.int .i64 x) := (hb7.cell (World.block_lt_of_cell? _ _ (HX.out))).trans HX.out; have R7 := za.mk (Kd.zby (Kd.zb0 RP.out (.cells #[.int .i64 (i : Int)] 3)) hb7); have B7 := za.mk (zf (zbv BP.out (.cells #[.int .i64 (i : Int)] 3)) hb7); clear hb7)
                                  | ((with_reducible refine zdc (b := .append) (xs := #[.tmp 59, .tmp 61]) rfl ?_); at_builtin; refine Kd.zet (Kd.int .i64) (w0 := w6) w6.heap.size rfl (.tmp 59) (.tmp 61) 23 3 (.int .i64 0) 8 rfl Try.underlying23 info3 rfl (by decide) (by omega) (.slice P (zcr l1 left a2 i).length cp) (zcr l1 left a2 i) (i : Int) [.int .i64 (i : Int)] (fun _ => True) (fun _ => False) rfl rfl ?aP (fun _ hk => hk.elim) ?aF ?aO ?aB ?aS ?aL ?_; (case aP => exact rfl); (case aB => exact B7.out); (case aF => exact (fun _ _ => trivial)); (case aO => exact R7.out); (case aS => exact B7.out.size); (case aL => have := HLP.out; have := HN.out; omega); intro v8 w8 ho hb hg hat; have R8 := za.mk ho; have B8 := za.mk hb; clear ho hb hg hat))
                                go_roundg (l0.length - (i + 1))
                                case measure => omega
                                case rel => exact ⟨i + 1, by have := HN.out; go_num, by omega, by omega, ⟨by rw [PK.out]; exact R8.out⟩, B8⟩
                              · have h2b : decide (((zcr l1 left a2 i).length : Int) < a2) = false := decide_eq_false h2
                                have PK := za.mk (show zcr l1 left a2 (i + 1) = zcr l1 left a2 i by rw [zcr, hxx, if_pos h1, if_neg (by rw [hbq]; decide), if_neg h2])
                                clear hxx hbq
                                go_wp2_with (first
                                  | (go_at_call 35; refine (HCF.out _ (Below.refl _ _)).mono ?_; rintro e w7 ⟨rfl, hb7⟩; have G7 := za.mk ((GI.out.below (zbv (Below.refl _ _) (.cells #[.int .i64 (i : Int)] 3))).below hb7); have cgl := G7.out.lv; have cgi : w7.cell? ⟨wr.heap.size, 0, none⟩ = some (.int .i64 (i : Int)) := (hb7.cell (World.block_lt_of_cell? _ _ ((zba (zdb wr (.cells #[.int .i64 (i : Int)] 3)) 0).trans rfl))).trans ((zba (zdb wr (.cells #[.int .i64 (i : Int)] 3)) 0).trans rfl); have cx : w7.cell? (ad.add i) = some (.int .i64 x) := (hb7.cell (World.block_lt_of_cell? _ _ (HX.out))).trans HX.out; have R7 := za.mk (Kd.zby (Kd.zb0 RP.out (.cells #[.int .i64 (i : Int)] 3)) hb7); have B7 := za.mk (zf (zbv BP.out (.cells #[.int .i64 (i : Int)] 3)) hb7); clear hb7)
                                  | ((with_reducible refine zdc (b := .append) (xs := #[.tmp 59, .tmp 61]) rfl ?_); at_builtin; refine Kd.zet (Kd.int .i64) (w0 := w6) w6.heap.size rfl (.tmp 59) (.tmp 61) 23 3 (.int .i64 0) 8 rfl Try.underlying23 info3 rfl (by decide) (by omega) (.slice P (zcr l1 left a2 i).length cp) (zcr l1 left a2 i) (i : Int) [.int .i64 (i : Int)] (fun _ => True) (fun _ => False) rfl rfl ?aP (fun _ hk => hk.elim) ?aF ?aO ?aB ?aS ?aL ?_; (case aP => exact rfl); (case aB => exact B7.out); (case aF => exact (fun _ _ => trivial)); (case aO => exact R7.out); (case aS => exact B7.out.size); (case aL => have := HLP.out; have := HN.out; omega); intro v8 w8 ho hb hg hat; have R8 := za.mk ho; have B8 := za.mk hb; clear ho hb hg hat))
                                go_roundg (l0.length - (i + 1))
                                case measure => omega
                                case rel => exact ⟨i + 1, by have := HN.out; go_num, by omega, by omega, ⟨by rw [PK.out]; exact R7.out⟩, B7⟩
                          · have h1b : decide (x > 0) = false := decide_eq_false h1
                            have PK := za.mk (show zcr l1 left a2 (i + 1) = zcr l1 left a2 i by rw [zcr, hxx, if_neg h1])
                            clear hxx hbq
                            go_wp2_with (first
                                  | (go_at_call 35; refine (HCF.out _ (Below.refl _ _)).mono ?_; rintro e w7 ⟨rfl, hb7⟩; have G7 := za.mk ((GI.out.below (zbv (Below.refl _ _) (.cells #[.int .i64 (i : Int)] 3))).below hb7); have cgl := G7.out.lv; have cgi : w7.cell? ⟨wr.heap.size, 0, none⟩ = some (.int .i64 (i : Int)) := (hb7.cell (World.block_lt_of_cell? _ _ ((zba (zdb wr (.cells #[.int .i64 (i : Int)] 3)) 0).trans rfl))).trans ((zba (zdb wr (.cells #[.int .i64 (i : Int)] 3)) 0).trans rfl); have cx : w7.cell? (ad.add i) = some (.int .i64 x) := (hb7.cell (World.block_lt_of_cell? _ _ (HX.out))).trans HX.out; have R7 := za.mk (Kd.zby (Kd.zb0 RP.out (.cells #[.int .i64 (i : Int)] 3)) hb7); have B7 := za.mk (zf (zbv BP.out (.cells #[.int .i64 (i : Int)] 3)) hb7); clear hb7)
                                  | ((with_reducible refine zdc (b := .append) (xs := #[.tmp 59, .tmp 61]) rfl ?_); at_builtin; refine Kd.zet (Kd.int .i64) (w0 := w6) w6.heap.size rfl (.tmp 59) (.tmp 61) 23 3 (.int .i64 0) 8 rfl Try.underlying23 info3 rfl (by decide) (by omega) (.slice P (zcr l1 left a2 i).length cp) (zcr l1 left a2 i) (i : Int) [.int .i64 (i : Int)] (fun _ => True) (fun _ => False) rfl rfl ?aP (fun _ hk => hk.elim) ?aF ?aO ?aB ?aS ?aL ?_; (case aP => exact rfl); (case aB => exact B7.out); (case aF => exact (fun _ _ => trivial)); (case aO => exact R7.out); (case aS => exact B7.out.size); (case aL => have := HLP.out; have := HN.out; omega); intro v8 w8 ho hb hg hat; have R8 := za.mk ho; have B8 := za.mk hb; clear ho hb hg hat))
                            go_roundg (l0.length - (i + 1))
                            case measure => omega
                            case rel => exact ⟨i + 1, by have := HN.out; go_num, by omega, by omega, ⟨by rw [PK.out]; exact R7.out⟩, B7⟩
                        · have hltz : ¬ (i : Int) < (l0.length : Int) := by omega
                          obtain rfl : i = l0.length := by omega
                          have GI := za.mk (G6.out.below BP.out)
                          obtain ⟨X, cr, ev⟩ := Kd.zb6 G6.out.rR
                          subst ev
                          have XLT := za.mk (fun k hk => Kd.R_lt G6.out.rR k hk)
                          have GLT := za.mk (show gl < w6.heap.size from World.block_lt_of_cell? _ _ G6.out.lv)
                          have GOT := za.mk (show go < w6.heap.size from World.block_lt_of_cell? _ _ G6.out.o0)
                          have W6S := za.mk BP.out.size
                          have LLT := za.mk (fun k hk => Kd.zdk G6.out.lR k hk)
                          have FLT := za.mk (fun k hk => Kd.R_lt G6.out.fR k hk)
                          obtain ⟨P, cp, eP⟩ := Kd.zb6 RP.out
                          subst eP
                          have hlp := zgx l1 left a2 l0.length
                          have PM := za.mk (gpick_mem l1 left a2 l0.length)
                          obtain ⟨pl, hpl⟩ : ∃ pl, zcr l1 left a2 l0.length = pl := ⟨_, rfl⟩
                          rw [hpl] at RP HL PM hlp
                          rw [hpl]
                          have HLP := za.mk hlp
                          have RP1 := za.mk (Kd.zbl (Kd.zdt RP.out) (ok' := fun k => w6.heap.size ≤ k) (fun _ hk => hk.2.1))
                          have hN := HN.out
                          clear hpl RP BP G6
                          go_wp2
                          go_loopg [66] pl.length (fun gg v66 wr => ∃ j : Nat, v66 = .int .i64 j ∧ j ≤ pl.length ∧ pl.length - j ≤ gg ∧ za (w6.heap.size ≤ wr.heap.size) ∧ za (GrW W0 l0.length gl go L F cl cf (.slice X rows.length cr) ((pl.take j).foldl (zdx now) (left, fin)).1 ((pl.take j).foldl (zdx now) (left, fin)).2 rows wr) ∧ za (Kd.R (Kd.int .i64) 3 wr w6.heap.size (fun k => w6.heap.size ≤ k) (.slice P pl.length cp) pl))
                          case atStart => exact ⟨0, by go_num, Nat.zero_le _, by omega, W6S, ⟨GI.out⟩, RP1⟩
                          case round =>
                            obtain ⟨j, rfl, hjl, hgj, WS, GJ, RJ⟩ := hrel
                            clear GI RP1
                            by_cases hlt : j < pl.length
                            · have hltz : (j : Int) < (pl.length : Int) := by omega
                              obtain ⟨adp, eap, hxp⟩ := Kd.zck (Kd.zo RJ.out).2.2 (j : Int) (by omega) hltz
                              cases eap
                              rw [Int.toNat_natCast] at hxp
                              obtain ⟨a, ha, hxa⟩ := PM.out pl[j] (List.getElem_mem hlt)
                              rw [show rd pl (j : Int) = (a : Int) by rw [rd, List.getD_eq_getElem?_getD, Int.toNat_natCast, List.getElem?_eq_getElem hlt]; exact hxa] at hxp
                              have haz : (a : Int) < (l0.length : Int) := by omega
                              obtain ⟨gL, eL⟩ := Q_addr GJ.out.lR (by omega)
                              subst eL
                              have hfl := (ze7 now (pl.take j) (left, fin)).2
                              obtain ⟨gF, capF, eF, _⟩ := Kd.R_form GJ.out.fR (by rw [hfl]; have := HFL.out; simp only; omega)
                              injection eF with eF1 eF2 eF3
                              subst eF1
                              clear eF2 eF3 hfl
                              obtain ⟨p, hp⟩ : ∃ p, (pl.take j).foldl (zdx now) (left, fin) = p := ⟨_, rfl⟩
                              rw [hp] at GJ
                              obtain ⟨x, hx⟩ : ∃ x, rd p.1 (a : Int) = x := ⟨_, rfl⟩
                              have hstep : (pl.take (j + 1)).foldl (zdx now) (left, fin) = (p.1.set a (wrap64 (x - 1)), if wrap64 (x - 1) = 0 then p.2.set a (wrap64 (now + 1)) else p.2) := by
                                rw [List.take_succ_eq_append_getElem hlt, List.foldl_append, hp, hxa]
                                show zdx now p (a : Int) = _
                                unfold zdx
                                rw [hx, Int.toNat_natCast]
                              have lv := GJ.out.lv
                              obtain ⟨cd, fd⟩ := Q_celln GJ.out.lR (a : Int) (by omega) haz
                              rw [Int.toNat_natCast] at cd fd
                              rw [show rdOf 0 p.1 (a : Int) = x from hx] at cd
                              have G7 := za.mk (GJ.out.setLeft NE.out a (wrap64 (x - 1)))
                              have R7 := za.mk (Kd.zbz (p := ⟨gL, a, none⟩) RJ.out (fun k hk e => by have := LLT.out gL rfl; simp only at e; omega) (.int .i64 (wrap64 (x - 1))))
                              have lv7 := G7.out.lv
                              have o17 := G7.out.o1
                              have cd7 := World.cell?_setCell_same wr ⟨gL, a, none⟩ (.int .i64 (wrap64 (x - 1))) cd
                              obtain ⟨cf7, ff7⟩ := Kd.zek 0 G7.out.fR (a : Int) (by omega) haz
                              rw [Int.toNat_natCast] at cf7 ff7
                              have HST := za.mk hstep
                              have HXX := za.mk hx
                              have HPP := za.mk hp
                              have HXA := za.mk hxa
                              clear hstep hx hp hxa
                              by_cases hq : wrap64 (x - 1) = 0
                              · have hq2 : (wrap64 (x - 1) == 0) = true := by simpa using hq
                                rw [if_pos hq] at HST
                                have G8 := za.mk (G7.out.setFin NE.out a (wrap64 (now + 1)))
                                have R8 := za.mk (Kd.zbz (p := ⟨gF, a, none⟩) R7.out (fun k hk e => by have := FLT.out gF rfl; simp only at e; omega) (.int .i64 (wrap64 (now + 1))))
                                have HQ := za.mk hq
                                clear hq
                                go_wp2
                                go_roundg (pl.length - (j + 1))
                                case measure => omega
                                case rel => exact ⟨j + 1, by go_num, by omega, by omega, ⟨by simpa using WS.out⟩, ⟨by rw [HST.out]; exact G8.out⟩, R8⟩
                              · have hq2 : (wrap64 (x - 1) == 0) = false := by simpa using hq
                                rw [if_neg hq] at HST
                                have HQ := za.mk hq
                                clear hq
                                go_wp2
                                go_roundg (pl.length - (j + 1))
                                case measure => omega
                                case rel => exact ⟨j + 1, by go_num, by omega, by omega, ⟨by simpa using WS.out⟩, ⟨by rw [HST.out]; exact G7.out⟩, R7⟩
                            · have hltz : ¬ (j : Int) < (pl.length : Int) := by omega
                              obtain rfl : j = pl.length := by omega
                              rw [List.take_length] at GJ
                              obtain ⟨c2, HCL⟩ := clip_own RJ.out
                              have cO0 := GJ.out.o0
                              go_wp2_with fail
                              refine ze1 (n := 8) (S := fun w' => w'.cell? ⟨go, 0, none⟩ = some (.slice X rows.length cr)) (ds := [7]) #[false, false, false, false, false, false, false, false] (by kernel_rfl) rfl rfl cO0 (fun hHeld => ?_); refine zdj zh.tab23 zh.bits23 (fun HT_ HW_ => ?_)
                              have G9 := za.mk (GJ.out.below (zcm (Below.refl _ _)))
                              have Q9 := za.mk (Kd.zbu HCL.out.2)
                              have WS9 := za.mk (show w6.heap.size ≤ wr.drew.heap.size from WS.out)
                              clear cO0 GJ RJ WS
                              generalize wr.drew = w9 at G9 Q9 WS9 hHeld ⊢
                              refine z8 (i := 0) (N := some 88) (v := ?_) (a' := ?_) #[true, false, false, false, false, false, false, false] rfl rfl (zk HT_.out (by kernel_rfl)) (fun _ _ _ h => h) (Or.inl ⟨by rfl, ?_⟩) ?_ ?_
                              rotate_left
                              · intro w'
                                go_simp
                                with_reducible rfl
                              rotate_left
                              · simp only [Act.put, List.setIfInBounds_toArray, List.set_cons_zero, List.set_cons_succ, zq, zt]
                                rfl
                              refine z8 (i := 2) (N := some 90) (v := ?_) (a' := ?_) #[true, false, true, false, false, false, false, false] rfl rfl (zk HT_.out (by kernel_rfl)) (fun _ _ _ h => h) (Or.inl ⟨by rfl, ?_⟩) ?_ ?_
                              rotate_left
                              · intro w'
                                go_simp
                                with_reducible rfl
                              rotate_left
                              · simp only [Act.put, List.setIfInBounds_toArray, List.set_cons_zero, List.set_cons_succ, zq, zt]
                                rfl
                              refine zdq (i := 1) (N := some 89) (v := ?_) (a' := ?_) #[true, true, true, false, false, false, false, false] rfl rfl (zcn HT_.out HW_.out (by kernel_rfl)) (fun _ _ _ h => h) (Or.inl ⟨by rfl, ?_⟩) hHeld ?_ ?_
                              rotate_left
                              · intro w' s0
                                go_simp
                                with_reducible rfl
                              rotate_left
                              · simp only [Act.put, List.setIfInBounds_toArray, List.set_cons_zero, List.set_cons_succ, zq, zt]
                                rfl
                              refine one_ (i := 3) (N := some 91) #[true, true, true, true, false, false, false, false] rfl rfl (zdw HT_.out (by kernel_rfl)) (by decide) (fun K hK => ?_)
                              refine zgn Try.func37 (by kernel_rfl) rfl #[.slice P pl.length cp] (by rfl) rfl rfl (by (try simp only [List.map_toArray, List.map_cons, List.map_nil]); first | done | rfl) ?_
                              refine (HCL.out.1 _).mono ?_
                              rintro e w10 ⟨rfl, ⟨q10, rfl⟩⟩
                              refine ⟨_, rfl, ?_⟩
                              refine hK.out _ _ hHeld (fun hHeld => ?_)
                              clear hK K
                              refine zfh (a' := ?_) ?_ ?_
                              rotate_left
                              · show Act.put _ (some 91) _ = _
                                simp only [Act.put, List.setIfInBounds_toArray, List.set_cons_zero, List.set_cons_succ, zq, zt]
                                rfl
                              have G10 := za.mk (G9.out.below (zbr (Below.refl _ _) q10))
                              have Q10 := za.mk (Kd.zbg Q9.out q10)
                              have WS10 := za.mk (show w6.heap.size ≤ (w9.drewN q10).heap.size from WS9.out)
                              clear G9 Q9 WS9
                              generalize w9.drewN q10 = w11 at G10 Q10 WS10 hHeld ⊢
                              refine one_ (i := 4) (N := some 92) #[true, true, true, true, true, false, false, false] rfl rfl (zdw HT_.out (by kernel_rfl)) (by decide) (fun K hK => ?_)
                              refine value_ (w1 := w11.alloc (.cells #[.slice P pl.length c2] 23)) (v := .slice (some ⟨w11.heap.size, 0, none⟩) 1 1) (by rfl) rfl ?_ ?_
                              · go_simp
                              refine hK.out _ _ ((Lib.cell?_alloc_some _ hHeld)) (fun hHeld => ?_)
                              clear hK K
                              refine zfh (a' := ?_) ?_ ?_
                              rotate_left
                              · show Act.put _ (some 92) _ = _
                                simp only [Act.put, List.setIfInBounds_toArray, List.set_cons_zero, List.set_cons_succ, zq, zt]
                                rfl
                              refine one_ (i := 5) (N := some 93) #[true, true, true, true, true, true, false, false] rfl rfl (zdw HT_.out (by kernel_rfl)) (by decide) (fun K hK => ?_)
                              refine Kd.zfy (Kd.cut 3 (Kd.int .i64)) (w0 := W0) (W := w11) W0.heap.size (by rfl) (.tmp 89) (.tmp 92) 24 23 (.slice none 0 0) 24 rfl Try.underlying24 info23 rfl (by decide) (by omega) (.slice X rows.length cr) rows pl [.slice P pl.length c2] (fun k => k ≠ gl ∧ k ≠ go ∧ some k ≠ (Value.slice L l0.length cl).ownBlock ∧ some k ≠ (Value.slice F l0.length cf).ownBlock) (fun k => w6.heap.size ≤ k) rfl rfl ⟨_, rfl, Kd.zb7 Q10.out ?hb0⟩ ?hp0 ?hf0 G10.out.rR G10.out.bel G10.out.bel.size ?hl0 ?_
                              case hb0 => exact Nat.le_of_lt (Nat.lt_of_le_of_lt NE.out.gn GLT.out)
                              case hp0 =>
                                intro k hk
                                have h1 := GLT.out
                                have h2 := GOT.out
                                exact ⟨⟨by omega, by omega, fun e => by have := LLT.out k e.symm; omega, fun e => by have := FLT.out k e.symm; omega⟩, fun e => by have := XLT.out k e.symm; omega⟩
                              case hf0 =>
                                intro k hk
                                have h1 := GLT.out
                                have h2 := GOT.out
                                have h3 := WS10.out
                                exact ⟨by omega, by omega, fun e => by have := LLT.out k e.symm; omega, fun e => by have := FLT.out k e.symm; omega⟩
                              case hl0 => have := HRL.out; omega
                              intro v12 w12 ho12 hb12 hg12 hat12
                              clear hat12
                              obtain ⟨V, cv, ev⟩ := Kd.zb6 ho12
                              obtain ⟨nv, hnv⟩ : ∃ n, n = (rows ++ [pl]).length := ⟨_, rfl⟩
                              rw [← hnv] at ev
                              subst ev
                              clear hnv
                              have G12 := za.mk (G10.out.setRows NE.out hg12 hb12 ho12)
                              have c12 := hg12.cell G10.out.o0 (fun e => (G10.out.rR.1 go e.symm).2.1 rfl)
                              have z12 : w12.frozen? ⟨go, 0, none⟩ = false := (World.frozen?_of_block (hg12.block go (World.block_lt_of_cell? _ _ G10.out.o0) (fun e => (G10.out.rR.1 go e.symm).2.1 rfl))).trans G10.out.f0
                              clear ho12 hb12 hg12
                              refine hK.out _ _ c12 (fun hHeld => ?_)
                              clear hK K
                              refine zfh (a' := ?_) ?_ ?_
                              rotate_left
                              · show Act.put _ (some 93) _ = _
                                simp only [Act.put, List.setIfInBounds_toArray, List.set_cons_zero, List.set_cons_succ, zq, zt]
                                rfl
                              refine z8 (i := 6) (N := some 94) (v := ?_) (a' := ?_) #[true, true, true, true, true, true, true, false] rfl rfl (zk HT_.out (by kernel_rfl)) (fun _ _ _ h => h) (Or.inl ⟨by rfl, ?_⟩) ?_ ?_
                              rotate_left
                              · intro w'
                                go_simp
                                with_reducible rfl
                              rotate_left
                              · simp only [Act.put, List.setIfInBounds_toArray, List.set_cons_zero, List.set_cons_succ, zq, zt]
                                rfl
                              refine last_ (i := 7) (N := none) #[true, true, true, true, true, true, true, true] rfl rfl (zdw HT_.out (by kernel_rfl)) (by decide) (fun K hK => ?_)
                              refine skip_ (w1 := ?_) (by rfl) rfl ?_ ?_
                              rotate_left
                              · go_simp
                                rfl
                              refine hK.out _ _ ?_
                              clear hK K
                              refine zg9 (zd8 HT_.out (by kernel_rfl)) ?_
                              clear c12 z12
                              generalize w12.setCell ⟨go, 0, none⟩ (.slice V nv cv) = w13 at G12 ⊢
                              go_wp2
                              go_roundg k3
                              case measure => omega
                              case rel => exact ⟨k3, _, _, _, _, _, rfl, Nat.le_refl _, by omega, by rw [(ze7 now pl (left, fin)).1]; exact HLL.out, by rw [(ze7 now pl (left, fin)).2]; exact HFL.out, HL, G12⟩
                    · rw [if_neg hrl] at hL
                      simp at hL
          · rw [if_neg hh] at h
            simp at h
def zbe.l0 : Nat → List Int → List Int → Int → Option (Bool)
 | 0, _, _, _ => none
 | k + 1, x0, x1, x5 => if x5 < (x0.length : Int) then (if 0 ≤ x5 then (if x5 < (x1.length : Int) then (if (rd x0 x5) = (rd x1 x5) then (zbe.l0 k x0 x1 (wrap64 (x5 + 1))) else (some false)) else (none)) else (none)) else (some true)
def zbe.f (k : Nat) (l0 : List Int) (l1 : List Int) : Option (Bool) := if (l0.length : Int) = (l1.length : Int) then (zbe.l0 k l0 l1 0) else (some false)
set_option maxHeartbeats 8000000 in
theorem zbe.calls (k : Nat) (A0 : Option Addr) (c0 : Nat) (l0 : List Int) (A1 : Option Addr) (c1 : Nat) (l1 : List Int) (r : Bool) (w : World) (hr0 : Kd.C (Kd.int .i64) w A0 l0.length l0) (hc0 : l0.length ≤ c0) (hr1 : Kd.C (Kd.int .i64) w A1 l1.length l1) (hc1 : l1.length ≤ c1) (h : zbe.f k l0 l1 = some r) :
  Calls Try.prog 12 #[.slice A0 l0.length c0, .slice A1 l1.length c1] w fun e w' => e = .returned (.bool r) ∧ zbs w w' := by
 have HR0 := za.mk hr0
 have HC0 := za.mk hc0
 clear hr0 hc0
 have HR1 := za.mk hr1
 have HC1 := za.mk hc1
 clear hr1 hc1
 have H : (if (l0.length : Int) = (l1.length : Int) then (zbe.l0 k l0 l1 0) else (some false)) = some r := h
 clear h
 by_cases c3 : (l0.length : Int) = (l1.length : Int)
 ·rw [if_pos c3] at H
  have c3b0 : ((l0.length : Int) == (l1.length : Int)) = true := beq_iff_eq.mpr c3;have c3b1 : ((l0.length : Int) != (l1.length : Int)) = false := bne_eq_false_iff_eq.mpr c3;have c3b2 : (l0.length == l1.length) = true := by first | simpa using c3 | (simp at c3 ⊢; omega)
  clear c3;have H' := za.mk H;clear H;go_enter Try.func12, Try.ntmps12;go_wp2
  repeat (go_quiet (fail); try go_wp2)
  go_loopg [5] k (fun kq v5 w' => ∃ (x5_1 : Int), v5 = .int .i64 x5_1 ∧ za (zbe.l0 kq l0 l1 x5_1 = some r) ∧ za (kq ≤ k) ∧ zbs w w')
  case atStart => exact ⟨(0), Zrs, H', ⟨Nat.le_refl _⟩, by repeat (first | exact zbs.refl _ | apply zbs.step)⟩
  case round =>
   clear H'
   (try clear c1);(try clear p2);(try clear c3);(try clear c3b0);(try clear c3b1);(try clear c3b2)
   obtain ⟨x5_1, rfl, HA, HK1, ⟨m1, rfl⟩⟩ := hrel
   cases gk with
   | zero => exact absurd HA.out (by simp [zbe.l0])
   | succ k1 =>
    have H := HA.out;clear HA;simp only [zbe.l0] at H;by_cases c4 : x5_1 < (l0.length : Int)
    ·rw [if_pos c4] at H
     have c4b0 : decide (x5_1 < (l0.length : Int)) = true := decide_eq_true c4;clear c4;by_cases c5 : 0 ≤ x5_1
     ·rw [if_pos c5] at H
      have c5b0 : decide (0 ≤ x5_1) = true := decide_eq_true c5;clear c5;by_cases c6 : x5_1 < (l1.length : Int)
      ·rw [if_pos c6] at H
       have c6b0 : decide (x5_1 < (l1.length : Int)) = true := decide_eq_true c6;clear c6;by_cases c7 : (rd l0 x5_1) = (rd l1 x5_1)
       ·rw [if_pos c7] at H
        have c7b0 : ((rd l0 x5_1) == (rd l1 x5_1)) = true := beq_iff_eq.mpr c7;have c7b1 : ((rd l0 x5_1) != (rd l1 x5_1)) = false := bne_eq_false_iff_eq.mpr c7;clear c7;have H' := za.mk H;clear H;have p258 : 0 ≤ (x5_1 : Int) := of_decide_eq_true Zas;have q258 : x5_1 < (l0.length : Int) := of_decide_eq_true Zas;obtain ⟨ad258, e258, hx258_0⟩ := Kd.zck HR0.out x5_1 p258 q258
        cases e258
        replace p258 := eq_true p258;replace q258 := eq_true q258;have p259 : 0 ≤ (x5_1 : Int) := of_decide_eq_true Zas;have q259 : x5_1 < (l1.length : Int) := of_decide_eq_true Zas;obtain ⟨ad259, e259, hx259_0⟩ := Kd.zck HR1.out x5_1 p259 q259
        cases e259
        replace p259 := eq_true p259;replace q259 := eq_true q259;go_wp2
        repeat (go_quiet (fail); try go_wp2)
        go_roundg k1
        case measure => have := HK1.out; omega
        case rel => exact ⟨(wrap64 (x5_1 + 1)), Zrs, H', ⟨by have := HK1.out; omega⟩, by repeat (first | exact zbs.refl _ | apply zbs.step)⟩
       ·rw [if_neg c7] at H
        have c7b0 : ((rd l0 x5_1) == (rd l1 x5_1)) = false := beq_eq_false_iff_ne.mpr c7;have c7b1 : ((rd l0 x5_1) != (rd l1 x5_1)) = true := bne_iff_ne.mpr c7;obtain rfl := Option.some.inj H;have p258 : 0 ≤ (x5_1 : Int) := of_decide_eq_true Zas;have q258 : x5_1 < (l0.length : Int) := of_decide_eq_true Zas;obtain ⟨ad258, e258, hx258_0⟩ := Kd.zck HR0.out x5_1 p258 q258
        cases e258
        replace p258 := eq_true p258;replace q258 := eq_true q258;have p259 : 0 ≤ (x5_1 : Int) := of_decide_eq_true Zas;have q259 : x5_1 < (l1.length : Int) := of_decide_eq_true Zas;obtain ⟨ad259, e259, hx259_0⟩ := Kd.zck HR1.out x5_1 p259 q259
        cases e259
        replace p259 := eq_true p259;replace q259 := eq_true q259;go_wp2
        repeat (go_quiet (fail); try go_wp2)
        go_ret;exact ⟨by first | rfl | (simp; done) | (simp [*]; done), by repeat (first | exact zbs.refl _ | apply zbs.step)⟩
      ·rw [if_neg c6] at H
       exact absurd H (by simp)
     ·rw [if_neg c5] at H
      exact absurd H (by simp)
    ·rw [if_neg c4] at H
     have c4b0 : decide (x5_1 < (l0.length : Int)) = false := decide_eq_false c4;clear c4;obtain rfl := Option.some.inj H;go_wp2
     repeat (go_quiet (fail); try go_wp2)
     go_ret;exact ⟨by first | rfl | (simp; done) | (simp [*]; done), by repeat (first | exact zbs.refl _ | apply zbs.step)⟩
 ·rw [if_neg c3] at H
  have c3b0 : ((l0.length : Int) == (l1.length : Int)) = false := beq_eq_false_iff_ne.mpr c3;have c3b1 : ((l0.length : Int) != (l1.length : Int)) = true := bne_iff_ne.mpr c3;have c3b2 : (l0.length == l1.length) = false := by first | simpa using c3 | (simp at c3 ⊢; omega)
  obtain rfl := Option.some.inj H;go_enter Try.func12, Try.ntmps12;go_wp2
  repeat (go_quiet (fail); try go_wp2)
  go_ret;exact ⟨by first | rfl | (simp; done) | (simp [*]; done), by repeat (first | exact zbs.refl _ | apply zbs.step)⟩
def zb4.l0 : Nat → Int → List Int → Int → Int → Option (Int)
 | 0, _, _, _, _ => none
 | k + 1, x3, x6, x7, x8 => if x8 < x7 then (if 0 ≤ x8 then (if x8 < (x6.length : Int) then (zb4.l0 k (wrap64 (x3 + (rd x6 x8))) x6 x7 (wrap64 (x8 + 1))) else (none)) else (none)) else (some x3)
def zb4.f (k : Nat) (l0 : List Int) : Option (Int) := zb4.l0 k 0 l0 (l0.length : Int) 0
set_option maxHeartbeats 8000000 in
theorem zb4.calls (k : Nat) (A0 : Option Addr) (c0 : Nat) (l0 : List Int) (r : Int) (w : World) (hr0 : Kd.C (Kd.int .i64) w A0 l0.length l0) (hc0 : l0.length ≤ c0) (h : zb4.f k l0 = some r) :
  Calls Try.prog 42 #[.slice A0 l0.length c0] w fun e w' => e = .returned (.int .i64 r) ∧ zbs w w' := by
 have HR0 := za.mk hr0
 have HC0 := za.mk hc0
 clear hr0 hc0
 have H : (zb4.l0 k 0 l0 (l0.length : Int) 0) = some r := h
 clear h
 have H' := za.mk H
 clear H
 go_enter Try.func42, Try.ntmps42
 go_wp2
 go_loopg [3, 8] k (fun kq v3 v8 w' => ∃ (x3_1 : Int) (x8_1 : Int), v3 = .int .i64 x3_1 ∧ v8 = .int .i64 x8_1 ∧ za (zb4.l0 kq x3_1 l0 (l0.length : Int) x8_1 = some r) ∧ za (kq ≤ k) ∧ zbs w w')
 case atStart => exact ⟨(0), (0), Zrs, Zrs, H', ⟨Nat.le_refl _⟩, by repeat (first | exact zbs.refl _ | apply zbs.step)⟩
 case round =>
  clear H';obtain ⟨x3_1, x8_1, rfl, rfl, HA, HK1, ⟨m1, rfl⟩⟩ := hrel
  cases gk with
  | zero => exact absurd HA.out (by simp [zb4.l0])
  | succ k1 =>
   have H := HA.out;clear HA;simp only [zb4.l0] at H;by_cases c2 : x8_1 < (l0.length : Int)
   ·rw [if_pos c2] at H
    have c2b0 : decide (x8_1 < (l0.length : Int)) = true := decide_eq_true c2;clear c2;by_cases c3 : 0 ≤ x8_1
    ·rw [if_pos c3] at H
     have c3b0 : decide (0 ≤ x8_1) = true := decide_eq_true c3;clear c3;by_cases c4 : x8_1 < (l0.length : Int)
     ·rw [if_pos c4] at H
      have c4b0 : decide (x8_1 < (l0.length : Int)) = true := decide_eq_true c4;clear c4;have H' := za.mk H;clear H;have p267 : 0 ≤ (x8_1 : Int) := of_decide_eq_true Zas;have q267 : x8_1 < (l0.length : Int) := of_decide_eq_true Zas;obtain ⟨ad267, e267, hx267_0⟩ := Kd.zck HR0.out x8_1 p267 q267
      cases e267
      replace p267 := eq_true p267;replace q267 := eq_true q267;go_wp2;go_roundg k1
      case measure => have := HK1.out; omega
      case rel => exact ⟨(wrap64 (x3_1 + (rd l0 x8_1))), (wrap64 (x8_1 + 1)), Zrs, Zrs, H', ⟨by have := HK1.out; omega⟩, by repeat (first | exact zbs.refl _ | apply zbs.step)⟩
     ·rw [if_neg c4] at H
      exact absurd H (by simp)
    ·rw [if_neg c3] at H
     exact absurd H (by simp)
   ·rw [if_neg c2] at H
    have c2b0 : decide (x8_1 < (l0.length : Int)) = false := decide_eq_false c2;clear c2;obtain rfl := Option.some.inj H;go_wp2;go_ret;exact ⟨by first | rfl | (simp; done) | (simp [*]; done), by repeat (first | exact zbs.refl _ | apply zbs.step)⟩
theorem Zq7 {X0 P : Prop} (x0 : za X0) (h : X0 → P := by intro x0; (with_reducible repeat (first | apply Kd.zb0 | apply Kd.zb2 | apply Kd.zce)); exact x0) : P := h x0.out
theorem Zq8 {X0 X1 P : Prop} (x0 : za X0) (x1 : za X1) (h : X0 → X1 → P := by intro x0 x1; repeat (first | (with_reducible first | exact x0 | apply zbv | apply zbr | apply zcm | refine zeb ?_ x1) | exact x0)) : P := h x0.out x1.out
mutual
def zl.l0 : Nat → List (List Int) → List Int → Int → List Int → Int → Int → Option (Int)
 | 0, _, _, _, _, _, _ => none
 | k + 1, x1, x5, x6, x14, x15, x16 => if x16 < x15 then (if 0 ≤ x16 then (if x16 < (x14.length : Int) then (zl.l1 k x1 x5 x6 x16 (rd x14 x16) x14 x15 x16 x1 (x1.length : Int) 0) else (none)) else (none)) else (some x6)
def zl.l1 : Nat → List (List Int) → List Int → Int → Int → Int → List Int → Int → Int → List (List Int) → Int → Int → Option (Int)
 | 0, _, _, _, _, _, _, _, _, _, _, _ => none
 | k + 1, x1, x5, x6, x7, x8, x14, x15, x16, x21, x22, x23 => if x23 < x22 then (if 0 ≤ x23 then (if x23 < (x21.length : Int) then (if 1 < ((zbd x21 x23).length : Int) then (if (rd (zbd x21 x23) 1) = x7 then (if 0 ≤ x7 then (if x7 < (x5.length : Int) then (if 0 < ((zbd x21 x23).length : Int) then (if 0 ≤ (rd (zbd x21 x23) 0) then (if (rd (zbd x21 x23) 0) < (x5.length : Int) then (zl.l1 k x1 (x5.set (x7 : Int).toNat (mx (rd x5 x7) (rd x5 (rd (zbd x21 x23) 0)))) x6 x7 x8 x14 x15 x16 x21 x22 (wrap64 (x23 + 1))) else (none)) else (none)) else (none)) else (none)) else (none)) else (zl.l1 k x1 x5 x6 x7 x8 x14 x15 x16 x21 x22 (wrap64 (x23 + 1)))) else (none)) else (none)) else (none)) else (if 0 ≤ x7 then (if x7 < (x5.length : Int) then ((some (x5.set (x7 : Int).toNat (wrap64 ((rd x5 x7) + x8)) : List Int)).bind fun y295 => (zl.l0 k x1 y295 (mx x6 (rd y295 x7)) x14 x15 (wrap64 (x16 + 1)))) else (none)) else (none))
end
def zl.f (k : Nat) (l0 : List Int) (l1 : List (List Int)) : Option (Int) := if 0 ≤ (l0.length : Int) then (if ((l0.length : Int) : Int).toNat ≤ 35184372088832 then (zl.l0 k l1 (List.replicate ((l0.length : Int) : Int).toNat 0) 0 l0 (l0.length : Int) 0) else (none)) else (none)
def zl.T10 : Bool × List (List Nat × List Nat) := (true, [([], []), ([], []), ([], []), ([], []), ([2, 3], [2, 3]), ([4], [4]), ([], []), ([], []), ([7], [7]), ([8], [8]), ([6, 9], [6, 9]), ([10], [10]), ([5, 11], [5, 11]), ([0, 1, 0, 1, 2, 3, 4, 5, 6, 7, 8, 9, 10, 11, 12], [0, 1]), ([13, 12, 0, 1, 2, 3, 4, 5, 6, 7, 8, 9, 10, 11, 12], [12, 13])])
def zl.B10 : List Nat := [0, 0, 0, 0, 12, 28, 0, 0, 128, 384, 960, 1984, 4092, 8191, 16383]
theorem zl.tab10 : rtab .any (opsOf Try.f46 10) = zl.T10 := by kernel_rfl
theorem zl.bits10 : zd9 zl.T10.2 zl.B10 = true := by kernel_rfl
set_option maxHeartbeats 8000000 in
theorem zl.calls (k : Nat) (A0 : Option Addr) (c0 : Nat) (l0 : List Int) (A1 : Option Addr) (c1 : Nat) (l1 : List (List Int)) (r : Int) (w : World) (hr0 : Kd.C (Kd.int .i64) w A0 l0.length l0) (hc0 : l0.length ≤ c0) (hr1 : Kd.C (Kd.slice 3 (Kd.int .i64)) w A1 l1.length l1) (hc1 : l1.length ≤ c1) (h : zl.f k l0 l1 = some r) :
  Calls Try.prog 46 #[.slice A0 l0.length c0, .slice A1 l1.length c1] w fun e w' => e = .returned (.int .i64 r) ∧ Below w.heap.size w w' := by
 have HR0 := za.mk hr0
 have HC0 := za.mk hc0
 clear hr0 hc0
 have HR1 := za.mk hr1
 have HC1 := za.mk hc1
 clear hr1 hc1
 have HB := za.mk (Below.refl w.heap.size w)
 have H : (if 0 ≤ (l0.length : Int) then (if ((l0.length : Int) : Int).toNat ≤ 35184372088832 then (zl.l0 k l1 (List.replicate ((l0.length : Int) : Int).toNat 0) 0 l0 (l0.length : Int) 0) else (none)) else (none)) = some r := h
 clear h
 by_cases c3 : 0 ≤ (l0.length : Int)
 ·rw [if_pos c3] at H
  have c3b0 := eq_true c3;have c3b1 : decide (0 ≤ (l0.length : Int)) = true := decide_eq_true c3;clear c3;by_cases c4 : ((l0.length : Int) : Int).toNat ≤ 35184372088832
  ·rw [if_pos c4] at H
   have c4b0 := eq_true c4;have c4b1 : decide (((l0.length : Int) : Int).toNat ≤ 35184372088832) = true := decide_eq_true c4;clear c4;obtain ⟨y284, hy284⟩ : ∃ y_ : List Int, y_ = (List.replicate ((l0.length : Int) : Int).toNat 0) := ⟨_, rfl⟩;replace H : (zl.l0 k l1 y284 0 l0 (l0.length : Int) 0) = some r := by first | (rw [hy284]; with_reducible exact H) | (have H2_ := (Option.bind_some _ _).symm.trans H; rw [hy284]; with_reducible exact H2_) | (have H2_ := (Option.bind_some _ _).symm.trans H; with_reducible exact H2_) | with_reducible exact H | (rw [hy284]; exact H) | exact H
   have Ny284 := za.mk hy284;clear hy284;have H' := za.mk H;clear H;go_enter Try.func46, Try.ntmps46;go_wp2_with (first | ((with_reducible refine zbk (N := 13) rfl ?_); refine Kd.R_make (Kd.int .i64) _ 3 rfl (N := 13) rfl 23 _ _ rfl (l0.length : Int) rfl rfl Try.underlying23 (.int .i64 0) 8 info3 rfl (by decide) (by omega) 0 (ok := fun _ => True) (okp := fun _ => True) rfl (fun _ hk => hk) trivial (of_decide_eq_true Zas) (Nat.le_trans (Nat.mul_le_mul_right _ (of_decide_eq_true Zas : (l0.length : Int).toNat ≤ 35184372088832)) (by omega)) (Below.refl _ _) (Nat.le_refl _) ?_; intro v285 w5 ho6 hb hg_ hnew_; clear hg_ hnew_; (first | rw [← Ny284.out] at ho6 | (simp only [Int.reduceToNat] at ho6; rw [← Ny284.out] at ho6)); have n0_ := za.mk (Kd.zb9 ho6 (zg (Zq2 HB))); have n1_ := za.mk (zf (Zq2 HB) hb); clear HB; have HO286 := n0_; have HB := n1_; clear n0_ n1_; clear hb ho6))
   go_loopg [6, 16] k (fun kq v6 v16 w' => ∃ (x5_1 : List Int) (x6_1 : Int) (x16_1 : Int), v6 = .int .i64 x6_1 ∧ v16 = .int .i64 x16_1 ∧ za (zl.l0 kq l1 x5_1 x6_1 l0 (l0.length : Int) x16_1 = some r) ∧ za (kq ≤ k) ∧ za (Kd.R (Kd.int .i64) 3 w' w.heap.size (fun _ => True) v285 x5_1) ∧ za (Below w.heap.size w w'))
   case atStart => exact ⟨(y284), (0), (0), Zrs, Zrs, H', ⟨Nat.le_refl _⟩, ⟨Zq7 HO286⟩, ⟨Zq2 HB⟩⟩
   case round =>
    clear H'
    (try clear c1);(try clear p2);(try clear c3);(try clear c3b0);(try clear c3b1);(try clear c4);(try clear c4b0);(try clear c4b1)
    obtain ⟨x5_1, x6_1, x16_1, rfl, rfl, HA, HK1, HO_5, HB⟩ := hrel
    cases gk with
    | zero => exact absurd HA.out (by simp [zl.l0])
    | succ k1 =>
     have H := HA.out;clear HA;simp only [zl.l0] at H;by_cases c7 : x16_1 < (l0.length : Int)
     ·rw [if_pos c7] at H
      have c7b0 : decide (x16_1 < (l0.length : Int)) = true := decide_eq_true c7;clear c7;by_cases c8 : 0 ≤ x16_1
      ·rw [if_pos c8] at H
       have c8b0 : decide (0 ≤ x16_1) = true := decide_eq_true c8;clear c8;by_cases c9 : x16_1 < (l0.length : Int)
       ·rw [if_pos c9] at H
        have c9b0 : decide (x16_1 < (l0.length : Int)) = true := decide_eq_true c9;clear c9;have H' := za.mk H;clear H;have p287 : 0 ≤ (x16_1 : Int) := of_decide_eq_true Zas;have q287 : x16_1 < (l0.length : Int) := of_decide_eq_true Zas;obtain ⟨ad287, e287, hx287_0⟩ := Kd.zck HR0.out x16_1 p287 q287
        cases e287
        replace hx287_0 := (HB.out.cell (World.block_lt_of_cell? w _ hx287_0)).trans hx287_0;replace p287 := eq_true p287;replace q287 := eq_true q287;go_wp2
        go_loopg [23] k1 (fun kq v23 w' => ∃ (x5_2 : List Int) (x23_2 : Int), v23 = .int .i64 x23_2 ∧ za (zl.l1 kq l1 x5_2 x6_1 x16_1 (rd l0 x16_1) l0 (l0.length : Int) x16_1 l1 (l1.length : Int) x23_2 = some r) ∧ za (kq ≤ k1) ∧ za (Kd.R (Kd.int .i64) 3 w' w.heap.size (fun _ => True) v285 x5_2) ∧ za (Below w.heap.size w w'))
        case atStart => exact ⟨(x5_1), (0), Zrs, H', ⟨Nat.le_refl _⟩, ⟨Zq7 HO_5⟩, ⟨Zq2 HB⟩⟩
        case round =>
         clear H'
         (try clear c1);(try clear p2);(try clear q2);(try clear hx2);(try clear c3);(try clear c3b0);(try clear c3b1);(try clear c4);(try clear c4b0);(try clear c4b1);(try clear c7);(try clear c7b0);(try clear c8);(try clear c8b0);(try clear c9);(try clear c9b0);(try clear hx287_0);(try clear p2);(try clear p287);(try clear q287)
         obtain ⟨x5_2, x23_2, rfl, HA, HK2, HO_5, HB⟩ := hrel
         cases gk with
         | zero => exact absurd HA.out (by simp [zl.l1])
         | succ k2 =>
          have H := HA.out;clear HA;simp only [zl.l1] at H;by_cases c10 : x23_2 < (l1.length : Int)
          ·rw [if_pos c10] at H
           have c10b0 : decide (x23_2 < (l1.length : Int)) = true := decide_eq_true c10;clear c10;by_cases c11 : 0 ≤ x23_2
           ·rw [if_pos c11] at H
            have c11b0 : decide (0 ≤ x23_2) = true := decide_eq_true c11;clear c11;by_cases c12 : x23_2 < (l1.length : Int)
            ·rw [if_pos c12] at H
             have c12b0 : decide (x23_2 < (l1.length : Int)) = true := decide_eq_true c12;clear c12;by_cases c13 : 1 < ((zbd l1 x23_2).length : Int)
             ·rw [if_pos c13] at H
              have c13b0 : decide (1 < ((zbd l1 x23_2).length : Int)) = true := decide_eq_true c13;have c13b1 : decide (1 < (zbd l1 x23_2).length) = true := decide_eq_true (by omega);clear c13;by_cases c14 : (rd (zbd l1 x23_2) 1) = x16_1
              ·rw [if_pos c14] at H
               have c14b0 : ((rd (zbd l1 x23_2) 1) == x16_1) = true := beq_iff_eq.mpr c14;have c14b1 : ((rd (zbd l1 x23_2) 1) != x16_1) = false := bne_eq_false_iff_eq.mpr c14;clear c14;by_cases c15 : 0 ≤ x16_1
               ·rw [if_pos c15] at H
                have c15b0 : decide (0 ≤ x16_1) = true := decide_eq_true c15;clear c15;by_cases c16 : x16_1 < (x5_2.length : Int)
                ·rw [if_pos c16] at H
                 have c16b0 : decide (x16_1 < (x5_2.length : Int)) = true := decide_eq_true c16;clear c16;by_cases c17 : 0 < ((zbd l1 x23_2).length : Int)
                 ·rw [if_pos c17] at H
                  have c17b0 : decide (0 < ((zbd l1 x23_2).length : Int)) = true := decide_eq_true c17;have c17b1 : decide (0 < (zbd l1 x23_2).length) = true := decide_eq_true (by omega);clear c17;by_cases c18 : 0 ≤ (rd (zbd l1 x23_2) 0)
                  ·rw [if_pos c18] at H
                   have c18b0 : decide (0 ≤ (rd (zbd l1 x23_2) 0)) = true := decide_eq_true c18;clear c18;by_cases c19 : (rd (zbd l1 x23_2) 0) < (x5_2.length : Int)
                   ·rw [if_pos c19] at H
                    have c19b0 : decide ((rd (zbd l1 x23_2) 0) < (x5_2.length : Int)) = true := decide_eq_true c19;clear c19;obtain ⟨ji20, hji20⟩ : ∃ j_ : Int, (mx (rd x5_2 x16_1) (rd x5_2 (rd (zbd l1 x23_2) 0))) = j_ := ⟨_, rfl⟩;replace H : (zl.l1 k2 l1 (x5_2.set (x16_1 : Int).toNat (ji20)) x6_1 x16_1 (rd l0 x16_1) l0 (l0.length : Int) x16_1 l1 (l1.length : Int) (wrap64 (x23_2 + 1))) = some r := by first | (rw [hji20] at H; exact H) | (simp only [hji20] at H ⊢; exact H)
                    have hji20_ : (if (rd x5_2 x16_1) < (rd x5_2 (rd (zbd l1 x23_2) 0)) then (rd x5_2 (rd (zbd l1 x23_2) 0)) else (rd x5_2 x16_1)) = ji20 := hji20;obtain ⟨y293, hy293⟩ : ∃ y_ : List Int, y_ = (x5_2.set (x16_1 : Int).toNat (ji20)) := ⟨_, rfl⟩;replace H : (zl.l1 k2 l1 y293 x6_1 x16_1 (rd l0 x16_1) l0 (l0.length : Int) x16_1 l1 (l1.length : Int) (wrap64 (x23_2 + 1))) = some r := by first | (rw [hy293]; with_reducible exact H) | (have H2_ := (Option.bind_some _ _).symm.trans H; rw [hy293]; with_reducible exact H2_) | (have H2_ := (Option.bind_some _ _).symm.trans H; with_reducible exact H2_) | with_reducible exact H | (rw [hy293]; exact H) | exact H
                    have Ny293 := za.mk hy293;clear hy293;have H' := za.mk H;clear H;have p288 : 0 ≤ (x23_2 : Int) := of_decide_eq_true Zas;have q288 : x23_2 < (l1.length : Int) := of_decide_eq_true Zas;obtain ⟨ad288, A288_0, c288_0, e288, hx288_0, hl288_0, hi288_0⟩ := zhg HR1.out x23_2 p288 q288
                    cases e288
                    replace hx288_0 := (HB.out.cell (World.block_lt_of_cell? w _ hx288_0)).trans hx288_0;have HR288_0 := za.mk hi288_0;have HC288_0 := za.mk hl288_0;clear hi288_0 hl288_0;replace p288 := eq_true p288;replace q288 := eq_true q288;have p289 : 0 ≤ (1 : Int) := (by omega);have q289 : 1 < ((zbd l1 x23_2).length : Int) := of_decide_eq_true Zas;obtain ⟨ad289, e289, hx289_0⟩ := Kd.zck HR288_0.out 1 p289 q289
                    cases e289
                    (try simp only [show (1 : Int).toNat = 1 from rfl, Nat.reduceMul, Nat.reduceEqDiff, Go.Addr.add, ↓reduceIte] at hx289_0);have qi289 : (1 < (zbd l1 x23_2).length) = True := eq_true (by omega);(try rw [show ((1 : Int)).toNat = 1 from rfl] at hx289_0);replace hx289_0 := (HB.out.cell (World.block_lt_of_cell? w _ hx289_0)).trans hx289_0;replace p289 := eq_true p289;replace q289 := eq_true q289
                    try go_wp2
                    have n0_ := za.mk (Kd.zce HO_5.out);have n1_ := za.mk (zcm HB.out);clear HO_5;clear HB;have HO_5 := n0_;have HB := n1_;clear n0_ n1_;obtain ⟨Ao23, co23, eo23⟩ := Kd.zb6 HO_5.out;(first | subst eo23 | (injection eo23 with f1_ f2_ f3_; have f4_ := f1_.symm; have f5_ := f3_.symm; clear f1_ f2_ f3_; subst f4_; subst f5_));have p290 : 0 ≤ (x16_1 : Int) := of_decide_eq_true Zas;have q290 : x16_1 < (x5_2.length : Int) := of_decide_eq_true Zas;obtain ⟨ad290, e290, hx290_0⟩ := Kd.zck (Kd.zo HO_5.out).2.2 x16_1 p290 q290
                    cases e290
                    replace p290 := eq_true p290;replace q290 := eq_true q290;have p291 : 0 ≤ (0 : Int) := (by omega);have q291 : 0 < ((zbd l1 x23_2).length : Int) := of_decide_eq_true Zas;obtain ⟨ad291, e291, hx291_0⟩ := Kd.zck HR288_0.out 0 p291 q291;have hw291_0 := hx291_0;(try rw [show ((0 : Int)).toNat = 0 from rfl] at hw291_0);(try rw [show 0 * 1 = 0 from rfl] at hw291_0);(try rw [Addr.add_zero'] at hw291_0);obtain rfl : ad289 = ad291 := (by injection e291);have qi291 : (0 < (zbd l1 x23_2).length) = True := eq_true (by omega);(try rw [show ((0 : Int)).toNat = 0 from rfl] at hx291_0);(try rw [Addr.add_zero'] at hx291_0);replace hx291_0 := (HB.out.cell (World.block_lt_of_cell? w _ hx291_0)).trans hx291_0;replace p291 := eq_true p291;replace q291 := eq_true q291;have p292 : 0 ≤ ((rd (zbd l1 x23_2) 0) : Int) := of_decide_eq_true Zas;have q292 : (rd (zbd l1 x23_2) 0) < (x5_2.length : Int) := of_decide_eq_true Zas;obtain ⟨ad292, e292, hx292_0⟩ := Kd.zck (Kd.zo HO_5.out).2.2 (rd (zbd l1 x23_2) 0) p292 q292;obtain rfl : ad290 = ad292 := (by injection e292);replace p292 := eq_true p292;replace q292 := eq_true q292;have p21 : 0 ≤ (x16_1 : Int) := of_decide_eq_true Zas;have q21 : (x16_1 : Int) < ((x5_2.length : Int) : Int) := of_decide_eq_true Zas;obtain ⟨go21, co21, eo21, gb21, gl21, cl21, HG21⟩ := Kd.R_form HO_5.out (by omega);(first | cases eo21 | (injection eo21 with ea_ en_ ec_; (first | subst ea_ | (injection ea_ with ea_; subst ea_)); subst ec_; clear en_));have GB21 := za.mk gb21;have GG21 := za.mk HG21;clear gb21 gl21 HG21;(first | simp only [add_plain] at hx290_0 | skip);(first | simp only [add_plain] at hx292_0 | skip);obtain ⟨hx21_0, hf21_0⟩ := Kd.zek 0 HO_5.out (x16_1 : Int) p21 q21;replace p21 := eq_true p21;replace q21 := eq_true q21;have HP24 := Kd.R_putn HO_5.out (x16_1 : Int) ji20;rw [← Ny293.out] at HP24;have HQ24 := za.mk HP24;clear HP24;refine ze1 (n := 15) (S := fun w' => w'.cell? ⟨go21, (x16_1).toNat, none⟩ = some (.int .i64 (rd x5_2 x16_1)) ∧ w'.cell? ad289 = some (.int .i64 (rd (zbd l1 x23_2) 0)) ∧ w'.cell? ⟨go21, ((rd (zbd l1 x23_2) 0)).toNat, none⟩ = some (.int .i64 (rd x5_2 (rd (zbd l1 x23_2) 0)))) (ds := [14]) #[false, false, false, false, false, false, false, false, false, false, false, false, false, false, false] (by kernel_rfl) rfl rfl ⟨hx290_0, ((HB.out.cell (World.block_lt_of_cell? w _ hw291_0)).trans hw291_0), hx292_0⟩ (fun hHeld => ?_); refine zdj zl.tab10 zl.bits10 (fun HT_ HW_ => ?_);generalize wr.drew = w22 at HO_5 HB GG21 HQ24 hf21_0 hx21_0 hx290_0 hx291_0 hx292_0 hHeld ⊢;refine z8 (i := 0) (N := some 32) (v := ?_) (a' := ?_) #[true, false, false, false, false, false, false, false, false, false, false, false, false, false, false] rfl rfl (zk HT_.out (by kernel_rfl)) (fun _ _ _ h => h) (Or.inl ⟨by rfl, ?_⟩) ?_ ?_;rotate_left
                    ·intro w'
                     go_simp;with_reducible rfl
                    rotate_left
                    ·simp only [Act.put, Zs1, Zs2, Zs3, zq, zt]
                     rfl
                    refine z8 (i := 1) (N := some 33) (v := ?_) (a' := ?_) #[true, true, false, false, false, false, false, false, false, false, false, false, false, false, false] rfl rfl (zk HT_.out (by kernel_rfl)) (fun _ _ _ h => h) (Or.inl ⟨by rfl, ?_⟩) ?_ ?_;rotate_left
                    ·intro w'
                     go_simp;with_reducible rfl
                    rotate_left
                    ·simp only [Act.put, Zs1, Zs2, Zs3, zq, zt]
                     rfl
                    refine z8 (i := 2) (N := some 34) (v := ?_) (a' := ?_) #[true, true, true, false, false, false, false, false, false, false, false, false, false, false, false] rfl rfl (zk HT_.out (by kernel_rfl)) (fun _ _ _ h => h) (Or.inl ⟨by rfl, ?_⟩) ?_ ?_;rotate_left
                    ·intro w'
                     go_simp;with_reducible rfl
                    rotate_left
                    ·simp only [Act.put, Zs1, Zs2, Zs3, zq, zt]
                     rfl
                    refine z8 (i := 3) (N := some 35) (v := ?_) (a' := ?_) #[true, true, true, true, false, false, false, false, false, false, false, false, false, false, false] rfl rfl (zk HT_.out (by kernel_rfl)) (fun _ _ _ h => h) (Or.inl ⟨by rfl, ?_⟩) ?_ ?_;rotate_left
                    ·intro w'
                     go_simp;with_reducible rfl
                    rotate_left
                    ·simp only [Act.put, Zs1, Zs2, Zs3, zq, zt]
                     rfl
                    refine z8 (i := 4) (N := some 36) (v := ?_) (a' := ?_) #[true, true, true, true, true, false, false, false, false, false, false, false, false, false, false] rfl rfl (zk HT_.out (by kernel_rfl)) (fun _ _ _ h => h) (Or.inl ⟨by rfl, ?_⟩) ?_ ?_;rotate_left
                    ·intro w'
                     go_simp;with_reducible rfl
                    rotate_left
                    ·simp only [Act.put, Zs1, Zs2, Zs3, zq, zt]
                     rfl
                    refine z8 (i := 6) (N := some 38) (v := ?_) (a' := ?_) #[true, true, true, true, true, false, true, false, false, false, false, false, false, false, false] rfl rfl (zk HT_.out (by kernel_rfl)) (fun _ _ _ h => h) (Or.inl ⟨by rfl, ?_⟩) ?_ ?_;rotate_left
                    ·intro w'
                     go_simp;with_reducible rfl
                    rotate_left
                    ·simp only [Act.put, Zs1, Zs2, Zs3, zq, zt]
                     rfl
                    refine z8 (i := 7) (N := some 39) (v := ?_) (a' := ?_) #[true, true, true, true, true, false, true, true, false, false, false, false, false, false, false] rfl rfl (zk HT_.out (by kernel_rfl)) (fun _ _ _ h => h) (Or.inl ⟨by rfl, ?_⟩) ?_ ?_;rotate_left
                    ·intro w'
                     go_simp;with_reducible rfl
                    rotate_left
                    ·simp only [Act.put, Zs1, Zs2, Zs3, zq, zt]
                     rfl
                    refine z8 (i := 8) (N := some 40) (v := ?_) (a' := ?_) #[true, true, true, true, true, false, true, true, true, false, false, false, false, false, false] rfl rfl (zk HT_.out (by kernel_rfl)) (fun _ _ _ h => h) (Or.inl ⟨by rfl, ?_⟩) ?_ ?_;rotate_left
                    ·intro w'
                     go_simp;with_reducible rfl
                    rotate_left
                    ·simp only [Act.put, Zs1, Zs2, Zs3, zq, zt]
                     rfl
                    refine zdq (i := 5) (N := some 37) (v := ?_) (a' := ?_) #[true, true, true, true, true, true, true, true, true, false, false, false, false, false, false] rfl rfl (zcn HT_.out HW_.out (by kernel_rfl)) (fun _ _ _ h => h) (Or.inl ⟨by rfl, ?_⟩) hHeld ?_ ?_;rotate_left
                    ·rintro w' ⟨s0, s1, s2⟩
                     go_simp;with_reducible rfl
                    rotate_left
                    ·simp only [Act.put, Zs1, Zs2, Zs3, zq, zt]
                     rfl
                    refine zdq (i := 9) (N := some 41) (v := ?_) (a' := ?_) #[true, true, true, true, true, true, true, true, true, true, false, false, false, false, false] rfl rfl (zcn HT_.out HW_.out (by kernel_rfl)) (fun _ _ _ h => h) (Or.inl ⟨by rfl, ?_⟩) hHeld ?_ ?_;rotate_left
                    ·rintro w' ⟨s0, s1, s2⟩
                     go_simp;with_reducible rfl
                    rotate_left
                    ·simp only [Act.put, Zs1, Zs2, Zs3, zq, zt]
                     rfl
                    refine z8 (i := 10) (N := some 42) (v := ?_) (a' := ?_) #[true, true, true, true, true, true, true, true, true, true, true, false, false, false, false] rfl rfl (zk HT_.out (by kernel_rfl)) (fun _ _ _ h => h) (Or.inl ⟨by rfl, ?_⟩) ?_ ?_;rotate_left
                    ·intro w'
                     go_simp;with_reducible rfl
                    rotate_left
                    ·simp only [Act.put, Zs1, Zs2, Zs3, zq, zt]
                     rfl
                    refine zdq (i := 11) (N := some 43) (v := ?_) (a' := ?_) #[true, true, true, true, true, true, true, true, true, true, true, true, false, false, false] rfl rfl (zcn HT_.out HW_.out (by kernel_rfl)) (fun _ _ _ h => h) (Or.inl ⟨by rfl, ?_⟩) hHeld ?_ ?_;rotate_left
                    ·rintro w' ⟨s0, s1, s2⟩
                     go_simp;with_reducible rfl
                    rotate_left
                    ·simp only [Act.put, Zs1, Zs2, Zs3, zq, zt]
                     rfl
                    refine z8 (i := 12) (N := some 44) (v := ?_) (a' := ?_) #[true, true, true, true, true, true, true, true, true, true, true, true, true, false, false] rfl rfl (zk HT_.out (by kernel_rfl)) (fun _ _ _ h => h) (Or.inl ⟨by rfl, ?_⟩) ?_ ?_;rotate_left
                    ·intro w'
                     go_simp;with_reducible rfl
                    rotate_left
                    ·simp only [Act.put, Zs1, Zs2, Zs3, zq, zt]
                     rfl
                    refine z8 (i := 13) (N := some 45) (v := ?_) (a' := ?_) #[true, true, true, true, true, true, true, true, true, true, true, true, true, true, false] rfl rfl (zk HT_.out (by kernel_rfl)) (fun _ _ _ h => h) (Or.inl ⟨by rfl, ?_⟩) ?_ ?_;rotate_left
                    ·intro w'
                     go_simp;with_reducible rfl
                    rotate_left
                    ·simp only [Act.put, Zs1, Zs2, Zs3, zq, zt]
                     rfl
                    refine last_ (i := 14) (N := none) #[true, true, true, true, true, true, true, true, true, true, true, true, true, true, true] rfl rfl (zdw HT_.out (by kernel_rfl)) (by decide) (fun K hK => ?_);refine skip_ (w1 := ?_) (by rfl) rfl ?_ ?_;rotate_left
                    ·go_simp
                     rfl
                    refine hK.out _ _ ?_;clear hK K;refine zg9 (zd8 HT_.out (by kernel_rfl)) ?_
                    try go_wp2
                    go_roundg k2
                    case measure => have := HK1.out; have := HK2.out; omega
                    case rel => exact ⟨(y293), (wrap64 (x23_2 + 1)), Zrs, H', ⟨by have := HK1.out; have := HK2.out; omega⟩, ⟨Zq7 HQ24⟩, ⟨Zq8 HB GB21⟩⟩
                   ·rw [if_neg c19] at H
                    exact absurd H (by simp)
                  ·rw [if_neg c18] at H
                   exact absurd H (by simp)
                 ·rw [if_neg c17] at H
                  exact absurd H (by simp)
                ·rw [if_neg c16] at H
                 exact absurd H (by simp)
               ·rw [if_neg c15] at H
                exact absurd H (by simp)
              ·rw [if_neg c14] at H
               have c14b0 : ((rd (zbd l1 x23_2) 1) == x16_1) = false := beq_eq_false_iff_ne.mpr c14;have c14b1 : ((rd (zbd l1 x23_2) 1) != x16_1) = true := bne_iff_ne.mpr c14;have H' := za.mk H;clear H;have p288 : 0 ≤ (x23_2 : Int) := of_decide_eq_true Zas;have q288 : x23_2 < (l1.length : Int) := of_decide_eq_true Zas;obtain ⟨ad288, A288_0, c288_0, e288, hx288_0, hl288_0, hi288_0⟩ := zhg HR1.out x23_2 p288 q288
               cases e288
               replace hx288_0 := (HB.out.cell (World.block_lt_of_cell? w _ hx288_0)).trans hx288_0;have HR288_0 := za.mk hi288_0;have HC288_0 := za.mk hl288_0;clear hi288_0 hl288_0;replace p288 := eq_true p288;replace q288 := eq_true q288;have p289 : 0 ≤ (1 : Int) := (by omega);have q289 : 1 < ((zbd l1 x23_2).length : Int) := of_decide_eq_true Zas;obtain ⟨ad289, e289, hx289_0⟩ := Kd.zck HR288_0.out 1 p289 q289
               cases e289
               (try simp only [show (1 : Int).toNat = 1 from rfl, Nat.reduceMul, Nat.reduceEqDiff, Go.Addr.add, ↓reduceIte] at hx289_0);have qi289 : (1 < (zbd l1 x23_2).length) = True := eq_true (by omega);(try rw [show ((1 : Int)).toNat = 1 from rfl] at hx289_0);replace hx289_0 := (HB.out.cell (World.block_lt_of_cell? w _ hx289_0)).trans hx289_0;replace p289 := eq_true p289;replace q289 := eq_true q289;go_wp2;go_roundg k2
               case measure => have := HK1.out; have := HK2.out; omega
               case rel => exact ⟨(x5_2), (wrap64 (x23_2 + 1)), Zrs, H', ⟨by have := HK1.out; have := HK2.out; omega⟩, ⟨Zq7 HO_5⟩, ⟨Zq2 HB⟩⟩
             ·rw [if_neg c13] at H
              exact absurd H (by simp)
            ·rw [if_neg c12] at H
             exact absurd H (by simp)
           ·rw [if_neg c11] at H
            exact absurd H (by simp)
          ·rw [if_neg c10] at H
           have c10b0 : decide (x23_2 < (l1.length : Int)) = false := decide_eq_false c10;clear c10;by_cases c25 : 0 ≤ x16_1
           ·rw [if_pos c25] at H
            have c25b0 : decide (0 ≤ x16_1) = true := decide_eq_true c25;clear c25;by_cases c26 : x16_1 < (x5_2.length : Int)
            ·rw [if_pos c26] at H
             have c26b0 : decide (x16_1 < (x5_2.length : Int)) = true := decide_eq_true c26;clear c26;obtain ⟨y295, hy295⟩ : ∃ y_ : List Int, y_ = (x5_2.set (x16_1 : Int).toNat (wrap64 ((rd x5_2 x16_1) + (rd l0 x16_1)))) := ⟨_, rfl⟩;replace H : (zl.l0 k2 l1 y295 (mx x6_1 (rd y295 x16_1)) l0 (l0.length : Int) (wrap64 (x16_1 + 1))) = some r := by first | (rw [hy295]; with_reducible exact H) | (have H2_ := (Option.bind_some _ _).symm.trans H; rw [hy295]; with_reducible exact H2_) | (have H2_ := (Option.bind_some _ _).symm.trans H; with_reducible exact H2_) | with_reducible exact H | (rw [hy295]; exact H) | exact H
             have Ny295 := za.mk hy295;clear hy295;obtain ⟨ji28, hji28⟩ : ∃ j_ : Int, (mx x6_1 (rd y295 x16_1)) = j_ := ⟨_, rfl⟩;replace H : (zl.l0 k2 l1 y295 ji28 l0 (l0.length : Int) (wrap64 (x16_1 + 1))) = some r := by first | (rw [hji28] at H; exact H) | (simp only [hji28] at H ⊢; exact H)
             have hji28_ : (if x6_1 < (rd y295 x16_1) then (rd y295 x16_1) else x6_1) = ji28 := hji28;have H' := za.mk H;clear H;obtain ⟨Ao29, co29, eo29⟩ := Kd.zb6 HO_5.out;subst eo29;have p294 : 0 ≤ (x16_1 : Int) := of_decide_eq_true Zas;have q294 : x16_1 < (x5_2.length : Int) := of_decide_eq_true Zas;obtain ⟨ad294, e294, hx294_0⟩ := Kd.zck (Kd.zo HO_5.out).2.2 x16_1 p294 q294
             cases e294
             replace p294 := eq_true p294;replace q294 := eq_true q294;have p27 : 0 ≤ (x16_1 : Int) := of_decide_eq_true Zas;have q27 : (x16_1 : Int) < ((x5_2.length : Int) : Int) := of_decide_eq_true Zas;obtain ⟨go27, co27, eo27, gb27, gl27, cl27, HG27⟩ := Kd.R_form HO_5.out (by omega);(first | cases eo27 | (injection eo27 with ea_ en_ ec_; (first | subst ea_ | (injection ea_ with ea_; subst ea_)); subst ec_; clear en_));have GB27 := za.mk gb27;have GG27 := za.mk HG27;clear gb27 gl27 HG27;(first | simp only [add_plain] at hx294_0 | skip);obtain ⟨hx27_0, hf27_0⟩ := Kd.zek 0 HO_5.out (x16_1 : Int) p27 q27;replace p27 := eq_true p27;replace q27 := eq_true q27;have HP30 := Kd.zec HO_5.out (x16_1 : Int) (wrap64 ((rd x5_2 x16_1) + (rd l0 x16_1)));go_wp2_with (first | ((with_reducible refine gate_store (t := 3) (p := 53) rfl ?_); refine zg8 (t := 3) (p := 53) (v := ?vo_w31) (w1 := (wr.setCell ⟨go27, (x16_1 : Int).toNat, none⟩ (.int .i64 (wrap64 ((rd x5_2 x16_1) + (rd l0 x16_1)))))) ?hg ?ho ?hn ?hr ?_; (case ho => rfl); (case hg => rfl); (case hn => rfl); (case hr => first | (go_simp; done) | (go_simp; rfl)); intro w31 hw; have hg : wr.grownBy w31 (some go27) := (by rw [hw]; exact HP30.2); have hp_ : Kd.R (Kd.int .i64) 3 w31 w.heap.size (fun _ => True) (.slice (some ⟨go27, 0, none⟩) x5_2.length co29) y295 := (by rw [hw, Ny295.out]; exact HP30.1); clear HP30; have n0_ := za.mk (hp_); have n1_ := za.mk ((by rw [hw]; exact zeb (HB.out) GB27.out : Below w.heap.size w w31)); clear HO_5; clear HB; have HO_5 := n0_; have HB := n1_; clear n0_ n1_; clear hg hw hp_; have p296 : 0 ≤ (x16_1 : Int) := of_decide_eq_true Zas; have q296 : x16_1 < (y295.length : Int) := (by have h_ : (x16_1 : Int) < ((x5_2.length : Int) : Int) := of_decide_eq_true Zas; first | (have e_ := (Kd.zo HO_5.out).1; omega) | simpa only [Ny295.out, List.length_set] using h_); have ql296 : ((x16_1 : Int) < ((x5_2.length : Int) : Int)) = True := eq_true (of_decide_eq_true Zas); obtain ⟨ad296, e296, hx296_0⟩ := Kd.zck (Kd.zo HO_5.out).2.2 x16_1 p296 q296; obtain rfl : (⟨go27, 0, none⟩ : Addr) = ad296 := (by injection e296); (first | simp only [add_plain] at hx296_0 | simp only [add_at] at hx296_0 | simp only [Addr.add, Nat.zero_add] at hx296_0 | skip); replace p296 := eq_true p296; replace q296 := eq_true q296));go_roundg k2
             case measure => have := HK1.out; have := HK2.out; omega
             case rel => exact ⟨(y295), (ji28), (wrap64 (x16_1 + 1)), (by first | rfl | (simp; done) | (simp only [← hji28] <;> (first | rfl | simp)) | (simp [*]; done)), Zrs, H', ⟨by have := HK1.out; have := HK2.out; omega⟩, ⟨Zq7 HO_5⟩, ⟨Zq2 HB⟩⟩
            ·rw [if_neg c26] at H
             exact absurd H (by simp)
           ·rw [if_neg c25] at H
            exact absurd H (by simp)
       ·rw [if_neg c9] at H
        exact absurd H (by simp)
      ·rw [if_neg c8] at H
       exact absurd H (by simp)
     ·rw [if_neg c7] at H
      have c7b0 : decide (x16_1 < (l0.length : Int)) = false := decide_eq_false c7;clear c7;obtain rfl := Option.some.inj H;go_wp2;go_ret;exact ⟨by first | rfl | (simp [zbn, zbo] <;> rfl) | (simp [*, zbn, zbo] <;> rfl), Zq2 HB⟩
  ·rw [if_neg c4] at H
   exact absurd H (by simp)
 ·rw [if_neg c3] at H
  exact absurd H (by simp)
def zb.j0 : Nat → List Int → List (List Int) → Int → Bool → Option (Int)
 | 0, _, _, _, _ => none
 | k + 1, x0, x1, x2, x16 => if x16 = true then (some (-1)) else ((zl.f k x0 x1).bind fun t299 => ((zb4.f k x0).bind fun t300 => (if x2 = 0 then (none) else (some (wrap64 (t299 + (wrap64 (Int.tdiv (wrap64 (t300 - t299)) x2))))))))
def zb.f (k : Nat) (l0 : List Int) (l1 : List (List Int)) (a2 : Int) : Option (Int) := (ze.f k l0 l1).bind fun t297 => (if t297 = true then ((zcb.f a2).bind fun t298 => (zb.j0 k l0 l1 a2 (!t298))) else (zb.j0 k l0 l1 a2 true))
set_option maxHeartbeats 8000000 in
theorem zb.calls (k : Nat) (A0 : Option Addr) (c0 : Nat) (l0 : List Int) (A1 : Option Addr) (c1 : Nat) (l1 : List (List Int)) (a2 : Int) (r : Int) (w : World) (hr0 : Kd.C (Kd.int .i64) w A0 l0.length l0) (hc0 : l0.length ≤ c0) (hr1 : Kd.C (Kd.slice 3 (Kd.int .i64)) w A1 l1.length l1) (hc1 : l1.length ≤ c1) (h : zb.f k l0 l1 a2 = some r) :
  Calls Try.prog 17 #[.slice A0 l0.length c0, .slice A1 l1.length c1, .int .i64 a2] w fun e w' => e = .returned (.int .i64 r) ∧ Below w.heap.size w w' := by
 have HR0 := za.mk hr0
 have HC0 := za.mk hc0
 clear hr0 hc0
 have HR1 := za.mk hr1
 have HC1 := za.mk hc1
 clear hr1 hc1
 have HB := za.mk (Below.refl w.heap.size w)
 have H : ((ze.f k l0 l1).bind fun t297 => (if t297 = true then ((zcb.f a2).bind fun t298 => (zb.j0 k l0 l1 a2 (!t298))) else (zb.j0 k l0 l1 a2 true))) = some r := h
 clear h
 have HC4 := za.mk H
 clear H
 go_enter Try.func17, Try.ntmps17
 go_upto_region 1 with (fail)
 go_cut [16] (fun v16 wc => ∃ (kq : Nat) (x16_3 : Bool), v16 = .bool x16_3 ∧ za (zb.j0 kq l0 l1 a2 x16_3 = some r) ∧ za (kq ≤ k) ∧ za (Below w.heap.size w wc))
 case first =>
  have H := HC4.out;clear HC4;replace H := Option.bind_eq_some_iff.mp H;obtain ⟨t297, A50, H⟩ := H;replace H : (if t297 = true then ((zcb.f a2).bind fun t298 => (zb.j0 k l0 l1 a2 (!t298))) else (zb.j0 k l0 l1 a2 true)) = some r := H;have A5 := za.mk A50;clear A50;by_cases c6 : t297 = true
  ·subst c6
   have H1 : ((zcb.f a2).bind fun t298 => (zb.j0 k l0 l1 a2 (!t298))) = some r := by rw [if_pos rfl] at H; exact H
   clear H;have H := H1;clear H1;replace H := Option.bind_eq_some_iff.mp H;obtain ⟨t298, A70, H⟩ := H;replace H : (zb.j0 k l0 l1 a2 (!t298)) = some r := H;have A7 := za.mk A70;clear A70;have H' := za.mk H;clear H;go_wp2_with (first | ((with_reducible refine zbw (f := 30) rfl ?_); refine zc0 (some 10) rfl rfl Try.func30 (by kernel_rfl) rfl #[.slice A0 l0.length c0, .slice A1 l1.length c1] rfl Zmt ?_; (with_reducible refine (ze.calls k _ _ l0 _ _ l1 true _ ?side1 ?side2 ?side3 ?side4 A5.out).mono ?_); (case side1 => exact Zq4 (Kd.zcl HR0.out HB.out)); (case side2 => exact HC0.out); (case side3 => exact Zq4 (Kd.zcl HR1.out HB.out)); (case side4 => exact HC1.out); rintro e w8 ⟨rfl, hb⟩; refine ⟨_, rfl, ?_⟩; have n0_ := za.mk (zf (Zq2 HB) hb); clear HB; have HB := n0_; clear n0_; (try clear hb); (try clear hb2); (try clear hk); (try clear hi)) | (go_at_call 31; (with_reducible refine (zcb.calls a2 t298 _ A7.out).mono ?_); rintro e w' ⟨rfl, ⟨nd, rfl⟩⟩));go_meet
   case rel => exact ⟨_, (!t298), Zrs, H', ⟨by first | omega | exact Nat.le_refl _⟩, ⟨Zq2 HB⟩⟩
  ·replace c6 := Bool.eq_false_iff.mpr c6
   subst c6;have H1 : (zb.j0 k l0 l1 a2 true) = some r := by rw [if_neg (show ¬ (false = true) by decide)] at H; exact H
   clear H;have H := H1;clear H1;have H' := za.mk H;clear H;go_wp2_with (first | ((with_reducible refine zbw (f := 30) rfl ?_); refine zc0 (some 10) rfl rfl Try.func30 (by kernel_rfl) rfl #[.slice A0 l0.length c0, .slice A1 l1.length c1] rfl Zmt ?_; (with_reducible refine (ze.calls k _ _ l0 _ _ l1 false _ ?side1 ?side2 ?side3 ?side4 A5.out).mono ?_); (case side1 => exact Zq4 (Kd.zcl HR0.out HB.out)); (case side2 => exact HC0.out); (case side3 => exact Zq4 (Kd.zcl HR1.out HB.out)); (case side4 => exact HC1.out); rintro e w9 ⟨rfl, hb⟩; refine ⟨_, rfl, ?_⟩; have n0_ := za.mk (zf (Zq2 HB) hb); clear HB; have HB := n0_; clear n0_; (try clear hb); (try clear hb2); (try clear hk); (try clear hi)));go_meet
   case rel => exact ⟨_, (true), Zrs, H', ⟨by first | omega | exact Nat.le_refl _⟩, ⟨Zq2 HB⟩⟩
 case rest =>
  clear HC4
  (try clear c1);(try clear p2);(try clear c3);(try clear c6)
  obtain ⟨kq, x16_3, rfl, HA, HJ3, HB⟩ := hcut
  cases kq with
  | zero => exact absurd HA.out (by simp [zb.j0])
  | succ kj3 =>
   have H := HA.out;clear HA;simp only [zb.j0] at H;by_cases c10 : x16_3 = true
   ·subst c10
    have H1 : (some (-1)) = some r := by rw [if_pos rfl] at H; exact H
    clear H;have H := H1;clear H1;obtain rfl := Option.some.inj H;go_wp2;go_ret;exact ⟨by first | rfl | (simp [zbn, zbo] <;> rfl) | (simp [*, zbn, zbo] <;> rfl), Zq2 HB⟩
   ·replace c10 := Bool.eq_false_iff.mpr c10
    subst c10;have H1 : ((zl.f kj3 l0 l1).bind fun t299 => ((zb4.f kj3 l0).bind fun t300 => (if a2 = 0 then (none) else (some (wrap64 (t299 + (wrap64 (Int.tdiv (wrap64 (t300 - t299)) a2)))))))) = some r := by rw [if_neg (show ¬ (false = true) by decide)] at H; exact H
    clear H;have H := H1;clear H1;replace H := Option.bind_eq_some_iff.mp H;obtain ⟨t299, A110, H⟩ := H;replace H : ((zb4.f kj3 l0).bind fun t300 => (if a2 = 0 then (none) else (some (wrap64 (t299 + (wrap64 (Int.tdiv (wrap64 (t300 - t299)) a2))))))) = some r := H;have A11 := za.mk A110;clear A110;replace H := Option.bind_eq_some_iff.mp H;obtain ⟨t300, A120, H⟩ := H;replace H : (if a2 = 0 then (none) else (some (wrap64 (t299 + (wrap64 (Int.tdiv (wrap64 (t300 - t299)) a2)))))) = some r := H;have A12 := za.mk A120;clear A120;by_cases c13 : a2 = 0
    ·rw [if_pos c13] at H
     exact absurd H (by simp)
    ·rw [if_neg c13] at H
     have c13b0 : (a2 == 0) = false := beq_eq_false_iff_ne.mpr c13;have c13b1 : (a2 != 0) = true := bne_iff_ne.mpr c13;obtain rfl := Option.some.inj H;go_wp2_with (first | ((with_reducible refine zbw (f := 46) rfl ?_); refine zc0 (some 19) rfl rfl Try.func46 (by kernel_rfl) rfl #[.slice A0 l0.length c0, .slice A1 l1.length c1] rfl Zmt ?_; (with_reducible refine (zl.calls kj3 _ _ l0 _ _ l1 t299 _ ?side1 ?side2 ?side3 ?side4 A11.out).mono ?_); (case side1 => exact Zq4 (Kd.zcl HR0.out HB.out)); (case side2 => exact HC0.out); (case side3 => exact Zq4 (Kd.zcl HR1.out HB.out)); (case side4 => exact HC1.out); rintro e w14 ⟨rfl, hb⟩; refine ⟨_, rfl, ?_⟩; have n0_ := za.mk (zf (Zq2 HB) hb); clear HB; have HB := n0_; clear n0_; (try clear hb); (try clear hb2); (try clear hk); (try clear hi)) | ((with_reducible refine zbw (f := 42) rfl ?_); refine zc0 (some 22) rfl rfl Try.func42 (by kernel_rfl) rfl #[.slice A0 l0.length c0] rfl Zmt ?_; (with_reducible refine (zb4.calls kj3 _ _ l0 t300 _ ?side1 ?side2 A12.out).mono ?_); (case side1 => exact Zq4 (Kd.zcl HR0.out HB.out)); (case side2 => exact HC0.out); rintro e w' ⟨rfl, ⟨nd, rfl⟩⟩; refine ⟨_, rfl, ?_⟩));go_ret;exact ⟨by first | rfl | (simp [zbn, zbo] <;> rfl) | (simp [*, zbn, zbo] <;> rfl), Zq2 HB⟩
def zbj.f (k : Nat) (l0 : List Int) (l1 : List (List Int)) : Option (Int) := (ze.f k l0 l1).bind fun t324 => (if t324 = true then ((zl.f k l0 l1).bind fun t325 => (some t325)) else (some (-1)))
set_option maxHeartbeats 8000000 in
theorem zbj.calls (k : Nat) (A0 : Option Addr) (c0 : Nat) (l0 : List Int) (A1 : Option Addr) (c1 : Nat) (l1 : List (List Int)) (r : Int) (w : World) (hr0 : Kd.C (Kd.int .i64) w A0 l0.length l0) (hc0 : l0.length ≤ c0) (hr1 : Kd.C (Kd.slice 3 (Kd.int .i64)) w A1 l1.length l1) (hc1 : l1.length ≤ c1) (h : zbj.f k l0 l1 = some r) :
  Calls Try.prog 19 #[.slice A0 l0.length c0, .slice A1 l1.length c1] w fun e w' => e = .returned (.int .i64 r) ∧ Below w.heap.size w w' := by
 have HR0 := za.mk hr0
 have HC0 := za.mk hc0
 clear hr0 hc0
 have HR1 := za.mk hr1
 have HC1 := za.mk hc1
 clear hr1 hc1
 have HB := za.mk (Below.refl w.heap.size w)
 have H : ((ze.f k l0 l1).bind fun t324 => (if t324 = true then ((zl.f k l0 l1).bind fun t325 => (some t325)) else (some (-1)))) = some r := h
 clear h
 replace H := Option.bind_eq_some_iff.mp H
 obtain ⟨t324, A30, H⟩ := H
 replace H : (if t324 = true then ((zl.f k l0 l1).bind fun t325 => (some t325)) else (some (-1))) = some r := H
 have A3 := za.mk A30
 clear A30
 by_cases c4 : t324 = true
 ·subst c4
  have H1 : ((zl.f k l0 l1).bind fun t325 => (some t325)) = some r := by rw [if_pos rfl] at H; exact H
  clear H;have H := H1;clear H1;replace H := Option.bind_eq_some_iff.mp H;obtain ⟨t325, A50, H⟩ := H;replace H : (some t325) = some r := H;have A5 := za.mk A50;clear A50;obtain rfl := Option.some.inj H;go_enter Try.func19, Try.ntmps19;go_wp2_with (first | ((with_reducible refine zbw (f := 30) rfl ?_); refine zc0 (some 7) rfl rfl Try.func30 (by kernel_rfl) rfl #[.slice A0 l0.length c0, .slice A1 l1.length c1] rfl Zmt ?_; (with_reducible refine (ze.calls k _ _ l0 _ _ l1 true _ ?side1 ?side2 ?side3 ?side4 A3.out).mono ?_); (case side1 => exact Zq6 HR0); (case side2 => exact HC0.out); (case side3 => exact Zq6 HR1); (case side4 => exact HC1.out); rintro e w6 ⟨rfl, hb⟩; refine ⟨_, rfl, ?_⟩; have n0_ := za.mk (zf (Zq2 HB) hb); clear HB; have HB := n0_; clear n0_; (try clear hb); (try clear hb2); (try clear hk); (try clear hi)) | ((with_reducible refine zbw (f := 46) rfl ?_); refine zc0 (some 11) rfl rfl Try.func46 (by kernel_rfl) rfl #[.slice A0 l0.length c0, .slice A1 l1.length c1] rfl Zmt ?_; (with_reducible refine (zl.calls k _ _ l0 _ _ l1 t325 _ ?side1 ?side2 ?side3 ?side4 A5.out).mono ?_); (case side1 => exact Zq4 (Kd.zcl HR0.out HB.out)); (case side2 => exact HC0.out); (case side3 => exact Zq4 (Kd.zcl HR1.out HB.out)); (case side4 => exact HC1.out); rintro e w7 ⟨rfl, hb⟩; refine ⟨_, rfl, ?_⟩; have n0_ := za.mk (zf (Zq2 HB) hb); clear HB; have HB := n0_; clear n0_; (try clear hb); (try clear hb2); (try clear hk); (try clear hi)));go_ret;exact ⟨by first | rfl | (simp [zbn, zbo] <;> rfl) | (simp [*, zbn, zbo] <;> rfl), Zq2 HB⟩
 ·replace c4 := Bool.eq_false_iff.mpr c4
  subst c4;have H1 : (some (-1)) = some r := by rw [if_neg (show ¬ (false = true) by decide)] at H; exact H
  clear H;have H := H1;clear H1;obtain rfl := Option.some.inj H;go_enter Try.func19, Try.ntmps19;go_wp2_with (first | ((with_reducible refine zbw (f := 30) rfl ?_); refine zc0 (some 7) rfl rfl Try.func30 (by kernel_rfl) rfl #[.slice A0 l0.length c0, .slice A1 l1.length c1] rfl Zmt ?_; (with_reducible refine (ze.calls k _ _ l0 _ _ l1 false _ ?side1 ?side2 ?side3 ?side4 A3.out).mono ?_); (case side1 => exact Zq6 HR0); (case side2 => exact HC0.out); (case side3 => exact Zq6 HR1); (case side4 => exact HC1.out); rintro e w8 ⟨rfl, hb⟩; refine ⟨_, rfl, ?_⟩; have n0_ := za.mk (zf (Zq2 HB) hb); clear HB; have HB := n0_; clear n0_; (try clear hb); (try clear hb2); (try clear hk); (try clear hi)));go_ret;exact ⟨by first | rfl | (simp [zbn, zbo] <;> rfl) | (simp [*, zbn, zbo] <;> rfl), Zq2 HB⟩
end Go.Proofs.Ytebgfobjhlcopaa.P
