/- The law FnExactRunFair for every input, part 4 of its proof: what the program's functions answer, and the plain law. No condition. -/
import Derived.Test.YtnilnaabjpcfjaaMFnExactRunFair1
import Derived.Test.YtnilnaabjpcfjaaMFnExactRunFair2
import Derived.Test.YtnilnaabjpcfjaaMFnExactRunFair3
set_option maxRecDepth 100000
namespace Go.Proofs.Ytnilnaabjpcfjaa.P
open Go.RowKit Go.Proofs.YtnilnaabjpcfjaaW.PrintWords Go.Proofs.YtnilnaabjpcfjaaW.PrintLast Go.Proofs.YtnilnaabjpcfjaaW.PrintMore
attribute [local go_sem] ze2 ze3 zf3 zf4 zej zek ze4 ze5
set_option linter.unusedVariables false
set_option linter.unusedSimpArgs false
theorem Zq10 {X0 P : Prop} (x0 : za X0) (h : X0 → P := by intro x0; (with_reducible repeat (first | apply Kd.zd6 | apply Kd.zef | apply Kd.zdd)); exact x0) : P := h x0.out
mutual
def zw.l0 : Nat → List (S35) → List Int → Int → Int → List Int → Option (List Int)
 | 0, _, _, _, _, _ => none
 | k + 1, x0, x1, x2, x3, x9 => if (x9.length : Int) < x3 then (zw.l1 k x0 x1 x2 x3 x9 (-1) 0) else (some x9)
def zw.l1 : Nat → List (S35) → List Int → Int → Int → List Int → Int → Int → Option (List Int)
 | 0, _, _, _, _, _, _, _ => none
 | k + 1, x0, x1, x2, x3, x9, x10, x11 => if x11 < (x0.length : Int) then (if 0 ≤ x11 then (if x11 < (x1.length : Int) then ((zy.f ((zb x0 x11).f0) ((zb x0 x11).f1) ((zb x0 x11).f2) (rd x1 x11)).bind fun bt314 => (if bt314.1 ≤ x2 then ((zb4.f k x9 x11).bind fun t316 => (if t316 < 0 then (if x10 < 0 then (zw.l1 k x0 x1 x2 x3 x9 x11 (wrap64 (x11 + 1))) else ((zi.f k x0 x1 x11 x10).bind fun t317 => (if t317 = true then (zw.l1 k x0 x1 x2 x3 x9 x11 (wrap64 (x11 + 1))) else (zw.l1 k x0 x1 x2 x3 x9 x10 (wrap64 (x11 + 1)))))) else (zw.l1 k x0 x1 x2 x3 x9 x10 (wrap64 (x11 + 1))))) else (zw.l1 k x0 x1 x2 x3 x9 x10 (wrap64 (x11 + 1))))) else (none)) else (none)) else (if x10 < 0 then (some x9) else (if x9.length < 17592186044416 then (zw.l0 k x0 x1 x2 x3 (x9 ++ [x10])) else (none)))
end
def zw.f (k : Nat) (l0 : List (S35)) (l1 : List Int) (a2 : Int) (a3 : Int) : Option (List Int) := zw.l0 k l0 l1 a2 a3 (([] : List Int))
def zw.T7 : Bool × List (List Nat × List Nat) := (true, [([], []), ([], []), ([0, 1], [0, 1]), ([2], [2]), ([], []), ([], []), ([4, 5], [4, 5]), ([6], [6]), ([3, 7], [3, 7]), ([8], [8]), ([], []), ([9, 10], [9, 10]), ([11, 8], [11]), ([12], [12]), ([12], [12]), ([13, 14, 12, 12], [12, 13, 14]), ([15, 12], [12, 15]), ([12, 16], [12, 16]), ([17, 15], [17]), ([18], [18]), ([19, 18], [18, 19]), ([20, 18, 18], [18, 20]), ([21], [21]), ([21], [21]), ([21], [21]), ([21], [21]), ([22, 23, 24, 25, 21, 21], [21, 22, 23, 24, 25]), ([21, 26, 18], [18, 21, 26]), ([18, 27], [18, 27])])
def zw.B7 : List Nat := [0, 0, 3, 7, 0, 0, 48, 112, 255, 511, 0, 2047, 4095, 8191, 8191, 32767, 65535, 131071, 262143, 524287, 1048575, 2097151, 4194303, 4194303, 4194303, 4194303, 67108863, 134217727, 268435455]
theorem zw.tab7 : rtab .any (opsOf Try.f38 7) = zw.T7 := by kernel_rfl
theorem zw.zhw : zci zw.T7.2 zw.B7 = true := by kernel_rfl
set_option maxHeartbeats 8000000 in
theorem zw.calls (k : Nat) (A0 : Option Addr) (c0 : Nat) (l0 : List (S35)) (A1 : Option Addr) (c1 : Nat) (l1 : List Int) (a2 : Int) (a3 : Int) (r : List Int) (w : World) (hr0 : Kd.C k35 w A0 l0.length l0) (hc0 : l0.length ≤ c0) (hr1 : Kd.C (Kd.int .i64) w A1 l1.length l1) (hc1 : l1.length ≤ c1) (h : zw.f k l0 l1 a2 a3 = some r) :
  Calls Try.prog 38 #[.slice A0 l0.length c0, .slice A1 l1.length c1, .int .i64 a2, .int .i64 a3] w fun e w' => ∃ v0_ : Value, e = .returned (v0_) ∧ Kd.R (Kd.int .i64) 3 w' w.heap.size (fun _ => True) v0_ r ∧ Below w.heap.size w w' := by
 have hfld39_0 : ∀ (v0_ v1_ : Value) (W : World), (Instr.field 39 (.agg #[v0_, v1_]) 0).run Try.prog W = .ok v0_ W := fun _ _ _ => rfl
 have hfld39_1 : ∀ (v0_ v1_ : Value) (W : World), (Instr.field 39 (.agg #[v0_, v1_]) 1).run Try.prog W = .ok v1_ W := fun _ _ _ => rfl
 have hu35 := Try.underlying35
 have HR0 := za.mk hr0
 have HC0 := za.mk hc0
 clear hr0 hc0
 have HR1 := za.mk hr1
 have HC1 := za.mk hc1
 clear hr1 hc1
 have HB := za.mk (Below.refl w.heap.size w)
 have H : (zw.l0 k l0 l1 a2 a3 (([] : List Int))) = some r := h
 clear h
 obtain ⟨y306, hy306⟩ : ∃ y_ : List Int, y_ = (([] : List Int)) := ⟨_, rfl⟩
 replace H : (zw.l0 k l0 l1 a2 a3 y306) = some r := by first | (rw [hy306]; with_reducible exact H) | (have H2_ := (Option.bind_some _ _).symm.trans H; rw [hy306]; with_reducible exact H2_) | (have H2_ := (Option.bind_some _ _).symm.trans H; with_reducible exact H2_) | with_reducible exact H | (rw [hy306]; exact H) | exact H
 have Ny306 := za.mk hy306
 clear hy306
 have H' := za.mk H
 clear H
 go_enter Try.func38, Try.ntmps38
 go_wp2_with (first | ((with_reducible refine zbw (N := 12) rfl ?_); refine Kd.R_lit (Kd.int .i64) _ 3 ?hg (N := 12) ?hd (xs := ([] : List Int)) (inner := []) (ok := fun _ => True) (okp := fun _ => True) ?hr ?hp (fun _ hk => hk) trivial (Below.refl _ _) (Nat.le_refl _) (by simp) ?_; (case hd => rfl); (case hg => rfl); (case hr => first | (go_simp; done) | (go_simp; rfl)); (case hp => exact (Reps.none _ _)); intro v307 w5 ho6 hb hg_ hnew_; clear hg_ hnew_; (first | rw [← Ny306.out] at ho6 | (simp only [Int.reduceToNat] at ho6; rw [← Ny306.out] at ho6)); have n0_ := za.mk (Kd.zcr ho6 (zu (Zq0 HB))); have n1_ := za.mk (zk (Zq0 HB) hb); clear HB; have HO308 := n0_; have HB := n1_; clear n0_ n1_; clear hb ho6))
 go_loopg [9] k (fun kq v9 w' => ∃ (x9_1 : List Int), za (zw.l0 kq l0 l1 a2 a3 x9_1 = some r) ∧ za (kq ≤ k) ∧ za (Kd.R (Kd.int .i64) 3 w' w.heap.size (fun _ => True) v9 x9_1) ∧ za (Below w.heap.size w w'))
 case atStart => exact ⟨(y306), H', ⟨Nat.le_refl _⟩, ⟨Zq10 HO308⟩, ⟨Zq0 HB⟩⟩
 case round =>
  clear H'
  (try clear c1);(try clear p2);(try clear c3)
  obtain ⟨x9_1, HA, HK1, HO_9, HB⟩ := hrel
  cases gk with
  | zero => exact absurd HA.out (by simp [zw.l0])
  | succ k1 =>
   have H := HA.out;clear HA;simp only [zw.l0] at H;by_cases c7 : (x9_1.length : Int) < a3
   ·rw [if_pos c7] at H
    have c7b0 : decide ((x9_1.length : Int) < a3) = true := decide_eq_true c7;clear c7;have H' := za.mk H;clear H;obtain ⟨Ao8, co8, eo8⟩ := Kd.zch HO_9.out;subst eo8;go_wp2
    go_loopg [10, 11] k1 (fun kq v10 v11 w' => ∃ (x10_2 : Int) (x11_2 : Int), v10 = .int .i64 x10_2 ∧ v11 = .int .i64 x11_2 ∧ za (zw.l1 kq l0 l1 a2 a3 x9_1 x10_2 x11_2 = some r) ∧ za (kq ≤ k1) ∧ za (Kd.R (Kd.int .i64) 3 w' w.heap.size (fun _ => True) (.slice Ao8 x9_1.length co8) x9_1) ∧ za (Below w.heap.size w w'))
    case atStart => exact ⟨((-1)), (0), Zrs, Zrs, H', ⟨Nat.le_refl _⟩, ⟨Zq10 HO_9⟩, ⟨Zq0 HB⟩⟩
    case round =>
     clear H'
     (try clear c1);(try clear p2);(try clear c3);(try clear c7);(try clear c7b0);(try clear p2)
     obtain ⟨x10_2, x11_2, rfl, rfl, HA, HK2, HO_9, HB⟩ := hrel
     cases gk with
     | zero => exact absurd HA.out (by simp [zw.l1])
     | succ k2 =>
      have H := HA.out;clear HA;simp only [zw.l1] at H;by_cases c9 : x11_2 < (l0.length : Int)
      ·rw [if_pos c9] at H
       have c9b0 : decide (x11_2 < (l0.length : Int)) = true := decide_eq_true c9;clear c9;by_cases c10 : 0 ≤ x11_2
       ·rw [if_pos c10] at H
        have c10b0 : decide (0 ≤ x11_2) = true := decide_eq_true c10;clear c10;by_cases c11 : x11_2 < (l1.length : Int)
        ·rw [if_pos c11] at H
         have c11b0 : decide (x11_2 < (l1.length : Int)) = true := decide_eq_true c11;clear c11;replace H := Option.bind_eq_some_iff.mp H;obtain ⟨⟨t314, t315⟩, A120, H⟩ := H;replace H : (if t314 ≤ a2 then ((zb4.f k2 x9_1 x11_2).bind fun t316 => (if t316 < 0 then (if x10_2 < 0 then (zw.l1 k2 l0 l1 a2 a3 x9_1 x11_2 (wrap64 (x11_2 + 1))) else ((zi.f k2 l0 l1 x11_2 x10_2).bind fun t317 => (if t317 = true then (zw.l1 k2 l0 l1 a2 a3 x9_1 x11_2 (wrap64 (x11_2 + 1))) else (zw.l1 k2 l0 l1 a2 a3 x9_1 x10_2 (wrap64 (x11_2 + 1)))))) else (zw.l1 k2 l0 l1 a2 a3 x9_1 x10_2 (wrap64 (x11_2 + 1))))) else (zw.l1 k2 l0 l1 a2 a3 x9_1 x10_2 (wrap64 (x11_2 + 1)))) = some r := H;have A12 := za.mk A120;clear A120;by_cases c13 : t314 ≤ a2
         ·rw [if_pos c13] at H
          have c13b0 : decide (t314 ≤ a2) = true := decide_eq_true c13;clear c13;replace H := Option.bind_eq_some_iff.mp H;obtain ⟨t316, A140, H⟩ := H;replace H : (if t316 < 0 then (if x10_2 < 0 then (zw.l1 k2 l0 l1 a2 a3 x9_1 x11_2 (wrap64 (x11_2 + 1))) else ((zi.f k2 l0 l1 x11_2 x10_2).bind fun t317 => (if t317 = true then (zw.l1 k2 l0 l1 a2 a3 x9_1 x11_2 (wrap64 (x11_2 + 1))) else (zw.l1 k2 l0 l1 a2 a3 x9_1 x10_2 (wrap64 (x11_2 + 1)))))) else (zw.l1 k2 l0 l1 a2 a3 x9_1 x10_2 (wrap64 (x11_2 + 1)))) = some r := H;have A14 := za.mk A140;clear A140;by_cases c15 : t316 < 0
          ·rw [if_pos c15] at H
           have c15b0 : decide (t316 < 0) = true := decide_eq_true c15;clear c15;by_cases c16 : x10_2 < 0
           ·rw [if_pos c16] at H
            have c16b0 : decide (x10_2 < 0) = true := decide_eq_true c16;clear c16;have H' := za.mk H;clear H
            try go_wp2
            have n0_ := za.mk (Kd.zdd HO_9.out);have n1_ := za.mk (zbe HB.out);clear HO_9;clear HB;have HO_9 := n0_;have HB := n1_;clear n0_ n1_;have p312 : 0 ≤ (x11_2 : Int) := of_decide_eq_true Zas;have q312 : x11_2 < (l0.length : Int) := of_decide_eq_true Zas;obtain ⟨ad312, e312, hx312_0, hx312_1, hx312_2⟩ := zcc HR0.out x11_2 p312 q312;have hw312_2 := hx312_2;have hw312_1 := hx312_1;have hw312_0 := hx312_0
            cases e312
            replace hx312_0 := (HB.out.cell (World.block_lt_of_cell? w _ hx312_0)).trans hx312_0;replace hx312_1 := (HB.out.cell (World.block_lt_of_cell? w _ hx312_1)).trans hx312_1;replace hx312_2 := (HB.out.cell (World.block_lt_of_cell? w _ hx312_2)).trans hx312_2;replace p312 := eq_true p312;replace q312 := eq_true q312;have p313 : 0 ≤ (x11_2 : Int) := of_decide_eq_true Zas;have q313 : x11_2 < (l1.length : Int) := of_decide_eq_true Zas;obtain ⟨ad313, e313, hx313_0⟩ := Kd.zcb HR1.out x11_2 p313 q313;have hw313_0 := hx313_0
            cases e313
            replace hx313_0 := (HB.out.cell (World.block_lt_of_cell? w _ hx313_0)).trans hx313_0;replace p313 := eq_true p313;replace q313 := eq_true q313;refine zca (n := 29) (S := fun w' => w'.cell? (ad312.add ((x11_2).toNat * 3)) = some (.int .i64 ((zb l0 x11_2).f0)) ∧ w'.cell? ⟨(ad312.add ((x11_2).toNat * 3)).block, (ad312.add ((x11_2).toNat * 3)).off + 1, none⟩ = some (.int .i64 ((zb l0 x11_2).f1)) ∧ w'.cell? ⟨(ad312.add ((x11_2).toNat * 3)).block, (ad312.add ((x11_2).toNat * 3)).off + 2, none⟩ = some (.int .i64 ((zb l0 x11_2).f2)) ∧ w'.cell? (ad313.add (x11_2).toNat) = some (.int .i64 (rd l1 x11_2))) (ds := []) #[false, false, false, false, false, false, false, false, false, false, false, false, false, false, false, false, false, false, false, false, false, false, false, false, false, false, false, false, false] (by kernel_rfl) rfl rfl ⟨((HB.out.cell (World.block_lt_of_cell? w _ hw312_0)).trans hw312_0), ((HB.out.cell (World.block_lt_of_cell? w _ hw312_1)).trans hw312_1), ((HB.out.cell (World.block_lt_of_cell? w _ hw312_2)).trans hw312_2), ((HB.out.cell (World.block_lt_of_cell? w _ hw313_0)).trans hw313_0)⟩ (fun hHeld => ?_); refine zbu zw.tab7 zw.zhw (fun HT_ HW_ => ?_);generalize wr.drew = w17 at HO_9 HB hx312_0 hx312_1 hx312_2 hx313_0 hHeld ⊢;refine zl (i := 0) (N := some 23) (v := ?_) (a' := ?_) #[true, false, false, false, false, false, false, false, false, false, false, false, false, false, false, false, false, false, false, false, false, false, false, false, false, false, false, false, false] rfl rfl (ze HT_.out (by kernel_rfl)) (fun _ _ _ h => h) (Or.inl ⟨by rfl, ?_⟩) ?_ ?_;rotate_left
            ·intro w'
             go_simp;with_reducible rfl
            rotate_left
            ·simp only [Act.put, Zs1, Zs2, Zs3, zg, zh]
             rfl
            refine zl (i := 1) (N := some 24) (v := ?_) (a' := ?_) #[true, true, false, false, false, false, false, false, false, false, false, false, false, false, false, false, false, false, false, false, false, false, false, false, false, false, false, false, false] rfl rfl (ze HT_.out (by kernel_rfl)) (fun _ _ _ h => h) (Or.inl ⟨by rfl, ?_⟩) ?_ ?_;rotate_left
            ·intro w'
             go_simp;with_reducible rfl
            rotate_left
            ·simp only [Act.put, Zs1, Zs2, Zs3, zg, zh]
             rfl
            refine zl (i := 2) (N := some 25) (v := ?_) (a' := ?_) #[true, true, true, false, false, false, false, false, false, false, false, false, false, false, false, false, false, false, false, false, false, false, false, false, false, false, false, false, false] rfl rfl (ze HT_.out (by kernel_rfl)) (fun _ _ _ h => h) (Or.inl ⟨by rfl, ?_⟩) ?_ ?_;rotate_left
            ·intro w'
             go_simp;with_reducible rfl
            rotate_left
            ·simp only [Act.put, Zs1, Zs2, Zs3, zg, zh]
             rfl
            refine zl (i := 4) (N := some 27) (v := ?_) (a' := ?_) #[true, true, true, false, true, false, false, false, false, false, false, false, false, false, false, false, false, false, false, false, false, false, false, false, false, false, false, false, false] rfl rfl (ze HT_.out (by kernel_rfl)) (fun _ _ _ h => h) (Or.inl ⟨by rfl, ?_⟩) ?_ ?_;rotate_left
            ·intro w'
             go_simp;with_reducible rfl
            rotate_left
            ·simp only [Act.put, Zs1, Zs2, Zs3, zg, zh]
             rfl
            refine zl (i := 5) (N := some 28) (v := ?_) (a' := ?_) #[true, true, true, false, true, true, false, false, false, false, false, false, false, false, false, false, false, false, false, false, false, false, false, false, false, false, false, false, false] rfl rfl (ze HT_.out (by kernel_rfl)) (fun _ _ _ h => h) (Or.inl ⟨by rfl, ?_⟩) ?_ ?_;rotate_left
            ·intro w'
             go_simp;with_reducible rfl
            rotate_left
            ·simp only [Act.put, Zs1, Zs2, Zs3, zg, zh]
             rfl
            refine zl (i := 6) (N := some 29) (v := ?_) (a' := ?_) #[true, true, true, false, true, true, true, false, false, false, false, false, false, false, false, false, false, false, false, false, false, false, false, false, false, false, false, false, false] rfl rfl (ze HT_.out (by kernel_rfl)) (fun _ _ _ h => h) (Or.inl ⟨by rfl, ?_⟩) ?_ ?_;rotate_left
            ·intro w'
             go_simp;with_reducible rfl
            rotate_left
            ·simp only [Act.put, Zs1, Zs2, Zs3, zg, zh]
             rfl
            refine zl (i := 10) (N := some 33) (v := ?_) (a' := ?_) #[true, true, true, false, true, true, true, false, false, false, true, false, false, false, false, false, false, false, false, false, false, false, false, false, false, false, false, false, false] rfl rfl (ze HT_.out (by kernel_rfl)) (fun _ _ _ h => h) (Or.inl ⟨by rfl, ?_⟩) ?_ ?_;rotate_left
            ·intro w'
             go_simp;with_reducible rfl
            rotate_left
            ·simp only [Act.put, Zs1, Zs2, Zs3, zg, zh]
             rfl
            refine zby (i := 3) (N := some 26) (v := ?_) (a' := ?_) #[true, true, true, true, true, true, true, false, false, false, true, false, false, false, false, false, false, false, false, false, false, false, false, false, false, false, false, false, false] rfl rfl (z8 HT_.out HW_.out (by kernel_rfl)) (fun _ _ _ h => h) (Or.inl ⟨by rfl, ?_⟩) hHeld ?_ ?_;rotate_left
            ·rintro w' ⟨s0, s1, s2, s3⟩
             go_simp;with_reducible rfl
            rotate_left
            ·simp only [Act.put, Zs1, Zs2, Zs3, zg, zh]
             rfl
            refine zby (i := 7) (N := some 30) (v := ?_) (a' := ?_) #[true, true, true, true, true, true, true, true, false, false, true, false, false, false, false, false, false, false, false, false, false, false, false, false, false, false, false, false, false] rfl rfl (z8 HT_.out HW_.out (by kernel_rfl)) (fun _ _ _ h => h) (Or.inl ⟨by rfl, ?_⟩) hHeld ?_ ?_;rotate_left
            ·rintro w' ⟨s0, s1, s2, s3⟩
             go_simp;with_reducible rfl
            rotate_left
            ·simp only [Act.put, Zs1, Zs2, Zs3, zg, zh]
             rfl
            refine one_ (i := 8) (N := some 31) #[true, true, true, true, true, true, true, true, true, false, true, false, false, false, false, false, false, false, false, false, false, false, false, false, false, false, false, false, false] rfl rfl (zb2 HT_.out (by kernel_rfl)) (by decide) (fun K hK => ?_);refine zce Try.func64 (by kernel_rfl) rfl #[.agg #[.int .i64 ((zb l0 x11_2).f0), .int .i64 ((zb l0 x11_2).f1), .int .i64 ((zb l0 x11_2).f2)], .int .i64 (rd l1 x11_2)] (by rfl) rfl rfl Zmt ?_;with_reducible refine (zy.calls ((zb l0 x11_2).f0) ((zb l0 x11_2).f1) ((zb l0 x11_2).f2) (rd l1 x11_2) t314 t315 _ A12.out).mono ?_
            rintro e w18 ⟨rfl, hb⟩;refine ⟨_, rfl, ?_⟩;have n0_ := za.mk (Kd.zb9 (Zq10 HO_9) hb);have n1_ := za.mk (zk (Zq0 HB) hb);clear HO_9;clear HB;have HO_9 := n0_;have HB := n1_;clear n0_ n1_;(try clear hb);(try clear hb2);(try clear hk);(try clear hi);refine hK.out _ _ ⟨((HB.out.cell (World.block_lt_of_cell? w _ hw312_0)).trans hw312_0), ((HB.out.cell (World.block_lt_of_cell? w _ hw312_1)).trans hw312_1), ((HB.out.cell (World.block_lt_of_cell? w _ hw312_2)).trans hw312_2), ((HB.out.cell (World.block_lt_of_cell? w _ hw313_0)).trans hw313_0)⟩ (fun hHeld => ?_);clear hK K;refine zcd (a' := ?_) ?_ ?_;rotate_left
            ·show Act.put _ (some 31) _ = _
             simp only [Act.put, Zs1, Zs2, Zs3, zg, zh];rfl
            refine zl (i := 9) (N := some 32) (v := ?_) (a' := ?_) #[true, true, true, true, true, true, true, true, true, true, true, false, false, false, false, false, false, false, false, false, false, false, false, false, false, false, false, false, false] rfl rfl (ze HT_.out (by kernel_rfl)) (fun _ _ _ h => h) (Or.inl ⟨by rfl, ?_⟩) ?_ ?_;rotate_left
            ·intro w'
             go_simp;with_reducible rfl
            rotate_left
            ·simp only [Act.put, Zs1, Zs2, Zs3, zg, zh]
             rfl
            refine zl (i := 11) (N := some 34) (v := ?_) (a' := ?_) #[true, true, true, true, true, true, true, true, true, true, true, true, false, false, false, false, false, false, false, false, false, false, false, false, false, false, false, false, false] rfl rfl (ze HT_.out (by kernel_rfl)) (fun _ _ _ h => h) (Or.inl ⟨by rfl, ?_⟩) ?_ ?_;rotate_left
            ·intro w'
             go_simp;with_reducible rfl
            rotate_left
            ·simp only [Act.put, Zs1, Zs2, Zs3, zg, zh]
             rfl
            refine zl (i := 12) (N := some 35) (v := ?_) (a' := ?_) #[true, true, true, true, true, true, true, true, true, true, true, true, true, false, false, false, false, false, false, false, false, false, false, false, false, false, false, false, false] rfl rfl (ze HT_.out (by kernel_rfl)) (fun _ _ _ h => h) (Or.inl ⟨by rfl, ?_⟩) ?_ ?_;rotate_left
            ·intro w'
             go_simp;with_reducible rfl
            rotate_left
            ·simp only [Act.put, Zs1, Zs2, Zs3, zg, zh]
             rfl
            refine zl (i := 13) (N := some 36) (v := ?_) (a' := ?_) #[true, true, true, true, true, true, true, true, true, true, true, true, true, true, false, false, false, false, false, false, false, false, false, false, false, false, false, false, false] rfl rfl (ze HT_.out (by kernel_rfl)) (fun _ _ _ h => h) (Or.inl ⟨by rfl, ?_⟩) ?_ ?_;rotate_left
            ·intro w'
             go_simp;with_reducible rfl
            rotate_left
            ·simp only [Act.put, Zs1, Zs2, Zs3, zg, zh]
             rfl
            refine zl (i := 14) (N := some 37) (v := ?_) (a' := ?_) #[true, true, true, true, true, true, true, true, true, true, true, true, true, true, true, false, false, false, false, false, false, false, false, false, false, false, false, false, false] rfl rfl (ze HT_.out (by kernel_rfl)) (fun _ _ _ h => h) (Or.inl ⟨by rfl, ?_⟩) ?_ ?_;rotate_left
            ·intro w'
             go_simp;with_reducible rfl
            rotate_left
            ·simp only [Act.put, Zs1, Zs2, Zs3, zg, zh]
             rfl
            refine one_ (i := 15) (N := some 38) #[true, true, true, true, true, true, true, true, true, true, true, true, true, true, true, true, false, false, false, false, false, false, false, false, false, false, false, false, false] rfl rfl (zb2 HT_.out (by kernel_rfl)) (by decide) (fun K hK => ?_);refine zce Try.func65 (by kernel_rfl) rfl #[.slice Ao8 x9_1.length co8, .int .i64 x11_2] (by rfl) rfl rfl Zmt ?_;with_reducible refine (zb4.calls k2 _ _ x9_1 x11_2 t316 _ ?side1 ?side2 A14.out).mono ?_
            (case side1 => exact Zq5 ((Kd.zbm HO_9.out).2.2));(case side2 => exact (Kd.zbm HO_9.out).2.1);rintro e w' ⟨rfl, ⟨nd, rfl⟩⟩;refine ⟨_, rfl, ?_⟩;refine hK.out _ _ ⟨((HB.out.cell (World.block_lt_of_cell? w _ hw312_0)).trans hw312_0), ((HB.out.cell (World.block_lt_of_cell? w _ hw312_1)).trans hw312_1), ((HB.out.cell (World.block_lt_of_cell? w _ hw312_2)).trans hw312_2), ((HB.out.cell (World.block_lt_of_cell? w _ hw313_0)).trans hw313_0)⟩ (fun hHeld => ?_);clear hK K;refine zcd (a' := ?_) ?_ ?_;rotate_left
            ·show Act.put _ (some 38) _ = _
             simp only [Act.put, Zs1, Zs2, Zs3, zg, zh];rfl
            refine zl (i := 16) (N := some 39) (v := ?_) (a' := ?_) #[true, true, true, true, true, true, true, true, true, true, true, true, true, true, true, true, true, false, false, false, false, false, false, false, false, false, false, false, false] rfl rfl (ze HT_.out (by kernel_rfl)) (fun _ _ _ h => h) (Or.inl ⟨by rfl, ?_⟩) ?_ ?_;rotate_left
            ·intro w'
             go_simp;with_reducible rfl
            rotate_left
            ·simp only [Act.put, Zs1, Zs2, Zs3, zg, zh]
             rfl
            refine zl (i := 17) (N := some 40) (v := ?_) (a' := ?_) #[true, true, true, true, true, true, true, true, true, true, true, true, true, true, true, true, true, true, false, false, false, false, false, false, false, false, false, false, false] rfl rfl (ze HT_.out (by kernel_rfl)) (fun _ _ _ h => h) (Or.inl ⟨by rfl, ?_⟩) ?_ ?_;rotate_left
            ·intro w'
             go_simp;with_reducible rfl
            rotate_left
            ·simp only [Act.put, Zs1, Zs2, Zs3, zg, zh]
             rfl
            refine zl (i := 18) (N := some 41) (v := ?_) (a' := ?_) #[true, true, true, true, true, true, true, true, true, true, true, true, true, true, true, true, true, true, true, false, false, false, false, false, false, false, false, false, false] rfl rfl (ze HT_.out (by kernel_rfl)) (fun _ _ _ h => h) (Or.inl ⟨by rfl, ?_⟩) ?_ ?_;rotate_left
            ·intro w'
             go_simp;with_reducible rfl
            rotate_left
            ·simp only [Act.put, Zs1, Zs2, Zs3, zg, zh]
             rfl
            refine zl (i := 19) (N := some 42) (v := ?_) (a' := ?_) #[true, true, true, true, true, true, true, true, true, true, true, true, true, true, true, true, true, true, true, true, false, false, false, false, false, false, false, false, false] rfl rfl (ze HT_.out (by kernel_rfl)) (fun _ _ _ h => h) (Or.inl ⟨by rfl, ?_⟩) ?_ ?_;rotate_left
            ·intro w'
             go_simp;with_reducible rfl
            rotate_left
            ·simp only [Act.put, Zs1, Zs2, Zs3, zg, zh]
             rfl
            refine zl (i := 20) (N := some 43) (v := ?_) (a' := ?_) #[true, true, true, true, true, true, true, true, true, true, true, true, true, true, true, true, true, true, true, true, true, false, false, false, false, false, false, false, false] rfl rfl (ze HT_.out (by kernel_rfl)) (fun _ _ _ h => h) (Or.inl ⟨by rfl, ?_⟩) ?_ ?_;rotate_left
            ·intro w'
             go_simp;with_reducible rfl
            rotate_left
            ·simp only [Act.put, Zs1, Zs2, Zs3, zg, zh]
             rfl
            refine zl (i := 21) (N := some 44) (v := ?_) (a' := ?_) #[true, true, true, true, true, true, true, true, true, true, true, true, true, true, true, true, true, true, true, true, true, true, false, false, false, false, false, false, false] rfl rfl (ze HT_.out (by kernel_rfl)) (fun _ _ _ h => h) (Or.inl ⟨by rfl, ?_⟩) ?_ ?_;rotate_left
            ·intro w'
             go_simp;with_reducible rfl
            rotate_left
            ·simp only [Act.put, Zs1, Zs2, Zs3, zg, zh]
             rfl
            refine zl (i := 22) (N := some 45) (v := undef) (a' := ?_) #[true, true, true, true, true, true, true, true, true, true, true, true, true, true, true, true, true, true, true, true, true, true, true, false, false, false, false, false, false] rfl rfl (ze HT_.out (by kernel_rfl)) (fun _ _ _ h => h) (Or.inr ⟨by rfl, rfl⟩) ?_ ?_;rotate_left
            ·simp only [Act.put, Zs1, Zs2, Zs3, zg, zh]
             rfl
            refine zl (i := 23) (N := some 46) (v := undef) (a' := ?_) #[true, true, true, true, true, true, true, true, true, true, true, true, true, true, true, true, true, true, true, true, true, true, true, true, false, false, false, false, false] rfl rfl (ze HT_.out (by kernel_rfl)) (fun _ _ _ h => h) (Or.inr ⟨by rfl, rfl⟩) ?_ ?_;rotate_left
            ·simp only [Act.put, Zs1, Zs2, Zs3, zg, zh]
             rfl
            refine zl (i := 24) (N := some 47) (v := undef) (a' := ?_) #[true, true, true, true, true, true, true, true, true, true, true, true, true, true, true, true, true, true, true, true, true, true, true, true, true, false, false, false, false] rfl rfl (ze HT_.out (by kernel_rfl)) (fun _ _ _ h => h) (Or.inr ⟨by rfl, rfl⟩) ?_ ?_;rotate_left
            ·simp only [Act.put, Zs1, Zs2, Zs3, zg, zh]
             rfl
            refine zl (i := 25) (N := some 48) (v := undef) (a' := ?_) #[true, true, true, true, true, true, true, true, true, true, true, true, true, true, true, true, true, true, true, true, true, true, true, true, true, true, false, false, false] rfl rfl (ze HT_.out (by kernel_rfl)) (fun _ _ _ h => h) (Or.inr ⟨by rfl, rfl⟩) ?_ ?_;rotate_left
            ·simp only [Act.put, Zs1, Zs2, Zs3, zg, zh]
             rfl
            refine zl (i := 26) (N := some 49) (v := undef) (a' := ?_) #[true, true, true, true, true, true, true, true, true, true, true, true, true, true, true, true, true, true, true, true, true, true, true, true, true, true, true, false, false] rfl rfl (ze HT_.out (by kernel_rfl)) (fun _ _ _ h => h) (Or.inr ⟨by rfl, rfl⟩) ?_ ?_;rotate_left
            ·simp only [Act.put, Zs1, Zs2, Zs3, zg, zh]
             rfl
            refine zl (i := 27) (N := some 50) (v := ?_) (a' := ?_) #[true, true, true, true, true, true, true, true, true, true, true, true, true, true, true, true, true, true, true, true, true, true, true, true, true, true, true, true, false] rfl rfl (ze HT_.out (by kernel_rfl)) (fun _ _ _ h => h) (Or.inl ⟨by rfl, ?_⟩) ?_ ?_;rotate_left
            ·intro w'
             go_simp;with_reducible rfl
            rotate_left
            ·simp only [Act.put, Zs1, Zs2, Zs3, zg, zh]
             rfl
            refine zl (i := 28) (N := some 51) (v := ?_) (a' := ?_) #[true, true, true, true, true, true, true, true, true, true, true, true, true, true, true, true, true, true, true, true, true, true, true, true, true, true, true, true, true] rfl rfl (ze HT_.out (by kernel_rfl)) (fun _ _ _ h => h) (Or.inl ⟨by rfl, ?_⟩) ?_ ?_;rotate_left
            ·intro w'
             go_simp;with_reducible rfl
            rotate_left
            ·simp only [Act.put, Zs1, Zs2, Zs3, zg, zh]
             rfl
            refine zcn (zb3 HT_.out (by kernel_rfl)) ?_
            try go_wp2
            go_roundg k2
            case measure => have := HK1.out; have := HK2.out; omega
            case rel => exact ⟨(x11_2), (wrap64 (x11_2 + 1)), Zrs, Zrs, H', ⟨by have := HK1.out; have := HK2.out; omega⟩, ⟨Zq10 HO_9⟩, ⟨Zq0 HB⟩⟩
           ·rw [if_neg c16] at H
            have c16b0 : decide (x10_2 < 0) = false := decide_eq_false c16;clear c16;replace H := Option.bind_eq_some_iff.mp H;obtain ⟨t317, A190, H⟩ := H;replace H : (if t317 = true then (zw.l1 k2 l0 l1 a2 a3 x9_1 x11_2 (wrap64 (x11_2 + 1))) else (zw.l1 k2 l0 l1 a2 a3 x9_1 x10_2 (wrap64 (x11_2 + 1)))) = some r := H;have A19 := za.mk A190;clear A190;by_cases c20 : t317 = true
            ·subst c20
             have H1 : (zw.l1 k2 l0 l1 a2 a3 x9_1 x11_2 (wrap64 (x11_2 + 1))) = some r := by rw [if_pos rfl] at H; exact H
             clear H;have H := H1;clear H1;have H' := za.mk H;clear H
             try go_wp2
             have n0_ := za.mk (Kd.zdd HO_9.out);have n1_ := za.mk (zbe HB.out);clear HO_9;clear HB;have HO_9 := n0_;have HB := n1_;clear n0_ n1_;have p312 : 0 ≤ (x11_2 : Int) := of_decide_eq_true Zas;have q312 : x11_2 < (l0.length : Int) := of_decide_eq_true Zas;obtain ⟨ad312, e312, hx312_0, hx312_1, hx312_2⟩ := zcc HR0.out x11_2 p312 q312;have hw312_2 := hx312_2;have hw312_1 := hx312_1;have hw312_0 := hx312_0
             cases e312
             replace hx312_0 := (HB.out.cell (World.block_lt_of_cell? w _ hx312_0)).trans hx312_0;replace hx312_1 := (HB.out.cell (World.block_lt_of_cell? w _ hx312_1)).trans hx312_1;replace hx312_2 := (HB.out.cell (World.block_lt_of_cell? w _ hx312_2)).trans hx312_2;replace p312 := eq_true p312;replace q312 := eq_true q312;have p313 : 0 ≤ (x11_2 : Int) := of_decide_eq_true Zas;have q313 : x11_2 < (l1.length : Int) := of_decide_eq_true Zas;obtain ⟨ad313, e313, hx313_0⟩ := Kd.zcb HR1.out x11_2 p313 q313;have hw313_0 := hx313_0
             cases e313
             replace hx313_0 := (HB.out.cell (World.block_lt_of_cell? w _ hx313_0)).trans hx313_0;replace p313 := eq_true p313;replace q313 := eq_true q313;refine zca (n := 29) (S := fun w' => w'.cell? (ad312.add ((x11_2).toNat * 3)) = some (.int .i64 ((zb l0 x11_2).f0)) ∧ w'.cell? ⟨(ad312.add ((x11_2).toNat * 3)).block, (ad312.add ((x11_2).toNat * 3)).off + 1, none⟩ = some (.int .i64 ((zb l0 x11_2).f1)) ∧ w'.cell? ⟨(ad312.add ((x11_2).toNat * 3)).block, (ad312.add ((x11_2).toNat * 3)).off + 2, none⟩ = some (.int .i64 ((zb l0 x11_2).f2)) ∧ w'.cell? (ad313.add (x11_2).toNat) = some (.int .i64 (rd l1 x11_2))) (ds := []) #[false, false, false, false, false, false, false, false, false, false, false, false, false, false, false, false, false, false, false, false, false, false, false, false, false, false, false, false, false] (by kernel_rfl) rfl rfl ⟨((HB.out.cell (World.block_lt_of_cell? w _ hw312_0)).trans hw312_0), ((HB.out.cell (World.block_lt_of_cell? w _ hw312_1)).trans hw312_1), ((HB.out.cell (World.block_lt_of_cell? w _ hw312_2)).trans hw312_2), ((HB.out.cell (World.block_lt_of_cell? w _ hw313_0)).trans hw313_0)⟩ (fun hHeld => ?_); refine zbu zw.tab7 zw.zhw (fun HT_ HW_ => ?_);generalize wr.drew = w21 at HO_9 HB hx312_0 hx312_1 hx312_2 hx313_0 hHeld ⊢;refine zl (i := 0) (N := some 23) (v := ?_) (a' := ?_) #[true, false, false, false, false, false, false, false, false, false, false, false, false, false, false, false, false, false, false, false, false, false, false, false, false, false, false, false, false] rfl rfl (ze HT_.out (by kernel_rfl)) (fun _ _ _ h => h) (Or.inl ⟨by rfl, ?_⟩) ?_ ?_;rotate_left
             ·intro w'
              go_simp;with_reducible rfl
             rotate_left
             ·simp only [Act.put, Zs1, Zs2, Zs3, zg, zh]
              rfl
             refine zl (i := 1) (N := some 24) (v := ?_) (a' := ?_) #[true, true, false, false, false, false, false, false, false, false, false, false, false, false, false, false, false, false, false, false, false, false, false, false, false, false, false, false, false] rfl rfl (ze HT_.out (by kernel_rfl)) (fun _ _ _ h => h) (Or.inl ⟨by rfl, ?_⟩) ?_ ?_;rotate_left
             ·intro w'
              go_simp;with_reducible rfl
             rotate_left
             ·simp only [Act.put, Zs1, Zs2, Zs3, zg, zh]
              rfl
             refine zl (i := 2) (N := some 25) (v := ?_) (a' := ?_) #[true, true, true, false, false, false, false, false, false, false, false, false, false, false, false, false, false, false, false, false, false, false, false, false, false, false, false, false, false] rfl rfl (ze HT_.out (by kernel_rfl)) (fun _ _ _ h => h) (Or.inl ⟨by rfl, ?_⟩) ?_ ?_;rotate_left
             ·intro w'
              go_simp;with_reducible rfl
             rotate_left
             ·simp only [Act.put, Zs1, Zs2, Zs3, zg, zh]
              rfl
             refine zl (i := 4) (N := some 27) (v := ?_) (a' := ?_) #[true, true, true, false, true, false, false, false, false, false, false, false, false, false, false, false, false, false, false, false, false, false, false, false, false, false, false, false, false] rfl rfl (ze HT_.out (by kernel_rfl)) (fun _ _ _ h => h) (Or.inl ⟨by rfl, ?_⟩) ?_ ?_;rotate_left
             ·intro w'
              go_simp;with_reducible rfl
             rotate_left
             ·simp only [Act.put, Zs1, Zs2, Zs3, zg, zh]
              rfl
             refine zl (i := 5) (N := some 28) (v := ?_) (a' := ?_) #[true, true, true, false, true, true, false, false, false, false, false, false, false, false, false, false, false, false, false, false, false, false, false, false, false, false, false, false, false] rfl rfl (ze HT_.out (by kernel_rfl)) (fun _ _ _ h => h) (Or.inl ⟨by rfl, ?_⟩) ?_ ?_;rotate_left
             ·intro w'
              go_simp;with_reducible rfl
             rotate_left
             ·simp only [Act.put, Zs1, Zs2, Zs3, zg, zh]
              rfl
             refine zl (i := 6) (N := some 29) (v := ?_) (a' := ?_) #[true, true, true, false, true, true, true, false, false, false, false, false, false, false, false, false, false, false, false, false, false, false, false, false, false, false, false, false, false] rfl rfl (ze HT_.out (by kernel_rfl)) (fun _ _ _ h => h) (Or.inl ⟨by rfl, ?_⟩) ?_ ?_;rotate_left
             ·intro w'
              go_simp;with_reducible rfl
             rotate_left
             ·simp only [Act.put, Zs1, Zs2, Zs3, zg, zh]
              rfl
             refine zl (i := 10) (N := some 33) (v := ?_) (a' := ?_) #[true, true, true, false, true, true, true, false, false, false, true, false, false, false, false, false, false, false, false, false, false, false, false, false, false, false, false, false, false] rfl rfl (ze HT_.out (by kernel_rfl)) (fun _ _ _ h => h) (Or.inl ⟨by rfl, ?_⟩) ?_ ?_;rotate_left
             ·intro w'
              go_simp;with_reducible rfl
             rotate_left
             ·simp only [Act.put, Zs1, Zs2, Zs3, zg, zh]
              rfl
             refine zby (i := 3) (N := some 26) (v := ?_) (a' := ?_) #[true, true, true, true, true, true, true, false, false, false, true, false, false, false, false, false, false, false, false, false, false, false, false, false, false, false, false, false, false] rfl rfl (z8 HT_.out HW_.out (by kernel_rfl)) (fun _ _ _ h => h) (Or.inl ⟨by rfl, ?_⟩) hHeld ?_ ?_;rotate_left
             ·rintro w' ⟨s0, s1, s2, s3⟩
              go_simp;with_reducible rfl
             rotate_left
             ·simp only [Act.put, Zs1, Zs2, Zs3, zg, zh]
              rfl
             refine zby (i := 7) (N := some 30) (v := ?_) (a' := ?_) #[true, true, true, true, true, true, true, true, false, false, true, false, false, false, false, false, false, false, false, false, false, false, false, false, false, false, false, false, false] rfl rfl (z8 HT_.out HW_.out (by kernel_rfl)) (fun _ _ _ h => h) (Or.inl ⟨by rfl, ?_⟩) hHeld ?_ ?_;rotate_left
             ·rintro w' ⟨s0, s1, s2, s3⟩
              go_simp;with_reducible rfl
             rotate_left
             ·simp only [Act.put, Zs1, Zs2, Zs3, zg, zh]
              rfl
             refine one_ (i := 8) (N := some 31) #[true, true, true, true, true, true, true, true, true, false, true, false, false, false, false, false, false, false, false, false, false, false, false, false, false, false, false, false, false] rfl rfl (zb2 HT_.out (by kernel_rfl)) (by decide) (fun K hK => ?_);refine zce Try.func64 (by kernel_rfl) rfl #[.agg #[.int .i64 ((zb l0 x11_2).f0), .int .i64 ((zb l0 x11_2).f1), .int .i64 ((zb l0 x11_2).f2)], .int .i64 (rd l1 x11_2)] (by rfl) rfl rfl Zmt ?_;with_reducible refine (zy.calls ((zb l0 x11_2).f0) ((zb l0 x11_2).f1) ((zb l0 x11_2).f2) (rd l1 x11_2) t314 t315 _ A12.out).mono ?_
             rintro e w22 ⟨rfl, hb⟩;refine ⟨_, rfl, ?_⟩;have n0_ := za.mk (Kd.zb9 (Zq10 HO_9) hb);have n1_ := za.mk (zk (Zq0 HB) hb);clear HO_9;clear HB;have HO_9 := n0_;have HB := n1_;clear n0_ n1_;(try clear hb);(try clear hb2);(try clear hk);(try clear hi);refine hK.out _ _ ⟨((HB.out.cell (World.block_lt_of_cell? w _ hw312_0)).trans hw312_0), ((HB.out.cell (World.block_lt_of_cell? w _ hw312_1)).trans hw312_1), ((HB.out.cell (World.block_lt_of_cell? w _ hw312_2)).trans hw312_2), ((HB.out.cell (World.block_lt_of_cell? w _ hw313_0)).trans hw313_0)⟩ (fun hHeld => ?_);clear hK K;refine zcd (a' := ?_) ?_ ?_;rotate_left
             ·show Act.put _ (some 31) _ = _
              simp only [Act.put, Zs1, Zs2, Zs3, zg, zh];rfl
             refine zl (i := 9) (N := some 32) (v := ?_) (a' := ?_) #[true, true, true, true, true, true, true, true, true, true, true, false, false, false, false, false, false, false, false, false, false, false, false, false, false, false, false, false, false] rfl rfl (ze HT_.out (by kernel_rfl)) (fun _ _ _ h => h) (Or.inl ⟨by rfl, ?_⟩) ?_ ?_;rotate_left
             ·intro w'
              go_simp;with_reducible rfl
             rotate_left
             ·simp only [Act.put, Zs1, Zs2, Zs3, zg, zh]
              rfl
             refine zl (i := 11) (N := some 34) (v := ?_) (a' := ?_) #[true, true, true, true, true, true, true, true, true, true, true, true, false, false, false, false, false, false, false, false, false, false, false, false, false, false, false, false, false] rfl rfl (ze HT_.out (by kernel_rfl)) (fun _ _ _ h => h) (Or.inl ⟨by rfl, ?_⟩) ?_ ?_;rotate_left
             ·intro w'
              go_simp;with_reducible rfl
             rotate_left
             ·simp only [Act.put, Zs1, Zs2, Zs3, zg, zh]
              rfl
             refine zl (i := 12) (N := some 35) (v := ?_) (a' := ?_) #[true, true, true, true, true, true, true, true, true, true, true, true, true, false, false, false, false, false, false, false, false, false, false, false, false, false, false, false, false] rfl rfl (ze HT_.out (by kernel_rfl)) (fun _ _ _ h => h) (Or.inl ⟨by rfl, ?_⟩) ?_ ?_;rotate_left
             ·intro w'
              go_simp;with_reducible rfl
             rotate_left
             ·simp only [Act.put, Zs1, Zs2, Zs3, zg, zh]
              rfl
             refine zl (i := 13) (N := some 36) (v := ?_) (a' := ?_) #[true, true, true, true, true, true, true, true, true, true, true, true, true, true, false, false, false, false, false, false, false, false, false, false, false, false, false, false, false] rfl rfl (ze HT_.out (by kernel_rfl)) (fun _ _ _ h => h) (Or.inl ⟨by rfl, ?_⟩) ?_ ?_;rotate_left
             ·intro w'
              go_simp;with_reducible rfl
             rotate_left
             ·simp only [Act.put, Zs1, Zs2, Zs3, zg, zh]
              rfl
             refine zl (i := 14) (N := some 37) (v := ?_) (a' := ?_) #[true, true, true, true, true, true, true, true, true, true, true, true, true, true, true, false, false, false, false, false, false, false, false, false, false, false, false, false, false] rfl rfl (ze HT_.out (by kernel_rfl)) (fun _ _ _ h => h) (Or.inl ⟨by rfl, ?_⟩) ?_ ?_;rotate_left
             ·intro w'
              go_simp;with_reducible rfl
             rotate_left
             ·simp only [Act.put, Zs1, Zs2, Zs3, zg, zh]
              rfl
             refine one_ (i := 15) (N := some 38) #[true, true, true, true, true, true, true, true, true, true, true, true, true, true, true, true, false, false, false, false, false, false, false, false, false, false, false, false, false] rfl rfl (zb2 HT_.out (by kernel_rfl)) (by decide) (fun K hK => ?_);refine zce Try.func65 (by kernel_rfl) rfl #[.slice Ao8 x9_1.length co8, .int .i64 x11_2] (by rfl) rfl rfl Zmt ?_;with_reducible refine (zb4.calls k2 _ _ x9_1 x11_2 t316 _ ?side1 ?side2 A14.out).mono ?_
             (case side1 => exact Zq5 ((Kd.zbm HO_9.out).2.2));(case side2 => exact (Kd.zbm HO_9.out).2.1);rintro e w' ⟨rfl, ⟨nd, rfl⟩⟩;refine ⟨_, rfl, ?_⟩;refine hK.out _ _ ⟨((HB.out.cell (World.block_lt_of_cell? w _ hw312_0)).trans hw312_0), ((HB.out.cell (World.block_lt_of_cell? w _ hw312_1)).trans hw312_1), ((HB.out.cell (World.block_lt_of_cell? w _ hw312_2)).trans hw312_2), ((HB.out.cell (World.block_lt_of_cell? w _ hw313_0)).trans hw313_0)⟩ (fun hHeld => ?_);clear hK K;refine zcd (a' := ?_) ?_ ?_;rotate_left
             ·show Act.put _ (some 38) _ = _
              simp only [Act.put, Zs1, Zs2, Zs3, zg, zh];rfl
             refine zl (i := 16) (N := some 39) (v := ?_) (a' := ?_) #[true, true, true, true, true, true, true, true, true, true, true, true, true, true, true, true, true, false, false, false, false, false, false, false, false, false, false, false, false] rfl rfl (ze HT_.out (by kernel_rfl)) (fun _ _ _ h => h) (Or.inl ⟨by rfl, ?_⟩) ?_ ?_;rotate_left
             ·intro w'
              go_simp;with_reducible rfl
             rotate_left
             ·simp only [Act.put, Zs1, Zs2, Zs3, zg, zh]
              rfl
             refine zl (i := 17) (N := some 40) (v := ?_) (a' := ?_) #[true, true, true, true, true, true, true, true, true, true, true, true, true, true, true, true, true, true, false, false, false, false, false, false, false, false, false, false, false] rfl rfl (ze HT_.out (by kernel_rfl)) (fun _ _ _ h => h) (Or.inl ⟨by rfl, ?_⟩) ?_ ?_;rotate_left
             ·intro w'
              go_simp;with_reducible rfl
             rotate_left
             ·simp only [Act.put, Zs1, Zs2, Zs3, zg, zh]
              rfl
             refine zl (i := 18) (N := some 41) (v := ?_) (a' := ?_) #[true, true, true, true, true, true, true, true, true, true, true, true, true, true, true, true, true, true, true, false, false, false, false, false, false, false, false, false, false] rfl rfl (ze HT_.out (by kernel_rfl)) (fun _ _ _ h => h) (Or.inl ⟨by rfl, ?_⟩) ?_ ?_;rotate_left
             ·intro w'
              go_simp;with_reducible rfl
             rotate_left
             ·simp only [Act.put, Zs1, Zs2, Zs3, zg, zh]
              rfl
             refine zl (i := 19) (N := some 42) (v := ?_) (a' := ?_) #[true, true, true, true, true, true, true, true, true, true, true, true, true, true, true, true, true, true, true, true, false, false, false, false, false, false, false, false, false] rfl rfl (ze HT_.out (by kernel_rfl)) (fun _ _ _ h => h) (Or.inl ⟨by rfl, ?_⟩) ?_ ?_;rotate_left
             ·intro w'
              go_simp;with_reducible rfl
             rotate_left
             ·simp only [Act.put, Zs1, Zs2, Zs3, zg, zh]
              rfl
             refine zl (i := 20) (N := some 43) (v := ?_) (a' := ?_) #[true, true, true, true, true, true, true, true, true, true, true, true, true, true, true, true, true, true, true, true, true, false, false, false, false, false, false, false, false] rfl rfl (ze HT_.out (by kernel_rfl)) (fun _ _ _ h => h) (Or.inl ⟨by rfl, ?_⟩) ?_ ?_;rotate_left
             ·intro w'
              go_simp;with_reducible rfl
             rotate_left
             ·simp only [Act.put, Zs1, Zs2, Zs3, zg, zh]
              rfl
             refine zl (i := 21) (N := some 44) (v := ?_) (a' := ?_) #[true, true, true, true, true, true, true, true, true, true, true, true, true, true, true, true, true, true, true, true, true, true, false, false, false, false, false, false, false] rfl rfl (ze HT_.out (by kernel_rfl)) (fun _ _ _ h => h) (Or.inl ⟨by rfl, ?_⟩) ?_ ?_;rotate_left
             ·intro w'
              go_simp;with_reducible rfl
             rotate_left
             ·simp only [Act.put, Zs1, Zs2, Zs3, zg, zh]
              rfl
             refine zl (i := 22) (N := some 45) (v := ?_) (a' := ?_) #[true, true, true, true, true, true, true, true, true, true, true, true, true, true, true, true, true, true, true, true, true, true, true, false, false, false, false, false, false] rfl rfl (ze HT_.out (by kernel_rfl)) (fun _ _ _ h => h) (Or.inl ⟨by rfl, ?_⟩) ?_ ?_;rotate_left
             ·intro w'
              go_simp;with_reducible rfl
             rotate_left
             ·simp only [Act.put, Zs1, Zs2, Zs3, zg, zh]
              rfl
             refine zl (i := 23) (N := some 46) (v := ?_) (a' := ?_) #[true, true, true, true, true, true, true, true, true, true, true, true, true, true, true, true, true, true, true, true, true, true, true, true, false, false, false, false, false] rfl rfl (ze HT_.out (by kernel_rfl)) (fun _ _ _ h => h) (Or.inl ⟨by rfl, ?_⟩) ?_ ?_;rotate_left
             ·intro w'
              go_simp;with_reducible rfl
             rotate_left
             ·simp only [Act.put, Zs1, Zs2, Zs3, zg, zh]
              rfl
             refine zl (i := 24) (N := some 47) (v := ?_) (a' := ?_) #[true, true, true, true, true, true, true, true, true, true, true, true, true, true, true, true, true, true, true, true, true, true, true, true, true, false, false, false, false] rfl rfl (ze HT_.out (by kernel_rfl)) (fun _ _ _ h => h) (Or.inl ⟨by rfl, ?_⟩) ?_ ?_;rotate_left
             ·intro w'
              go_simp;with_reducible rfl
             rotate_left
             ·simp only [Act.put, Zs1, Zs2, Zs3, zg, zh]
              rfl
             refine zl (i := 25) (N := some 48) (v := ?_) (a' := ?_) #[true, true, true, true, true, true, true, true, true, true, true, true, true, true, true, true, true, true, true, true, true, true, true, true, true, true, false, false, false] rfl rfl (ze HT_.out (by kernel_rfl)) (fun _ _ _ h => h) (Or.inl ⟨by rfl, ?_⟩) ?_ ?_;rotate_left
             ·intro w'
              go_simp;with_reducible rfl
             rotate_left
             ·simp only [Act.put, Zs1, Zs2, Zs3, zg, zh]
              rfl
             refine one_ (i := 26) (N := some 49) #[true, true, true, true, true, true, true, true, true, true, true, true, true, true, true, true, true, true, true, true, true, true, true, true, true, true, true, false, false] rfl rfl (zb2 HT_.out (by kernel_rfl)) (by decide) (fun K hK => ?_);refine zce Try.func66 (by kernel_rfl) rfl #[.slice (some ad312) l0.length c0, .slice (some ad313) l1.length c1, .int .i64 x11_2, .int .i64 x10_2] (by rfl) rfl rfl Zmt ?_;with_reducible refine (zi.calls k2 _ _ l0 _ _ l1 x11_2 x10_2 true _ ?side1 ?side2 ?side3 ?side4 A19.out).mono ?_
             (case side1 => repeat (first | exact (Kd.zcf HR0.out (Zq0 HB)) | (with_reducible refine Kd.zc8 ?_ _) | (with_reducible refine Kd.zdl ?_ _) | (with_reducible refine Kd.zeb ?_)));(case side2 => exact HC0.out);(case side3 => repeat (first | exact (Kd.zcf HR1.out (Zq0 HB)) | (with_reducible refine Kd.zc8 ?_ _) | (with_reducible refine Kd.zdl ?_ _) | (with_reducible refine Kd.zeb ?_)));(case side4 => exact HC1.out);rintro e w23 ⟨rfl, hb⟩;refine ⟨_, rfl, ?_⟩;have n0_ := za.mk (Kd.zb9 (Zq10 HO_9) hb);have n1_ := za.mk (zk (Zq0 HB) hb);clear HO_9;clear HB;have HO_9 := n0_;have HB := n1_;clear n0_ n1_;(try clear hb);(try clear hb2);(try clear hk);(try clear hi);refine hK.out _ _ ⟨((HB.out.cell (World.block_lt_of_cell? w _ hw312_0)).trans hw312_0), ((HB.out.cell (World.block_lt_of_cell? w _ hw312_1)).trans hw312_1), ((HB.out.cell (World.block_lt_of_cell? w _ hw312_2)).trans hw312_2), ((HB.out.cell (World.block_lt_of_cell? w _ hw313_0)).trans hw313_0)⟩ (fun hHeld => ?_);clear hK K;refine zcd (a' := ?_) ?_ ?_;rotate_left
             ·show Act.put _ (some 49) _ = _
              simp only [Act.put, Zs1, Zs2, Zs3, zg, zh];rfl
             refine zl (i := 27) (N := some 50) (v := ?_) (a' := ?_) #[true, true, true, true, true, true, true, true, true, true, true, true, true, true, true, true, true, true, true, true, true, true, true, true, true, true, true, true, false] rfl rfl (ze HT_.out (by kernel_rfl)) (fun _ _ _ h => h) (Or.inl ⟨by rfl, ?_⟩) ?_ ?_;rotate_left
             ·intro w'
              go_simp;with_reducible rfl
             rotate_left
             ·simp only [Act.put, Zs1, Zs2, Zs3, zg, zh]
              rfl
             refine zl (i := 28) (N := some 51) (v := ?_) (a' := ?_) #[true, true, true, true, true, true, true, true, true, true, true, true, true, true, true, true, true, true, true, true, true, true, true, true, true, true, true, true, true] rfl rfl (ze HT_.out (by kernel_rfl)) (fun _ _ _ h => h) (Or.inl ⟨by rfl, ?_⟩) ?_ ?_;rotate_left
             ·intro w'
              go_simp;with_reducible rfl
             rotate_left
             ·simp only [Act.put, Zs1, Zs2, Zs3, zg, zh]
              rfl
             refine zcn (zb3 HT_.out (by kernel_rfl)) ?_
             try go_wp2
             go_roundg k2
             case measure => have := HK1.out; have := HK2.out; omega
             case rel => exact ⟨(x11_2), (wrap64 (x11_2 + 1)), Zrs, Zrs, H', ⟨by have := HK1.out; have := HK2.out; omega⟩, ⟨Zq10 HO_9⟩, ⟨Zq0 HB⟩⟩
            ·replace c20 := Bool.eq_false_iff.mpr c20
             subst c20;have H1 : (zw.l1 k2 l0 l1 a2 a3 x9_1 x10_2 (wrap64 (x11_2 + 1))) = some r := by rw [if_neg (show ¬ (false = true) by decide)] at H; exact H
             clear H;have H := H1;clear H1;have H' := za.mk H;clear H
             try go_wp2
             have n0_ := za.mk (Kd.zdd HO_9.out);have n1_ := za.mk (zbe HB.out);clear HO_9;clear HB;have HO_9 := n0_;have HB := n1_;clear n0_ n1_;have p312 : 0 ≤ (x11_2 : Int) := of_decide_eq_true Zas;have q312 : x11_2 < (l0.length : Int) := of_decide_eq_true Zas;obtain ⟨ad312, e312, hx312_0, hx312_1, hx312_2⟩ := zcc HR0.out x11_2 p312 q312;have hw312_2 := hx312_2;have hw312_1 := hx312_1;have hw312_0 := hx312_0
             cases e312
             replace hx312_0 := (HB.out.cell (World.block_lt_of_cell? w _ hx312_0)).trans hx312_0;replace hx312_1 := (HB.out.cell (World.block_lt_of_cell? w _ hx312_1)).trans hx312_1;replace hx312_2 := (HB.out.cell (World.block_lt_of_cell? w _ hx312_2)).trans hx312_2;replace p312 := eq_true p312;replace q312 := eq_true q312;have p313 : 0 ≤ (x11_2 : Int) := of_decide_eq_true Zas;have q313 : x11_2 < (l1.length : Int) := of_decide_eq_true Zas;obtain ⟨ad313, e313, hx313_0⟩ := Kd.zcb HR1.out x11_2 p313 q313;have hw313_0 := hx313_0
             cases e313
             replace hx313_0 := (HB.out.cell (World.block_lt_of_cell? w _ hx313_0)).trans hx313_0;replace p313 := eq_true p313;replace q313 := eq_true q313;refine zca (n := 29) (S := fun w' => w'.cell? (ad312.add ((x11_2).toNat * 3)) = some (.int .i64 ((zb l0 x11_2).f0)) ∧ w'.cell? ⟨(ad312.add ((x11_2).toNat * 3)).block, (ad312.add ((x11_2).toNat * 3)).off + 1, none⟩ = some (.int .i64 ((zb l0 x11_2).f1)) ∧ w'.cell? ⟨(ad312.add ((x11_2).toNat * 3)).block, (ad312.add ((x11_2).toNat * 3)).off + 2, none⟩ = some (.int .i64 ((zb l0 x11_2).f2)) ∧ w'.cell? (ad313.add (x11_2).toNat) = some (.int .i64 (rd l1 x11_2))) (ds := []) #[false, false, false, false, false, false, false, false, false, false, false, false, false, false, false, false, false, false, false, false, false, false, false, false, false, false, false, false, false] (by kernel_rfl) rfl rfl ⟨((HB.out.cell (World.block_lt_of_cell? w _ hw312_0)).trans hw312_0), ((HB.out.cell (World.block_lt_of_cell? w _ hw312_1)).trans hw312_1), ((HB.out.cell (World.block_lt_of_cell? w _ hw312_2)).trans hw312_2), ((HB.out.cell (World.block_lt_of_cell? w _ hw313_0)).trans hw313_0)⟩ (fun hHeld => ?_); refine zbu zw.tab7 zw.zhw (fun HT_ HW_ => ?_);generalize wr.drew = w24 at HO_9 HB hx312_0 hx312_1 hx312_2 hx313_0 hHeld ⊢;refine zl (i := 0) (N := some 23) (v := ?_) (a' := ?_) #[true, false, false, false, false, false, false, false, false, false, false, false, false, false, false, false, false, false, false, false, false, false, false, false, false, false, false, false, false] rfl rfl (ze HT_.out (by kernel_rfl)) (fun _ _ _ h => h) (Or.inl ⟨by rfl, ?_⟩) ?_ ?_;rotate_left
             ·intro w'
              go_simp;with_reducible rfl
             rotate_left
             ·simp only [Act.put, Zs1, Zs2, Zs3, zg, zh]
              rfl
             refine zl (i := 1) (N := some 24) (v := ?_) (a' := ?_) #[true, true, false, false, false, false, false, false, false, false, false, false, false, false, false, false, false, false, false, false, false, false, false, false, false, false, false, false, false] rfl rfl (ze HT_.out (by kernel_rfl)) (fun _ _ _ h => h) (Or.inl ⟨by rfl, ?_⟩) ?_ ?_;rotate_left
             ·intro w'
              go_simp;with_reducible rfl
             rotate_left
             ·simp only [Act.put, Zs1, Zs2, Zs3, zg, zh]
              rfl
             refine zl (i := 2) (N := some 25) (v := ?_) (a' := ?_) #[true, true, true, false, false, false, false, false, false, false, false, false, false, false, false, false, false, false, false, false, false, false, false, false, false, false, false, false, false] rfl rfl (ze HT_.out (by kernel_rfl)) (fun _ _ _ h => h) (Or.inl ⟨by rfl, ?_⟩) ?_ ?_;rotate_left
             ·intro w'
              go_simp;with_reducible rfl
             rotate_left
             ·simp only [Act.put, Zs1, Zs2, Zs3, zg, zh]
              rfl
             refine zl (i := 4) (N := some 27) (v := ?_) (a' := ?_) #[true, true, true, false, true, false, false, false, false, false, false, false, false, false, false, false, false, false, false, false, false, false, false, false, false, false, false, false, false] rfl rfl (ze HT_.out (by kernel_rfl)) (fun _ _ _ h => h) (Or.inl ⟨by rfl, ?_⟩) ?_ ?_;rotate_left
             ·intro w'
              go_simp;with_reducible rfl
             rotate_left
             ·simp only [Act.put, Zs1, Zs2, Zs3, zg, zh]
              rfl
             refine zl (i := 5) (N := some 28) (v := ?_) (a' := ?_) #[true, true, true, false, true, true, false, false, false, false, false, false, false, false, false, false, false, false, false, false, false, false, false, false, false, false, false, false, false] rfl rfl (ze HT_.out (by kernel_rfl)) (fun _ _ _ h => h) (Or.inl ⟨by rfl, ?_⟩) ?_ ?_;rotate_left
             ·intro w'
              go_simp;with_reducible rfl
             rotate_left
             ·simp only [Act.put, Zs1, Zs2, Zs3, zg, zh]
              rfl
             refine zl (i := 6) (N := some 29) (v := ?_) (a' := ?_) #[true, true, true, false, true, true, true, false, false, false, false, false, false, false, false, false, false, false, false, false, false, false, false, false, false, false, false, false, false] rfl rfl (ze HT_.out (by kernel_rfl)) (fun _ _ _ h => h) (Or.inl ⟨by rfl, ?_⟩) ?_ ?_;rotate_left
             ·intro w'
              go_simp;with_reducible rfl
             rotate_left
             ·simp only [Act.put, Zs1, Zs2, Zs3, zg, zh]
              rfl
             refine zl (i := 10) (N := some 33) (v := ?_) (a' := ?_) #[true, true, true, false, true, true, true, false, false, false, true, false, false, false, false, false, false, false, false, false, false, false, false, false, false, false, false, false, false] rfl rfl (ze HT_.out (by kernel_rfl)) (fun _ _ _ h => h) (Or.inl ⟨by rfl, ?_⟩) ?_ ?_;rotate_left
             ·intro w'
              go_simp;with_reducible rfl
             rotate_left
             ·simp only [Act.put, Zs1, Zs2, Zs3, zg, zh]
              rfl
             refine zby (i := 3) (N := some 26) (v := ?_) (a' := ?_) #[true, true, true, true, true, true, true, false, false, false, true, false, false, false, false, false, false, false, false, false, false, false, false, false, false, false, false, false, false] rfl rfl (z8 HT_.out HW_.out (by kernel_rfl)) (fun _ _ _ h => h) (Or.inl ⟨by rfl, ?_⟩) hHeld ?_ ?_;rotate_left
             ·rintro w' ⟨s0, s1, s2, s3⟩
              go_simp;with_reducible rfl
             rotate_left
             ·simp only [Act.put, Zs1, Zs2, Zs3, zg, zh]
              rfl
             refine zby (i := 7) (N := some 30) (v := ?_) (a' := ?_) #[true, true, true, true, true, true, true, true, false, false, true, false, false, false, false, false, false, false, false, false, false, false, false, false, false, false, false, false, false] rfl rfl (z8 HT_.out HW_.out (by kernel_rfl)) (fun _ _ _ h => h) (Or.inl ⟨by rfl, ?_⟩) hHeld ?_ ?_;rotate_left
             ·rintro w' ⟨s0, s1, s2, s3⟩
              go_simp;with_reducible rfl
             rotate_left
             ·simp only [Act.put, Zs1, Zs2, Zs3, zg, zh]
              rfl
             refine one_ (i := 8) (N := some 31) #[true, true, true, true, true, true, true, true, true, false, true, false, false, false, false, false, false, false, false, false, false, false, false, false, false, false, false, false, false] rfl rfl (zb2 HT_.out (by kernel_rfl)) (by decide) (fun K hK => ?_);refine zce Try.func64 (by kernel_rfl) rfl #[.agg #[.int .i64 ((zb l0 x11_2).f0), .int .i64 ((zb l0 x11_2).f1), .int .i64 ((zb l0 x11_2).f2)], .int .i64 (rd l1 x11_2)] (by rfl) rfl rfl Zmt ?_;with_reducible refine (zy.calls ((zb l0 x11_2).f0) ((zb l0 x11_2).f1) ((zb l0 x11_2).f2) (rd l1 x11_2) t314 t315 _ A12.out).mono ?_
             rintro e w25 ⟨rfl, hb⟩;refine ⟨_, rfl, ?_⟩;have n0_ := za.mk (Kd.zb9 (Zq10 HO_9) hb);have n1_ := za.mk (zk (Zq0 HB) hb);clear HO_9;clear HB;have HO_9 := n0_;have HB := n1_;clear n0_ n1_;(try clear hb);(try clear hb2);(try clear hk);(try clear hi);refine hK.out _ _ ⟨((HB.out.cell (World.block_lt_of_cell? w _ hw312_0)).trans hw312_0), ((HB.out.cell (World.block_lt_of_cell? w _ hw312_1)).trans hw312_1), ((HB.out.cell (World.block_lt_of_cell? w _ hw312_2)).trans hw312_2), ((HB.out.cell (World.block_lt_of_cell? w _ hw313_0)).trans hw313_0)⟩ (fun hHeld => ?_);clear hK K;refine zcd (a' := ?_) ?_ ?_;rotate_left
             ·show Act.put _ (some 31) _ = _
              simp only [Act.put, Zs1, Zs2, Zs3, zg, zh];rfl
             refine zl (i := 9) (N := some 32) (v := ?_) (a' := ?_) #[true, true, true, true, true, true, true, true, true, true, true, false, false, false, false, false, false, false, false, false, false, false, false, false, false, false, false, false, false] rfl rfl (ze HT_.out (by kernel_rfl)) (fun _ _ _ h => h) (Or.inl ⟨by rfl, ?_⟩) ?_ ?_;rotate_left
             ·intro w'
              go_simp;with_reducible rfl
             rotate_left
             ·simp only [Act.put, Zs1, Zs2, Zs3, zg, zh]
              rfl
             refine zl (i := 11) (N := some 34) (v := ?_) (a' := ?_) #[true, true, true, true, true, true, true, true, true, true, true, true, false, false, false, false, false, false, false, false, false, false, false, false, false, false, false, false, false] rfl rfl (ze HT_.out (by kernel_rfl)) (fun _ _ _ h => h) (Or.inl ⟨by rfl, ?_⟩) ?_ ?_;rotate_left
             ·intro w'
              go_simp;with_reducible rfl
             rotate_left
             ·simp only [Act.put, Zs1, Zs2, Zs3, zg, zh]
              rfl
             refine zl (i := 12) (N := some 35) (v := ?_) (a' := ?_) #[true, true, true, true, true, true, true, true, true, true, true, true, true, false, false, false, false, false, false, false, false, false, false, false, false, false, false, false, false] rfl rfl (ze HT_.out (by kernel_rfl)) (fun _ _ _ h => h) (Or.inl ⟨by rfl, ?_⟩) ?_ ?_;rotate_left
             ·intro w'
              go_simp;with_reducible rfl
             rotate_left
             ·simp only [Act.put, Zs1, Zs2, Zs3, zg, zh]
              rfl
             refine zl (i := 13) (N := some 36) (v := ?_) (a' := ?_) #[true, true, true, true, true, true, true, true, true, true, true, true, true, true, false, false, false, false, false, false, false, false, false, false, false, false, false, false, false] rfl rfl (ze HT_.out (by kernel_rfl)) (fun _ _ _ h => h) (Or.inl ⟨by rfl, ?_⟩) ?_ ?_;rotate_left
             ·intro w'
              go_simp;with_reducible rfl
             rotate_left
             ·simp only [Act.put, Zs1, Zs2, Zs3, zg, zh]
              rfl
             refine zl (i := 14) (N := some 37) (v := ?_) (a' := ?_) #[true, true, true, true, true, true, true, true, true, true, true, true, true, true, true, false, false, false, false, false, false, false, false, false, false, false, false, false, false] rfl rfl (ze HT_.out (by kernel_rfl)) (fun _ _ _ h => h) (Or.inl ⟨by rfl, ?_⟩) ?_ ?_;rotate_left
             ·intro w'
              go_simp;with_reducible rfl
             rotate_left
             ·simp only [Act.put, Zs1, Zs2, Zs3, zg, zh]
              rfl
             refine one_ (i := 15) (N := some 38) #[true, true, true, true, true, true, true, true, true, true, true, true, true, true, true, true, false, false, false, false, false, false, false, false, false, false, false, false, false] rfl rfl (zb2 HT_.out (by kernel_rfl)) (by decide) (fun K hK => ?_);refine zce Try.func65 (by kernel_rfl) rfl #[.slice Ao8 x9_1.length co8, .int .i64 x11_2] (by rfl) rfl rfl Zmt ?_;with_reducible refine (zb4.calls k2 _ _ x9_1 x11_2 t316 _ ?side1 ?side2 A14.out).mono ?_
             (case side1 => exact Zq5 ((Kd.zbm HO_9.out).2.2));(case side2 => exact (Kd.zbm HO_9.out).2.1);rintro e w' ⟨rfl, ⟨nd, rfl⟩⟩;refine ⟨_, rfl, ?_⟩;refine hK.out _ _ ⟨((HB.out.cell (World.block_lt_of_cell? w _ hw312_0)).trans hw312_0), ((HB.out.cell (World.block_lt_of_cell? w _ hw312_1)).trans hw312_1), ((HB.out.cell (World.block_lt_of_cell? w _ hw312_2)).trans hw312_2), ((HB.out.cell (World.block_lt_of_cell? w _ hw313_0)).trans hw313_0)⟩ (fun hHeld => ?_);clear hK K;refine zcd (a' := ?_) ?_ ?_;rotate_left
             ·show Act.put _ (some 38) _ = _
              simp only [Act.put, Zs1, Zs2, Zs3, zg, zh];rfl
             refine zl (i := 16) (N := some 39) (v := ?_) (a' := ?_) #[true, true, true, true, true, true, true, true, true, true, true, true, true, true, true, true, true, false, false, false, false, false, false, false, false, false, false, false, false] rfl rfl (ze HT_.out (by kernel_rfl)) (fun _ _ _ h => h) (Or.inl ⟨by rfl, ?_⟩) ?_ ?_;rotate_left
             ·intro w'
              go_simp;with_reducible rfl
             rotate_left
             ·simp only [Act.put, Zs1, Zs2, Zs3, zg, zh]
              rfl
             refine zl (i := 17) (N := some 40) (v := ?_) (a' := ?_) #[true, true, true, true, true, true, true, true, true, true, true, true, true, true, true, true, true, true, false, false, false, false, false, false, false, false, false, false, false] rfl rfl (ze HT_.out (by kernel_rfl)) (fun _ _ _ h => h) (Or.inl ⟨by rfl, ?_⟩) ?_ ?_;rotate_left
             ·intro w'
              go_simp;with_reducible rfl
             rotate_left
             ·simp only [Act.put, Zs1, Zs2, Zs3, zg, zh]
              rfl
             refine zl (i := 18) (N := some 41) (v := ?_) (a' := ?_) #[true, true, true, true, true, true, true, true, true, true, true, true, true, true, true, true, true, true, true, false, false, false, false, false, false, false, false, false, false] rfl rfl (ze HT_.out (by kernel_rfl)) (fun _ _ _ h => h) (Or.inl ⟨by rfl, ?_⟩) ?_ ?_;rotate_left
             ·intro w'
              go_simp;with_reducible rfl
             rotate_left
             ·simp only [Act.put, Zs1, Zs2, Zs3, zg, zh]
              rfl
             refine zl (i := 19) (N := some 42) (v := ?_) (a' := ?_) #[true, true, true, true, true, true, true, true, true, true, true, true, true, true, true, true, true, true, true, true, false, false, false, false, false, false, false, false, false] rfl rfl (ze HT_.out (by kernel_rfl)) (fun _ _ _ h => h) (Or.inl ⟨by rfl, ?_⟩) ?_ ?_;rotate_left
             ·intro w'
              go_simp;with_reducible rfl
             rotate_left
             ·simp only [Act.put, Zs1, Zs2, Zs3, zg, zh]
              rfl
             refine zl (i := 20) (N := some 43) (v := ?_) (a' := ?_) #[true, true, true, true, true, true, true, true, true, true, true, true, true, true, true, true, true, true, true, true, true, false, false, false, false, false, false, false, false] rfl rfl (ze HT_.out (by kernel_rfl)) (fun _ _ _ h => h) (Or.inl ⟨by rfl, ?_⟩) ?_ ?_;rotate_left
             ·intro w'
              go_simp;with_reducible rfl
             rotate_left
             ·simp only [Act.put, Zs1, Zs2, Zs3, zg, zh]
              rfl
             refine zl (i := 21) (N := some 44) (v := ?_) (a' := ?_) #[true, true, true, true, true, true, true, true, true, true, true, true, true, true, true, true, true, true, true, true, true, true, false, false, false, false, false, false, false] rfl rfl (ze HT_.out (by kernel_rfl)) (fun _ _ _ h => h) (Or.inl ⟨by rfl, ?_⟩) ?_ ?_;rotate_left
             ·intro w'
              go_simp;with_reducible rfl
             rotate_left
             ·simp only [Act.put, Zs1, Zs2, Zs3, zg, zh]
              rfl
             refine zl (i := 22) (N := some 45) (v := ?_) (a' := ?_) #[true, true, true, true, true, true, true, true, true, true, true, true, true, true, true, true, true, true, true, true, true, true, true, false, false, false, false, false, false] rfl rfl (ze HT_.out (by kernel_rfl)) (fun _ _ _ h => h) (Or.inl ⟨by rfl, ?_⟩) ?_ ?_;rotate_left
             ·intro w'
              go_simp;with_reducible rfl
             rotate_left
             ·simp only [Act.put, Zs1, Zs2, Zs3, zg, zh]
              rfl
             refine zl (i := 23) (N := some 46) (v := ?_) (a' := ?_) #[true, true, true, true, true, true, true, true, true, true, true, true, true, true, true, true, true, true, true, true, true, true, true, true, false, false, false, false, false] rfl rfl (ze HT_.out (by kernel_rfl)) (fun _ _ _ h => h) (Or.inl ⟨by rfl, ?_⟩) ?_ ?_;rotate_left
             ·intro w'
              go_simp;with_reducible rfl
             rotate_left
             ·simp only [Act.put, Zs1, Zs2, Zs3, zg, zh]
              rfl
             refine zl (i := 24) (N := some 47) (v := ?_) (a' := ?_) #[true, true, true, true, true, true, true, true, true, true, true, true, true, true, true, true, true, true, true, true, true, true, true, true, true, false, false, false, false] rfl rfl (ze HT_.out (by kernel_rfl)) (fun _ _ _ h => h) (Or.inl ⟨by rfl, ?_⟩) ?_ ?_;rotate_left
             ·intro w'
              go_simp;with_reducible rfl
             rotate_left
             ·simp only [Act.put, Zs1, Zs2, Zs3, zg, zh]
              rfl
             refine zl (i := 25) (N := some 48) (v := ?_) (a' := ?_) #[true, true, true, true, true, true, true, true, true, true, true, true, true, true, true, true, true, true, true, true, true, true, true, true, true, true, false, false, false] rfl rfl (ze HT_.out (by kernel_rfl)) (fun _ _ _ h => h) (Or.inl ⟨by rfl, ?_⟩) ?_ ?_;rotate_left
             ·intro w'
              go_simp;with_reducible rfl
             rotate_left
             ·simp only [Act.put, Zs1, Zs2, Zs3, zg, zh]
              rfl
             refine one_ (i := 26) (N := some 49) #[true, true, true, true, true, true, true, true, true, true, true, true, true, true, true, true, true, true, true, true, true, true, true, true, true, true, true, false, false] rfl rfl (zb2 HT_.out (by kernel_rfl)) (by decide) (fun K hK => ?_);refine zce Try.func66 (by kernel_rfl) rfl #[.slice (some ad312) l0.length c0, .slice (some ad313) l1.length c1, .int .i64 x11_2, .int .i64 x10_2] (by rfl) rfl rfl Zmt ?_;with_reducible refine (zi.calls k2 _ _ l0 _ _ l1 x11_2 x10_2 false _ ?side1 ?side2 ?side3 ?side4 A19.out).mono ?_
             (case side1 => repeat (first | exact (Kd.zcf HR0.out (Zq0 HB)) | (with_reducible refine Kd.zc8 ?_ _) | (with_reducible refine Kd.zdl ?_ _) | (with_reducible refine Kd.zeb ?_)));(case side2 => exact HC0.out);(case side3 => repeat (first | exact (Kd.zcf HR1.out (Zq0 HB)) | (with_reducible refine Kd.zc8 ?_ _) | (with_reducible refine Kd.zdl ?_ _) | (with_reducible refine Kd.zeb ?_)));(case side4 => exact HC1.out);rintro e w26 ⟨rfl, hb⟩;refine ⟨_, rfl, ?_⟩;have n0_ := za.mk (Kd.zb9 (Zq10 HO_9) hb);have n1_ := za.mk (zk (Zq0 HB) hb);clear HO_9;clear HB;have HO_9 := n0_;have HB := n1_;clear n0_ n1_;(try clear hb);(try clear hb2);(try clear hk);(try clear hi);refine hK.out _ _ ⟨((HB.out.cell (World.block_lt_of_cell? w _ hw312_0)).trans hw312_0), ((HB.out.cell (World.block_lt_of_cell? w _ hw312_1)).trans hw312_1), ((HB.out.cell (World.block_lt_of_cell? w _ hw312_2)).trans hw312_2), ((HB.out.cell (World.block_lt_of_cell? w _ hw313_0)).trans hw313_0)⟩ (fun hHeld => ?_);clear hK K;refine zcd (a' := ?_) ?_ ?_;rotate_left
             ·show Act.put _ (some 49) _ = _
              simp only [Act.put, Zs1, Zs2, Zs3, zg, zh];rfl
             refine zl (i := 27) (N := some 50) (v := ?_) (a' := ?_) #[true, true, true, true, true, true, true, true, true, true, true, true, true, true, true, true, true, true, true, true, true, true, true, true, true, true, true, true, false] rfl rfl (ze HT_.out (by kernel_rfl)) (fun _ _ _ h => h) (Or.inl ⟨by rfl, ?_⟩) ?_ ?_;rotate_left
             ·intro w'
              go_simp;with_reducible rfl
             rotate_left
             ·simp only [Act.put, Zs1, Zs2, Zs3, zg, zh]
              rfl
             refine zl (i := 28) (N := some 51) (v := ?_) (a' := ?_) #[true, true, true, true, true, true, true, true, true, true, true, true, true, true, true, true, true, true, true, true, true, true, true, true, true, true, true, true, true] rfl rfl (ze HT_.out (by kernel_rfl)) (fun _ _ _ h => h) (Or.inl ⟨by rfl, ?_⟩) ?_ ?_;rotate_left
             ·intro w'
              go_simp;with_reducible rfl
             rotate_left
             ·simp only [Act.put, Zs1, Zs2, Zs3, zg, zh]
              rfl
             refine zcn (zb3 HT_.out (by kernel_rfl)) ?_
             try go_wp2
             go_roundg k2
             case measure => have := HK1.out; have := HK2.out; omega
             case rel => exact ⟨(x10_2), (wrap64 (x11_2 + 1)), Zrs, Zrs, H', ⟨by have := HK1.out; have := HK2.out; omega⟩, ⟨Zq10 HO_9⟩, ⟨Zq0 HB⟩⟩
          ·rw [if_neg c15] at H
           have c15b0 : decide (t316 < 0) = false := decide_eq_false c15;clear c15;have H' := za.mk H;clear H
           try go_wp2
           have n0_ := za.mk (Kd.zdd HO_9.out);have n1_ := za.mk (zbe HB.out);clear HO_9;clear HB;have HO_9 := n0_;have HB := n1_;clear n0_ n1_;have p312 : 0 ≤ (x11_2 : Int) := of_decide_eq_true Zas;have q312 : x11_2 < (l0.length : Int) := of_decide_eq_true Zas;obtain ⟨ad312, e312, hx312_0, hx312_1, hx312_2⟩ := zcc HR0.out x11_2 p312 q312;have hw312_2 := hx312_2;have hw312_1 := hx312_1;have hw312_0 := hx312_0
           cases e312
           replace hx312_0 := (HB.out.cell (World.block_lt_of_cell? w _ hx312_0)).trans hx312_0;replace hx312_1 := (HB.out.cell (World.block_lt_of_cell? w _ hx312_1)).trans hx312_1;replace hx312_2 := (HB.out.cell (World.block_lt_of_cell? w _ hx312_2)).trans hx312_2;replace p312 := eq_true p312;replace q312 := eq_true q312;have p313 : 0 ≤ (x11_2 : Int) := of_decide_eq_true Zas;have q313 : x11_2 < (l1.length : Int) := of_decide_eq_true Zas;obtain ⟨ad313, e313, hx313_0⟩ := Kd.zcb HR1.out x11_2 p313 q313;have hw313_0 := hx313_0
           cases e313
           replace hx313_0 := (HB.out.cell (World.block_lt_of_cell? w _ hx313_0)).trans hx313_0;replace p313 := eq_true p313;replace q313 := eq_true q313;refine zca (n := 29) (S := fun w' => w'.cell? (ad312.add ((x11_2).toNat * 3)) = some (.int .i64 ((zb l0 x11_2).f0)) ∧ w'.cell? ⟨(ad312.add ((x11_2).toNat * 3)).block, (ad312.add ((x11_2).toNat * 3)).off + 1, none⟩ = some (.int .i64 ((zb l0 x11_2).f1)) ∧ w'.cell? ⟨(ad312.add ((x11_2).toNat * 3)).block, (ad312.add ((x11_2).toNat * 3)).off + 2, none⟩ = some (.int .i64 ((zb l0 x11_2).f2)) ∧ w'.cell? (ad313.add (x11_2).toNat) = some (.int .i64 (rd l1 x11_2))) (ds := []) #[false, false, false, false, false, false, false, false, false, false, false, false, false, false, false, false, false, false, false, false, false, false, false, false, false, false, false, false, false] (by kernel_rfl) rfl rfl ⟨((HB.out.cell (World.block_lt_of_cell? w _ hw312_0)).trans hw312_0), ((HB.out.cell (World.block_lt_of_cell? w _ hw312_1)).trans hw312_1), ((HB.out.cell (World.block_lt_of_cell? w _ hw312_2)).trans hw312_2), ((HB.out.cell (World.block_lt_of_cell? w _ hw313_0)).trans hw313_0)⟩ (fun hHeld => ?_); refine zbu zw.tab7 zw.zhw (fun HT_ HW_ => ?_);generalize wr.drew = w27 at HO_9 HB hx312_0 hx312_1 hx312_2 hx313_0 hHeld ⊢;refine zl (i := 0) (N := some 23) (v := ?_) (a' := ?_) #[true, false, false, false, false, false, false, false, false, false, false, false, false, false, false, false, false, false, false, false, false, false, false, false, false, false, false, false, false] rfl rfl (ze HT_.out (by kernel_rfl)) (fun _ _ _ h => h) (Or.inl ⟨by rfl, ?_⟩) ?_ ?_;rotate_left
           ·intro w'
            go_simp;with_reducible rfl
           rotate_left
           ·simp only [Act.put, Zs1, Zs2, Zs3, zg, zh]
            rfl
           refine zl (i := 1) (N := some 24) (v := ?_) (a' := ?_) #[true, true, false, false, false, false, false, false, false, false, false, false, false, false, false, false, false, false, false, false, false, false, false, false, false, false, false, false, false] rfl rfl (ze HT_.out (by kernel_rfl)) (fun _ _ _ h => h) (Or.inl ⟨by rfl, ?_⟩) ?_ ?_;rotate_left
           ·intro w'
            go_simp;with_reducible rfl
           rotate_left
           ·simp only [Act.put, Zs1, Zs2, Zs3, zg, zh]
            rfl
           refine zl (i := 2) (N := some 25) (v := ?_) (a' := ?_) #[true, true, true, false, false, false, false, false, false, false, false, false, false, false, false, false, false, false, false, false, false, false, false, false, false, false, false, false, false] rfl rfl (ze HT_.out (by kernel_rfl)) (fun _ _ _ h => h) (Or.inl ⟨by rfl, ?_⟩) ?_ ?_;rotate_left
           ·intro w'
            go_simp;with_reducible rfl
           rotate_left
           ·simp only [Act.put, Zs1, Zs2, Zs3, zg, zh]
            rfl
           refine zl (i := 4) (N := some 27) (v := ?_) (a' := ?_) #[true, true, true, false, true, false, false, false, false, false, false, false, false, false, false, false, false, false, false, false, false, false, false, false, false, false, false, false, false] rfl rfl (ze HT_.out (by kernel_rfl)) (fun _ _ _ h => h) (Or.inl ⟨by rfl, ?_⟩) ?_ ?_;rotate_left
           ·intro w'
            go_simp;with_reducible rfl
           rotate_left
           ·simp only [Act.put, Zs1, Zs2, Zs3, zg, zh]
            rfl
           refine zl (i := 5) (N := some 28) (v := ?_) (a' := ?_) #[true, true, true, false, true, true, false, false, false, false, false, false, false, false, false, false, false, false, false, false, false, false, false, false, false, false, false, false, false] rfl rfl (ze HT_.out (by kernel_rfl)) (fun _ _ _ h => h) (Or.inl ⟨by rfl, ?_⟩) ?_ ?_;rotate_left
           ·intro w'
            go_simp;with_reducible rfl
           rotate_left
           ·simp only [Act.put, Zs1, Zs2, Zs3, zg, zh]
            rfl
           refine zl (i := 6) (N := some 29) (v := ?_) (a' := ?_) #[true, true, true, false, true, true, true, false, false, false, false, false, false, false, false, false, false, false, false, false, false, false, false, false, false, false, false, false, false] rfl rfl (ze HT_.out (by kernel_rfl)) (fun _ _ _ h => h) (Or.inl ⟨by rfl, ?_⟩) ?_ ?_;rotate_left
           ·intro w'
            go_simp;with_reducible rfl
           rotate_left
           ·simp only [Act.put, Zs1, Zs2, Zs3, zg, zh]
            rfl
           refine zl (i := 10) (N := some 33) (v := ?_) (a' := ?_) #[true, true, true, false, true, true, true, false, false, false, true, false, false, false, false, false, false, false, false, false, false, false, false, false, false, false, false, false, false] rfl rfl (ze HT_.out (by kernel_rfl)) (fun _ _ _ h => h) (Or.inl ⟨by rfl, ?_⟩) ?_ ?_;rotate_left
           ·intro w'
            go_simp;with_reducible rfl
           rotate_left
           ·simp only [Act.put, Zs1, Zs2, Zs3, zg, zh]
            rfl
           refine zby (i := 3) (N := some 26) (v := ?_) (a' := ?_) #[true, true, true, true, true, true, true, false, false, false, true, false, false, false, false, false, false, false, false, false, false, false, false, false, false, false, false, false, false] rfl rfl (z8 HT_.out HW_.out (by kernel_rfl)) (fun _ _ _ h => h) (Or.inl ⟨by rfl, ?_⟩) hHeld ?_ ?_;rotate_left
           ·rintro w' ⟨s0, s1, s2, s3⟩
            go_simp;with_reducible rfl
           rotate_left
           ·simp only [Act.put, Zs1, Zs2, Zs3, zg, zh]
            rfl
           refine zby (i := 7) (N := some 30) (v := ?_) (a' := ?_) #[true, true, true, true, true, true, true, true, false, false, true, false, false, false, false, false, false, false, false, false, false, false, false, false, false, false, false, false, false] rfl rfl (z8 HT_.out HW_.out (by kernel_rfl)) (fun _ _ _ h => h) (Or.inl ⟨by rfl, ?_⟩) hHeld ?_ ?_;rotate_left
           ·rintro w' ⟨s0, s1, s2, s3⟩
            go_simp;with_reducible rfl
           rotate_left
           ·simp only [Act.put, Zs1, Zs2, Zs3, zg, zh]
            rfl
           refine one_ (i := 8) (N := some 31) #[true, true, true, true, true, true, true, true, true, false, true, false, false, false, false, false, false, false, false, false, false, false, false, false, false, false, false, false, false] rfl rfl (zb2 HT_.out (by kernel_rfl)) (by decide) (fun K hK => ?_);refine zce Try.func64 (by kernel_rfl) rfl #[.agg #[.int .i64 ((zb l0 x11_2).f0), .int .i64 ((zb l0 x11_2).f1), .int .i64 ((zb l0 x11_2).f2)], .int .i64 (rd l1 x11_2)] (by rfl) rfl rfl Zmt ?_;with_reducible refine (zy.calls ((zb l0 x11_2).f0) ((zb l0 x11_2).f1) ((zb l0 x11_2).f2) (rd l1 x11_2) t314 t315 _ A12.out).mono ?_
           rintro e w28 ⟨rfl, hb⟩;refine ⟨_, rfl, ?_⟩;have n0_ := za.mk (Kd.zb9 (Zq10 HO_9) hb);have n1_ := za.mk (zk (Zq0 HB) hb);clear HO_9;clear HB;have HO_9 := n0_;have HB := n1_;clear n0_ n1_;(try clear hb);(try clear hb2);(try clear hk);(try clear hi);refine hK.out _ _ ⟨((HB.out.cell (World.block_lt_of_cell? w _ hw312_0)).trans hw312_0), ((HB.out.cell (World.block_lt_of_cell? w _ hw312_1)).trans hw312_1), ((HB.out.cell (World.block_lt_of_cell? w _ hw312_2)).trans hw312_2), ((HB.out.cell (World.block_lt_of_cell? w _ hw313_0)).trans hw313_0)⟩ (fun hHeld => ?_);clear hK K;refine zcd (a' := ?_) ?_ ?_;rotate_left
           ·show Act.put _ (some 31) _ = _
            simp only [Act.put, Zs1, Zs2, Zs3, zg, zh];rfl
           refine zl (i := 9) (N := some 32) (v := ?_) (a' := ?_) #[true, true, true, true, true, true, true, true, true, true, true, false, false, false, false, false, false, false, false, false, false, false, false, false, false, false, false, false, false] rfl rfl (ze HT_.out (by kernel_rfl)) (fun _ _ _ h => h) (Or.inl ⟨by rfl, ?_⟩) ?_ ?_;rotate_left
           ·intro w'
            go_simp;with_reducible rfl
           rotate_left
           ·simp only [Act.put, Zs1, Zs2, Zs3, zg, zh]
            rfl
           refine zl (i := 11) (N := some 34) (v := ?_) (a' := ?_) #[true, true, true, true, true, true, true, true, true, true, true, true, false, false, false, false, false, false, false, false, false, false, false, false, false, false, false, false, false] rfl rfl (ze HT_.out (by kernel_rfl)) (fun _ _ _ h => h) (Or.inl ⟨by rfl, ?_⟩) ?_ ?_;rotate_left
           ·intro w'
            go_simp;with_reducible rfl
           rotate_left
           ·simp only [Act.put, Zs1, Zs2, Zs3, zg, zh]
            rfl
           refine zl (i := 12) (N := some 35) (v := ?_) (a' := ?_) #[true, true, true, true, true, true, true, true, true, true, true, true, true, false, false, false, false, false, false, false, false, false, false, false, false, false, false, false, false] rfl rfl (ze HT_.out (by kernel_rfl)) (fun _ _ _ h => h) (Or.inl ⟨by rfl, ?_⟩) ?_ ?_;rotate_left
           ·intro w'
            go_simp;with_reducible rfl
           rotate_left
           ·simp only [Act.put, Zs1, Zs2, Zs3, zg, zh]
            rfl
           refine zl (i := 13) (N := some 36) (v := ?_) (a' := ?_) #[true, true, true, true, true, true, true, true, true, true, true, true, true, true, false, false, false, false, false, false, false, false, false, false, false, false, false, false, false] rfl rfl (ze HT_.out (by kernel_rfl)) (fun _ _ _ h => h) (Or.inl ⟨by rfl, ?_⟩) ?_ ?_;rotate_left
           ·intro w'
            go_simp;with_reducible rfl
           rotate_left
           ·simp only [Act.put, Zs1, Zs2, Zs3, zg, zh]
            rfl
           refine zl (i := 14) (N := some 37) (v := ?_) (a' := ?_) #[true, true, true, true, true, true, true, true, true, true, true, true, true, true, true, false, false, false, false, false, false, false, false, false, false, false, false, false, false] rfl rfl (ze HT_.out (by kernel_rfl)) (fun _ _ _ h => h) (Or.inl ⟨by rfl, ?_⟩) ?_ ?_;rotate_left
           ·intro w'
            go_simp;with_reducible rfl
           rotate_left
           ·simp only [Act.put, Zs1, Zs2, Zs3, zg, zh]
            rfl
           refine one_ (i := 15) (N := some 38) #[true, true, true, true, true, true, true, true, true, true, true, true, true, true, true, true, false, false, false, false, false, false, false, false, false, false, false, false, false] rfl rfl (zb2 HT_.out (by kernel_rfl)) (by decide) (fun K hK => ?_);refine zce Try.func65 (by kernel_rfl) rfl #[.slice Ao8 x9_1.length co8, .int .i64 x11_2] (by rfl) rfl rfl Zmt ?_;with_reducible refine (zb4.calls k2 _ _ x9_1 x11_2 t316 _ ?side1 ?side2 A14.out).mono ?_
           (case side1 => exact Zq5 ((Kd.zbm HO_9.out).2.2));(case side2 => exact (Kd.zbm HO_9.out).2.1);rintro e w' ⟨rfl, ⟨nd, rfl⟩⟩;refine ⟨_, rfl, ?_⟩;refine hK.out _ _ ⟨((HB.out.cell (World.block_lt_of_cell? w _ hw312_0)).trans hw312_0), ((HB.out.cell (World.block_lt_of_cell? w _ hw312_1)).trans hw312_1), ((HB.out.cell (World.block_lt_of_cell? w _ hw312_2)).trans hw312_2), ((HB.out.cell (World.block_lt_of_cell? w _ hw313_0)).trans hw313_0)⟩ (fun hHeld => ?_);clear hK K;refine zcd (a' := ?_) ?_ ?_;rotate_left
           ·show Act.put _ (some 38) _ = _
            simp only [Act.put, Zs1, Zs2, Zs3, zg, zh];rfl
           refine zl (i := 16) (N := some 39) (v := ?_) (a' := ?_) #[true, true, true, true, true, true, true, true, true, true, true, true, true, true, true, true, true, false, false, false, false, false, false, false, false, false, false, false, false] rfl rfl (ze HT_.out (by kernel_rfl)) (fun _ _ _ h => h) (Or.inl ⟨by rfl, ?_⟩) ?_ ?_;rotate_left
           ·intro w'
            go_simp;with_reducible rfl
           rotate_left
           ·simp only [Act.put, Zs1, Zs2, Zs3, zg, zh]
            rfl
           refine zl (i := 17) (N := some 40) (v := ?_) (a' := ?_) #[true, true, true, true, true, true, true, true, true, true, true, true, true, true, true, true, true, true, false, false, false, false, false, false, false, false, false, false, false] rfl rfl (ze HT_.out (by kernel_rfl)) (fun _ _ _ h => h) (Or.inl ⟨by rfl, ?_⟩) ?_ ?_;rotate_left
           ·intro w'
            go_simp;with_reducible rfl
           rotate_left
           ·simp only [Act.put, Zs1, Zs2, Zs3, zg, zh]
            rfl
           refine zl (i := 18) (N := some 41) (v := ?_) (a' := ?_) #[true, true, true, true, true, true, true, true, true, true, true, true, true, true, true, true, true, true, true, false, false, false, false, false, false, false, false, false, false] rfl rfl (ze HT_.out (by kernel_rfl)) (fun _ _ _ h => h) (Or.inl ⟨by rfl, ?_⟩) ?_ ?_;rotate_left
           ·intro w'
            go_simp;with_reducible rfl
           rotate_left
           ·simp only [Act.put, Zs1, Zs2, Zs3, zg, zh]
            rfl
           refine zl (i := 19) (N := some 42) (v := undef) (a' := ?_) #[true, true, true, true, true, true, true, true, true, true, true, true, true, true, true, true, true, true, true, true, false, false, false, false, false, false, false, false, false] rfl rfl (ze HT_.out (by kernel_rfl)) (fun _ _ _ h => h) (Or.inr ⟨by rfl, rfl⟩) ?_ ?_;rotate_left
           ·simp only [Act.put, Zs1, Zs2, Zs3, zg, zh]
            rfl
           refine zl (i := 20) (N := some 43) (v := undef) (a' := ?_) #[true, true, true, true, true, true, true, true, true, true, true, true, true, true, true, true, true, true, true, true, true, false, false, false, false, false, false, false, false] rfl rfl (ze HT_.out (by kernel_rfl)) (fun _ _ _ h => h) (Or.inr ⟨by rfl, rfl⟩) ?_ ?_;rotate_left
           ·simp only [Act.put, Zs1, Zs2, Zs3, zg, zh]
            rfl
           refine zl (i := 21) (N := some 44) (v := undef) (a' := ?_) #[true, true, true, true, true, true, true, true, true, true, true, true, true, true, true, true, true, true, true, true, true, true, false, false, false, false, false, false, false] rfl rfl (ze HT_.out (by kernel_rfl)) (fun _ _ _ h => h) (Or.inr ⟨by rfl, rfl⟩) ?_ ?_;rotate_left
           ·simp only [Act.put, Zs1, Zs2, Zs3, zg, zh]
            rfl
           refine zl (i := 22) (N := some 45) (v := undef) (a' := ?_) #[true, true, true, true, true, true, true, true, true, true, true, true, true, true, true, true, true, true, true, true, true, true, true, false, false, false, false, false, false] rfl rfl (ze HT_.out (by kernel_rfl)) (fun _ _ _ h => h) (Or.inr ⟨by rfl, rfl⟩) ?_ ?_;rotate_left
           ·simp only [Act.put, Zs1, Zs2, Zs3, zg, zh]
            rfl
           refine zl (i := 23) (N := some 46) (v := undef) (a' := ?_) #[true, true, true, true, true, true, true, true, true, true, true, true, true, true, true, true, true, true, true, true, true, true, true, true, false, false, false, false, false] rfl rfl (ze HT_.out (by kernel_rfl)) (fun _ _ _ h => h) (Or.inr ⟨by rfl, rfl⟩) ?_ ?_;rotate_left
           ·simp only [Act.put, Zs1, Zs2, Zs3, zg, zh]
            rfl
           refine zl (i := 24) (N := some 47) (v := undef) (a' := ?_) #[true, true, true, true, true, true, true, true, true, true, true, true, true, true, true, true, true, true, true, true, true, true, true, true, true, false, false, false, false] rfl rfl (ze HT_.out (by kernel_rfl)) (fun _ _ _ h => h) (Or.inr ⟨by rfl, rfl⟩) ?_ ?_;rotate_left
           ·simp only [Act.put, Zs1, Zs2, Zs3, zg, zh]
            rfl
           refine zl (i := 25) (N := some 48) (v := undef) (a' := ?_) #[true, true, true, true, true, true, true, true, true, true, true, true, true, true, true, true, true, true, true, true, true, true, true, true, true, true, false, false, false] rfl rfl (ze HT_.out (by kernel_rfl)) (fun _ _ _ h => h) (Or.inr ⟨by rfl, rfl⟩) ?_ ?_;rotate_left
           ·simp only [Act.put, Zs1, Zs2, Zs3, zg, zh]
            rfl
           refine zl (i := 26) (N := some 49) (v := undef) (a' := ?_) #[true, true, true, true, true, true, true, true, true, true, true, true, true, true, true, true, true, true, true, true, true, true, true, true, true, true, true, false, false] rfl rfl (ze HT_.out (by kernel_rfl)) (fun _ _ _ h => h) (Or.inr ⟨by rfl, rfl⟩) ?_ ?_;rotate_left
           ·simp only [Act.put, Zs1, Zs2, Zs3, zg, zh]
            rfl
           refine zl (i := 27) (N := some 50) (v := undef) (a' := ?_) #[true, true, true, true, true, true, true, true, true, true, true, true, true, true, true, true, true, true, true, true, true, true, true, true, true, true, true, true, false] rfl rfl (ze HT_.out (by kernel_rfl)) (fun _ _ _ h => h) (Or.inr ⟨by rfl, rfl⟩) ?_ ?_;rotate_left
           ·simp only [Act.put, Zs1, Zs2, Zs3, zg, zh]
            rfl
           refine zl (i := 28) (N := some 51) (v := ?_) (a' := ?_) #[true, true, true, true, true, true, true, true, true, true, true, true, true, true, true, true, true, true, true, true, true, true, true, true, true, true, true, true, true] rfl rfl (ze HT_.out (by kernel_rfl)) (fun _ _ _ h => h) (Or.inl ⟨by rfl, ?_⟩) ?_ ?_;rotate_left
           ·intro w'
            go_simp;with_reducible rfl
           rotate_left
           ·simp only [Act.put, Zs1, Zs2, Zs3, zg, zh]
            rfl
           refine zcn (zb3 HT_.out (by kernel_rfl)) ?_
           try go_wp2
           go_roundg k2
           case measure => have := HK1.out; have := HK2.out; omega
           case rel => exact ⟨(x10_2), (wrap64 (x11_2 + 1)), Zrs, Zrs, H', ⟨by have := HK1.out; have := HK2.out; omega⟩, ⟨Zq10 HO_9⟩, ⟨Zq0 HB⟩⟩
         ·rw [if_neg c13] at H
          have c13b0 : decide (t314 ≤ a2) = false := decide_eq_false c13;clear c13;have H' := za.mk H;clear H
          try go_wp2
          have n0_ := za.mk (Kd.zdd HO_9.out);have n1_ := za.mk (zbe HB.out);clear HO_9;clear HB;have HO_9 := n0_;have HB := n1_;clear n0_ n1_;have p312 : 0 ≤ (x11_2 : Int) := of_decide_eq_true Zas;have q312 : x11_2 < (l0.length : Int) := of_decide_eq_true Zas;obtain ⟨ad312, e312, hx312_0, hx312_1, hx312_2⟩ := zcc HR0.out x11_2 p312 q312;have hw312_2 := hx312_2;have hw312_1 := hx312_1;have hw312_0 := hx312_0
          cases e312
          replace hx312_0 := (HB.out.cell (World.block_lt_of_cell? w _ hx312_0)).trans hx312_0;replace hx312_1 := (HB.out.cell (World.block_lt_of_cell? w _ hx312_1)).trans hx312_1;replace hx312_2 := (HB.out.cell (World.block_lt_of_cell? w _ hx312_2)).trans hx312_2;replace p312 := eq_true p312;replace q312 := eq_true q312;have p313 : 0 ≤ (x11_2 : Int) := of_decide_eq_true Zas;have q313 : x11_2 < (l1.length : Int) := of_decide_eq_true Zas;obtain ⟨ad313, e313, hx313_0⟩ := Kd.zcb HR1.out x11_2 p313 q313;have hw313_0 := hx313_0
          cases e313
          replace hx313_0 := (HB.out.cell (World.block_lt_of_cell? w _ hx313_0)).trans hx313_0;replace p313 := eq_true p313;replace q313 := eq_true q313;refine zca (n := 29) (S := fun w' => w'.cell? (ad312.add ((x11_2).toNat * 3)) = some (.int .i64 ((zb l0 x11_2).f0)) ∧ w'.cell? ⟨(ad312.add ((x11_2).toNat * 3)).block, (ad312.add ((x11_2).toNat * 3)).off + 1, none⟩ = some (.int .i64 ((zb l0 x11_2).f1)) ∧ w'.cell? ⟨(ad312.add ((x11_2).toNat * 3)).block, (ad312.add ((x11_2).toNat * 3)).off + 2, none⟩ = some (.int .i64 ((zb l0 x11_2).f2)) ∧ w'.cell? (ad313.add (x11_2).toNat) = some (.int .i64 (rd l1 x11_2))) (ds := []) #[false, false, false, false, false, false, false, false, false, false, false, false, false, false, false, false, false, false, false, false, false, false, false, false, false, false, false, false, false] (by kernel_rfl) rfl rfl ⟨((HB.out.cell (World.block_lt_of_cell? w _ hw312_0)).trans hw312_0), ((HB.out.cell (World.block_lt_of_cell? w _ hw312_1)).trans hw312_1), ((HB.out.cell (World.block_lt_of_cell? w _ hw312_2)).trans hw312_2), ((HB.out.cell (World.block_lt_of_cell? w _ hw313_0)).trans hw313_0)⟩ (fun hHeld => ?_); refine zbu zw.tab7 zw.zhw (fun HT_ HW_ => ?_);generalize wr.drew = w29 at HO_9 HB hx312_0 hx312_1 hx312_2 hx313_0 hHeld ⊢;refine zl (i := 0) (N := some 23) (v := ?_) (a' := ?_) #[true, false, false, false, false, false, false, false, false, false, false, false, false, false, false, false, false, false, false, false, false, false, false, false, false, false, false, false, false] rfl rfl (ze HT_.out (by kernel_rfl)) (fun _ _ _ h => h) (Or.inl ⟨by rfl, ?_⟩) ?_ ?_;rotate_left
          ·intro w'
           go_simp;with_reducible rfl
          rotate_left
          ·simp only [Act.put, Zs1, Zs2, Zs3, zg, zh]
           rfl
          refine zl (i := 1) (N := some 24) (v := ?_) (a' := ?_) #[true, true, false, false, false, false, false, false, false, false, false, false, false, false, false, false, false, false, false, false, false, false, false, false, false, false, false, false, false] rfl rfl (ze HT_.out (by kernel_rfl)) (fun _ _ _ h => h) (Or.inl ⟨by rfl, ?_⟩) ?_ ?_;rotate_left
          ·intro w'
           go_simp;with_reducible rfl
          rotate_left
          ·simp only [Act.put, Zs1, Zs2, Zs3, zg, zh]
           rfl
          refine zl (i := 2) (N := some 25) (v := ?_) (a' := ?_) #[true, true, true, false, false, false, false, false, false, false, false, false, false, false, false, false, false, false, false, false, false, false, false, false, false, false, false, false, false] rfl rfl (ze HT_.out (by kernel_rfl)) (fun _ _ _ h => h) (Or.inl ⟨by rfl, ?_⟩) ?_ ?_;rotate_left
          ·intro w'
           go_simp;with_reducible rfl
          rotate_left
          ·simp only [Act.put, Zs1, Zs2, Zs3, zg, zh]
           rfl
          refine zl (i := 4) (N := some 27) (v := ?_) (a' := ?_) #[true, true, true, false, true, false, false, false, false, false, false, false, false, false, false, false, false, false, false, false, false, false, false, false, false, false, false, false, false] rfl rfl (ze HT_.out (by kernel_rfl)) (fun _ _ _ h => h) (Or.inl ⟨by rfl, ?_⟩) ?_ ?_;rotate_left
          ·intro w'
           go_simp;with_reducible rfl
          rotate_left
          ·simp only [Act.put, Zs1, Zs2, Zs3, zg, zh]
           rfl
          refine zl (i := 5) (N := some 28) (v := ?_) (a' := ?_) #[true, true, true, false, true, true, false, false, false, false, false, false, false, false, false, false, false, false, false, false, false, false, false, false, false, false, false, false, false] rfl rfl (ze HT_.out (by kernel_rfl)) (fun _ _ _ h => h) (Or.inl ⟨by rfl, ?_⟩) ?_ ?_;rotate_left
          ·intro w'
           go_simp;with_reducible rfl
          rotate_left
          ·simp only [Act.put, Zs1, Zs2, Zs3, zg, zh]
           rfl
          refine zl (i := 6) (N := some 29) (v := ?_) (a' := ?_) #[true, true, true, false, true, true, true, false, false, false, false, false, false, false, false, false, false, false, false, false, false, false, false, false, false, false, false, false, false] rfl rfl (ze HT_.out (by kernel_rfl)) (fun _ _ _ h => h) (Or.inl ⟨by rfl, ?_⟩) ?_ ?_;rotate_left
          ·intro w'
           go_simp;with_reducible rfl
          rotate_left
          ·simp only [Act.put, Zs1, Zs2, Zs3, zg, zh]
           rfl
          refine zl (i := 10) (N := some 33) (v := ?_) (a' := ?_) #[true, true, true, false, true, true, true, false, false, false, true, false, false, false, false, false, false, false, false, false, false, false, false, false, false, false, false, false, false] rfl rfl (ze HT_.out (by kernel_rfl)) (fun _ _ _ h => h) (Or.inl ⟨by rfl, ?_⟩) ?_ ?_;rotate_left
          ·intro w'
           go_simp;with_reducible rfl
          rotate_left
          ·simp only [Act.put, Zs1, Zs2, Zs3, zg, zh]
           rfl
          refine zby (i := 3) (N := some 26) (v := ?_) (a' := ?_) #[true, true, true, true, true, true, true, false, false, false, true, false, false, false, false, false, false, false, false, false, false, false, false, false, false, false, false, false, false] rfl rfl (z8 HT_.out HW_.out (by kernel_rfl)) (fun _ _ _ h => h) (Or.inl ⟨by rfl, ?_⟩) hHeld ?_ ?_;rotate_left
          ·rintro w' ⟨s0, s1, s2, s3⟩
           go_simp;with_reducible rfl
          rotate_left
          ·simp only [Act.put, Zs1, Zs2, Zs3, zg, zh]
           rfl
          refine zby (i := 7) (N := some 30) (v := ?_) (a' := ?_) #[true, true, true, true, true, true, true, true, false, false, true, false, false, false, false, false, false, false, false, false, false, false, false, false, false, false, false, false, false] rfl rfl (z8 HT_.out HW_.out (by kernel_rfl)) (fun _ _ _ h => h) (Or.inl ⟨by rfl, ?_⟩) hHeld ?_ ?_;rotate_left
          ·rintro w' ⟨s0, s1, s2, s3⟩
           go_simp;with_reducible rfl
          rotate_left
          ·simp only [Act.put, Zs1, Zs2, Zs3, zg, zh]
           rfl
          refine one_ (i := 8) (N := some 31) #[true, true, true, true, true, true, true, true, true, false, true, false, false, false, false, false, false, false, false, false, false, false, false, false, false, false, false, false, false] rfl rfl (zb2 HT_.out (by kernel_rfl)) (by decide) (fun K hK => ?_);refine zce Try.func64 (by kernel_rfl) rfl #[.agg #[.int .i64 ((zb l0 x11_2).f0), .int .i64 ((zb l0 x11_2).f1), .int .i64 ((zb l0 x11_2).f2)], .int .i64 (rd l1 x11_2)] (by rfl) rfl rfl Zmt ?_;with_reducible refine (zy.calls ((zb l0 x11_2).f0) ((zb l0 x11_2).f1) ((zb l0 x11_2).f2) (rd l1 x11_2) t314 t315 _ A12.out).mono ?_
          rintro e w30 ⟨rfl, hb⟩;refine ⟨_, rfl, ?_⟩;have n0_ := za.mk (Kd.zb9 (Zq10 HO_9) hb);have n1_ := za.mk (zk (Zq0 HB) hb);clear HO_9;clear HB;have HO_9 := n0_;have HB := n1_;clear n0_ n1_;(try clear hb);(try clear hb2);(try clear hk);(try clear hi);refine hK.out _ _ ⟨((HB.out.cell (World.block_lt_of_cell? w _ hw312_0)).trans hw312_0), ((HB.out.cell (World.block_lt_of_cell? w _ hw312_1)).trans hw312_1), ((HB.out.cell (World.block_lt_of_cell? w _ hw312_2)).trans hw312_2), ((HB.out.cell (World.block_lt_of_cell? w _ hw313_0)).trans hw313_0)⟩ (fun hHeld => ?_);clear hK K;refine zcd (a' := ?_) ?_ ?_;rotate_left
          ·show Act.put _ (some 31) _ = _
           simp only [Act.put, Zs1, Zs2, Zs3, zg, zh];rfl
          refine zl (i := 9) (N := some 32) (v := ?_) (a' := ?_) #[true, true, true, true, true, true, true, true, true, true, true, false, false, false, false, false, false, false, false, false, false, false, false, false, false, false, false, false, false] rfl rfl (ze HT_.out (by kernel_rfl)) (fun _ _ _ h => h) (Or.inl ⟨by rfl, ?_⟩) ?_ ?_;rotate_left
          ·intro w'
           go_simp;with_reducible rfl
          rotate_left
          ·simp only [Act.put, Zs1, Zs2, Zs3, zg, zh]
           rfl
          refine zl (i := 11) (N := some 34) (v := ?_) (a' := ?_) #[true, true, true, true, true, true, true, true, true, true, true, true, false, false, false, false, false, false, false, false, false, false, false, false, false, false, false, false, false] rfl rfl (ze HT_.out (by kernel_rfl)) (fun _ _ _ h => h) (Or.inl ⟨by rfl, ?_⟩) ?_ ?_;rotate_left
          ·intro w'
           go_simp;with_reducible rfl
          rotate_left
          ·simp only [Act.put, Zs1, Zs2, Zs3, zg, zh]
           rfl
          refine zl (i := 12) (N := some 35) (v := ?_) (a' := ?_) #[true, true, true, true, true, true, true, true, true, true, true, true, true, false, false, false, false, false, false, false, false, false, false, false, false, false, false, false, false] rfl rfl (ze HT_.out (by kernel_rfl)) (fun _ _ _ h => h) (Or.inl ⟨by rfl, ?_⟩) ?_ ?_;rotate_left
          ·intro w'
           go_simp;with_reducible rfl
          rotate_left
          ·simp only [Act.put, Zs1, Zs2, Zs3, zg, zh]
           rfl
          refine zl (i := 13) (N := some 36) (v := undef) (a' := ?_) #[true, true, true, true, true, true, true, true, true, true, true, true, true, true, false, false, false, false, false, false, false, false, false, false, false, false, false, false, false] rfl rfl (ze HT_.out (by kernel_rfl)) (fun _ _ _ h => h) (Or.inr ⟨by rfl, rfl⟩) ?_ ?_;rotate_left
          ·simp only [Act.put, Zs1, Zs2, Zs3, zg, zh]
           rfl
          refine zl (i := 14) (N := some 37) (v := undef) (a' := ?_) #[true, true, true, true, true, true, true, true, true, true, true, true, true, true, true, false, false, false, false, false, false, false, false, false, false, false, false, false, false] rfl rfl (ze HT_.out (by kernel_rfl)) (fun _ _ _ h => h) (Or.inr ⟨by rfl, rfl⟩) ?_ ?_;rotate_left
          ·simp only [Act.put, Zs1, Zs2, Zs3, zg, zh]
           rfl
          refine zl (i := 15) (N := some 38) (v := undef) (a' := ?_) #[true, true, true, true, true, true, true, true, true, true, true, true, true, true, true, true, false, false, false, false, false, false, false, false, false, false, false, false, false] rfl rfl (ze HT_.out (by kernel_rfl)) (fun _ _ _ h => h) (Or.inr ⟨by rfl, rfl⟩) ?_ ?_;rotate_left
          ·simp only [Act.put, Zs1, Zs2, Zs3, zg, zh]
           rfl
          refine zl (i := 16) (N := some 39) (v := undef) (a' := ?_) #[true, true, true, true, true, true, true, true, true, true, true, true, true, true, true, true, true, false, false, false, false, false, false, false, false, false, false, false, false] rfl rfl (ze HT_.out (by kernel_rfl)) (fun _ _ _ h => h) (Or.inr ⟨by rfl, rfl⟩) ?_ ?_;rotate_left
          ·simp only [Act.put, Zs1, Zs2, Zs3, zg, zh]
           rfl
          refine zl (i := 17) (N := some 40) (v := ?_) (a' := ?_) #[true, true, true, true, true, true, true, true, true, true, true, true, true, true, true, true, true, true, false, false, false, false, false, false, false, false, false, false, false] rfl rfl (ze HT_.out (by kernel_rfl)) (fun _ _ _ h => h) (Or.inl ⟨by rfl, ?_⟩) ?_ ?_;rotate_left
          ·intro w'
           go_simp;with_reducible rfl
          rotate_left
          ·simp only [Act.put, Zs1, Zs2, Zs3, zg, zh]
           rfl
          refine zl (i := 18) (N := some 41) (v := ?_) (a' := ?_) #[true, true, true, true, true, true, true, true, true, true, true, true, true, true, true, true, true, true, true, false, false, false, false, false, false, false, false, false, false] rfl rfl (ze HT_.out (by kernel_rfl)) (fun _ _ _ h => h) (Or.inl ⟨by rfl, ?_⟩) ?_ ?_;rotate_left
          ·intro w'
           go_simp;with_reducible rfl
          rotate_left
          ·simp only [Act.put, Zs1, Zs2, Zs3, zg, zh]
           rfl
          refine zl (i := 19) (N := some 42) (v := undef) (a' := ?_) #[true, true, true, true, true, true, true, true, true, true, true, true, true, true, true, true, true, true, true, true, false, false, false, false, false, false, false, false, false] rfl rfl (ze HT_.out (by kernel_rfl)) (fun _ _ _ h => h) (Or.inr ⟨by rfl, rfl⟩) ?_ ?_;rotate_left
          ·simp only [Act.put, Zs1, Zs2, Zs3, zg, zh]
           rfl
          refine zl (i := 20) (N := some 43) (v := undef) (a' := ?_) #[true, true, true, true, true, true, true, true, true, true, true, true, true, true, true, true, true, true, true, true, true, false, false, false, false, false, false, false, false] rfl rfl (ze HT_.out (by kernel_rfl)) (fun _ _ _ h => h) (Or.inr ⟨by rfl, rfl⟩) ?_ ?_;rotate_left
          ·simp only [Act.put, Zs1, Zs2, Zs3, zg, zh]
           rfl
          refine zl (i := 21) (N := some 44) (v := undef) (a' := ?_) #[true, true, true, true, true, true, true, true, true, true, true, true, true, true, true, true, true, true, true, true, true, true, false, false, false, false, false, false, false] rfl rfl (ze HT_.out (by kernel_rfl)) (fun _ _ _ h => h) (Or.inr ⟨by rfl, rfl⟩) ?_ ?_;rotate_left
          ·simp only [Act.put, Zs1, Zs2, Zs3, zg, zh]
           rfl
          refine zl (i := 22) (N := some 45) (v := undef) (a' := ?_) #[true, true, true, true, true, true, true, true, true, true, true, true, true, true, true, true, true, true, true, true, true, true, true, false, false, false, false, false, false] rfl rfl (ze HT_.out (by kernel_rfl)) (fun _ _ _ h => h) (Or.inr ⟨by rfl, rfl⟩) ?_ ?_;rotate_left
          ·simp only [Act.put, Zs1, Zs2, Zs3, zg, zh]
           rfl
          refine zl (i := 23) (N := some 46) (v := undef) (a' := ?_) #[true, true, true, true, true, true, true, true, true, true, true, true, true, true, true, true, true, true, true, true, true, true, true, true, false, false, false, false, false] rfl rfl (ze HT_.out (by kernel_rfl)) (fun _ _ _ h => h) (Or.inr ⟨by rfl, rfl⟩) ?_ ?_;rotate_left
          ·simp only [Act.put, Zs1, Zs2, Zs3, zg, zh]
           rfl
          refine zl (i := 24) (N := some 47) (v := undef) (a' := ?_) #[true, true, true, true, true, true, true, true, true, true, true, true, true, true, true, true, true, true, true, true, true, true, true, true, true, false, false, false, false] rfl rfl (ze HT_.out (by kernel_rfl)) (fun _ _ _ h => h) (Or.inr ⟨by rfl, rfl⟩) ?_ ?_;rotate_left
          ·simp only [Act.put, Zs1, Zs2, Zs3, zg, zh]
           rfl
          refine zl (i := 25) (N := some 48) (v := undef) (a' := ?_) #[true, true, true, true, true, true, true, true, true, true, true, true, true, true, true, true, true, true, true, true, true, true, true, true, true, true, false, false, false] rfl rfl (ze HT_.out (by kernel_rfl)) (fun _ _ _ h => h) (Or.inr ⟨by rfl, rfl⟩) ?_ ?_;rotate_left
          ·simp only [Act.put, Zs1, Zs2, Zs3, zg, zh]
           rfl
          refine zl (i := 26) (N := some 49) (v := undef) (a' := ?_) #[true, true, true, true, true, true, true, true, true, true, true, true, true, true, true, true, true, true, true, true, true, true, true, true, true, true, true, false, false] rfl rfl (ze HT_.out (by kernel_rfl)) (fun _ _ _ h => h) (Or.inr ⟨by rfl, rfl⟩) ?_ ?_;rotate_left
          ·simp only [Act.put, Zs1, Zs2, Zs3, zg, zh]
           rfl
          refine zl (i := 27) (N := some 50) (v := undef) (a' := ?_) #[true, true, true, true, true, true, true, true, true, true, true, true, true, true, true, true, true, true, true, true, true, true, true, true, true, true, true, true, false] rfl rfl (ze HT_.out (by kernel_rfl)) (fun _ _ _ h => h) (Or.inr ⟨by rfl, rfl⟩) ?_ ?_;rotate_left
          ·simp only [Act.put, Zs1, Zs2, Zs3, zg, zh]
           rfl
          refine zl (i := 28) (N := some 51) (v := ?_) (a' := ?_) #[true, true, true, true, true, true, true, true, true, true, true, true, true, true, true, true, true, true, true, true, true, true, true, true, true, true, true, true, true] rfl rfl (ze HT_.out (by kernel_rfl)) (fun _ _ _ h => h) (Or.inl ⟨by rfl, ?_⟩) ?_ ?_;rotate_left
          ·intro w'
           go_simp;with_reducible rfl
          rotate_left
          ·simp only [Act.put, Zs1, Zs2, Zs3, zg, zh]
           rfl
          refine zcn (zb3 HT_.out (by kernel_rfl)) ?_
          try go_wp2
          go_roundg k2
          case measure => have := HK1.out; have := HK2.out; omega
          case rel => exact ⟨(x10_2), (wrap64 (x11_2 + 1)), Zrs, Zrs, H', ⟨by have := HK1.out; have := HK2.out; omega⟩, ⟨Zq10 HO_9⟩, ⟨Zq0 HB⟩⟩
        ·rw [if_neg c11] at H
         exact absurd H (by simp)
       ·rw [if_neg c10] at H
        exact absurd H (by simp)
      ·rw [if_neg c9] at H
       have c9b0 : decide (x11_2 < (l0.length : Int)) = false := decide_eq_false c9;clear c9;by_cases c31 : x10_2 < 0
       ·rw [if_pos c31] at H
        have c31b0 : decide (x10_2 < 0) = true := decide_eq_true c31;clear c31;obtain rfl := Option.some.inj H;go_wp2;go_ret;exact ⟨_, by first | rfl | (simp [zn, zo] <;> rfl) | (simp [*, zn, zo] <;> rfl), Zq10 HO_9, Zq0 HB⟩
       ·rw [if_neg c31] at H
        have c31b0 : decide (x10_2 < 0) = false := decide_eq_false c31;clear c31;by_cases c32 : x9_1.length < 17592186044416
        ·rw [if_pos c32] at H
         have LMc32 := za.mk c32;clear c32;obtain ⟨y309, hy309⟩ : ∃ y_ : List Int, y_ = (x9_1 ++ [x10_2]) := ⟨_, rfl⟩;replace H : (zw.l0 k2 l0 l1 a2 a3 y309) = some r := by first | (rw [hy309]; with_reducible exact H) | (have H2_ := (Option.bind_some _ _).symm.trans H; rw [hy309]; with_reducible exact H2_) | (have H2_ := (Option.bind_some _ _).symm.trans H; with_reducible exact H2_) | with_reducible exact H | (rw [hy309]; exact H) | exact H
         have Ny309 := za.mk hy309;clear hy309;have H' := za.mk H;clear H;go_wp2_with (first | ((with_reducible refine zd0 (b := .append) (xs := #[.tmp 56, .tmp 58]) rfl ?_); at_builtin; refine Kd.zg0 (Kd.int .i64) (w0 := w) w.heap.size rfl (.tmp 56) (.tmp 58) 33 3 (.int .i64 0) 8 rfl Try.underlying33 info3 rfl (by decide) (by omega) (.slice Ao8 x9_1.length co8) x9_1 x10_2 [.int .i64 x10_2] (fun _ => True) (fun _ => False) rfl rfl ?aP (fun _ hk => hk.elim) ?aF ?aO ?aB ?aS ?aL ?_; (case aP => exact rfl); (case aB => exact (Zq0 HB)); (case aF => exact (fun _ _ => trivial)); (case aO => exact (Zq10 HO_9)); (case aS => exact (zu (Zq0 HB))); (case aL => have := LMc32.out; omega); intro v310 w33 ho hb hg hat; rw [← Ny309.out] at ho; have n0_ := za.mk (hb); have n1_ := za.mk (ho); clear HB; clear HO_9; have HB := n0_; have HO311 := n1_; clear n0_ n1_; clear ho hb hg hat));go_roundg k2
         case measure => have := HK1.out; have := HK2.out; omega
         case rel => exact ⟨(y309), H', ⟨by have := HK1.out; have := HK2.out; omega⟩, ⟨Zq10 HO311⟩, ⟨Zq0 HB⟩⟩
        ·rw [if_neg c32] at H
         exact absurd H (by simp)
   ·rw [if_neg c7] at H
    have c7b0 : decide ((x9_1.length : Int) < a3) = false := decide_eq_false c7;clear c7;obtain rfl := Option.some.inj H;obtain ⟨Ao34, co34, eo34⟩ := Kd.zch HO_9.out;subst eo34;go_wp2;go_ret;exact ⟨_, by first | rfl | (simp [zn, zo] <;> rfl) | (simp [*, zn, zo] <;> rfl), Zq10 HO_9, Zq0 HB⟩
theorem Zq11 {X0 P : Prop} (x0 : za X0) (h : X0 → P := by intro x0; (with_reducible repeat (first | apply Kd.zdn | apply Kd.zdo | apply Kd.zdu)); exact x0) : P := h x0.out
mutual
def zq.j0 : Nat → List (S35) → Int → List (List Int) → Bool → Option ((List (List Int)))
 | 0, _, _, _, _ => none
 | k + 1, x0, x1, x5, x19 => if x19 = true then (some x5) else (zq.l0 k x0 x1 x5 0)
def zq.l0 : Nat → List (S35) → Int → List (List Int) → Int → Option ((List (List Int)))
 | 0, _, _, _, _ => none
 | k + 1, x0, x1, x5, x6 => if x6 < (x0.length : Int) then (if 0 ≤ x6 then (if ((zb x0 x6).f1) = ((zb x0 x6).f2) then (zq.l0 k x0 x1 x5 (wrap64 (x6 + 1))) else (some x5)) else (none)) else (if 0 ≤ (x0.length : Int) then (if ((x0.length : Int) : Int).toNat ≤ 35184372088832 then (zq.l1 k x0 x1 x5 (List.replicate ((x0.length : Int) : Int).toNat 0) 0) else (none)) else (none))
def zq.l1 : Nat → List (S35) → Int → List (List Int) → List Int → Int → Option ((List (List Int)))
 | 0, _, _, _, _, _ => none
 | k + 1, x0, x1, x5, x7, x8 => if x8 < 120 then ((zw.f k x0 x7 x8 x1).bind fun t328 => (zq.l2 k x0 x1 x5 x7 x8 t328 0)) else (some x5)
def zq.l2 : Nat → List (S35) → Int → List (List Int) → List Int → Int → List Int → Int → Option ((List (List Int)))
 | 0, _, _, _, _, _, _, _ => none
 | k + 1, x0, x1, x5, x7, x8, x9, x10 => if x10 < (x9.length : Int) then (if 0 ≤ x10 then (if 0 ≤ (rd x9 x10) then (if (rd x9 x10) < (x7.length : Int) then (zq.l2 k x0 x1 x5 (x7.set ((rd x9 x10) : Int).toNat (wrap64 ((rd x7 (rd x9 x10)) + 1))) x8 x9 (wrap64 (x10 + 1))) else (none)) else (none)) else (none)) else (if x5.length < 5864062014805 then (zq.l1 k x0 x1 (x5 ++ [x9]) x7 (wrap64 (x8 + 1))) else (none))
end
def zq.f (k : Nat) (l0 : List (S35)) (a1 : Int) : Option ((List (List Int))) := (some (([] : List (List Int)) : List (List Int))).bind fun y318 => ((zbx.f k l0).bind fun t321 => (if t321 = true then ((zb8.f a1 1 5).bind fun t322 => (zq.j0 k l0 a1 y318 (!t322))) else (zq.j0 k l0 a1 y318 true)))
def zq.T7 : Bool × List (List Nat × List Nat) := (true, [([], []), ([], []), ([0, 1], [0, 1]), ([2], [2]), ([3], [3]), ([], []), ([], []), ([5, 6], [5, 6]), ([7], [7]), ([8], [8]), ([4, 9], [4, 9])])
def zq.B7 : List Nat := [0, 0, 3, 7, 15, 0, 0, 96, 224, 480, 1023]
theorem zq.tab7 : rtab .any (opsOf Try.f12 7) = zq.T7 := by kernel_rfl
theorem zq.zhw : zci zq.T7.2 zq.B7 = true := by kernel_rfl
def zq.T17 : Bool × List (List Nat × List Nat) := (true, [([], []), ([], []), ([], []), ([1, 2], [1, 2]), ([3], [3]), ([], []), ([], []), ([], []), ([6, 7], [6, 7]), ([8], [8]), ([5, 9], [5, 9]), ([10], [10]), ([11], [11]), ([0, 4, 0, 1, 2, 3, 4, 5, 6, 7, 8, 9, 10, 11, 12], [0, 4]), ([13, 12, 0, 1, 2, 3, 4, 5, 6, 7, 8, 9, 10, 11, 12], [12, 13])])
def zq.B17 : List Nat := [0, 0, 0, 6, 14, 0, 0, 0, 192, 448, 992, 2016, 4064, 8191, 16383]
theorem zq.tab17 : rtab .any (opsOf Try.f12 17) = zq.T17 := by kernel_rfl
theorem zq.bits17 : zci zq.T17.2 zq.B17 = true := by kernel_rfl
set_option maxHeartbeats 8000000 in
theorem zq.calls (k : Nat) (A0 : Option Addr) (c0 : Nat) (l0 : List (S35)) (a1 : Int) (r : List (List Int)) (w : World) (hr0 : Kd.C k35 w A0 l0.length l0) (hc0 : l0.length ≤ c0) (h : zq.f k l0 a1 = some r) :
  Calls Try.prog 12 #[.slice A0 l0.length c0, .int .i64 a1] w fun e w' => ∃ v0_ : Value, e = .returned (v0_) ∧ Kd.S (Kd.slice 3 (Kd.int .i64)) 33 w' w.heap.size (fun _ => True) v0_ r ∧ Below w.heap.size w w' := by
 have HR0 := za.mk hr0
 have HC0 := za.mk hc0
 clear hr0 hc0
 have HB := za.mk (Below.refl w.heap.size w)
 have H : ((some (([] : List (List Int)) : List (List Int))).bind fun y318 => ((zbx.f k l0).bind fun t321 => (if t321 = true then ((zb8.f a1 1 5).bind fun t322 => (zq.j0 k l0 a1 y318 (!t322))) else (zq.j0 k l0 a1 y318 true)))) = some r := h
 clear h
 obtain ⟨y318, hy318⟩ : ∃ y_ : List (List Int), y_ = (([] : List (List Int))) := ⟨_, rfl⟩
 replace H : ((zbx.f k l0).bind fun t321 => (if t321 = true then ((zb8.f a1 1 5).bind fun t322 => (zq.j0 k l0 a1 y318 (!t322))) else (zq.j0 k l0 a1 y318 true))) = some r := by first | (rw [hy318]; with_reducible exact H) | (have H2_ := (Option.bind_some _ _).symm.trans H; rw [hy318]; with_reducible exact H2_) | (have H2_ := (Option.bind_some _ _).symm.trans H; with_reducible exact H2_) | with_reducible exact H | (rw [hy318]; exact H) | exact H
 have Ny318 := za.mk hy318
 clear hy318
 have HC3 := za.mk H
 clear H
 go_enter Try.func12, Try.ntmps12
 go_upto_region 2 with (first | ((with_reducible refine zbw (N := 11) rfl ?_); refine Kd.S_lit (Kd.slice 3 (Kd.int .i64)) _ 33 ?hg (N := 11) ?hd (xs := ([] : List (List Int))) (inner := []) (ok := fun _ => True) (okp := fun _ => True) ?hr ?hp (fun _ hk => hk) trivial (Below.refl _ _) (Nat.le_refl _) (by simp) ?_; (case hd => rfl); (case hg => rfl); (case hr => first | (go_simp; done) | (go_simp; rfl)); (case hp => exact (Reps.none _ _)); intro v319 w4 ho5 hb hg_ hnew_; clear hg_ hnew_; (first | rw [← Ny318.out] at ho5 | (simp only [Int.reduceToNat] at ho5; rw [← Ny318.out] at ho5)); have n0_ := za.mk (Kd.zdm ho5 (zu (Zq0 HB))); have n1_ := za.mk (zk (Zq0 HB) hb); clear HB; have HO320 := n0_; have HB := n1_; clear n0_ n1_; clear hb ho5))
 (try simp only [Act.put, Zs1, Zs2, Zs3])
 go_cut [19] (fun v19 wc => ∃ (kq : Nat) (x19_2 : Bool), v19 = .bool x19_2 ∧ za (zq.j0 kq l0 a1 y318 x19_2 = some r) ∧ za (kq ≤ k) ∧ za (Kd.S (Kd.slice 3 (Kd.int .i64)) 33 wc w.heap.size (fun _ => True) v319 y318) ∧ za (Below w.heap.size w wc))
 case first =>
  have H := HC3.out;clear HC3;replace H := Option.bind_eq_some_iff.mp H;obtain ⟨t321, A60, H⟩ := H;replace H : (if t321 = true then ((zb8.f a1 1 5).bind fun t322 => (zq.j0 k l0 a1 y318 (!t322))) else (zq.j0 k l0 a1 y318 true)) = some r := H;have A6 := za.mk A60;clear A60;by_cases c7 : t321 = true
  ·subst c7
   have H1 : ((zb8.f a1 1 5).bind fun t322 => (zq.j0 k l0 a1 y318 (!t322))) = some r := by rw [if_pos rfl] at H; exact H
   clear H;have H := H1;clear H1;replace H := Option.bind_eq_some_iff.mp H;obtain ⟨t322, A80, H⟩ := H;replace H : (zq.j0 k l0 a1 y318 (!t322)) = some r := H;have A8 := za.mk A80;clear A80;have H' := za.mk H;clear H;go_wp2_with (first | ((with_reducible refine zt (f := 36) rfl ?_); refine zbt (some 13) rfl rfl Try.func36 (by kernel_rfl) rfl #[.slice A0 l0.length c0] rfl Zmt ?_; (with_reducible refine (zbx.calls k _ _ l0 true _ ?side1 ?side2 A6.out).mono ?_); (case side1 => exact Zq5 (Kd.zcf HR0.out HB.out)); (case side2 => exact HC0.out); rintro e w9 ⟨rfl, hb⟩; refine ⟨_, rfl, ?_⟩; have n0_ := za.mk (Kd.zcg (Zq11 HO320) hb); have n1_ := za.mk (zk (Zq0 HB) hb); clear HO320; clear HB; have HO320 := n0_; have HB := n1_; clear n0_ n1_; (try clear hb); (try clear hb2); (try clear hk); (try clear hi)) | (go_at_call 37; (with_reducible refine (zb8.calls a1 1 5 t322 _ A8.out).mono ?_); rintro e w' ⟨rfl, ⟨nd, rfl⟩⟩));go_meet
   case rel => exact ⟨_, (!t322), Zrs, H', ⟨by first | omega | exact Nat.le_refl _⟩, ⟨Zq11 HO320⟩, ⟨Zq0 HB⟩⟩
  ·replace c7 := Bool.eq_false_iff.mpr c7
   subst c7;have H1 : (zq.j0 k l0 a1 y318 true) = some r := by rw [if_neg (show ¬ (false = true) by decide)] at H; exact H
   clear H;have H := H1;clear H1;have H' := za.mk H;clear H;go_wp2_with (first | ((with_reducible refine zt (f := 36) rfl ?_); refine zbt (some 13) rfl rfl Try.func36 (by kernel_rfl) rfl #[.slice A0 l0.length c0] rfl Zmt ?_; (with_reducible refine (zbx.calls k _ _ l0 false _ ?side1 ?side2 A6.out).mono ?_); (case side1 => exact Zq5 (Kd.zcf HR0.out HB.out)); (case side2 => exact HC0.out); rintro e w10 ⟨rfl, hb⟩; refine ⟨_, rfl, ?_⟩; have n0_ := za.mk (Kd.zcg (Zq11 HO320) hb); have n1_ := za.mk (zk (Zq0 HB) hb); clear HO320; clear HB; have HO320 := n0_; have HB := n1_; clear n0_ n1_; (try clear hb); (try clear hb2); (try clear hk); (try clear hi)));go_meet
   case rel => exact ⟨_, (true), Zrs, H', ⟨by first | omega | exact Nat.le_refl _⟩, ⟨Zq11 HO320⟩, ⟨Zq0 HB⟩⟩
 case rest =>
  clear HC3
  (try clear c1);(try clear p2);(try clear c3);(try clear c7)
  obtain ⟨kq, x19_2, rfl, HA, HJ2, HO_5, HB⟩ := hcut
  cases kq with
  | zero => exact absurd HA.out (by simp [zq.j0])
  | succ kj2 =>
   have H := HA.out;clear HA;simp only [zq.j0] at H;by_cases c11 : x19_2 = true
   ·subst c11
    have H1 : (some y318) = some r := by rw [if_pos rfl] at H; exact H
    clear H;have H := H1;clear H1;obtain rfl := Option.some.inj H;go_wp2;go_ret;exact ⟨_, by first | rfl | (simp [zn, zo] <;> rfl) | (simp [*, zn, zo] <;> rfl), Zq11 HO_5, Zq0 HB⟩
   ·replace c11 := Bool.eq_false_iff.mpr c11
    subst c11;have H1 : (zq.l0 kj2 l0 a1 y318 0) = some r := by rw [if_neg (show ¬ (false = true) by decide)] at H; exact H
    clear H;have H := H1;clear H1;have H' := za.mk H;clear H;go_wp2
    go_loopg [6] kj2 (fun kq v6 w' => ∃ (x6_2 : Int), v6 = .int .i64 x6_2 ∧ za (zq.l0 kq l0 a1 y318 x6_2 = some r) ∧ za (kq ≤ kj2) ∧ za (Kd.S (Kd.slice 3 (Kd.int .i64)) 33 w' w.heap.size (fun _ => True) v319 y318) ∧ za (Below w.heap.size w w'))
    case atStart => exact ⟨(0), Zrs, H', ⟨Nat.le_refl _⟩, ⟨Zq11 HO_5⟩, ⟨Zq0 HB⟩⟩
    case round =>
     clear H'
     (try clear c1);(try clear p2);(try clear c3);(try clear c7);(try clear c11);(try clear p2)
     obtain ⟨x6_2, rfl, HA, HK2, HO_5, HB⟩ := hrel
     cases gk with
     | zero => exact absurd HA.out (by simp [zq.l0])
     | succ k2 =>
      have H := HA.out;clear HA;simp only [zq.l0] at H;by_cases c12 : x6_2 < (l0.length : Int)
      ·rw [if_pos c12] at H
       have c12b0 : decide (x6_2 < (l0.length : Int)) = true := decide_eq_true c12;clear c12;by_cases c13 : 0 ≤ x6_2
       ·rw [if_pos c13] at H
        have c13b0 : decide (0 ≤ x6_2) = true := decide_eq_true c13;clear c13;by_cases c14 : ((zb l0 x6_2).f1) = ((zb l0 x6_2).f2)
        ·rw [if_pos c14] at H
         have c14b0 : (((zb l0 x6_2).f1) == ((zb l0 x6_2).f2)) = true := beq_iff_eq.mpr c14;have c14b1 : (((zb l0 x6_2).f1) != ((zb l0 x6_2).f2)) = false := bne_eq_false_iff_eq.mpr c14;clear c14;have H' := za.mk H;clear H
         try go_wp2
         have n0_ := za.mk (Kd.zdu HO_5.out);have n1_ := za.mk (zbe HB.out);clear HO_5;clear HB;have HO_5 := n0_;have HB := n1_;clear n0_ n1_;have p323 : 0 ≤ (x6_2 : Int) := of_decide_eq_true Zas;have q323 : x6_2 < (l0.length : Int) := of_decide_eq_true Zas;obtain ⟨ad323, e323, hx323_0, hx323_1, hx323_2⟩ := zcc HR0.out x6_2 p323 q323;have hw323_2 := hx323_2;have hw323_1 := hx323_1;have hw323_0 := hx323_0
         cases e323
         replace hx323_0 := (HB.out.cell (World.block_lt_of_cell? w _ hx323_0)).trans hx323_0;replace hx323_1 := (HB.out.cell (World.block_lt_of_cell? w _ hx323_1)).trans hx323_1;replace hx323_2 := (HB.out.cell (World.block_lt_of_cell? w _ hx323_2)).trans hx323_2;replace p323 := eq_true p323;replace q323 := eq_true q323;have p324 : 0 ≤ (x6_2 : Int) := of_decide_eq_true Zas;have q324 : x6_2 < (l0.length : Int) := of_decide_eq_true Zas;obtain ⟨ad324, e324, hx324_0, hx324_1, hx324_2⟩ := zcc HR0.out x6_2 p324 q324;have hw324_2 := hx324_2;have hw324_1 := hx324_1;have hw324_0 := hx324_0;obtain rfl : ad323 = ad324 := (by injection e324);replace hx324_0 := (HB.out.cell (World.block_lt_of_cell? w _ hx324_0)).trans hx324_0;replace hx324_1 := (HB.out.cell (World.block_lt_of_cell? w _ hx324_1)).trans hx324_1;replace hx324_2 := (HB.out.cell (World.block_lt_of_cell? w _ hx324_2)).trans hx324_2;replace p324 := eq_true p324;replace q324 := eq_true q324;refine zca (n := 11) (S := fun w' => w'.cell? (ad323.add ((x6_2).toNat * 3)) = some (.int .i64 ((zb l0 x6_2).f0)) ∧ w'.cell? ⟨(ad323.add ((x6_2).toNat * 3)).block, (ad323.add ((x6_2).toNat * 3)).off + 1, none⟩ = some (.int .i64 ((zb l0 x6_2).f1)) ∧ w'.cell? ⟨(ad323.add ((x6_2).toNat * 3)).block, (ad323.add ((x6_2).toNat * 3)).off + 2, none⟩ = some (.int .i64 ((zb l0 x6_2).f2)) ∧ w'.cell? (ad323.add ((x6_2).toNat * 3)) = some (.int .i64 ((zb l0 x6_2).f0)) ∧ w'.cell? ⟨(ad323.add ((x6_2).toNat * 3)).block, (ad323.add ((x6_2).toNat * 3)).off + 1, none⟩ = some (.int .i64 ((zb l0 x6_2).f1)) ∧ w'.cell? ⟨(ad323.add ((x6_2).toNat * 3)).block, (ad323.add ((x6_2).toNat * 3)).off + 2, none⟩ = some (.int .i64 ((zb l0 x6_2).f2))) (ds := []) #[false, false, false, false, false, false, false, false, false, false, false] (by kernel_rfl) rfl rfl ⟨((HB.out.cell (World.block_lt_of_cell? w _ hw323_0)).trans hw323_0), ((HB.out.cell (World.block_lt_of_cell? w _ hw323_1)).trans hw323_1), ((HB.out.cell (World.block_lt_of_cell? w _ hw323_2)).trans hw323_2), ((HB.out.cell (World.block_lt_of_cell? w _ hw324_0)).trans hw324_0), ((HB.out.cell (World.block_lt_of_cell? w _ hw324_1)).trans hw324_1), ((HB.out.cell (World.block_lt_of_cell? w _ hw324_2)).trans hw324_2)⟩ (fun hHeld => ?_); refine zbu zq.tab7 zq.zhw (fun HT_ HW_ => ?_);generalize wr.drew = w15 at HO_5 HB hx323_0 hx323_1 hx323_2 hx324_0 hx324_1 hx324_2 hHeld ⊢;refine zl (i := 0) (N := some 27) (v := ?_) (a' := ?_) #[true, false, false, false, false, false, false, false, false, false, false] rfl rfl (ze HT_.out (by kernel_rfl)) (fun _ _ _ h => h) (Or.inl ⟨by rfl, ?_⟩) ?_ ?_;rotate_left
         ·intro w'
          go_simp;with_reducible rfl
         rotate_left
         ·simp only [Act.put, Zs1, Zs2, Zs3, zg, zh]
          rfl
         refine zl (i := 1) (N := some 28) (v := ?_) (a' := ?_) #[true, true, false, false, false, false, false, false, false, false, false] rfl rfl (ze HT_.out (by kernel_rfl)) (fun _ _ _ h => h) (Or.inl ⟨by rfl, ?_⟩) ?_ ?_;rotate_left
         ·intro w'
          go_simp;with_reducible rfl
         rotate_left
         ·simp only [Act.put, Zs1, Zs2, Zs3, zg, zh]
          rfl
         refine zl (i := 2) (N := some 29) (v := ?_) (a' := ?_) #[true, true, true, false, false, false, false, false, false, false, false] rfl rfl (ze HT_.out (by kernel_rfl)) (fun _ _ _ h => h) (Or.inl ⟨by rfl, ?_⟩) ?_ ?_;rotate_left
         ·intro w'
          go_simp;with_reducible rfl
         rotate_left
         ·simp only [Act.put, Zs1, Zs2, Zs3, zg, zh]
          rfl
         refine zl (i := 3) (N := some 30) (v := ?_) (a' := ?_) #[true, true, true, true, false, false, false, false, false, false, false] rfl rfl (ze HT_.out (by kernel_rfl)) (fun _ _ _ h => h) (Or.inl ⟨by rfl, ?_⟩) ?_ ?_;rotate_left
         ·intro w'
          go_simp;with_reducible rfl
         rotate_left
         ·simp only [Act.put, Zs1, Zs2, Zs3, zg, zh]
          rfl
         refine zl (i := 5) (N := some 32) (v := ?_) (a' := ?_) #[true, true, true, true, false, true, false, false, false, false, false] rfl rfl (ze HT_.out (by kernel_rfl)) (fun _ _ _ h => h) (Or.inl ⟨by rfl, ?_⟩) ?_ ?_;rotate_left
         ·intro w'
          go_simp;with_reducible rfl
         rotate_left
         ·simp only [Act.put, Zs1, Zs2, Zs3, zg, zh]
          rfl
         refine zl (i := 6) (N := some 33) (v := ?_) (a' := ?_) #[true, true, true, true, false, true, true, false, false, false, false] rfl rfl (ze HT_.out (by kernel_rfl)) (fun _ _ _ h => h) (Or.inl ⟨by rfl, ?_⟩) ?_ ?_;rotate_left
         ·intro w'
          go_simp;with_reducible rfl
         rotate_left
         ·simp only [Act.put, Zs1, Zs2, Zs3, zg, zh]
          rfl
         refine zl (i := 7) (N := some 34) (v := ?_) (a' := ?_) #[true, true, true, true, false, true, true, true, false, false, false] rfl rfl (ze HT_.out (by kernel_rfl)) (fun _ _ _ h => h) (Or.inl ⟨by rfl, ?_⟩) ?_ ?_;rotate_left
         ·intro w'
          go_simp;with_reducible rfl
         rotate_left
         ·simp only [Act.put, Zs1, Zs2, Zs3, zg, zh]
          rfl
         refine zl (i := 8) (N := some 35) (v := ?_) (a' := ?_) #[true, true, true, true, false, true, true, true, true, false, false] rfl rfl (ze HT_.out (by kernel_rfl)) (fun _ _ _ h => h) (Or.inl ⟨by rfl, ?_⟩) ?_ ?_;rotate_left
         ·intro w'
          go_simp;with_reducible rfl
         rotate_left
         ·simp only [Act.put, Zs1, Zs2, Zs3, zg, zh]
          rfl
         refine zby (i := 4) (N := some 31) (v := ?_) (a' := ?_) #[true, true, true, true, true, true, true, true, true, false, false] rfl rfl (z8 HT_.out HW_.out (by kernel_rfl)) (fun _ _ _ h => h) (Or.inl ⟨by rfl, ?_⟩) hHeld ?_ ?_;rotate_left
         ·rintro w' ⟨s0, s1, s2, s3, s4, s5⟩
          go_simp;with_reducible rfl
         rotate_left
         ·simp only [Act.put, Zs1, Zs2, Zs3, zg, zh]
          rfl
         refine zby (i := 9) (N := some 36) (v := ?_) (a' := ?_) #[true, true, true, true, true, true, true, true, true, true, false] rfl rfl (z8 HT_.out HW_.out (by kernel_rfl)) (fun _ _ _ h => h) (Or.inl ⟨by rfl, ?_⟩) hHeld ?_ ?_;rotate_left
         ·rintro w' ⟨s0, s1, s2, s3, s4, s5⟩
          go_simp;with_reducible rfl
         rotate_left
         ·simp only [Act.put, Zs1, Zs2, Zs3, zg, zh]
          rfl
         refine zl (i := 10) (N := some 37) (v := ?_) (a' := ?_) #[true, true, true, true, true, true, true, true, true, true, true] rfl rfl (ze HT_.out (by kernel_rfl)) (fun _ _ _ h => h) (Or.inl ⟨by rfl, ?_⟩) ?_ ?_;rotate_left
         ·intro w'
          go_simp;with_reducible rfl
         rotate_left
         ·simp only [Act.put, Zs1, Zs2, Zs3, zg, zh]
          rfl
         refine zcn (zb3 HT_.out (by kernel_rfl)) ?_
         try go_wp2
         go_roundg k2
         case measure => have := HJ2.out; have := HK2.out; omega
         case rel => exact ⟨(wrap64 (x6_2 + 1)), Zrs, H', ⟨by have := HJ2.out; have := HK2.out; omega⟩, ⟨Zq11 HO_5⟩, ⟨Zq0 HB⟩⟩
        ·rw [if_neg c14] at H
         have c14b0 : (((zb l0 x6_2).f1) == ((zb l0 x6_2).f2)) = false := beq_eq_false_iff_ne.mpr c14;have c14b1 : (((zb l0 x6_2).f1) != ((zb l0 x6_2).f2)) = true := bne_iff_ne.mpr c14;obtain rfl := Option.some.inj H
         try go_wp2
         have n0_ := za.mk (Kd.zdu HO_5.out);have n1_ := za.mk (zbe HB.out);clear HO_5;clear HB;have HO_5 := n0_;have HB := n1_;clear n0_ n1_;have p323 : 0 ≤ (x6_2 : Int) := of_decide_eq_true Zas;have q323 : x6_2 < (l0.length : Int) := of_decide_eq_true Zas;obtain ⟨ad323, e323, hx323_0, hx323_1, hx323_2⟩ := zcc HR0.out x6_2 p323 q323;have hw323_2 := hx323_2;have hw323_1 := hx323_1;have hw323_0 := hx323_0
         cases e323
         replace hx323_0 := (HB.out.cell (World.block_lt_of_cell? w _ hx323_0)).trans hx323_0;replace hx323_1 := (HB.out.cell (World.block_lt_of_cell? w _ hx323_1)).trans hx323_1;replace hx323_2 := (HB.out.cell (World.block_lt_of_cell? w _ hx323_2)).trans hx323_2;replace p323 := eq_true p323;replace q323 := eq_true q323;have p324 : 0 ≤ (x6_2 : Int) := of_decide_eq_true Zas;have q324 : x6_2 < (l0.length : Int) := of_decide_eq_true Zas;obtain ⟨ad324, e324, hx324_0, hx324_1, hx324_2⟩ := zcc HR0.out x6_2 p324 q324;have hw324_2 := hx324_2;have hw324_1 := hx324_1;have hw324_0 := hx324_0;obtain rfl : ad323 = ad324 := (by injection e324);replace hx324_0 := (HB.out.cell (World.block_lt_of_cell? w _ hx324_0)).trans hx324_0;replace hx324_1 := (HB.out.cell (World.block_lt_of_cell? w _ hx324_1)).trans hx324_1;replace hx324_2 := (HB.out.cell (World.block_lt_of_cell? w _ hx324_2)).trans hx324_2;replace p324 := eq_true p324;replace q324 := eq_true q324;refine zca (n := 11) (S := fun w' => w'.cell? (ad323.add ((x6_2).toNat * 3)) = some (.int .i64 ((zb l0 x6_2).f0)) ∧ w'.cell? ⟨(ad323.add ((x6_2).toNat * 3)).block, (ad323.add ((x6_2).toNat * 3)).off + 1, none⟩ = some (.int .i64 ((zb l0 x6_2).f1)) ∧ w'.cell? ⟨(ad323.add ((x6_2).toNat * 3)).block, (ad323.add ((x6_2).toNat * 3)).off + 2, none⟩ = some (.int .i64 ((zb l0 x6_2).f2)) ∧ w'.cell? (ad323.add ((x6_2).toNat * 3)) = some (.int .i64 ((zb l0 x6_2).f0)) ∧ w'.cell? ⟨(ad323.add ((x6_2).toNat * 3)).block, (ad323.add ((x6_2).toNat * 3)).off + 1, none⟩ = some (.int .i64 ((zb l0 x6_2).f1)) ∧ w'.cell? ⟨(ad323.add ((x6_2).toNat * 3)).block, (ad323.add ((x6_2).toNat * 3)).off + 2, none⟩ = some (.int .i64 ((zb l0 x6_2).f2))) (ds := []) #[false, false, false, false, false, false, false, false, false, false, false] (by kernel_rfl) rfl rfl ⟨((HB.out.cell (World.block_lt_of_cell? w _ hw323_0)).trans hw323_0), ((HB.out.cell (World.block_lt_of_cell? w _ hw323_1)).trans hw323_1), ((HB.out.cell (World.block_lt_of_cell? w _ hw323_2)).trans hw323_2), ((HB.out.cell (World.block_lt_of_cell? w _ hw324_0)).trans hw324_0), ((HB.out.cell (World.block_lt_of_cell? w _ hw324_1)).trans hw324_1), ((HB.out.cell (World.block_lt_of_cell? w _ hw324_2)).trans hw324_2)⟩ (fun hHeld => ?_); refine zbu zq.tab7 zq.zhw (fun HT_ HW_ => ?_);generalize wr.drew = w16 at HO_5 HB hx323_0 hx323_1 hx323_2 hx324_0 hx324_1 hx324_2 hHeld ⊢;refine zl (i := 0) (N := some 27) (v := ?_) (a' := ?_) #[true, false, false, false, false, false, false, false, false, false, false] rfl rfl (ze HT_.out (by kernel_rfl)) (fun _ _ _ h => h) (Or.inl ⟨by rfl, ?_⟩) ?_ ?_;rotate_left
         ·intro w'
          go_simp;with_reducible rfl
         rotate_left
         ·simp only [Act.put, Zs1, Zs2, Zs3, zg, zh]
          rfl
         refine zl (i := 1) (N := some 28) (v := ?_) (a' := ?_) #[true, true, false, false, false, false, false, false, false, false, false] rfl rfl (ze HT_.out (by kernel_rfl)) (fun _ _ _ h => h) (Or.inl ⟨by rfl, ?_⟩) ?_ ?_;rotate_left
         ·intro w'
          go_simp;with_reducible rfl
         rotate_left
         ·simp only [Act.put, Zs1, Zs2, Zs3, zg, zh]
          rfl
         refine zl (i := 2) (N := some 29) (v := ?_) (a' := ?_) #[true, true, true, false, false, false, false, false, false, false, false] rfl rfl (ze HT_.out (by kernel_rfl)) (fun _ _ _ h => h) (Or.inl ⟨by rfl, ?_⟩) ?_ ?_;rotate_left
         ·intro w'
          go_simp;with_reducible rfl
         rotate_left
         ·simp only [Act.put, Zs1, Zs2, Zs3, zg, zh]
          rfl
         refine zl (i := 3) (N := some 30) (v := ?_) (a' := ?_) #[true, true, true, true, false, false, false, false, false, false, false] rfl rfl (ze HT_.out (by kernel_rfl)) (fun _ _ _ h => h) (Or.inl ⟨by rfl, ?_⟩) ?_ ?_;rotate_left
         ·intro w'
          go_simp;with_reducible rfl
         rotate_left
         ·simp only [Act.put, Zs1, Zs2, Zs3, zg, zh]
          rfl
         refine zl (i := 5) (N := some 32) (v := ?_) (a' := ?_) #[true, true, true, true, false, true, false, false, false, false, false] rfl rfl (ze HT_.out (by kernel_rfl)) (fun _ _ _ h => h) (Or.inl ⟨by rfl, ?_⟩) ?_ ?_;rotate_left
         ·intro w'
          go_simp;with_reducible rfl
         rotate_left
         ·simp only [Act.put, Zs1, Zs2, Zs3, zg, zh]
          rfl
         refine zl (i := 6) (N := some 33) (v := ?_) (a' := ?_) #[true, true, true, true, false, true, true, false, false, false, false] rfl rfl (ze HT_.out (by kernel_rfl)) (fun _ _ _ h => h) (Or.inl ⟨by rfl, ?_⟩) ?_ ?_;rotate_left
         ·intro w'
          go_simp;with_reducible rfl
         rotate_left
         ·simp only [Act.put, Zs1, Zs2, Zs3, zg, zh]
          rfl
         refine zl (i := 7) (N := some 34) (v := ?_) (a' := ?_) #[true, true, true, true, false, true, true, true, false, false, false] rfl rfl (ze HT_.out (by kernel_rfl)) (fun _ _ _ h => h) (Or.inl ⟨by rfl, ?_⟩) ?_ ?_;rotate_left
         ·intro w'
          go_simp;with_reducible rfl
         rotate_left
         ·simp only [Act.put, Zs1, Zs2, Zs3, zg, zh]
          rfl
         refine zl (i := 8) (N := some 35) (v := ?_) (a' := ?_) #[true, true, true, true, false, true, true, true, true, false, false] rfl rfl (ze HT_.out (by kernel_rfl)) (fun _ _ _ h => h) (Or.inl ⟨by rfl, ?_⟩) ?_ ?_;rotate_left
         ·intro w'
          go_simp;with_reducible rfl
         rotate_left
         ·simp only [Act.put, Zs1, Zs2, Zs3, zg, zh]
          rfl
         refine zby (i := 4) (N := some 31) (v := ?_) (a' := ?_) #[true, true, true, true, true, true, true, true, true, false, false] rfl rfl (z8 HT_.out HW_.out (by kernel_rfl)) (fun _ _ _ h => h) (Or.inl ⟨by rfl, ?_⟩) hHeld ?_ ?_;rotate_left
         ·rintro w' ⟨s0, s1, s2, s3, s4, s5⟩
          go_simp;with_reducible rfl
         rotate_left
         ·simp only [Act.put, Zs1, Zs2, Zs3, zg, zh]
          rfl
         refine zby (i := 9) (N := some 36) (v := ?_) (a' := ?_) #[true, true, true, true, true, true, true, true, true, true, false] rfl rfl (z8 HT_.out HW_.out (by kernel_rfl)) (fun _ _ _ h => h) (Or.inl ⟨by rfl, ?_⟩) hHeld ?_ ?_;rotate_left
         ·rintro w' ⟨s0, s1, s2, s3, s4, s5⟩
          go_simp;with_reducible rfl
         rotate_left
         ·simp only [Act.put, Zs1, Zs2, Zs3, zg, zh]
          rfl
         refine zl (i := 10) (N := some 37) (v := ?_) (a' := ?_) #[true, true, true, true, true, true, true, true, true, true, true] rfl rfl (ze HT_.out (by kernel_rfl)) (fun _ _ _ h => h) (Or.inl ⟨by rfl, ?_⟩) ?_ ?_;rotate_left
         ·intro w'
          go_simp;with_reducible rfl
         rotate_left
         ·simp only [Act.put, Zs1, Zs2, Zs3, zg, zh]
          rfl
         refine zcn (zb3 HT_.out (by kernel_rfl)) ?_
         try go_wp2
         go_ret;exact ⟨_, by first | rfl | (simp [zn, zo] <;> rfl) | (simp [*, zn, zo] <;> rfl), Zq11 HO_5, Zq0 HB⟩
       ·rw [if_neg c13] at H
        exact absurd H (by simp)
      ·rw [if_neg c12] at H
       have c12b0 : decide (x6_2 < (l0.length : Int)) = false := decide_eq_false c12;clear c12;by_cases c17 : 0 ≤ (l0.length : Int)
       ·rw [if_pos c17] at H
        have c17b0 := eq_true c17;have c17b1 : decide (0 ≤ (l0.length : Int)) = true := decide_eq_true c17;clear c17;by_cases c18 : ((l0.length : Int) : Int).toNat ≤ 35184372088832
        ·rw [if_pos c18] at H
         have c18b0 := eq_true c18;have c18b1 : decide (((l0.length : Int) : Int).toNat ≤ 35184372088832) = true := decide_eq_true c18;clear c18;obtain ⟨y325, hy325⟩ : ∃ y_ : List Int, y_ = (List.replicate ((l0.length : Int) : Int).toNat 0) := ⟨_, rfl⟩;replace H : (zq.l1 k2 l0 a1 y318 y325 0) = some r := by first | (rw [hy325]; with_reducible exact H) | (have H2_ := (Option.bind_some _ _).symm.trans H; rw [hy325]; with_reducible exact H2_) | (have H2_ := (Option.bind_some _ _).symm.trans H; with_reducible exact H2_) | with_reducible exact H | (rw [hy325]; exact H) | exact H
         have Ny325 := za.mk hy325;clear hy325;have H' := za.mk H;clear H;go_wp2_with (first | ((with_reducible refine zbw (N := 41) rfl ?_); refine Kd.R_make (Kd.int .i64) _ 3 rfl (N := 41) rfl 33 _ _ rfl (l0.length : Int) rfl rfl Try.underlying33 (.int .i64 0) 8 info3 rfl (by decide) (by omega) 0 (ok := fun _ => True) (okp := fun _ => True) rfl (fun _ hk => hk) trivial (of_decide_eq_true Zas) (Nat.le_trans (Nat.mul_le_mul_right _ (of_decide_eq_true Zas : (l0.length : Int).toNat ≤ 35184372088832)) (by omega)) (Below.refl _ _) (Nat.le_refl _) ?_; intro v326 w19 ho20 hb hg_ hnew_; clear hg_ hnew_; (first | rw [← Ny325.out] at ho20 | (simp only [Int.reduceToNat] at ho20; rw [← Ny325.out] at ho20)); have n0_ := za.mk (Kd.zc4 (Zq11 HO_5) (Kd.zec ho20) hb); have n1_ := za.mk (Kd.zcr ho20 (zu (Zq0 HB))); have n2_ := za.mk (zk (Zq0 HB) hb); clear HO_5; clear HB; have HO_5 := n0_; have HO327 := n1_; have HB := n2_; clear n0_ n1_ n2_; clear hb ho20))
         go_loopg [5, 8] k2 (fun kq v5 v8 w' => ∃ (x5_3 : List (List Int)) (x7_3 : List Int) (x8_3 : Int), v8 = .int .i64 x8_3 ∧ za (zq.l1 kq l0 a1 x5_3 x7_3 x8_3 = some r) ∧ za (kq ≤ k2) ∧ za (Kd.S (Kd.slice 3 (Kd.int .i64)) 33 w' w.heap.size (fun k_ => some k_ ≠ (v326 : Value).ownBlock) v5 x5_3) ∧ za (Kd.R (Kd.int .i64) 3 w' w.heap.size (fun _ => True) v326 x7_3) ∧ za (Below w.heap.size w w'))
         case atStart => exact ⟨(y318), (y325), (0), Zrs, H', ⟨Nat.le_refl _⟩, ⟨by (with_reducible repeat (first | apply Kd.zdn | apply Kd.zdo | apply Kd.zdu)); exact Kd.zdt HO_5.out (fun _ hk => hk.2)⟩, ⟨Zq10 HO327⟩, ⟨Zq0 HB⟩⟩
         case round =>
          clear H'
          (try clear c1);(try clear p2);(try clear c3);(try clear p3);(try clear q3);(try clear hx3);(try clear p6);(try clear c7);(try clear c11);(try clear c12);(try clear c12b0);(try clear c13);(try clear c13b0);(try clear c14);(try clear c14b0);(try clear c14b1);(try clear c17);(try clear c17b0);(try clear c17b1);(try clear c18);(try clear c18b0);(try clear c18b1);(try clear hx323_0);(try clear hx323_1);(try clear hx323_2);(try clear hx324_0);(try clear hx324_1);(try clear hx324_2);(try clear p2);(try clear p323);(try clear p324);(try clear q323);(try clear q324)
          obtain ⟨x5_3, x7_3, x8_3, rfl, HA, HK3, HO_5, HO_7, HB⟩ := hrel
          cases gk with
          | zero => exact absurd HA.out (by simp [zq.l1])
          | succ k3 =>
           have H := HA.out;clear HA;simp only [zq.l1] at H;by_cases c21 : x8_3 < 120
           ·rw [if_pos c21] at H
            have c21b0 : decide (x8_3 < 120) = true := decide_eq_true c21;clear c21;replace H := Option.bind_eq_some_iff.mp H;obtain ⟨t328, A220, H⟩ := H;replace H : (zq.l2 k3 l0 a1 x5_3 x7_3 x8_3 t328 0) = some r := H;have A22 := za.mk A220;clear A220;have H' := za.mk H;clear H;obtain ⟨Ao23, co23, eo23⟩ := Kd.zch HO_7.out;subst eo23;go_wp2_with (first | ((with_reducible refine zt (f := 38) rfl ?_); refine zbt (some 50) rfl rfl Try.func38 (by kernel_rfl) rfl #[.slice A0 l0.length c0, .slice Ao23 x7_3.length co23, .int .i64 x8_3, .int .i64 a1] rfl Zmt ?_; (with_reducible refine (zw.calls k3 _ _ l0 _ _ x7_3 x8_3 a1 t328 _ ?side1 ?side2 ?side3 ?side4 A22.out).mono ?_); (case side1 => exact Zq5 (Kd.zcf HR0.out HB.out)); (case side2 => exact HC0.out); (case side3 => exact Zq5 ((Kd.zbm HO_7.out).2.2)); (case side4 => exact (Kd.zbm HO_7.out).2.1); rintro e w24 ⟨v329, rfl, ho0, hb⟩; refine ⟨_, rfl, ?_⟩; have n0_ := za.mk (Kd.zc4 (Zq11 HO_5) (Kd.zec ho0) hb); have n1_ := za.mk (Kd.zdq (Zq10 HO_7) (Kd.zec ho0) hb); have n2_ := za.mk (Kd.zcr (Kd.zey ho0 (Kd.R_lt (Zq10 HO_7))) (zu (Zq0 HB))); have n3_ := za.mk (zk (Zq0 HB) hb); clear HO_5; clear HO_7; clear HB; have HO_5 := n0_; have HO_7 := n1_; have HO330 := n2_; have HB := n3_; clear n0_ n1_ n2_ n3_; (try clear hb); (try clear hb2); (try clear hk); (try clear hi); (try clear ho0)))
            go_loopg [10] k3 (fun kq v10 w' => ∃ (x7_4 : List Int) (x10_4 : Int), v10 = .int .i64 x10_4 ∧ za (zq.l2 kq l0 a1 x5_3 x7_4 x8_3 t328 x10_4 = some r) ∧ za (kq ≤ k3) ∧ za (Kd.S (Kd.slice 3 (Kd.int .i64)) 33 w' w.heap.size (fun k_ => some k_ ≠ ((.slice Ao23 x7_3.length co23) : Value).ownBlock ∧ some k_ ≠ (v329 : Value).ownBlock) u5 x5_3) ∧ za (Kd.R (Kd.int .i64) 3 w' w.heap.size (fun k_ => some k_ ≠ (v329 : Value).ownBlock) (.slice Ao23 x7_3.length co23) x7_4) ∧ za (Kd.R (Kd.int .i64) 3 w' w.heap.size (fun k_ => some k_ ≠ ((.slice Ao23 x7_3.length co23) : Value).ownBlock) v329 t328) ∧ za (Below w.heap.size w w'))
            case atStart => exact ⟨(x7_3), (0), Zrs, H', ⟨Nat.le_refl _⟩, ⟨Zq11 HO_5⟩, ⟨by (with_reducible repeat (first | apply Kd.zd6 | apply Kd.zef | apply Kd.zdd)); exact Kd.zcx HO_7.out (fun _ hk => hk.2)⟩, ⟨by (with_reducible repeat (first | apply Kd.zd6 | apply Kd.zef | apply Kd.zdd)); exact Kd.zcx HO330.out (fun _ hk => hk.2)⟩, ⟨Zq0 HB⟩⟩
            case round =>
             clear H'
             (try clear c1);(try clear c2);(try clear p2);(try clear c3);(try clear p3);(try clear q3);(try clear hx3);(try clear p6);(try clear c7);(try clear c11);(try clear c12);(try clear c12b0);(try clear c13);(try clear c13b0);(try clear c14);(try clear c14b0);(try clear c14b1);(try clear c17);(try clear c17b0);(try clear c17b1);(try clear c18);(try clear c18b0);(try clear c18b1);(try clear c21);(try clear c21b0);(try clear hx323_0);(try clear hx323_1);(try clear hx323_2);(try clear hx324_0);(try clear hx324_1);(try clear hx324_2);(try clear p2);(try clear p3);(try clear p323);(try clear p324);(try clear p6);(try clear q3);(try clear q323);(try clear q324)
             obtain ⟨x7_4, x10_4, rfl, HA, HK4, HO_5, HO_7, HO_9, HB⟩ := hrel;have hl7_4 := (Kd.zbm HO_7.out).1;rw [hl7_4] at HO_7;(try simp only [hl7_4]);(try simp only [hl7_4] at HO_5);(try simp only [hl7_4] at HO_9)
             cases gk with
             | zero => exact absurd HA.out (by simp [zq.l2])
             | succ k4 =>
              have H := HA.out;clear HA;simp only [zq.l2] at H;by_cases c25 : x10_4 < (t328.length : Int)
              ·rw [if_pos c25] at H
               have c25b0 : decide (x10_4 < (t328.length : Int)) = true := decide_eq_true c25;clear c25;by_cases c26 : 0 ≤ x10_4
               ·rw [if_pos c26] at H
                have c26b0 : decide (0 ≤ x10_4) = true := decide_eq_true c26;clear c26;by_cases c27 : 0 ≤ (rd t328 x10_4)
                ·rw [if_pos c27] at H
                 have c27b0 : decide (0 ≤ (rd t328 x10_4)) = true := decide_eq_true c27;clear c27;by_cases c28 : (rd t328 x10_4) < (x7_4.length : Int)
                 ·rw [if_pos c28] at H
                  have c28b0 : decide ((rd t328 x10_4) < (x7_4.length : Int)) = true := decide_eq_true c28;clear c28;obtain ⟨y334, hy334⟩ : ∃ y_ : List Int, y_ = (x7_4.set ((rd t328 x10_4) : Int).toNat (wrap64 ((rd x7_4 (rd t328 x10_4)) + 1))) := ⟨_, rfl⟩;replace H : (zq.l2 k4 l0 a1 x5_3 y334 x8_3 t328 (wrap64 (x10_4 + 1))) = some r := by first | (rw [hy334]; with_reducible exact H) | (have H2_ := (Option.bind_some _ _).symm.trans H; rw [hy334]; with_reducible exact H2_) | (have H2_ := (Option.bind_some _ _).symm.trans H; with_reducible exact H2_) | with_reducible exact H | (rw [hy334]; exact H) | exact H
                  have Ny334 := za.mk hy334;clear hy334;have H' := za.mk H;clear H;obtain ⟨Ao30, co30, eo30⟩ := Kd.zch HO_9.out;subst eo30
                  try go_wp2
                  have n0_ := za.mk (Kd.zdu HO_5.out);have n1_ := za.mk (Kd.zdd HO_7.out);have n2_ := za.mk (Kd.zdd HO_9.out);have n3_ := za.mk (zbe HB.out);clear HO_5;clear HO_7;clear HO_9;clear HB;have HO_5 := n0_;have HO_7 := n1_;have HO_9 := n2_;have HB := n3_;clear n0_ n1_ n2_ n3_;have p331 : 0 ≤ (x10_4 : Int) := of_decide_eq_true Zas;have q331 : x10_4 < (t328.length : Int) := of_decide_eq_true Zas;obtain ⟨ad331, e331, hx331_0⟩ := Kd.zcb (Kd.zbm HO_9.out).2.2 x10_4 p331 q331
                  cases e331
                  replace p331 := eq_true p331;replace q331 := eq_true q331;have p332 : 0 ≤ (x10_4 : Int) := of_decide_eq_true Zas;have q332 : x10_4 < (t328.length : Int) := of_decide_eq_true Zas;obtain ⟨ad332, e332, hx332_0⟩ := Kd.zcb (Kd.zbm HO_9.out).2.2 x10_4 p332 q332;obtain rfl : ad331 = ad332 := (by injection e332);replace p332 := eq_true p332;replace q332 := eq_true q332;have p333 : 0 ≤ ((rd t328 x10_4) : Int) := of_decide_eq_true Zas;have q333 : (rd t328 x10_4) < (x7_4.length : Int) := of_decide_eq_true Zas;obtain ⟨ad333, e333, hx333_0⟩ := Kd.zcb (Kd.zbm HO_7.out).2.2 (rd t328 x10_4) p333 q333
                  cases e333
                  replace p333 := eq_true p333;replace q333 := eq_true q333;have p29 : 0 ≤ ((rd t328 x10_4) : Int) := of_decide_eq_true Zas;have q29 : ((rd t328 x10_4) : Int) < ((x7_4.length : Int) : Int) := of_decide_eq_true Zas;obtain ⟨go29, co29, eo29, gb29, gl29, cl29, HG29⟩ := Kd.zfu HO_7.out (by omega);(first | cases eo29 | (injection eo29 with ea_ en_ ec_; (first | subst ea_ | (injection ea_ with ea_; subst ea_)); subst ec_; clear en_));have GB29 := za.mk gb29;have GG29 := za.mk HG29;clear gb29 gl29 HG29;(first | simp only [add_plain] at hx333_0 | skip);obtain ⟨hx29_0, hf29_0⟩ := Kd.zfe 0 HO_7.out ((rd t328 x10_4) : Int) p29 q29;replace p29 := eq_true p29;replace q29 := eq_true q29;have HP32 := Kd.R_putn HO_7.out ((rd t328 x10_4) : Int) (wrap64 ((rd x7_4 (rd t328 x10_4)) + 1));rw [← Ny334.out] at HP32;have HQ32 := za.mk HP32;clear HP32;refine zca (n := 15) (S := fun w' => w'.cell? (ad331.add (x10_4).toNat) = some (.int .i64 (rd t328 x10_4)) ∧ w'.cell? (ad331.add (x10_4).toNat) = some (.int .i64 (rd t328 x10_4)) ∧ w'.cell? ⟨go29, ((rd t328 x10_4)).toNat, none⟩ = some (.int .i64 (rd x7_4 (rd t328 x10_4)))) (ds := [14]) #[false, false, false, false, false, false, false, false, false, false, false, false, false, false, false] (by kernel_rfl) rfl rfl ⟨hx331_0, hx332_0, hx333_0⟩ (fun hHeld => ?_); refine zbu zq.tab17 zq.bits17 (fun HT_ HW_ => ?_);generalize wr.drew = w31 at HO_5 HO_7 HO_9 HB GG29 HQ32 hf29_0 hx29_0 hx331_0 hx332_0 hx333_0 hHeld ⊢;refine zl (i := 0) (N := some 57) (v := ?_) (a' := ?_) #[true, false, false, false, false, false, false, false, false, false, false, false, false, false, false] rfl rfl (ze HT_.out (by kernel_rfl)) (fun _ _ _ h => h) (Or.inl ⟨by rfl, ?_⟩) ?_ ?_;rotate_left
                  ·intro w'
                   go_simp;with_reducible rfl
                  rotate_left
                  ·simp only [Act.put, Zs1, Zs2, Zs3, zg, zh]
                   rfl
                  refine zl (i := 1) (N := some 58) (v := ?_) (a' := ?_) #[true, true, false, false, false, false, false, false, false, false, false, false, false, false, false] rfl rfl (ze HT_.out (by kernel_rfl)) (fun _ _ _ h => h) (Or.inl ⟨by rfl, ?_⟩) ?_ ?_;rotate_left
                  ·intro w'
                   go_simp;with_reducible rfl
                  rotate_left
                  ·simp only [Act.put, Zs1, Zs2, Zs3, zg, zh]
                   rfl
                  refine zl (i := 2) (N := some 59) (v := ?_) (a' := ?_) #[true, true, true, false, false, false, false, false, false, false, false, false, false, false, false] rfl rfl (ze HT_.out (by kernel_rfl)) (fun _ _ _ h => h) (Or.inl ⟨by rfl, ?_⟩) ?_ ?_;rotate_left
                  ·intro w'
                   go_simp;with_reducible rfl
                  rotate_left
                  ·simp only [Act.put, Zs1, Zs2, Zs3, zg, zh]
                   rfl
                  refine zl (i := 3) (N := some 60) (v := ?_) (a' := ?_) #[true, true, true, true, false, false, false, false, false, false, false, false, false, false, false] rfl rfl (ze HT_.out (by kernel_rfl)) (fun _ _ _ h => h) (Or.inl ⟨by rfl, ?_⟩) ?_ ?_;rotate_left
                  ·intro w'
                   go_simp;with_reducible rfl
                  rotate_left
                  ·simp only [Act.put, Zs1, Zs2, Zs3, zg, zh]
                   rfl
                  refine zl (i := 5) (N := some 62) (v := ?_) (a' := ?_) #[true, true, true, true, false, true, false, false, false, false, false, false, false, false, false] rfl rfl (ze HT_.out (by kernel_rfl)) (fun _ _ _ h => h) (Or.inl ⟨by rfl, ?_⟩) ?_ ?_;rotate_left
                  ·intro w'
                   go_simp;with_reducible rfl
                  rotate_left
                  ·simp only [Act.put, Zs1, Zs2, Zs3, zg, zh]
                   rfl
                  refine zl (i := 6) (N := some 63) (v := ?_) (a' := ?_) #[true, true, true, true, false, true, true, false, false, false, false, false, false, false, false] rfl rfl (ze HT_.out (by kernel_rfl)) (fun _ _ _ h => h) (Or.inl ⟨by rfl, ?_⟩) ?_ ?_;rotate_left
                  ·intro w'
                   go_simp;with_reducible rfl
                  rotate_left
                  ·simp only [Act.put, Zs1, Zs2, Zs3, zg, zh]
                   rfl
                  refine zl (i := 7) (N := some 64) (v := ?_) (a' := ?_) #[true, true, true, true, false, true, true, true, false, false, false, false, false, false, false] rfl rfl (ze HT_.out (by kernel_rfl)) (fun _ _ _ h => h) (Or.inl ⟨by rfl, ?_⟩) ?_ ?_;rotate_left
                  ·intro w'
                   go_simp;with_reducible rfl
                  rotate_left
                  ·simp only [Act.put, Zs1, Zs2, Zs3, zg, zh]
                   rfl
                  refine zl (i := 8) (N := some 65) (v := ?_) (a' := ?_) #[true, true, true, true, false, true, true, true, true, false, false, false, false, false, false] rfl rfl (ze HT_.out (by kernel_rfl)) (fun _ _ _ h => h) (Or.inl ⟨by rfl, ?_⟩) ?_ ?_;rotate_left
                  ·intro w'
                   go_simp;with_reducible rfl
                  rotate_left
                  ·simp only [Act.put, Zs1, Zs2, Zs3, zg, zh]
                   rfl
                  refine zby (i := 4) (N := some 61) (v := ?_) (a' := ?_) #[true, true, true, true, true, true, true, true, true, false, false, false, false, false, false] rfl rfl (z8 HT_.out HW_.out (by kernel_rfl)) (fun _ _ _ h => h) (Or.inl ⟨by rfl, ?_⟩) hHeld ?_ ?_;rotate_left
                  ·rintro w' ⟨s0, s1, s2⟩
                   go_simp;with_reducible rfl
                  rotate_left
                  ·simp only [Act.put, Zs1, Zs2, Zs3, zg, zh]
                   rfl
                  refine zby (i := 9) (N := some 66) (v := ?_) (a' := ?_) #[true, true, true, true, true, true, true, true, true, true, false, false, false, false, false] rfl rfl (z8 HT_.out HW_.out (by kernel_rfl)) (fun _ _ _ h => h) (Or.inl ⟨by rfl, ?_⟩) hHeld ?_ ?_;rotate_left
                  ·rintro w' ⟨s0, s1, s2⟩
                   go_simp;with_reducible rfl
                  rotate_left
                  ·simp only [Act.put, Zs1, Zs2, Zs3, zg, zh]
                   rfl
                  refine zl (i := 10) (N := some 67) (v := ?_) (a' := ?_) #[true, true, true, true, true, true, true, true, true, true, true, false, false, false, false] rfl rfl (ze HT_.out (by kernel_rfl)) (fun _ _ _ h => h) (Or.inl ⟨by rfl, ?_⟩) ?_ ?_;rotate_left
                  ·intro w'
                   go_simp;with_reducible rfl
                  rotate_left
                  ·simp only [Act.put, Zs1, Zs2, Zs3, zg, zh]
                   rfl
                  refine zby (i := 11) (N := some 68) (v := ?_) (a' := ?_) #[true, true, true, true, true, true, true, true, true, true, true, true, false, false, false] rfl rfl (z8 HT_.out HW_.out (by kernel_rfl)) (fun _ _ _ h => h) (Or.inl ⟨by rfl, ?_⟩) hHeld ?_ ?_;rotate_left
                  ·rintro w' ⟨s0, s1, s2⟩
                   go_simp;with_reducible rfl
                  rotate_left
                  ·simp only [Act.put, Zs1, Zs2, Zs3, zg, zh]
                   rfl
                  refine zl (i := 12) (N := some 69) (v := ?_) (a' := ?_) #[true, true, true, true, true, true, true, true, true, true, true, true, true, false, false] rfl rfl (ze HT_.out (by kernel_rfl)) (fun _ _ _ h => h) (Or.inl ⟨by rfl, ?_⟩) ?_ ?_;rotate_left
                  ·intro w'
                   go_simp;with_reducible rfl
                  rotate_left
                  ·simp only [Act.put, Zs1, Zs2, Zs3, zg, zh]
                   rfl
                  refine zl (i := 13) (N := some 70) (v := ?_) (a' := ?_) #[true, true, true, true, true, true, true, true, true, true, true, true, true, true, false] rfl rfl (ze HT_.out (by kernel_rfl)) (fun _ _ _ h => h) (Or.inl ⟨by rfl, ?_⟩) ?_ ?_;rotate_left
                  ·intro w'
                   go_simp;with_reducible rfl
                  rotate_left
                  ·simp only [Act.put, Zs1, Zs2, Zs3, zg, zh]
                   rfl
                  refine last_ (i := 14) (N := none) #[true, true, true, true, true, true, true, true, true, true, true, true, true, true, true] rfl rfl (zb2 HT_.out (by kernel_rfl)) (by decide) (fun K hK => ?_);refine skip_ (w1 := ?_) (by rfl) rfl ?_ ?_;rotate_left
                  ·go_simp
                   rfl
                  refine hK.out _ _ ?_;clear hK K;refine zcn (zb3 HT_.out (by kernel_rfl)) ?_
                  try go_wp2
                  (try simp only [← hl7_4]);go_roundg k4
                  case measure => have := HJ2.out; have := HK2.out; have := HK3.out; have := HK4.out; omega
                  case rel => exact ⟨(y334), (wrap64 (x10_4 + 1)), Zrs, H', ⟨by have := HJ2.out; have := HK2.out; have := HK3.out; have := HK4.out; omega⟩, ⟨by (try simp only [hl7_4]); (with_reducible repeat (first | apply Kd.zdn | apply Kd.zdo | apply Kd.zdu)); exact Kd.zdt (Kd.S_far (p := ⟨go29, ((rd t328 x10_4) : Int).toNat, none⟩) (Kd.zdt HO_5.out (fun k_ hk => (⟨hk, fun e_ => hk.1 (by rw [e_]; rfl)⟩ : _ ∧ k_ ≠ go29))) (fun _ hk => hk.2) (.int .i64 (wrap64 ((rd x7_4 (rd t328 x10_4)) + 1)))) (fun _ hk => ⟨hk.1.1, hk.1.2⟩)⟩, ⟨by (try simp only [hl7_4]); (with_reducible repeat (first | apply Kd.zd6 | apply Kd.zef | apply Kd.zdd)); exact HQ32.out⟩, ⟨by (try simp only [hl7_4]); (with_reducible repeat (first | apply Kd.zd6 | apply Kd.zef | apply Kd.zdd)); exact Kd.zcx (Kd.R_far (p := ⟨go29, ((rd t328 x10_4) : Int).toNat, none⟩) (Kd.zcx HO_9.out (fun k_ hk => (⟨hk, fun e_ => hk (by rw [e_]; rfl)⟩ : _ ∧ k_ ≠ go29))) (fun _ hk => hk.2) (.int .i64 (wrap64 ((rd x7_4 (rd t328 x10_4)) + 1)))) (fun _ hk => hk.1)⟩, ⟨Zq1 HB GB29⟩⟩
                 ·rw [if_neg c28] at H
                  exact absurd H (by simp)
                ·rw [if_neg c27] at H
                 exact absurd H (by simp)
               ·rw [if_neg c26] at H
                exact absurd H (by simp)
              ·rw [if_neg c25] at H
               have c25b0 : decide (x10_4 < (t328.length : Int)) = false := decide_eq_false c25;clear c25;by_cases c33 : x5_3.length < 5864062014805
               ·rw [if_pos c33] at H
                have LMc33 := za.mk c33;clear c33;obtain ⟨y335, hy335⟩ : ∃ y_ : List (List Int), y_ = (x5_3 ++ [t328]) := ⟨_, rfl⟩;replace H : (zq.l1 k4 l0 a1 y335 x7_4 (wrap64 (x8_3 + 1))) = some r := by first | (rw [hy335]; with_reducible exact H) | (have H2_ := (Option.bind_some _ _).symm.trans H; rw [hy335]; with_reducible exact H2_) | (have H2_ := (Option.bind_some _ _).symm.trans H; with_reducible exact H2_) | with_reducible exact H | (rw [hy335]; exact H) | exact H
                have Ny335 := za.mk hy335;clear hy335;have H' := za.mk H;clear H;obtain ⟨Ao34, co34, eo34⟩ := Kd.zch HO_9.out;subst eo34;go_wp2_with (first | ((with_reducible refine zd0 (b := .append) (xs := #[.tmp 71, .tmp 73]) rfl ?_); at_builtin; refine Kd.S_append (Kd.slice 3 (Kd.int .i64)) (w0 := w) w.heap.size rfl (.tmp 71) (.tmp 73) 26 33 (.slice none 0 0) 24 rfl Try.underlying26 info33 rfl (by decide) (by omega) u5 x5_3 t328 [.slice Ao34 t328.length co34] (fun k_ => some k_ ≠ (.slice Ao23 x7_4.length co23 : Value).ownBlock) (fun k_ => some k_ = (.slice Ao34 t328.length co34 : Value).ownBlock) rfl rfl ?aP (fun k_ hk_ => ((Kd.zcx (ok' := fun k_ => ((fun k_ => some k_ ≠ (.slice Ao23 x7_4.length co23 : Value).ownBlock)) k_ ∧ some k_ ≠ (u5 : Value).ownBlock) (Kd.zg1 (HO_9.out) (Kd.zid HO_5.out) (by decide)) (fun k_ hk => ⟨hk.1, hk.2⟩))).1 k_ hk_.symm) ?aF ?aO ?aB ?aS ?aL ?_; (case aP => exact Kd.M_row (Kd.zcx (Kd.zf1 rfl (Kd.zcx (ok' := fun k_ => ((fun k_ => some k_ ≠ (.slice Ao23 x7_4.length co23 : Value).ownBlock)) k_ ∧ some k_ ≠ (u5 : Value).ownBlock) (Kd.zg1 (HO_9.out) (Kd.zid HO_5.out) (by decide)) (fun k_ hk => ⟨hk.1, hk.2⟩))) (fun _ h_ => h_))); (case aB => exact (Zq0 HB)); (case aF => exact (fun k_ hk => Kd.fresh' (Kd.R_lt (Zq10 HO_7)) k_ hk)); (case aO => exact (by (with_reducible repeat (first | apply Kd.zdn | apply Kd.zdo | apply Kd.zdu)); exact Kd.zdt HO_5.out (fun k_ hk => ⟨hk.1, fun e_ => hk.2 e_⟩))); (case aS => exact (zu (Zq0 HB))); (case aL => have := LMc33.out; omega); intro v336 w35 ho hb hg hat; rw [← Ny335.out] at ho; have n0_ := za.mk (Kd.R_over' (Zq10 HO_7) (Kd.zid (Zq11 HO_5)) (by decide) hg); have n1_ := za.mk (hb); have n2_ := za.mk (ho); clear HO_7; clear HB; clear HO_5; clear HO_9; have HO_7 := n0_; have HB := n1_; have HO337 := n2_; clear n0_ n1_ n2_; clear ho hb hg hat));(try simp only [← hl7_4]);go_roundg k4
                case measure => have := HJ2.out; have := HK2.out; have := HK3.out; have := HK4.out; omega
                case rel => exact ⟨(y335), (x7_4), (wrap64 (x8_3 + 1)), Zrs, H', ⟨by have := HJ2.out; have := HK2.out; have := HK3.out; have := HK4.out; omega⟩, ⟨by (try simp only [hl7_4]); (with_reducible repeat (first | apply Kd.zdn | apply Kd.zdo | apply Kd.zdu)); exact HO337.out⟩, ⟨by (try simp only [hl7_4]); (with_reducible repeat (first | apply Kd.zd6 | apply Kd.zef | apply Kd.zdd)); exact Kd.zcx HO_7.out (fun _ hk => trivial)⟩, ⟨Zq0 HB⟩⟩
               ·rw [if_neg c33] at H
                exact absurd H (by simp)
           ·rw [if_neg c21] at H
            have c21b0 : decide (x8_3 < 120) = false := decide_eq_false c21;clear c21;obtain rfl := Option.some.inj H;go_wp2;go_ret;exact ⟨_, by first | rfl | (simp [zn, zo] <;> rfl) | (simp [*, zn, zo] <;> rfl), by (with_reducible repeat (first | apply Kd.zdn | apply Kd.zdo | apply Kd.zdu)); exact Kd.zdt HO_5.out (fun _ hk => trivial), Zq0 HB⟩
        ·rw [if_neg c18] at H
         exact absurd H (by simp)
       ·rw [if_neg c17] at H
        exact absurd H (by simp)
def zck.f (l0 : List (S65)) (a1 : Int) : Option (Int) := if (wrap64 (a1 - (l0.length : Int))) < 0 then (some (-1)) else (some (wrap64 (a1 - (l0.length : Int))))
set_option maxHeartbeats 8000000 in
theorem zck.calls (A0 : Option Addr) (c0 : Nat) (l0 : List (S65)) (a1 : Int) (r : Int) (w : World) (hr0 : Kd.C k65 w A0 l0.length l0) (hc0 : l0.length ≤ c0) (h : zck.f l0 a1 = some r) :
  Calls Try.prog 18 #[.slice A0 l0.length c0, .int .i64 a1] w fun e w' => e = .returned (.int .i64 r) ∧ zbl w w' := by
 have HR0 := za.mk hr0
 have HC0 := za.mk hc0
 clear hr0 hc0
 have H : (if (wrap64 (a1 - (l0.length : Int))) < 0 then (some (-1)) else (some (wrap64 (a1 - (l0.length : Int))))) = some r := h
 clear h
 by_cases c3 : (wrap64 (a1 - (l0.length : Int))) < 0
 ·rw [if_pos c3] at H
  have c3b0 : decide ((wrap64 (a1 - (l0.length : Int))) < 0) = true := decide_eq_true c3;clear c3;obtain rfl := Option.some.inj H;go_enter Try.func18, Try.ntmps18;go_wp2;go_ret;exact ⟨by first | rfl | (simp; done) | (simp [*]; done), by repeat (first | exact zbl.refl _ | apply zbl.step)⟩
 ·rw [if_neg c3] at H
  have c3b0 : decide ((wrap64 (a1 - (l0.length : Int))) < 0) = false := decide_eq_false c3;clear c3;obtain rfl := Option.some.inj H;go_enter Try.func18, Try.ntmps18;go_wp2;go_ret;exact ⟨by first | rfl | (simp; done) | (simp [*]; done), by repeat (first | exact zbl.refl _ | apply zbl.step)⟩
theorem Zq12 {X0 X1 X2 X3 P : Prop} (x0 : za X0) (x1 : za X1) (x2 : za X2) (x3 : za X3) (h : X0 → X1 → X2 → X3 → P := by intro x0 x1 x2 x3; repeat (first | (with_reducible first | exact x0 | apply zb1 | apply zb6 | apply zbe | refine zcs ?_ x1 | refine zcs ?_ x2 | refine zcs ?_ x3) | exact x0)) : P := h x0.out x1.out x2.out x3.out
def zdw.f (a0_0 : Int) (a0_1 : Int) (a0_2 : Int) : Option (Int × Int × Int) := some (a0_0, a0_1, a0_2)
set_option maxHeartbeats 8000000 in
theorem zdw.calls (a0_0 : Int) (a0_1 : Int) (a0_2 : Int) (r1 : Int) (r2 : Int) (r3 : Int) (w : World) (h : zdw.f a0_0 a0_1 a0_2 = some (r1, r2, r3)) :
  Calls Try.prog 46 #[.agg #[.int .i64 a0_0, .int .i64 a0_1, .int .i64 a0_2]] w fun e w' => e = .returned (.agg #[.int .i64 r1, .int .i64 r2, .int .i64 r3]) ∧ Below w.heap.size w w' := by
 have hu65 := Try.underlying65
 have hu35 := Try.underlying35
 have HB := za.mk (Below.refl w.heap.size w)
 have H : (some (a0_0, a0_1, a0_2)) = some (r1, r2, r3) := h
 clear h
 simp only [Option.some.injEq, Prod.mk.injEq] at H
 obtain ⟨rfl, rfl, rfl⟩ := H
 go_enter Try.func46, Try.ntmps46
 go_wp2_with (first | ((with_reducible refine zbw (N := 1) rfl ?_); refine zbv ?hg (N := 1) ?hd (cs := #[.int .i64 a0_0, .int .i64 a0_1, .int .i64 a0_2]) (t := 65) ?hr ?_; (case hd => rfl); (case hg => rfl); (case hr => first | (go_simp; done) | (go_simp; rfl)); intro gb388 hg w2 hbox hb; have n0_ := za.mk (zk (Zq0 HB) hb); have n1_ := za.mk (hbox); have n2_ := za.mk ((by rw [hg]; exact (zu (Zq0 HB)) : w.heap.size ≤ gb388)); have n3_ := za.mk ((by rw [hg]; exact (zu (Zq0 HB)) : w.heap.size ≤ gb388)); clear HB; have HB := n0_; have BK388 := n1_; have GW388 := n2_; have GE388 := n3_; clear n0_ n1_ n2_ n3_; clear hb hbox hg) | ((with_reducible refine zbw (N := 2) rfl ?_); refine zbv ?hg (N := 2) ?hd (cs := #[.int .i64 0, .int .i64 0, .int .i64 0]) (t := 35) ?hr ?_; (case hd => rfl); (case hg => rfl); (case hr => first | (go_simp; done) | (go_simp; rfl)); intro gb389 hg w3 hbox hb; have n0_ := za.mk (zbq (g := gb388) (o := .cells #[.int .i64 a0_0, .int .i64 a0_1, .int .i64 a0_2] 65 (0, 0)) (Zq3 BK388) hb); have n1_ := za.mk (zk (Zq1 HB GE388) hb); have n2_ := za.mk (hbox); have n3_ := za.mk ((by rw [hg]; exact (zu (Zq1 HB GE388)) : w.heap.size ≤ gb389)); have n4_ := za.mk ((by rw [hg]; exact (zu (Zq1 HB GE388)) : w.heap.size ≤ gb389)); have n5_ := za.mk ((by rw [hg]; exact Nat.ne_of_lt (zcl (g := gb388) (o := .cells #[.int .i64 a0_0, .int .i64 a0_1, .int .i64 a0_2] 65 (0, 0)) (Zq3 BK388)) : gb388 ≠ gb389)); have n6_ := za.mk ((by rw [hg]; exact Nat.ne_of_gt (zcl (g := gb388) (o := .cells #[.int .i64 a0_0, .int .i64 a0_1, .int .i64 a0_2] 65 (0, 0)) (Zq3 BK388)) : gb389 ≠ gb388)); clear BK388; clear HB; have BK388 := n0_; have HB := n1_; have BK389 := n2_; have GW389 := n3_; have GE389 := n4_; have NB388_389 := n5_; have NB389_388 := n6_; clear n0_ n1_ n2_ n3_ n4_ n5_ n6_; clear hb hbox hg) | ((with_reducible refine zbw (N := 3) rfl ?_); refine zbv ?hg (N := 3) ?hd (cs := #[.int .i64 0, .int .i64 0, .int .i64 0]) (t := 35) ?hr ?_; (case hd => rfl); (case hg => rfl); (case hr => first | (go_simp; done) | (go_simp; rfl)); intro gb390 hg w4 hbox hb; have n0_ := za.mk (zbq (g := gb388) (o := .cells #[.int .i64 a0_0, .int .i64 a0_1, .int .i64 a0_2] 65 (0, 0)) (Zq3 BK388) hb); have n1_ := za.mk (zbq (g := gb389) (o := .cells #[.int .i64 0, .int .i64 0, .int .i64 0] 35 (0, 0)) (Zq3 BK389) hb); have n2_ := za.mk (zk (Zq6 HB GE388 GE389) hb); have n3_ := za.mk (hbox); have n4_ := za.mk ((by rw [hg]; exact (zu (Zq6 HB GE388 GE389)) : w.heap.size ≤ gb390)); have n5_ := za.mk ((by rw [hg]; exact (zu (Zq6 HB GE388 GE389)) : w.heap.size ≤ gb390)); have n6_ := za.mk ((by rw [hg]; exact Nat.ne_of_lt (zcl (g := gb388) (o := .cells #[.int .i64 a0_0, .int .i64 a0_1, .int .i64 a0_2] 65 (0, 0)) (Zq3 BK388)) : gb388 ≠ gb390)); have n7_ := za.mk ((by rw [hg]; exact Nat.ne_of_gt (zcl (g := gb388) (o := .cells #[.int .i64 a0_0, .int .i64 a0_1, .int .i64 a0_2] 65 (0, 0)) (Zq3 BK388)) : gb390 ≠ gb388)); have n8_ := za.mk ((by rw [hg]; exact Nat.ne_of_lt (zcl (g := gb389) (o := .cells #[.int .i64 0, .int .i64 0, .int .i64 0] 35 (0, 0)) (Zq3 BK389)) : gb389 ≠ gb390)); have n9_ := za.mk ((by rw [hg]; exact Nat.ne_of_gt (zcl (g := gb389) (o := .cells #[.int .i64 0, .int .i64 0, .int .i64 0] 35 (0, 0)) (Zq3 BK389)) : gb390 ≠ gb389)); clear BK388; clear BK389; clear HB; have BK388 := n0_; have BK389 := n1_; have HB := n2_; have BK390 := n3_; have GW390 := n4_; have GE390 := n5_; have NB388_390 := n6_; have NB390_388 := n7_; have NB389_390 := n8_; have NB390_389 := n9_; clear n0_ n1_ n2_ n3_ n4_ n5_ n6_ n7_ n8_ n9_; clear hb hbox hg; have hnb5 := NB388_389.out; have hnc5 := NB389_388.out; have hnb6 := NB388_390.out; have hnc6 := NB390_388.out; have hcz7_0 : w4.cell? ⟨gb388, 0, none⟩ = some (.int .i64 a0_0) := (zf BK388.out 0).trans rfl; have hcz7_1 : w4.cell? ⟨gb388, 1, none⟩ = some (.int .i64 a0_1) := (zf BK388.out 1).trans rfl; have hcz7_2 : w4.cell? ⟨gb388, 2, none⟩ = some (.int .i64 a0_2) := (zf BK388.out 2).trans rfl; have hfz7_0 := zm BK388.out 0; have hfz7_1 := zm BK388.out 1; have hfz7_2 := zm BK388.out 2; have hnb8 := NB390_389.out; have hnc8 := NB389_390.out; have hcz9_0 : w4.cell? ⟨gb390, 0, none⟩ = some (.int .i64 0) := (zf BK390.out 0).trans rfl; have hcz9_1 : w4.cell? ⟨gb390, 1, none⟩ = some (.int .i64 0) := (zf BK390.out 1).trans rfl; have hcz9_2 : w4.cell? ⟨gb390, 2, none⟩ = some (.int .i64 0) := (zf BK390.out 2).trans rfl; have hfz9_0 := zm BK390.out 0; have hfz9_1 := zm BK390.out 1; have hfz9_2 := zm BK390.out 2; have hcz10_0 : w4.cell? ⟨gb389, 0, none⟩ = some (.int .i64 0) := (zf BK389.out 0).trans rfl; have hcz10_1 : w4.cell? ⟨gb389, 1, none⟩ = some (.int .i64 0) := (zf BK389.out 1).trans rfl; have hcz10_2 : w4.cell? ⟨gb389, 2, none⟩ = some (.int .i64 0) := (zf BK389.out 2).trans rfl; have hfz10_0 := zm BK389.out 0; have hfz10_1 := zm BK389.out 1; have hfz10_2 := zm BK389.out 2))
 refine bodyPost_ret (results_cell_row rfl _ _ gb389 35 #[.int .i64 a0_0, .int .i64 a0_1, .int .i64 a0_2] (0, 0) _ rfl (by (with_reducible repeat (first | refine zbp ?_ _ | refine zbi ?_ | refine zbo ?_ _)); refine zcv (cs := #[.int .i64 a0_0, .int .i64 a0_1, .int .i64 0]) ?_ 2 _ rfl; (with_reducible repeat (first | refine zbp ?_ _ | refine zbi ?_ | refine zbo ?_ _)); refine zcv (cs := #[.int .i64 a0_0, .int .i64 0, .int .i64 0]) ?_ 1 _ rfl; (with_reducible repeat (first | refine zbp ?_ _ | refine zbi ?_ | refine zbo ?_ _)); refine zcv (cs := #[.int .i64 0, .int .i64 0, .int .i64 0]) ?_ 0 _ rfl; (with_reducible repeat (first | refine zbp ?_ _ | refine zbi ?_ | refine zbo ?_ _)); refine zc6 ?_ NB389_390.out _; (with_reducible repeat (first | refine zbp ?_ _ | refine zbi ?_ | refine zbo ?_ _)); refine zc6 ?_ NB389_390.out _; (with_reducible repeat (first | refine zbp ?_ _ | refine zbi ?_ | refine zbo ?_ _)); refine zc6 ?_ NB389_390.out _; (with_reducible repeat (first | refine zbp ?_ _ | refine zbi ?_ | refine zbo ?_ _)); exact BK389.out) Try.underlying35 rfl (by kernel_rfl)) rfl ?_
 exact ⟨by first | rfl | (simp [zn, zo] <;> rfl) | (simp [*, zn, zo] <;> rfl), Zq12 HB GE388 GE389 GE390⟩
def zbb.l0 : Nat → List (S65) → List (S35) → Int → Option ((List (S35)))
 | 0, _, _, _ => none
 | k + 1, x0, x3, x4 => if x4 < (x0.length : Int) then (if 0 ≤ x4 then ((zdw.f ((zd1 x0 x4).f0) ((zd1 x0 x4).f1) ((zd1 x0 x4).f2)).bind fun bt395 => (if x4 < (x3.length : Int) then (zbb.l0 k x0 (x3.set (x4 : Int).toNat (⟨bt395.1, bt395.2.1, bt395.2.2⟩ : S35)) (wrap64 (x4 + 1))) else (none))) else (none)) else (some x3)
def zbb.f (k : Nat) (l0 : List (S65)) : Option ((List (S35))) := if 0 ≤ (l0.length : Int) then (if ((l0.length : Int) : Int).toNat ≤ 11728124029610 then (zbb.l0 k l0 (List.replicate ((l0.length : Int) : Int).toNat z35) 0) else (none)) else (none)
set_option maxHeartbeats 8000000 in
theorem zbb.calls (k : Nat) (A0 : Option Addr) (c0 : Nat) (l0 : List (S65)) (r : List (S35)) (w : World) (hr0 : Kd.C k65 w A0 l0.length l0) (hc0 : l0.length ≤ c0) (h : zbb.f k l0 = some r) :
  Calls Try.prog 19 #[.slice A0 l0.length c0] w fun e w' => ∃ v0_ : Value, e = .returned (v0_) ∧ Kd.R k35 35 w' w.heap.size (fun _ => True) v0_ r ∧ Below w.heap.size w w' := by
 have hu65 := Try.underlying65
 have hu35 := Try.underlying35
 have HR0 := za.mk hr0
 have HC0 := za.mk hc0
 clear hr0 hc0
 have HB := za.mk (Below.refl w.heap.size w)
 have H : (if 0 ≤ (l0.length : Int) then (if ((l0.length : Int) : Int).toNat ≤ 11728124029610 then (zbb.l0 k l0 (List.replicate ((l0.length : Int) : Int).toNat z35) 0) else (none)) else (none)) = some r := h
 clear h
 by_cases c2 : 0 ≤ (l0.length : Int)
 ·rw [if_pos c2] at H
  have c2b0 := eq_true c2;have c2b1 : decide (0 ≤ (l0.length : Int)) = true := decide_eq_true c2;clear c2;by_cases c3 : ((l0.length : Int) : Int).toNat ≤ 11728124029610
  ·rw [if_pos c3] at H
   have c3b0 := eq_true c3;have c3b1 : decide (((l0.length : Int) : Int).toNat ≤ 11728124029610) = true := decide_eq_true c3;clear c3;obtain ⟨y391, hy391⟩ : ∃ y_ : List (S35), y_ = (List.replicate ((l0.length : Int) : Int).toNat z35) := ⟨_, rfl⟩;replace H : (zbb.l0 k l0 y391 0) = some r := by first | (rw [hy391]; with_reducible exact H) | (have H2_ := (Option.bind_some _ _).symm.trans H; rw [hy391]; with_reducible exact H2_) | (have H2_ := (Option.bind_some _ _).symm.trans H; with_reducible exact H2_) | with_reducible exact H | (rw [hy391]; exact H) | exact H
   have Ny391 := za.mk hy391;clear hy391;have H' := za.mk H;clear H;go_enter Try.func19, Try.ntmps19;go_wp2_with (first | ((with_reducible refine zbw (N := 7) rfl ?_); refine Kd.R_make k35 _ 35 rfl (N := 7) rfl 23 _ _ rfl (l0.length : Int) rfl rfl Try.underlying23 (.agg #[(.int .i64 0), (.int .i64 0), (.int .i64 0)]) 24 info35 rfl (by decide) (by omega) z35 (ok := fun _ => True) (okp := fun _ => True) (zf5 _ _ _ z35 ) (fun _ hk => hk) trivial (of_decide_eq_true Zas) (Nat.le_trans (Nat.mul_le_mul_right _ (of_decide_eq_true Zas : (l0.length : Int).toNat ≤ 11728124029610)) (by omega)) (Below.refl _ _) (Nat.le_refl _) ?_; intro v392 w4 ho5 hb hg_ hnew_; clear hg_ hnew_; (first | rw [← Ny391.out] at ho5 | (simp only [Int.reduceToNat] at ho5; rw [← Ny391.out] at ho5)); have n0_ := za.mk (Kd.zcr ho5 (zu (Zq0 HB))); have n1_ := za.mk (zk (Zq0 HB) hb); clear HB; have HO393 := n0_; have HB := n1_; clear n0_ n1_; clear hb ho5))
   go_loopg [4] k (fun kq v4 w' => ∃ (x3_1 : List (S35)) (x4_1 : Int), v4 = .int .i64 x4_1 ∧ za (zbb.l0 kq l0 x3_1 x4_1 = some r) ∧ za (kq ≤ k) ∧ za (Kd.R k35 35 w' w.heap.size (fun _ => True) v392 x3_1) ∧ za (Below w.heap.size w w'))
   case atStart => exact ⟨(y391), (0), Zrs, H', ⟨Nat.le_refl _⟩, ⟨Zq10 HO393⟩, ⟨Zq0 HB⟩⟩
   case round =>
    clear H'
    (try clear c1);(try clear c2);(try clear c2b0);(try clear c2b1);(try clear p2);(try clear c3);(try clear c3b0);(try clear c3b1)
    obtain ⟨x3_1, x4_1, rfl, HA, HK1, HO_3, HB⟩ := hrel
    cases gk with
    | zero => exact absurd HA.out (by simp [zbb.l0])
    | succ k1 =>
     have H := HA.out;clear HA;simp only [zbb.l0] at H;by_cases c6 : x4_1 < (l0.length : Int)
     ·rw [if_pos c6] at H
      have c6b0 : decide (x4_1 < (l0.length : Int)) = true := decide_eq_true c6;clear c6;by_cases c7 : 0 ≤ x4_1
      ·rw [if_pos c7] at H
       have c7b0 : decide (0 ≤ x4_1) = true := decide_eq_true c7;clear c7;replace H := Option.bind_eq_some_iff.mp H;obtain ⟨⟨t395, t396, t397⟩, A80, H⟩ := H;replace H : (if x4_1 < (x3_1.length : Int) then (zbb.l0 k1 l0 (x3_1.set (x4_1 : Int).toNat (⟨t395, t396, t397⟩ : S35)) (wrap64 (x4_1 + 1))) else (none)) = some r := H;have A8 := za.mk A80;clear A80;by_cases c9 : x4_1 < (x3_1.length : Int)
       ·rw [if_pos c9] at H
        have c9b0 : decide (x4_1 < (x3_1.length : Int)) = true := decide_eq_true c9;clear c9;obtain ⟨y398, hy398⟩ : ∃ y_ : List (S35), y_ = (x3_1.set (x4_1 : Int).toNat (⟨t395, t396, t397⟩ : S35)) := ⟨_, rfl⟩;replace H : (zbb.l0 k1 l0 y398 (wrap64 (x4_1 + 1))) = some r := by first | (rw [hy398]; with_reducible exact H) | (have H2_ := (Option.bind_some _ _).symm.trans H; rw [hy398]; with_reducible exact H2_) | (have H2_ := (Option.bind_some _ _).symm.trans H; with_reducible exact H2_) | with_reducible exact H | (rw [hy398]; exact H) | exact H
        have Ny398 := za.mk hy398;clear hy398;have H' := za.mk H;clear H;have p394 : 0 ≤ (x4_1 : Int) := of_decide_eq_true Zas;have q394 : x4_1 < (l0.length : Int) := of_decide_eq_true Zas;obtain ⟨ad394, e394, hx394_0, hx394_1, hx394_2⟩ := at_T65 HR0.out x4_1 p394 q394
        cases e394
        replace hx394_0 := (HB.out.cell (World.block_lt_of_cell? w _ hx394_0)).trans hx394_0;replace hx394_1 := (HB.out.cell (World.block_lt_of_cell? w _ hx394_1)).trans hx394_1;replace hx394_2 := (HB.out.cell (World.block_lt_of_cell? w _ hx394_2)).trans hx394_2;replace p394 := eq_true p394;replace q394 := eq_true q394;go_wp2_with (first | ((with_reducible refine zt (f := 46) rfl ?_); refine zbt (some 20) rfl rfl Try.func46 (by kernel_rfl) rfl #[.agg #[.int .i64 ((zd1 l0 x4_1).f0), .int .i64 ((zd1 l0 x4_1).f1), .int .i64 ((zd1 l0 x4_1).f2)]] rfl Zmt ?_; (with_reducible refine (zdw.calls ((zd1 l0 x4_1).f0) ((zd1 l0 x4_1).f1) ((zd1 l0 x4_1).f2) t395 t396 t397 _ A8.out).mono ?_); rintro e w11 ⟨rfl, hb⟩; refine ⟨_, rfl, ?_⟩; have n0_ := za.mk (Kd.zb9 (Zq10 HO_3) hb); have n1_ := za.mk (zk (Zq0 HB) hb); clear HO_3; clear HB; have HO_3 := n0_; have HB := n1_; clear n0_ n1_; (try clear hb); (try clear hb2); (try clear hk); (try clear hi); have p10 : 0 ≤ (x4_1 : Int) := of_decide_eq_true Zas; have q10 : (x4_1 : Int) < ((x3_1.length : Int) : Int) := of_decide_eq_true Zas; obtain ⟨go10, co10, eo10, gb10, gl10, cl10, HG10⟩ := Kd.zfu HO_3.out (by omega); (first | cases eo10 | (injection eo10 with ea_ en_ ec_; (first | subst ea_ | (injection ea_ with ea_; subst ea_)); subst ec_; clear en_)); have GB10 := za.mk gb10; have GG10 := za.mk HG10; clear gb10 gl10 HG10; obtain ⟨ce10, hcl10, hM10, hcc10, hfr10⟩ := Kd.zer HO_3.out z35 (x4_1 : Int) p10 q10; obtain rfl := zdg hM10; have hx10_0 : w11.cell? ⟨go10, (x4_1 : Int).toNat * 3, none⟩ = some (.int .i64 ((zb x3_1 x4_1).f0)) := hcc10 0 _ rfl; have hx10_1 : w11.cell? ⟨go10, (x4_1 : Int).toNat * 3 + 1, none⟩ = some (.int .i64 ((zb x3_1 x4_1).f1)) := hcc10 1 _ rfl; have hx10_2 : w11.cell? ⟨go10, (x4_1 : Int).toNat * 3 + 2, none⟩ = some (.int .i64 ((zb x3_1 x4_1).f2)) := hcc10 2 _ rfl; have hf10_0 : w11.frozen? ⟨go10, (x4_1 : Int).toNat * 3, none⟩ = false := hfr10 0; have hf10_1 : w11.frozen? ⟨go10, (x4_1 : Int).toNat * 3 + 1, none⟩ = false := hfr10 1; have hf10_2 : w11.frozen? ⟨go10, (x4_1 : Int).toNat * 3 + 2, none⟩ = false := hfr10 2; (try clear hcl10); (try clear hcc10); (try clear hfr10); (try clear hM10); replace p10 := eq_true p10; replace q10 := eq_true q10; have HX12 := za.mk (show Kd.R k35 35 w11 w.heap.size (fun _ => True) (.slice (some ⟨go10, 0, none⟩) x3_1.length co10) x3_1 from (Zq10 HO_3)); obtain ⟨ce12, hcl12, hM12, hcc12, hfr12⟩ := Kd.zer HX12.out z35 (x4_1 : Int) (of_decide_eq_true Zas) (by have h_ : (x4_1 : Int) < ((x3_1.length : Int) : Int) := of_decide_eq_true Zas; first | exact h_ | (have e_ := (Kd.zbm HO_3.out).1; omega) | simpa using h_); obtain rfl := zdg hM12; have HP12 := Kd.R_seg HX12.out (x4_1 : Int) (of_decide_eq_true Zas) (by have h_ : (x4_1 : Int) < ((x3_1.length : Int) : Int) := of_decide_eq_true Zas; first | exact h_ | (have e_ := (Kd.zbm HO_3.out).1; omega) | simpa using h_) (seg := [.int .i64 t395, .int .i64 t396, .int .i64 t397]) (j := 0) hcl12 hcc12 (show 3 ≤ 3 from by decide) (x' := (⟨t395, t396, t397⟩ : S35)) (zf5 _ _ _ (⟨t395, t396, t397⟩ : S35) ) (fun _ hk => hk); have hx12_0 := hcc12 0 _ rfl; (try simp only [show (k35).sz = 3 from rfl, Nat.mul_one, Nat.add_zero] at hx12_0); have hf12_0 := hfr12 0; (try simp only [show (k35).sz = 3 from rfl, Nat.mul_one, Nat.add_zero] at hf12_0); have hx12_1 := hcc12 1 _ rfl; (try simp only [show (k35).sz = 3 from rfl, Nat.mul_one, Nat.add_zero] at hx12_1); have hf12_1 := hfr12 1; (try simp only [show (k35).sz = 3 from rfl, Nat.mul_one, Nat.add_zero] at hf12_1); have hx12_2 := hcc12 2 _ rfl; (try simp only [show (k35).sz = 3 from rfl, Nat.mul_one, Nat.add_zero] at hx12_2); have hf12_2 := hfr12 2; (try simp only [show (k35).sz = 3 from rfl, Nat.mul_one, Nat.add_zero] at hf12_2); (try clear hcl12); (try clear hcc12); (try clear hfr12); (try clear hM12)) | ((with_reducible refine zd3 (t := 35) (p := 21) rfl ?_); refine zds (t := 35) (p := 21) (v := ?vo_w13) (w1 := (((w11.setCell ⟨go10, (x4_1 : Int).toNat * 3, none⟩ (.int .i64 t395)).setCell ⟨go10, (x4_1 : Int).toNat * 3 + 1, none⟩ (.int .i64 t396)).setCell ⟨go10, (x4_1 : Int).toNat * 3 + 2, none⟩ (.int .i64 t397))) ?hg ?ho ?hn ?hr ?_; (case ho => rfl); (case hg => rfl); (case hn => rfl); (case hr => first | (go_simp; done) | (go_simp; rfl)); intro w13 hw; have hg : w11.grownBy w13 (some go10) := (by rw [hw]; exact HP12.2); have hp_ : Kd.R k35 35 w13 w.heap.size (fun _ => True) (.slice (some ⟨go10, 0, none⟩) x3_1.length co10) y398 := (by rw [hw, Ny398.out]; exact HP12.1); clear HP12; have n0_ := za.mk (hp_); have n1_ := za.mk ((by rw [hw]; exact zcs (zcs (zcs (HB.out) GB10.out) GB10.out) GB10.out : Below w.heap.size w w13)); clear HO_3; clear HB; have HO_3 := n0_; have HB := n1_; clear n0_ n1_; clear hg hw hp_));go_roundg k1
        case measure => have := HK1.out; omega
        case rel => exact ⟨(y398), (wrap64 (x4_1 + 1)), Zrs, H', ⟨by have := HK1.out; omega⟩, ⟨Zq10 HO_3⟩, ⟨Zq0 HB⟩⟩
       ·rw [if_neg c9] at H
        exact absurd H (by simp)
      ·rw [if_neg c7] at H
       exact absurd H (by simp)
     ·rw [if_neg c6] at H
      have c6b0 : decide (x4_1 < (l0.length : Int)) = false := decide_eq_false c6;clear c6;obtain rfl := Option.some.inj H;go_wp2;go_ret;exact ⟨_, by first | rfl | (simp [zn, zo] <;> rfl) | (simp [*, zn, zo] <;> rfl), Zq10 HO_3, Zq0 HB⟩
  ·rw [if_neg c3] at H
   exact absurd H (by simp)
 ·rw [if_neg c2] at H
  exact absurd H (by simp)
def zb7.l0 : Nat → List Int → List Int → Int → Option (Bool)
 | 0, _, _, _ => none
 | k + 1, x0, x1, x5 => if x5 < (x0.length : Int) then (if 0 ≤ x5 then (if x5 < (x1.length : Int) then (if (rd x0 x5) = (rd x1 x5) then (zb7.l0 k x0 x1 (wrap64 (x5 + 1))) else (some false)) else (none)) else (none)) else (some true)
def zb7.f (k : Nat) (l0 : List Int) (l1 : List Int) : Option (Bool) := if (l0.length : Int) = (l1.length : Int) then (zb7.l0 k l0 l1 0) else (some false)
set_option maxHeartbeats 8000000 in
theorem zb7.calls (k : Nat) (A0 : Option Addr) (c0 : Nat) (l0 : List Int) (A1 : Option Addr) (c1 : Nat) (l1 : List Int) (r : Bool) (w : World) (hr0 : Kd.C (Kd.int .i64) w A0 l0.length l0) (hc0 : l0.length ≤ c0) (hr1 : Kd.C (Kd.int .i64) w A1 l1.length l1) (hc1 : l1.length ≤ c1) (h : zb7.f k l0 l1 = some r) :
  Calls Try.prog 47 #[.slice A0 l0.length c0, .slice A1 l1.length c1] w fun e w' => e = .returned (.bool r) ∧ zbl w w' := by
 have HR0 := za.mk hr0
 have HC0 := za.mk hc0
 clear hr0 hc0
 have HR1 := za.mk hr1
 have HC1 := za.mk hc1
 clear hr1 hc1
 have H : (if (l0.length : Int) = (l1.length : Int) then (zb7.l0 k l0 l1 0) else (some false)) = some r := h
 clear h
 by_cases c3 : (l0.length : Int) = (l1.length : Int)
 ·rw [if_pos c3] at H
  have c3b0 : ((l0.length : Int) == (l1.length : Int)) = true := beq_iff_eq.mpr c3;have c3b1 : ((l0.length : Int) != (l1.length : Int)) = false := bne_eq_false_iff_eq.mpr c3;have c3b2 : (l0.length == l1.length) = true := by first | simpa using c3 | (simp at c3 ⊢; omega)
  clear c3;have H' := za.mk H;clear H;go_enter Try.func47, Try.ntmps47;go_wp2
  repeat (go_quiet (fail); try go_wp2)
  go_loopg [5] k (fun kq v5 w' => ∃ (x5_1 : Int), v5 = .int .i64 x5_1 ∧ za (zb7.l0 kq l0 l1 x5_1 = some r) ∧ za (kq ≤ k) ∧ zbl w w')
  case atStart => exact ⟨(0), Zrs, H', ⟨Nat.le_refl _⟩, by repeat (first | exact zbl.refl _ | apply zbl.step)⟩
  case round =>
   clear H'
   (try clear c1);(try clear p2);(try clear c3);(try clear c3b0);(try clear c3b1);(try clear c3b2)
   obtain ⟨x5_1, rfl, HA, HK1, ⟨m1, rfl⟩⟩ := hrel
   cases gk with
   | zero => exact absurd HA.out (by simp [zb7.l0])
   | succ k1 =>
    have H := HA.out;clear HA;simp only [zb7.l0] at H;by_cases c4 : x5_1 < (l0.length : Int)
    ·rw [if_pos c4] at H
     have c4b0 : decide (x5_1 < (l0.length : Int)) = true := decide_eq_true c4;clear c4;by_cases c5 : 0 ≤ x5_1
     ·rw [if_pos c5] at H
      have c5b0 : decide (0 ≤ x5_1) = true := decide_eq_true c5;clear c5;by_cases c6 : x5_1 < (l1.length : Int)
      ·rw [if_pos c6] at H
       have c6b0 : decide (x5_1 < (l1.length : Int)) = true := decide_eq_true c6;clear c6;by_cases c7 : (rd l0 x5_1) = (rd l1 x5_1)
       ·rw [if_pos c7] at H
        have c7b0 : ((rd l0 x5_1) == (rd l1 x5_1)) = true := beq_iff_eq.mpr c7;have c7b1 : ((rd l0 x5_1) != (rd l1 x5_1)) = false := bne_eq_false_iff_eq.mpr c7;clear c7;have H' := za.mk H;clear H;have p399 : 0 ≤ (x5_1 : Int) := of_decide_eq_true Zas;have q399 : x5_1 < (l0.length : Int) := of_decide_eq_true Zas;obtain ⟨ad399, e399, hx399_0⟩ := Kd.zcb HR0.out x5_1 p399 q399
        cases e399
        replace p399 := eq_true p399;replace q399 := eq_true q399;have p400 : 0 ≤ (x5_1 : Int) := of_decide_eq_true Zas;have q400 : x5_1 < (l1.length : Int) := of_decide_eq_true Zas;obtain ⟨ad400, e400, hx400_0⟩ := Kd.zcb HR1.out x5_1 p400 q400
        cases e400
        replace p400 := eq_true p400;replace q400 := eq_true q400;go_wp2
        repeat (go_quiet (fail); try go_wp2)
        go_roundg k1
        case measure => have := HK1.out; omega
        case rel => exact ⟨(wrap64 (x5_1 + 1)), Zrs, H', ⟨by have := HK1.out; omega⟩, by repeat (first | exact zbl.refl _ | apply zbl.step)⟩
       ·rw [if_neg c7] at H
        have c7b0 : ((rd l0 x5_1) == (rd l1 x5_1)) = false := beq_eq_false_iff_ne.mpr c7;have c7b1 : ((rd l0 x5_1) != (rd l1 x5_1)) = true := bne_iff_ne.mpr c7;obtain rfl := Option.some.inj H;have p399 : 0 ≤ (x5_1 : Int) := of_decide_eq_true Zas;have q399 : x5_1 < (l0.length : Int) := of_decide_eq_true Zas;obtain ⟨ad399, e399, hx399_0⟩ := Kd.zcb HR0.out x5_1 p399 q399
        cases e399
        replace p399 := eq_true p399;replace q399 := eq_true q399;have p400 : 0 ≤ (x5_1 : Int) := of_decide_eq_true Zas;have q400 : x5_1 < (l1.length : Int) := of_decide_eq_true Zas;obtain ⟨ad400, e400, hx400_0⟩ := Kd.zcb HR1.out x5_1 p400 q400
        cases e400
        replace p400 := eq_true p400;replace q400 := eq_true q400;go_wp2
        repeat (go_quiet (fail); try go_wp2)
        go_ret;exact ⟨by first | rfl | (simp; done) | (simp [*]; done), by repeat (first | exact zbl.refl _ | apply zbl.step)⟩
      ·rw [if_neg c6] at H
       exact absurd H (by simp)
     ·rw [if_neg c5] at H
      exact absurd H (by simp)
    ·rw [if_neg c4] at H
     have c4b0 : decide (x5_1 < (l0.length : Int)) = false := decide_eq_false c4;clear c4;obtain rfl := Option.some.inj H;go_wp2
     repeat (go_quiet (fail); try go_wp2)
     go_ret;exact ⟨by first | rfl | (simp; done) | (simp [*]; done), by repeat (first | exact zbl.refl _ | apply zbl.step)⟩
 ·rw [if_neg c3] at H
  have c3b0 : ((l0.length : Int) == (l1.length : Int)) = false := beq_eq_false_iff_ne.mpr c3;have c3b1 : ((l0.length : Int) != (l1.length : Int)) = true := bne_iff_ne.mpr c3;have c3b2 : (l0.length == l1.length) = false := by first | simpa using c3 | (simp at c3 ⊢; omega)
  obtain rfl := Option.some.inj H;go_enter Try.func47, Try.ntmps47;go_wp2
  repeat (go_quiet (fail); try go_wp2)
  go_ret;exact ⟨by first | rfl | (simp; done) | (simp [*]; done), by repeat (first | exact zbl.refl _ | apply zbl.step)⟩
def zbc.l0 : Nat → List (List Int) → List (List Int) → Int → Option (Bool)
 | 0, _, _, _ => none
 | k + 1, x0, x1, x5 => if x5 < (x0.length : Int) then (if 0 ≤ x5 then (if x5 < (x1.length : Int) then ((zb7.f k (zc5 x0 x5) (zc5 x1 x5)).bind fun t403 => (if t403 = true then (zbc.l0 k x0 x1 (wrap64 (x5 + 1))) else (some false))) else (none)) else (none)) else (some true)
def zbc.f (k : Nat) (l0 : List (List Int)) (l1 : List (List Int)) : Option (Bool) := if (l0.length : Int) = (l1.length : Int) then (zbc.l0 k l0 l1 0) else (some false)
set_option maxHeartbeats 8000000 in
theorem zbc.calls (k : Nat) (A0 : Option Addr) (c0 : Nat) (l0 : List (List Int)) (A1 : Option Addr) (c1 : Nat) (l1 : List (List Int)) (r : Bool) (w : World) (hr0 : Kd.C (Kd.slice 3 (Kd.int .i64)) w A0 l0.length l0) (hc0 : l0.length ≤ c0) (hr1 : Kd.C (Kd.slice 3 (Kd.int .i64)) w A1 l1.length l1) (hc1 : l1.length ≤ c1) (h : zbc.f k l0 l1 = some r) :
  Calls Try.prog 20 #[.slice A0 l0.length c0, .slice A1 l1.length c1] w fun e w' => e = .returned (.bool r) ∧ zbl w w' := by
 have HR0 := za.mk hr0
 have HC0 := za.mk hc0
 clear hr0 hc0
 have HR1 := za.mk hr1
 have HC1 := za.mk hc1
 clear hr1 hc1
 have H : (if (l0.length : Int) = (l1.length : Int) then (zbc.l0 k l0 l1 0) else (some false)) = some r := h
 clear h
 by_cases c3 : (l0.length : Int) = (l1.length : Int)
 ·rw [if_pos c3] at H
  have c3b0 : ((l0.length : Int) == (l1.length : Int)) = true := beq_iff_eq.mpr c3;have c3b1 : ((l0.length : Int) != (l1.length : Int)) = false := bne_eq_false_iff_eq.mpr c3;have c3b2 : (l0.length == l1.length) = true := by first | simpa using c3 | (simp at c3 ⊢; omega)
  clear c3;have H' := za.mk H;clear H;go_enter Try.func20, Try.ntmps20;go_wp2
  repeat (go_quiet (fail); try go_wp2)
  go_loopg [5] k (fun kq v5 w' => ∃ (x5_1 : Int), v5 = .int .i64 x5_1 ∧ za (zbc.l0 kq l0 l1 x5_1 = some r) ∧ za (kq ≤ k) ∧ zbl w w')
  case atStart => exact ⟨(0), Zrs, H', ⟨Nat.le_refl _⟩, by repeat (first | exact zbl.refl _ | apply zbl.step)⟩
  case round =>
   clear H'
   (try clear c1);(try clear c2);(try clear p2);(try clear c3);(try clear c3b0);(try clear c3b1);(try clear c3b2)
   obtain ⟨x5_1, rfl, HA, HK1, ⟨m1, rfl⟩⟩ := hrel
   cases gk with
   | zero => exact absurd HA.out (by simp [zbc.l0])
   | succ k1 =>
    have H := HA.out;clear HA;simp only [zbc.l0] at H;by_cases c4 : x5_1 < (l0.length : Int)
    ·rw [if_pos c4] at H
     have c4b0 : decide (x5_1 < (l0.length : Int)) = true := decide_eq_true c4;clear c4;by_cases c5 : 0 ≤ x5_1
     ·rw [if_pos c5] at H
      have c5b0 : decide (0 ≤ x5_1) = true := decide_eq_true c5;clear c5;by_cases c6 : x5_1 < (l1.length : Int)
      ·rw [if_pos c6] at H
       have c6b0 : decide (x5_1 < (l1.length : Int)) = true := decide_eq_true c6;clear c6;replace H := Option.bind_eq_some_iff.mp H;obtain ⟨t403, A70, H⟩ := H;replace H : (if t403 = true then (zbc.l0 k1 l0 l1 (wrap64 (x5_1 + 1))) else (some false)) = some r := H;have A7 := za.mk A70;clear A70;by_cases c8 : t403 = true
       ·subst c8
        have H1 : (zbc.l0 k1 l0 l1 (wrap64 (x5_1 + 1))) = some r := by rw [if_pos rfl] at H; exact H
        clear H;have H := H1;clear H1;have H' := za.mk H;clear H;have p401 : 0 ≤ (x5_1 : Int) := of_decide_eq_true Zas;have q401 : x5_1 < (l0.length : Int) := of_decide_eq_true Zas;obtain ⟨ad401, A401_0, c401_0, e401, hx401_0, hl401_0, hi401_0⟩ := at_L3 HR0.out x5_1 p401 q401
        cases e401
        have HR401_0 := za.mk hi401_0;have HC401_0 := za.mk hl401_0;clear hi401_0 hl401_0;replace p401 := eq_true p401;replace q401 := eq_true q401;have p402 : 0 ≤ (x5_1 : Int) := of_decide_eq_true Zas;have q402 : x5_1 < (l1.length : Int) := of_decide_eq_true Zas;obtain ⟨ad402, A402_0, c402_0, e402, hx402_0, hl402_0, hi402_0⟩ := at_L3 HR1.out x5_1 p402 q402
        cases e402
        have HR402_0 := za.mk hi402_0;have HC402_0 := za.mk hl402_0;clear hi402_0 hl402_0;replace p402 := eq_true p402;replace q402 := eq_true q402;go_wp2_with (first | (go_at_call 47; (with_reducible refine (zb7.calls k1 _ _ (zc5 l0 x5_1) _ _ (zc5 l1 x5_1) true _ ?side1 ?side2 ?side3 ?side4 A7.out).mono ?_); (case side1 => exact Zq4 HR401_0); (case side2 => exact HC401_0.out); (case side3 => exact Zq4 HR402_0); (case side4 => exact HC402_0.out); rintro e w' ⟨rfl, ⟨nd, rfl⟩⟩; (try first | exact ⟨rfl, _, World.drewN_drewN _ _ _⟩ | exact ⟨rfl, _, Eq.trans (World.drewN_drewN _ _ _) (congrArg (World.drewN _) (Nat.add_assoc _ _ _))⟩)))
        repeat (go_quiet (first | (go_at_call 47; (with_reducible refine (zb7.calls k1 _ _ (zc5 l0 x5_1) _ _ (zc5 l1 x5_1) true _ ?side1 ?side2 ?side3 ?side4 A7.out).mono ?_); (case side1 => exact Zq4 HR401_0); (case side2 => exact HC401_0.out); (case side3 => exact Zq4 HR402_0); (case side4 => exact HC402_0.out); rintro e w' ⟨rfl, ⟨nd, rfl⟩⟩; (try first | exact ⟨rfl, _, World.drewN_drewN _ _ _⟩ | exact ⟨rfl, _, Eq.trans (World.drewN_drewN _ _ _) (congrArg (World.drewN _) (Nat.add_assoc _ _ _))⟩))); try go_wp2_with (first | (go_at_call 47; (with_reducible refine (zb7.calls k1 _ _ (zc5 l0 x5_1) _ _ (zc5 l1 x5_1) true _ ?side1 ?side2 ?side3 ?side4 A7.out).mono ?_); (case side1 => exact Zq4 HR401_0); (case side2 => exact HC401_0.out); (case side3 => exact Zq4 HR402_0); (case side4 => exact HC402_0.out); rintro e w' ⟨rfl, ⟨nd, rfl⟩⟩; (try first | exact ⟨rfl, _, World.drewN_drewN _ _ _⟩ | exact ⟨rfl, _, Eq.trans (World.drewN_drewN _ _ _) (congrArg (World.drewN _) (Nat.add_assoc _ _ _))⟩))))
        go_roundg k1
        case measure => have := HK1.out; omega
        case rel => exact ⟨(wrap64 (x5_1 + 1)), Zrs, H', ⟨by have := HK1.out; omega⟩, by repeat (first | exact zbl.refl _ | apply zbl.step)⟩
       ·replace c8 := Bool.eq_false_iff.mpr c8
        subst c8;have H1 : (some false) = some r := by rw [if_neg (show ¬ (false = true) by decide)] at H; exact H
        clear H;have H := H1;clear H1;obtain rfl := Option.some.inj H;have p401 : 0 ≤ (x5_1 : Int) := of_decide_eq_true Zas;have q401 : x5_1 < (l0.length : Int) := of_decide_eq_true Zas;obtain ⟨ad401, A401_0, c401_0, e401, hx401_0, hl401_0, hi401_0⟩ := at_L3 HR0.out x5_1 p401 q401
        cases e401
        have HR401_0 := za.mk hi401_0;have HC401_0 := za.mk hl401_0;clear hi401_0 hl401_0;replace p401 := eq_true p401;replace q401 := eq_true q401;have p402 : 0 ≤ (x5_1 : Int) := of_decide_eq_true Zas;have q402 : x5_1 < (l1.length : Int) := of_decide_eq_true Zas;obtain ⟨ad402, A402_0, c402_0, e402, hx402_0, hl402_0, hi402_0⟩ := at_L3 HR1.out x5_1 p402 q402
        cases e402
        have HR402_0 := za.mk hi402_0;have HC402_0 := za.mk hl402_0;clear hi402_0 hl402_0;replace p402 := eq_true p402;replace q402 := eq_true q402;go_wp2_with (first | (go_at_call 47; (with_reducible refine (zb7.calls k1 _ _ (zc5 l0 x5_1) _ _ (zc5 l1 x5_1) false _ ?side1 ?side2 ?side3 ?side4 A7.out).mono ?_); (case side1 => exact Zq4 HR401_0); (case side2 => exact HC401_0.out); (case side3 => exact Zq4 HR402_0); (case side4 => exact HC402_0.out); rintro e w' ⟨rfl, ⟨nd, rfl⟩⟩; (try first | exact ⟨rfl, _, World.drewN_drewN _ _ _⟩ | exact ⟨rfl, _, Eq.trans (World.drewN_drewN _ _ _) (congrArg (World.drewN _) (Nat.add_assoc _ _ _))⟩)))
        repeat (go_quiet (first | (go_at_call 47; (with_reducible refine (zb7.calls k1 _ _ (zc5 l0 x5_1) _ _ (zc5 l1 x5_1) false _ ?side1 ?side2 ?side3 ?side4 A7.out).mono ?_); (case side1 => exact Zq4 HR401_0); (case side2 => exact HC401_0.out); (case side3 => exact Zq4 HR402_0); (case side4 => exact HC402_0.out); rintro e w' ⟨rfl, ⟨nd, rfl⟩⟩; (try first | exact ⟨rfl, _, World.drewN_drewN _ _ _⟩ | exact ⟨rfl, _, Eq.trans (World.drewN_drewN _ _ _) (congrArg (World.drewN _) (Nat.add_assoc _ _ _))⟩))); try go_wp2_with (first | (go_at_call 47; (with_reducible refine (zb7.calls k1 _ _ (zc5 l0 x5_1) _ _ (zc5 l1 x5_1) false _ ?side1 ?side2 ?side3 ?side4 A7.out).mono ?_); (case side1 => exact Zq4 HR401_0); (case side2 => exact HC401_0.out); (case side3 => exact Zq4 HR402_0); (case side4 => exact HC402_0.out); rintro e w' ⟨rfl, ⟨nd, rfl⟩⟩; (try first | exact ⟨rfl, _, World.drewN_drewN _ _ _⟩ | exact ⟨rfl, _, Eq.trans (World.drewN_drewN _ _ _) (congrArg (World.drewN _) (Nat.add_assoc _ _ _))⟩))))
        go_ret;exact ⟨by first | rfl | (simp; done) | (simp [*]; done), by repeat (first | exact zbl.refl _ | apply zbl.step)⟩
      ·rw [if_neg c6] at H
       exact absurd H (by simp)
     ·rw [if_neg c5] at H
      exact absurd H (by simp)
    ·rw [if_neg c4] at H
     have c4b0 : decide (x5_1 < (l0.length : Int)) = false := decide_eq_false c4;clear c4;obtain rfl := Option.some.inj H;go_wp2
     repeat (go_quiet (fail); try go_wp2)
     go_ret;exact ⟨by first | rfl | (simp; done) | (simp [*]; done), by repeat (first | exact zbl.refl _ | apply zbl.step)⟩
 ·rw [if_neg c3] at H
  have c3b0 : ((l0.length : Int) == (l1.length : Int)) = false := beq_eq_false_iff_ne.mpr c3;have c3b1 : ((l0.length : Int) != (l1.length : Int)) = true := bne_iff_ne.mpr c3;have c3b2 : (l0.length == l1.length) = false := by first | simpa using c3 | (simp at c3 ⊢; omega)
  obtain rfl := Option.some.inj H;go_enter Try.func20, Try.ntmps20;go_wp2
  repeat (go_quiet (fail); try go_wp2)
  go_ret;exact ⟨by first | rfl | (simp; done) | (simp [*]; done), by repeat (first | exact zbl.refl _ | apply zbl.step)⟩
def zde.f (a0_0 : Int) (a0_1 : Int) (a0_2 : Int) (a1_0 : Int) (a1_1 : Int) (a1_2 : Int) : Option (Bool) := if a0_0 = a1_0 then (if a0_1 = a1_1 then (if a0_2 = a1_2 then (some true) else (some false)) else (some false)) else (some false)
set_option maxHeartbeats 8000000 in
theorem zde.calls (a0_0 : Int) (a0_1 : Int) (a0_2 : Int) (a1_0 : Int) (a1_1 : Int) (a1_2 : Int) (r : Bool) (w : World) (h : zde.f a0_0 a0_1 a0_2 a1_0 a1_1 a1_2 = some r) :
  Calls Try.prog 48 #[.agg #[.int .i64 a0_0, .int .i64 a0_1, .int .i64 a0_2], .agg #[.int .i64 a1_0, .int .i64 a1_1, .int .i64 a1_2]] w fun e w' => e = .returned (.bool r) ∧ Below w.heap.size w w' := by
 have hu35 := Try.underlying35
 have HB := za.mk (Below.refl w.heap.size w)
 have H : (if a0_0 = a1_0 then (if a0_1 = a1_1 then (if a0_2 = a1_2 then (some true) else (some false)) else (some false)) else (some false)) = some r := h
 clear h
 by_cases c3 : a0_0 = a1_0
 ·rw [if_pos c3] at H
  have c3b0 : (a0_0 == a1_0) = true := beq_iff_eq.mpr c3;have c3b1 : (a0_0 != a1_0) = false := bne_eq_false_iff_eq.mpr c3;clear c3;by_cases c4 : a0_1 = a1_1
  ·rw [if_pos c4] at H
   have c4b0 : (a0_1 == a1_1) = true := beq_iff_eq.mpr c4;have c4b1 : (a0_1 != a1_1) = false := bne_eq_false_iff_eq.mpr c4;clear c4;by_cases c5 : a0_2 = a1_2
   ·rw [if_pos c5] at H
    have c5b0 : (a0_2 == a1_2) = true := beq_iff_eq.mpr c5;have c5b1 : (a0_2 != a1_2) = false := bne_eq_false_iff_eq.mpr c5;clear c5;obtain rfl := Option.some.inj H;go_enter Try.func48, Try.ntmps48;go_wp2_with (first | ((with_reducible refine zbw (N := 2) rfl ?_); refine zbv ?hg (N := 2) ?hd (cs := #[.int .i64 a0_0, .int .i64 a0_1, .int .i64 a0_2]) (t := 35) ?hr ?_; (case hd => rfl); (case hg => rfl); (case hr => first | (go_simp; done) | (go_simp; rfl)); intro gb404 hg w6 hbox hb; have n0_ := za.mk (zk (Zq0 HB) hb); have n1_ := za.mk (hbox); have n2_ := za.mk ((by rw [hg]; exact (zu (Zq0 HB)) : w.heap.size ≤ gb404)); have n3_ := za.mk ((by rw [hg]; exact (zu (Zq0 HB)) : w.heap.size ≤ gb404)); clear HB; have HB := n0_; have BK404 := n1_; have GW404 := n2_; have GE404 := n3_; clear n0_ n1_ n2_ n3_; clear hb hbox hg) | ((with_reducible refine zbw (N := 3) rfl ?_); refine zbv ?hg (N := 3) ?hd (cs := #[.int .i64 a1_0, .int .i64 a1_1, .int .i64 a1_2]) (t := 35) ?hr ?_; (case hd => rfl); (case hg => rfl); (case hr => first | (go_simp; done) | (go_simp; rfl)); intro gb405 hg w7 hbox hb; have n0_ := za.mk (zbq (g := gb404) (o := .cells #[.int .i64 a0_0, .int .i64 a0_1, .int .i64 a0_2] 35 (0, 0)) (Zq3 BK404) hb); have n1_ := za.mk (zk (Zq1 HB GE404) hb); have n2_ := za.mk (hbox); have n3_ := za.mk ((by rw [hg]; exact (zu (Zq1 HB GE404)) : w.heap.size ≤ gb405)); have n4_ := za.mk ((by rw [hg]; exact (zu (Zq1 HB GE404)) : w.heap.size ≤ gb405)); have n5_ := za.mk ((by rw [hg]; exact Nat.ne_of_lt (zcl (g := gb404) (o := .cells #[.int .i64 a0_0, .int .i64 a0_1, .int .i64 a0_2] 35 (0, 0)) (Zq3 BK404)) : gb404 ≠ gb405)); have n6_ := za.mk ((by rw [hg]; exact Nat.ne_of_gt (zcl (g := gb404) (o := .cells #[.int .i64 a0_0, .int .i64 a0_1, .int .i64 a0_2] 35 (0, 0)) (Zq3 BK404)) : gb405 ≠ gb404)); clear BK404; clear HB; have BK404 := n0_; have HB := n1_; have BK405 := n2_; have GW405 := n3_; have GE405 := n4_; have NB404_405 := n5_; have NB405_404 := n6_; clear n0_ n1_ n2_ n3_ n4_ n5_ n6_; clear hb hbox hg; have hnb8 := NB404_405.out; have hnc8 := NB405_404.out; have hcz9_0 : w7.cell? ⟨gb404, 0, none⟩ = some (.int .i64 a0_0) := (zf BK404.out 0).trans rfl; have hcz9_1 : w7.cell? ⟨gb404, 1, none⟩ = some (.int .i64 a0_1) := (zf BK404.out 1).trans rfl; have hcz9_2 : w7.cell? ⟨gb404, 2, none⟩ = some (.int .i64 a0_2) := (zf BK404.out 2).trans rfl; have hfz9_0 := zm BK404.out 0; have hfz9_1 := zm BK404.out 1; have hfz9_2 := zm BK404.out 2; have hcz10_0 : w7.cell? ⟨gb405, 0, none⟩ = some (.int .i64 a1_0) := (zf BK405.out 0).trans rfl; have hcz10_1 : w7.cell? ⟨gb405, 1, none⟩ = some (.int .i64 a1_1) := (zf BK405.out 1).trans rfl; have hcz10_2 : w7.cell? ⟨gb405, 2, none⟩ = some (.int .i64 a1_2) := (zf BK405.out 2).trans rfl; have hfz10_0 := zm BK405.out 0; have hfz10_1 := zm BK405.out 1; have hfz10_2 := zm BK405.out 2));go_ret;exact ⟨by first | rfl | (simp [zn, zo] <;> rfl) | (simp [*, zn, zo] <;> rfl), Zq6 HB GE404 GE405⟩
   ·rw [if_neg c5] at H
    have c5b0 : (a0_2 == a1_2) = false := beq_eq_false_iff_ne.mpr c5;have c5b1 : (a0_2 != a1_2) = true := bne_iff_ne.mpr c5;obtain rfl := Option.some.inj H;go_enter Try.func48, Try.ntmps48;go_wp2_with (first | ((with_reducible refine zbw (N := 2) rfl ?_); refine zbv ?hg (N := 2) ?hd (cs := #[.int .i64 a0_0, .int .i64 a0_1, .int .i64 a0_2]) (t := 35) ?hr ?_; (case hd => rfl); (case hg => rfl); (case hr => first | (go_simp; done) | (go_simp; rfl)); intro gb404 hg w11 hbox hb; have n0_ := za.mk (zk (Zq0 HB) hb); have n1_ := za.mk (hbox); have n2_ := za.mk ((by rw [hg]; exact (zu (Zq0 HB)) : w.heap.size ≤ gb404)); have n3_ := za.mk ((by rw [hg]; exact (zu (Zq0 HB)) : w.heap.size ≤ gb404)); clear HB; have HB := n0_; have BK404 := n1_; have GW404 := n2_; have GE404 := n3_; clear n0_ n1_ n2_ n3_; clear hb hbox hg) | ((with_reducible refine zbw (N := 3) rfl ?_); refine zbv ?hg (N := 3) ?hd (cs := #[.int .i64 a1_0, .int .i64 a1_1, .int .i64 a1_2]) (t := 35) ?hr ?_; (case hd => rfl); (case hg => rfl); (case hr => first | (go_simp; done) | (go_simp; rfl)); intro gb405 hg w12 hbox hb; have n0_ := za.mk (zbq (g := gb404) (o := .cells #[.int .i64 a0_0, .int .i64 a0_1, .int .i64 a0_2] 35 (0, 0)) (Zq3 BK404) hb); have n1_ := za.mk (zk (Zq1 HB GE404) hb); have n2_ := za.mk (hbox); have n3_ := za.mk ((by rw [hg]; exact (zu (Zq1 HB GE404)) : w.heap.size ≤ gb405)); have n4_ := za.mk ((by rw [hg]; exact (zu (Zq1 HB GE404)) : w.heap.size ≤ gb405)); have n5_ := za.mk ((by rw [hg]; exact Nat.ne_of_lt (zcl (g := gb404) (o := .cells #[.int .i64 a0_0, .int .i64 a0_1, .int .i64 a0_2] 35 (0, 0)) (Zq3 BK404)) : gb404 ≠ gb405)); have n6_ := za.mk ((by rw [hg]; exact Nat.ne_of_gt (zcl (g := gb404) (o := .cells #[.int .i64 a0_0, .int .i64 a0_1, .int .i64 a0_2] 35 (0, 0)) (Zq3 BK404)) : gb405 ≠ gb404)); clear BK404; clear HB; have BK404 := n0_; have HB := n1_; have BK405 := n2_; have GW405 := n3_; have GE405 := n4_; have NB404_405 := n5_; have NB405_404 := n6_; clear n0_ n1_ n2_ n3_ n4_ n5_ n6_; clear hb hbox hg; have hnb13 := NB404_405.out; have hnc13 := NB405_404.out; have hcz14_0 : w12.cell? ⟨gb404, 0, none⟩ = some (.int .i64 a0_0) := (zf BK404.out 0).trans rfl; have hcz14_1 : w12.cell? ⟨gb404, 1, none⟩ = some (.int .i64 a0_1) := (zf BK404.out 1).trans rfl; have hcz14_2 : w12.cell? ⟨gb404, 2, none⟩ = some (.int .i64 a0_2) := (zf BK404.out 2).trans rfl; have hfz14_0 := zm BK404.out 0; have hfz14_1 := zm BK404.out 1; have hfz14_2 := zm BK404.out 2; have hcz15_0 : w12.cell? ⟨gb405, 0, none⟩ = some (.int .i64 a1_0) := (zf BK405.out 0).trans rfl; have hcz15_1 : w12.cell? ⟨gb405, 1, none⟩ = some (.int .i64 a1_1) := (zf BK405.out 1).trans rfl; have hcz15_2 : w12.cell? ⟨gb405, 2, none⟩ = some (.int .i64 a1_2) := (zf BK405.out 2).trans rfl; have hfz15_0 := zm BK405.out 0; have hfz15_1 := zm BK405.out 1; have hfz15_2 := zm BK405.out 2));go_ret;exact ⟨by first | rfl | (simp [zn, zo] <;> rfl) | (simp [*, zn, zo] <;> rfl), Zq6 HB GE404 GE405⟩
  ·rw [if_neg c4] at H
   have c4b0 : (a0_1 == a1_1) = false := beq_eq_false_iff_ne.mpr c4;have c4b1 : (a0_1 != a1_1) = true := bne_iff_ne.mpr c4;obtain rfl := Option.some.inj H;go_enter Try.func48, Try.ntmps48;go_wp2_with (first | ((with_reducible refine zbw (N := 2) rfl ?_); refine zbv ?hg (N := 2) ?hd (cs := #[.int .i64 a0_0, .int .i64 a0_1, .int .i64 a0_2]) (t := 35) ?hr ?_; (case hd => rfl); (case hg => rfl); (case hr => first | (go_simp; done) | (go_simp; rfl)); intro gb404 hg w16 hbox hb; have n0_ := za.mk (zk (Zq0 HB) hb); have n1_ := za.mk (hbox); have n2_ := za.mk ((by rw [hg]; exact (zu (Zq0 HB)) : w.heap.size ≤ gb404)); have n3_ := za.mk ((by rw [hg]; exact (zu (Zq0 HB)) : w.heap.size ≤ gb404)); clear HB; have HB := n0_; have BK404 := n1_; have GW404 := n2_; have GE404 := n3_; clear n0_ n1_ n2_ n3_; clear hb hbox hg) | ((with_reducible refine zbw (N := 3) rfl ?_); refine zbv ?hg (N := 3) ?hd (cs := #[.int .i64 a1_0, .int .i64 a1_1, .int .i64 a1_2]) (t := 35) ?hr ?_; (case hd => rfl); (case hg => rfl); (case hr => first | (go_simp; done) | (go_simp; rfl)); intro gb405 hg w17 hbox hb; have n0_ := za.mk (zbq (g := gb404) (o := .cells #[.int .i64 a0_0, .int .i64 a0_1, .int .i64 a0_2] 35 (0, 0)) (Zq3 BK404) hb); have n1_ := za.mk (zk (Zq1 HB GE404) hb); have n2_ := za.mk (hbox); have n3_ := za.mk ((by rw [hg]; exact (zu (Zq1 HB GE404)) : w.heap.size ≤ gb405)); have n4_ := za.mk ((by rw [hg]; exact (zu (Zq1 HB GE404)) : w.heap.size ≤ gb405)); have n5_ := za.mk ((by rw [hg]; exact Nat.ne_of_lt (zcl (g := gb404) (o := .cells #[.int .i64 a0_0, .int .i64 a0_1, .int .i64 a0_2] 35 (0, 0)) (Zq3 BK404)) : gb404 ≠ gb405)); have n6_ := za.mk ((by rw [hg]; exact Nat.ne_of_gt (zcl (g := gb404) (o := .cells #[.int .i64 a0_0, .int .i64 a0_1, .int .i64 a0_2] 35 (0, 0)) (Zq3 BK404)) : gb405 ≠ gb404)); clear BK404; clear HB; have BK404 := n0_; have HB := n1_; have BK405 := n2_; have GW405 := n3_; have GE405 := n4_; have NB404_405 := n5_; have NB405_404 := n6_; clear n0_ n1_ n2_ n3_ n4_ n5_ n6_; clear hb hbox hg; have hnb18 := NB404_405.out; have hnc18 := NB405_404.out; have hcz19_0 : w17.cell? ⟨gb404, 0, none⟩ = some (.int .i64 a0_0) := (zf BK404.out 0).trans rfl; have hcz19_1 : w17.cell? ⟨gb404, 1, none⟩ = some (.int .i64 a0_1) := (zf BK404.out 1).trans rfl; have hcz19_2 : w17.cell? ⟨gb404, 2, none⟩ = some (.int .i64 a0_2) := (zf BK404.out 2).trans rfl; have hfz19_0 := zm BK404.out 0; have hfz19_1 := zm BK404.out 1; have hfz19_2 := zm BK404.out 2; have hcz20_0 : w17.cell? ⟨gb405, 0, none⟩ = some (.int .i64 a1_0) := (zf BK405.out 0).trans rfl; have hcz20_1 : w17.cell? ⟨gb405, 1, none⟩ = some (.int .i64 a1_1) := (zf BK405.out 1).trans rfl; have hcz20_2 : w17.cell? ⟨gb405, 2, none⟩ = some (.int .i64 a1_2) := (zf BK405.out 2).trans rfl; have hfz20_0 := zm BK405.out 0; have hfz20_1 := zm BK405.out 1; have hfz20_2 := zm BK405.out 2));go_ret;exact ⟨by first | rfl | (simp [zn, zo] <;> rfl) | (simp [*, zn, zo] <;> rfl), Zq6 HB GE404 GE405⟩
 ·rw [if_neg c3] at H
  have c3b0 : (a0_0 == a1_0) = false := beq_eq_false_iff_ne.mpr c3;have c3b1 : (a0_0 != a1_0) = true := bne_iff_ne.mpr c3;obtain rfl := Option.some.inj H;go_enter Try.func48, Try.ntmps48;go_wp2_with (first | ((with_reducible refine zbw (N := 2) rfl ?_); refine zbv ?hg (N := 2) ?hd (cs := #[.int .i64 a0_0, .int .i64 a0_1, .int .i64 a0_2]) (t := 35) ?hr ?_; (case hd => rfl); (case hg => rfl); (case hr => first | (go_simp; done) | (go_simp; rfl)); intro gb404 hg w21 hbox hb; have n0_ := za.mk (zk (Zq0 HB) hb); have n1_ := za.mk (hbox); have n2_ := za.mk ((by rw [hg]; exact (zu (Zq0 HB)) : w.heap.size ≤ gb404)); have n3_ := za.mk ((by rw [hg]; exact (zu (Zq0 HB)) : w.heap.size ≤ gb404)); clear HB; have HB := n0_; have BK404 := n1_; have GW404 := n2_; have GE404 := n3_; clear n0_ n1_ n2_ n3_; clear hb hbox hg) | ((with_reducible refine zbw (N := 3) rfl ?_); refine zbv ?hg (N := 3) ?hd (cs := #[.int .i64 a1_0, .int .i64 a1_1, .int .i64 a1_2]) (t := 35) ?hr ?_; (case hd => rfl); (case hg => rfl); (case hr => first | (go_simp; done) | (go_simp; rfl)); intro gb405 hg w22 hbox hb; have n0_ := za.mk (zbq (g := gb404) (o := .cells #[.int .i64 a0_0, .int .i64 a0_1, .int .i64 a0_2] 35 (0, 0)) (Zq3 BK404) hb); have n1_ := za.mk (zk (Zq1 HB GE404) hb); have n2_ := za.mk (hbox); have n3_ := za.mk ((by rw [hg]; exact (zu (Zq1 HB GE404)) : w.heap.size ≤ gb405)); have n4_ := za.mk ((by rw [hg]; exact (zu (Zq1 HB GE404)) : w.heap.size ≤ gb405)); have n5_ := za.mk ((by rw [hg]; exact Nat.ne_of_lt (zcl (g := gb404) (o := .cells #[.int .i64 a0_0, .int .i64 a0_1, .int .i64 a0_2] 35 (0, 0)) (Zq3 BK404)) : gb404 ≠ gb405)); have n6_ := za.mk ((by rw [hg]; exact Nat.ne_of_gt (zcl (g := gb404) (o := .cells #[.int .i64 a0_0, .int .i64 a0_1, .int .i64 a0_2] 35 (0, 0)) (Zq3 BK404)) : gb405 ≠ gb404)); clear BK404; clear HB; have BK404 := n0_; have HB := n1_; have BK405 := n2_; have GW405 := n3_; have GE405 := n4_; have NB404_405 := n5_; have NB405_404 := n6_; clear n0_ n1_ n2_ n3_ n4_ n5_ n6_; clear hb hbox hg; have hnb23 := NB404_405.out; have hnc23 := NB405_404.out; have hcz24_0 : w22.cell? ⟨gb404, 0, none⟩ = some (.int .i64 a0_0) := (zf BK404.out 0).trans rfl; have hcz24_1 : w22.cell? ⟨gb404, 1, none⟩ = some (.int .i64 a0_1) := (zf BK404.out 1).trans rfl; have hcz24_2 : w22.cell? ⟨gb404, 2, none⟩ = some (.int .i64 a0_2) := (zf BK404.out 2).trans rfl; have hfz24_0 := zm BK404.out 0; have hfz24_1 := zm BK404.out 1; have hfz24_2 := zm BK404.out 2; have hcz25_0 : w22.cell? ⟨gb405, 0, none⟩ = some (.int .i64 a1_0) := (zf BK405.out 0).trans rfl; have hcz25_1 : w22.cell? ⟨gb405, 1, none⟩ = some (.int .i64 a1_1) := (zf BK405.out 1).trans rfl; have hcz25_2 : w22.cell? ⟨gb405, 2, none⟩ = some (.int .i64 a1_2) := (zf BK405.out 2).trans rfl; have hfz25_0 := zm BK405.out 0; have hfz25_1 := zm BK405.out 1; have hfz25_2 := zm BK405.out 2));go_ret;exact ⟨by first | rfl | (simp [zn, zo] <;> rfl) | (simp [*, zn, zo] <;> rfl), Zq6 HB GE404 GE405⟩
def zbh.l0 : Nat → List (S35) → List (S35) → Int → Option (Bool)
 | 0, _, _, _ => none
 | k + 1, x0, x1, x5 => if x5 < (x0.length : Int) then (if 0 ≤ x5 then (if x5 < (x1.length : Int) then ((zde.f ((zb x0 x5).f0) ((zb x0 x5).f1) ((zb x0 x5).f2) ((zb x1 x5).f0) ((zb x1 x5).f1) ((zb x1 x5).f2)).bind fun t408 => (if t408 = true then (zbh.l0 k x0 x1 (wrap64 (x5 + 1))) else (some false))) else (none)) else (none)) else (some true)
def zbh.f (k : Nat) (l0 : List (S35)) (l1 : List (S35)) : Option (Bool) := if (l0.length : Int) = (l1.length : Int) then (zbh.l0 k l0 l1 0) else (some false)
def zbh.T6 : Bool × List (List Nat × List Nat) := (true, [([], []), ([], []), ([0, 1], [0, 1]), ([2], [2]), ([], []), ([], []), ([4, 5], [4, 5]), ([6], [6]), ([3, 7], [3, 7]), ([8], [8])])
def zbh.B6 : List Nat := [0, 0, 3, 7, 0, 0, 48, 112, 255, 511]
theorem zbh.tab6 : rtab .any (opsOf Try.f21 6) = zbh.T6 := by kernel_rfl
theorem zbh.zil : zci zbh.T6.2 zbh.B6 = true := by kernel_rfl
set_option maxHeartbeats 8000000 in
theorem zbh.calls (k : Nat) (A0 : Option Addr) (c0 : Nat) (l0 : List (S35)) (A1 : Option Addr) (c1 : Nat) (l1 : List (S35)) (r : Bool) (w : World) (hr0 : Kd.C k35 w A0 l0.length l0) (hc0 : l0.length ≤ c0) (hr1 : Kd.C k35 w A1 l1.length l1) (hc1 : l1.length ≤ c1) (h : zbh.f k l0 l1 = some r) :
  Calls Try.prog 21 #[.slice A0 l0.length c0, .slice A1 l1.length c1] w fun e w' => e = .returned (.bool r) ∧ Below w.heap.size w w' := by
 have hu35 := Try.underlying35
 have HR0 := za.mk hr0
 have HC0 := za.mk hc0
 clear hr0 hc0
 have HR1 := za.mk hr1
 have HC1 := za.mk hc1
 clear hr1 hc1
 have HB := za.mk (Below.refl w.heap.size w)
 have H : (if (l0.length : Int) = (l1.length : Int) then (zbh.l0 k l0 l1 0) else (some false)) = some r := h
 clear h
 by_cases c3 : (l0.length : Int) = (l1.length : Int)
 ·rw [if_pos c3] at H
  have c3b0 : ((l0.length : Int) == (l1.length : Int)) = true := beq_iff_eq.mpr c3;have c3b1 : ((l0.length : Int) != (l1.length : Int)) = false := bne_eq_false_iff_eq.mpr c3;have c3b2 : (l0.length == l1.length) = true := by first | simpa using c3 | (simp at c3 ⊢; omega)
  clear c3;have H' := za.mk H;clear H;go_enter Try.func21, Try.ntmps21;go_wp2
  go_loopg [5] k (fun kq v5 w' => ∃ (x5_1 : Int), v5 = .int .i64 x5_1 ∧ za (zbh.l0 kq l0 l1 x5_1 = some r) ∧ za (kq ≤ k) ∧ za (Below w.heap.size w w'))
  case atStart => exact ⟨(0), Zrs, H', ⟨Nat.le_refl _⟩, ⟨Zq0 HB⟩⟩
  case round =>
   clear H'
   (try clear c1);(try clear c2);(try clear p2);(try clear c3);(try clear c3b0);(try clear c3b1);(try clear c3b2)
   obtain ⟨x5_1, rfl, HA, HK1, HB⟩ := hrel
   cases gk with
   | zero => exact absurd HA.out (by simp [zbh.l0])
   | succ k1 =>
    have H := HA.out;clear HA;simp only [zbh.l0] at H;by_cases c4 : x5_1 < (l0.length : Int)
    ·rw [if_pos c4] at H
     have c4b0 : decide (x5_1 < (l0.length : Int)) = true := decide_eq_true c4;clear c4;by_cases c5 : 0 ≤ x5_1
     ·rw [if_pos c5] at H
      have c5b0 : decide (0 ≤ x5_1) = true := decide_eq_true c5;clear c5;by_cases c6 : x5_1 < (l1.length : Int)
      ·rw [if_pos c6] at H
       have c6b0 : decide (x5_1 < (l1.length : Int)) = true := decide_eq_true c6;clear c6;replace H := Option.bind_eq_some_iff.mp H;obtain ⟨t408, A70, H⟩ := H;replace H : (if t408 = true then (zbh.l0 k1 l0 l1 (wrap64 (x5_1 + 1))) else (some false)) = some r := H;have A7 := za.mk A70;clear A70;by_cases c8 : t408 = true
       ·subst c8
        have H1 : (zbh.l0 k1 l0 l1 (wrap64 (x5_1 + 1))) = some r := by rw [if_pos rfl] at H; exact H
        clear H;have H := H1;clear H1;have H' := za.mk H;clear H
        try go_wp2
        have n0_ := za.mk (zbe HB.out);clear HB;have HB := n0_;clear n0_;have p406 : 0 ≤ (x5_1 : Int) := of_decide_eq_true Zas;have q406 : x5_1 < (l0.length : Int) := of_decide_eq_true Zas;obtain ⟨ad406, e406, hx406_0, hx406_1, hx406_2⟩ := zcc HR0.out x5_1 p406 q406;have hw406_2 := hx406_2;have hw406_1 := hx406_1;have hw406_0 := hx406_0
        cases e406
        replace hx406_0 := (HB.out.cell (World.block_lt_of_cell? w _ hx406_0)).trans hx406_0;replace hx406_1 := (HB.out.cell (World.block_lt_of_cell? w _ hx406_1)).trans hx406_1;replace hx406_2 := (HB.out.cell (World.block_lt_of_cell? w _ hx406_2)).trans hx406_2;replace p406 := eq_true p406;replace q406 := eq_true q406;have p407 : 0 ≤ (x5_1 : Int) := of_decide_eq_true Zas;have q407 : x5_1 < (l1.length : Int) := of_decide_eq_true Zas;obtain ⟨ad407, e407, hx407_0, hx407_1, hx407_2⟩ := zcc HR1.out x5_1 p407 q407;have hw407_2 := hx407_2;have hw407_1 := hx407_1;have hw407_0 := hx407_0
        cases e407
        replace hx407_0 := (HB.out.cell (World.block_lt_of_cell? w _ hx407_0)).trans hx407_0;replace hx407_1 := (HB.out.cell (World.block_lt_of_cell? w _ hx407_1)).trans hx407_1;replace hx407_2 := (HB.out.cell (World.block_lt_of_cell? w _ hx407_2)).trans hx407_2;replace p407 := eq_true p407;replace q407 := eq_true q407;refine zca (n := 10) (S := fun w' => w'.cell? (ad406.add ((x5_1).toNat * 3)) = some (.int .i64 ((zb l0 x5_1).f0)) ∧ w'.cell? ⟨(ad406.add ((x5_1).toNat * 3)).block, (ad406.add ((x5_1).toNat * 3)).off + 1, none⟩ = some (.int .i64 ((zb l0 x5_1).f1)) ∧ w'.cell? ⟨(ad406.add ((x5_1).toNat * 3)).block, (ad406.add ((x5_1).toNat * 3)).off + 2, none⟩ = some (.int .i64 ((zb l0 x5_1).f2)) ∧ w'.cell? (ad407.add ((x5_1).toNat * 3)) = some (.int .i64 ((zb l1 x5_1).f0)) ∧ w'.cell? ⟨(ad407.add ((x5_1).toNat * 3)).block, (ad407.add ((x5_1).toNat * 3)).off + 1, none⟩ = some (.int .i64 ((zb l1 x5_1).f1)) ∧ w'.cell? ⟨(ad407.add ((x5_1).toNat * 3)).block, (ad407.add ((x5_1).toNat * 3)).off + 2, none⟩ = some (.int .i64 ((zb l1 x5_1).f2))) (ds := []) #[false, false, false, false, false, false, false, false, false, false] (by kernel_rfl) rfl rfl ⟨((HB.out.cell (World.block_lt_of_cell? w _ hw406_0)).trans hw406_0), ((HB.out.cell (World.block_lt_of_cell? w _ hw406_1)).trans hw406_1), ((HB.out.cell (World.block_lt_of_cell? w _ hw406_2)).trans hw406_2), ((HB.out.cell (World.block_lt_of_cell? w _ hw407_0)).trans hw407_0), ((HB.out.cell (World.block_lt_of_cell? w _ hw407_1)).trans hw407_1), ((HB.out.cell (World.block_lt_of_cell? w _ hw407_2)).trans hw407_2)⟩ (fun hHeld => ?_); refine zbu zbh.tab6 zbh.zil (fun HT_ HW_ => ?_);generalize wr.drew = w9 at HB hx406_0 hx406_1 hx406_2 hx407_0 hx407_1 hx407_2 hHeld ⊢;refine zl (i := 0) (N := some 17) (v := ?_) (a' := ?_) #[true, false, false, false, false, false, false, false, false, false] rfl rfl (ze HT_.out (by kernel_rfl)) (fun _ _ _ h => h) (Or.inl ⟨by rfl, ?_⟩) ?_ ?_;rotate_left
        ·intro w'
         go_simp;with_reducible rfl
        rotate_left
        ·simp only [Act.put, Zs1, Zs2, Zs3, zg, zh]
         rfl
        refine zl (i := 1) (N := some 18) (v := ?_) (a' := ?_) #[true, true, false, false, false, false, false, false, false, false] rfl rfl (ze HT_.out (by kernel_rfl)) (fun _ _ _ h => h) (Or.inl ⟨by rfl, ?_⟩) ?_ ?_;rotate_left
        ·intro w'
         go_simp;with_reducible rfl
        rotate_left
        ·simp only [Act.put, Zs1, Zs2, Zs3, zg, zh]
         rfl
        refine zl (i := 2) (N := some 19) (v := ?_) (a' := ?_) #[true, true, true, false, false, false, false, false, false, false] rfl rfl (ze HT_.out (by kernel_rfl)) (fun _ _ _ h => h) (Or.inl ⟨by rfl, ?_⟩) ?_ ?_;rotate_left
        ·intro w'
         go_simp;with_reducible rfl
        rotate_left
        ·simp only [Act.put, Zs1, Zs2, Zs3, zg, zh]
         rfl
        refine zl (i := 4) (N := some 21) (v := ?_) (a' := ?_) #[true, true, true, false, true, false, false, false, false, false] rfl rfl (ze HT_.out (by kernel_rfl)) (fun _ _ _ h => h) (Or.inl ⟨by rfl, ?_⟩) ?_ ?_;rotate_left
        ·intro w'
         go_simp;with_reducible rfl
        rotate_left
        ·simp only [Act.put, Zs1, Zs2, Zs3, zg, zh]
         rfl
        refine zl (i := 5) (N := some 22) (v := ?_) (a' := ?_) #[true, true, true, false, true, true, false, false, false, false] rfl rfl (ze HT_.out (by kernel_rfl)) (fun _ _ _ h => h) (Or.inl ⟨by rfl, ?_⟩) ?_ ?_;rotate_left
        ·intro w'
         go_simp;with_reducible rfl
        rotate_left
        ·simp only [Act.put, Zs1, Zs2, Zs3, zg, zh]
         rfl
        refine zl (i := 6) (N := some 23) (v := ?_) (a' := ?_) #[true, true, true, false, true, true, true, false, false, false] rfl rfl (ze HT_.out (by kernel_rfl)) (fun _ _ _ h => h) (Or.inl ⟨by rfl, ?_⟩) ?_ ?_;rotate_left
        ·intro w'
         go_simp;with_reducible rfl
        rotate_left
        ·simp only [Act.put, Zs1, Zs2, Zs3, zg, zh]
         rfl
        refine zby (i := 3) (N := some 20) (v := ?_) (a' := ?_) #[true, true, true, true, true, true, true, false, false, false] rfl rfl (z8 HT_.out HW_.out (by kernel_rfl)) (fun _ _ _ h => h) (Or.inl ⟨by rfl, ?_⟩) hHeld ?_ ?_;rotate_left
        ·rintro w' ⟨s0, s1, s2, s3, s4, s5⟩
         go_simp;with_reducible rfl
        rotate_left
        ·simp only [Act.put, Zs1, Zs2, Zs3, zg, zh]
         rfl
        refine zby (i := 7) (N := some 24) (v := ?_) (a' := ?_) #[true, true, true, true, true, true, true, true, false, false] rfl rfl (z8 HT_.out HW_.out (by kernel_rfl)) (fun _ _ _ h => h) (Or.inl ⟨by rfl, ?_⟩) hHeld ?_ ?_;rotate_left
        ·rintro w' ⟨s0, s1, s2, s3, s4, s5⟩
         go_simp;with_reducible rfl
        rotate_left
        ·simp only [Act.put, Zs1, Zs2, Zs3, zg, zh]
         rfl
        refine one_ (i := 8) (N := some 25) #[true, true, true, true, true, true, true, true, true, false] rfl rfl (zb2 HT_.out (by kernel_rfl)) (by decide) (fun K hK => ?_);refine zce Try.func48 (by kernel_rfl) rfl #[.agg #[.int .i64 ((zb l0 x5_1).f0), .int .i64 ((zb l0 x5_1).f1), .int .i64 ((zb l0 x5_1).f2)], .agg #[.int .i64 ((zb l1 x5_1).f0), .int .i64 ((zb l1 x5_1).f1), .int .i64 ((zb l1 x5_1).f2)]] (by rfl) rfl rfl Zmt ?_;with_reducible refine (zde.calls ((zb l0 x5_1).f0) ((zb l0 x5_1).f1) ((zb l0 x5_1).f2) ((zb l1 x5_1).f0) ((zb l1 x5_1).f1) ((zb l1 x5_1).f2) true _ A7.out).mono ?_
        rintro e w10 ⟨rfl, hb⟩;refine ⟨_, rfl, ?_⟩;have n0_ := za.mk (zk (Zq0 HB) hb);clear HB;have HB := n0_;clear n0_;(try clear hb);(try clear hb2);(try clear hk);(try clear hi);refine hK.out _ _ ⟨((HB.out.cell (World.block_lt_of_cell? w _ hw406_0)).trans hw406_0), ((HB.out.cell (World.block_lt_of_cell? w _ hw406_1)).trans hw406_1), ((HB.out.cell (World.block_lt_of_cell? w _ hw406_2)).trans hw406_2), ((HB.out.cell (World.block_lt_of_cell? w _ hw407_0)).trans hw407_0), ((HB.out.cell (World.block_lt_of_cell? w _ hw407_1)).trans hw407_1), ((HB.out.cell (World.block_lt_of_cell? w _ hw407_2)).trans hw407_2)⟩ (fun hHeld => ?_);clear hK K;refine zcd (a' := ?_) ?_ ?_;rotate_left
        ·show Act.put _ (some 25) _ = _
         simp only [Act.put, Zs1, Zs2, Zs3, zg, zh];rfl
        refine zl (i := 9) (N := some 26) (v := ?_) (a' := ?_) #[true, true, true, true, true, true, true, true, true, true] rfl rfl (ze HT_.out (by kernel_rfl)) (fun _ _ _ h => h) (Or.inl ⟨by rfl, ?_⟩) ?_ ?_;rotate_left
        ·intro w'
         go_simp;with_reducible rfl
        rotate_left
        ·simp only [Act.put, Zs1, Zs2, Zs3, zg, zh]
         rfl
        refine zcn (zb3 HT_.out (by kernel_rfl)) ?_
        try go_wp2
        go_roundg k1
        case measure => have := HK1.out; omega
        case rel => exact ⟨(wrap64 (x5_1 + 1)), Zrs, H', ⟨by have := HK1.out; omega⟩, ⟨Zq0 HB⟩⟩
       ·replace c8 := Bool.eq_false_iff.mpr c8
        subst c8;have H1 : (some false) = some r := by rw [if_neg (show ¬ (false = true) by decide)] at H; exact H
        clear H;have H := H1;clear H1;obtain rfl := Option.some.inj H
        try go_wp2
        have n0_ := za.mk (zbe HB.out);clear HB;have HB := n0_;clear n0_;have p406 : 0 ≤ (x5_1 : Int) := of_decide_eq_true Zas;have q406 : x5_1 < (l0.length : Int) := of_decide_eq_true Zas;obtain ⟨ad406, e406, hx406_0, hx406_1, hx406_2⟩ := zcc HR0.out x5_1 p406 q406;have hw406_2 := hx406_2;have hw406_1 := hx406_1;have hw406_0 := hx406_0
        cases e406
        replace hx406_0 := (HB.out.cell (World.block_lt_of_cell? w _ hx406_0)).trans hx406_0;replace hx406_1 := (HB.out.cell (World.block_lt_of_cell? w _ hx406_1)).trans hx406_1;replace hx406_2 := (HB.out.cell (World.block_lt_of_cell? w _ hx406_2)).trans hx406_2;replace p406 := eq_true p406;replace q406 := eq_true q406;have p407 : 0 ≤ (x5_1 : Int) := of_decide_eq_true Zas;have q407 : x5_1 < (l1.length : Int) := of_decide_eq_true Zas;obtain ⟨ad407, e407, hx407_0, hx407_1, hx407_2⟩ := zcc HR1.out x5_1 p407 q407;have hw407_2 := hx407_2;have hw407_1 := hx407_1;have hw407_0 := hx407_0
        cases e407
        replace hx407_0 := (HB.out.cell (World.block_lt_of_cell? w _ hx407_0)).trans hx407_0;replace hx407_1 := (HB.out.cell (World.block_lt_of_cell? w _ hx407_1)).trans hx407_1;replace hx407_2 := (HB.out.cell (World.block_lt_of_cell? w _ hx407_2)).trans hx407_2;replace p407 := eq_true p407;replace q407 := eq_true q407;refine zca (n := 10) (S := fun w' => w'.cell? (ad406.add ((x5_1).toNat * 3)) = some (.int .i64 ((zb l0 x5_1).f0)) ∧ w'.cell? ⟨(ad406.add ((x5_1).toNat * 3)).block, (ad406.add ((x5_1).toNat * 3)).off + 1, none⟩ = some (.int .i64 ((zb l0 x5_1).f1)) ∧ w'.cell? ⟨(ad406.add ((x5_1).toNat * 3)).block, (ad406.add ((x5_1).toNat * 3)).off + 2, none⟩ = some (.int .i64 ((zb l0 x5_1).f2)) ∧ w'.cell? (ad407.add ((x5_1).toNat * 3)) = some (.int .i64 ((zb l1 x5_1).f0)) ∧ w'.cell? ⟨(ad407.add ((x5_1).toNat * 3)).block, (ad407.add ((x5_1).toNat * 3)).off + 1, none⟩ = some (.int .i64 ((zb l1 x5_1).f1)) ∧ w'.cell? ⟨(ad407.add ((x5_1).toNat * 3)).block, (ad407.add ((x5_1).toNat * 3)).off + 2, none⟩ = some (.int .i64 ((zb l1 x5_1).f2))) (ds := []) #[false, false, false, false, false, false, false, false, false, false] (by kernel_rfl) rfl rfl ⟨((HB.out.cell (World.block_lt_of_cell? w _ hw406_0)).trans hw406_0), ((HB.out.cell (World.block_lt_of_cell? w _ hw406_1)).trans hw406_1), ((HB.out.cell (World.block_lt_of_cell? w _ hw406_2)).trans hw406_2), ((HB.out.cell (World.block_lt_of_cell? w _ hw407_0)).trans hw407_0), ((HB.out.cell (World.block_lt_of_cell? w _ hw407_1)).trans hw407_1), ((HB.out.cell (World.block_lt_of_cell? w _ hw407_2)).trans hw407_2)⟩ (fun hHeld => ?_); refine zbu zbh.tab6 zbh.zil (fun HT_ HW_ => ?_);generalize wr.drew = w11 at HB hx406_0 hx406_1 hx406_2 hx407_0 hx407_1 hx407_2 hHeld ⊢;refine zl (i := 0) (N := some 17) (v := ?_) (a' := ?_) #[true, false, false, false, false, false, false, false, false, false] rfl rfl (ze HT_.out (by kernel_rfl)) (fun _ _ _ h => h) (Or.inl ⟨by rfl, ?_⟩) ?_ ?_;rotate_left
        ·intro w'
         go_simp;with_reducible rfl
        rotate_left
        ·simp only [Act.put, Zs1, Zs2, Zs3, zg, zh]
         rfl
        refine zl (i := 1) (N := some 18) (v := ?_) (a' := ?_) #[true, true, false, false, false, false, false, false, false, false] rfl rfl (ze HT_.out (by kernel_rfl)) (fun _ _ _ h => h) (Or.inl ⟨by rfl, ?_⟩) ?_ ?_;rotate_left
        ·intro w'
         go_simp;with_reducible rfl
        rotate_left
        ·simp only [Act.put, Zs1, Zs2, Zs3, zg, zh]
         rfl
        refine zl (i := 2) (N := some 19) (v := ?_) (a' := ?_) #[true, true, true, false, false, false, false, false, false, false] rfl rfl (ze HT_.out (by kernel_rfl)) (fun _ _ _ h => h) (Or.inl ⟨by rfl, ?_⟩) ?_ ?_;rotate_left
        ·intro w'
         go_simp;with_reducible rfl
        rotate_left
        ·simp only [Act.put, Zs1, Zs2, Zs3, zg, zh]
         rfl
        refine zl (i := 4) (N := some 21) (v := ?_) (a' := ?_) #[true, true, true, false, true, false, false, false, false, false] rfl rfl (ze HT_.out (by kernel_rfl)) (fun _ _ _ h => h) (Or.inl ⟨by rfl, ?_⟩) ?_ ?_;rotate_left
        ·intro w'
         go_simp;with_reducible rfl
        rotate_left
        ·simp only [Act.put, Zs1, Zs2, Zs3, zg, zh]
         rfl
        refine zl (i := 5) (N := some 22) (v := ?_) (a' := ?_) #[true, true, true, false, true, true, false, false, false, false] rfl rfl (ze HT_.out (by kernel_rfl)) (fun _ _ _ h => h) (Or.inl ⟨by rfl, ?_⟩) ?_ ?_;rotate_left
        ·intro w'
         go_simp;with_reducible rfl
        rotate_left
        ·simp only [Act.put, Zs1, Zs2, Zs3, zg, zh]
         rfl
        refine zl (i := 6) (N := some 23) (v := ?_) (a' := ?_) #[true, true, true, false, true, true, true, false, false, false] rfl rfl (ze HT_.out (by kernel_rfl)) (fun _ _ _ h => h) (Or.inl ⟨by rfl, ?_⟩) ?_ ?_;rotate_left
        ·intro w'
         go_simp;with_reducible rfl
        rotate_left
        ·simp only [Act.put, Zs1, Zs2, Zs3, zg, zh]
         rfl
        refine zby (i := 3) (N := some 20) (v := ?_) (a' := ?_) #[true, true, true, true, true, true, true, false, false, false] rfl rfl (z8 HT_.out HW_.out (by kernel_rfl)) (fun _ _ _ h => h) (Or.inl ⟨by rfl, ?_⟩) hHeld ?_ ?_;rotate_left
        ·rintro w' ⟨s0, s1, s2, s3, s4, s5⟩
         go_simp;with_reducible rfl
        rotate_left
        ·simp only [Act.put, Zs1, Zs2, Zs3, zg, zh]
         rfl
        refine zby (i := 7) (N := some 24) (v := ?_) (a' := ?_) #[true, true, true, true, true, true, true, true, false, false] rfl rfl (z8 HT_.out HW_.out (by kernel_rfl)) (fun _ _ _ h => h) (Or.inl ⟨by rfl, ?_⟩) hHeld ?_ ?_;rotate_left
        ·rintro w' ⟨s0, s1, s2, s3, s4, s5⟩
         go_simp;with_reducible rfl
        rotate_left
        ·simp only [Act.put, Zs1, Zs2, Zs3, zg, zh]
         rfl
        refine one_ (i := 8) (N := some 25) #[true, true, true, true, true, true, true, true, true, false] rfl rfl (zb2 HT_.out (by kernel_rfl)) (by decide) (fun K hK => ?_);refine zce Try.func48 (by kernel_rfl) rfl #[.agg #[.int .i64 ((zb l0 x5_1).f0), .int .i64 ((zb l0 x5_1).f1), .int .i64 ((zb l0 x5_1).f2)], .agg #[.int .i64 ((zb l1 x5_1).f0), .int .i64 ((zb l1 x5_1).f1), .int .i64 ((zb l1 x5_1).f2)]] (by rfl) rfl rfl Zmt ?_;with_reducible refine (zde.calls ((zb l0 x5_1).f0) ((zb l0 x5_1).f1) ((zb l0 x5_1).f2) ((zb l1 x5_1).f0) ((zb l1 x5_1).f1) ((zb l1 x5_1).f2) false _ A7.out).mono ?_
        rintro e w12 ⟨rfl, hb⟩;refine ⟨_, rfl, ?_⟩;have n0_ := za.mk (zk (Zq0 HB) hb);clear HB;have HB := n0_;clear n0_;(try clear hb);(try clear hb2);(try clear hk);(try clear hi);refine hK.out _ _ ⟨((HB.out.cell (World.block_lt_of_cell? w _ hw406_0)).trans hw406_0), ((HB.out.cell (World.block_lt_of_cell? w _ hw406_1)).trans hw406_1), ((HB.out.cell (World.block_lt_of_cell? w _ hw406_2)).trans hw406_2), ((HB.out.cell (World.block_lt_of_cell? w _ hw407_0)).trans hw407_0), ((HB.out.cell (World.block_lt_of_cell? w _ hw407_1)).trans hw407_1), ((HB.out.cell (World.block_lt_of_cell? w _ hw407_2)).trans hw407_2)⟩ (fun hHeld => ?_);clear hK K;refine zcd (a' := ?_) ?_ ?_;rotate_left
        ·show Act.put _ (some 25) _ = _
         simp only [Act.put, Zs1, Zs2, Zs3, zg, zh];rfl
        refine zl (i := 9) (N := some 26) (v := ?_) (a' := ?_) #[true, true, true, true, true, true, true, true, true, true] rfl rfl (ze HT_.out (by kernel_rfl)) (fun _ _ _ h => h) (Or.inl ⟨by rfl, ?_⟩) ?_ ?_;rotate_left
        ·intro w'
         go_simp;with_reducible rfl
        rotate_left
        ·simp only [Act.put, Zs1, Zs2, Zs3, zg, zh]
         rfl
        refine zcn (zb3 HT_.out (by kernel_rfl)) ?_
        try go_wp2
        go_ret;exact ⟨by first | rfl | (simp [zn, zo] <;> rfl) | (simp [*, zn, zo] <;> rfl), Zq0 HB⟩
      ·rw [if_neg c6] at H
       exact absurd H (by simp)
     ·rw [if_neg c5] at H
      exact absurd H (by simp)
    ·rw [if_neg c4] at H
     have c4b0 : decide (x5_1 < (l0.length : Int)) = false := decide_eq_false c4;clear c4;obtain rfl := Option.some.inj H;go_wp2;go_ret;exact ⟨by first | rfl | (simp [zn, zo] <;> rfl) | (simp [*, zn, zo] <;> rfl), Zq0 HB⟩
 ·rw [if_neg c3] at H
  have c3b0 : ((l0.length : Int) == (l1.length : Int)) = false := beq_eq_false_iff_ne.mpr c3;have c3b1 : ((l0.length : Int) != (l1.length : Int)) = true := bne_iff_ne.mpr c3;have c3b2 : (l0.length == l1.length) = false := by first | simpa using c3 | (simp at c3 ⊢; omega)
  obtain rfl := Option.some.inj H;go_enter Try.func21, Try.ntmps21;go_wp2;go_ret;exact ⟨by first | rfl | (simp [zn, zo] <;> rfl) | (simp [*, zn, zo] <;> rfl), Zq0 HB⟩
theorem Zq13 {X0 P : Prop} (x0 : za X0) (h : X0 → P := by intro x0; repeat (first | (with_reducible first | exact x0 | apply Kept.alloc | apply Kept.drewN | apply Kept.drew) | exact x0)) : P := h x0.out
def zbj.l0 : Nat → List (S35) → Int → Int → Option (Int × (List (S35)))
 | 0, _, _, _ => none
 | k + 1, x0, x1, x5 => if x5 < (x0.length : Int) then (if 0 ≤ x5 then ((some (x0.set (x5 : Int).toNat (⟨x1, (zb x0 x5).f1, (zb x0 x5).f2⟩ : S35) : List (S35))).bind fun y409 => ((some (y409.set (x5 : Int).toNat (⟨(zb y409 x5).f0, wrap64 (x1 + 1), (zb y409 x5).f2⟩ : S35) : List (S35))).bind fun y410 => (zbj.l0 k (y410.set (x5 : Int).toNat (⟨(zb y410 x5).f0, (zb y410 x5).f1, wrap64 ((wrap64 (x1 + 1)) + 1)⟩ : S35)) (wrap64 ((wrap64 ((wrap64 (x1 + 1)) + 1)) + 1)) (wrap64 (x5 + 1))))) else (none)) else (some (x1, x0))
def zbj.f (k : Nat) (l0 : List (S35)) (a1 : Int) : Option (Int × (List (S35))) := zbj.l0 k l0 a1 0
set_option maxHeartbeats 8000000 in
theorem zbj.calls (k : Nat) (P0_ : Nat → Prop) (u9000_ : Value) (l0 : List (S35)) (a1 : Int) (r1 : Int) (r2 : List (S35)) (w0 w : World) (hB : Below w0.heap.size w0 w) (ho0 : Kd.R k35 35 w w0.heap.size P0_ u9000_ l0) (h : zbj.f k l0 a1 = some (r1, r2)) :
  Calls Try.prog 22 #[u9000_, .int .i64 a1] w fun e w' => e = .returned (.int .i64 r1) ∧ Kd.R k35 35 w' w0.heap.size (fun k_ => (P0_ k_ ∨ w.heap.size ≤ k_)) u9000_ r2 ∧ Below w0.heap.size w0 w' ∧ Kept w w' (fun k_ => P0_ k_) := by
 have HO0 := za.mk (show Kd.R k35 35 w w0.heap.size (fun k_ => (P0_ k_ ∨ w.heap.size ≤ k_)) u9000_ l0 from Kd.zcx ho0 (fun k_ hk => (.inl hk)))
 have HK := za.mk (Kept.refl w (fun k_ => P0_ k_))
 have HW0 := za.mk hB.size
 have HB := za.mk hB
 clear hB
 have H : (zbj.l0 k l0 a1 0) = some (r1, r2) := h
 clear h
 have H' := za.mk H
 clear H
 go_enter Try.func22, Try.ntmps22
 go_wp2
 go_loopg [1, 5] k (fun kq v1 v5 w' => ∃ (x0_1 : List (S35)) (x1_1 : Int) (x5_1 : Int), v1 = .int .i64 x1_1 ∧ v5 = .int .i64 x5_1 ∧ za (zbj.l0 kq x0_1 x1_1 x5_1 = some (r1, r2)) ∧ za (kq ≤ k) ∧ za (Kd.R k35 35 w' w0.heap.size (fun k_ => (P0_ k_ ∨ w.heap.size ≤ k_)) u9000_ x0_1) ∧ za (Kept w w' (fun k_ => P0_ k_)) ∧ za (Below w0.heap.size w0 w'))
 case atStart => exact ⟨(l0), (a1), (0), Zrs, Zrs, H', ⟨Nat.le_refl _⟩, ⟨Zq10 HO0⟩, ⟨Zq13 HK⟩, ⟨Zq0 HB⟩⟩
 case round =>
  clear H'
  (try clear c2);(try clear p2)
  obtain ⟨x0_1, x1_1, x5_1, rfl, rfl, HA, HK1, HO_0, HK, HB⟩ := hrel
  cases gk with
  | zero => exact absurd HA.out (by simp [zbj.l0])
  | succ k1 =>
   have H := HA.out;clear HA;simp only [zbj.l0] at H;by_cases c3 : x5_1 < (x0_1.length : Int)
   ·rw [if_pos c3] at H
    have c3b0 : decide (x5_1 < (x0_1.length : Int)) = true := decide_eq_true c3;clear c3;by_cases c4 : 0 ≤ x5_1
    ·rw [if_pos c4] at H
     have c4b0 : decide (0 ≤ x5_1) = true := decide_eq_true c4;clear c4;obtain ⟨y409, hy409⟩ : ∃ y_ : List (S35), y_ = (x0_1.set (x5_1 : Int).toNat (⟨x1_1, (zb x0_1 x5_1).f1, (zb x0_1 x5_1).f2⟩ : S35)) := ⟨_, rfl⟩;replace H : ((some (y409.set (x5_1 : Int).toNat (⟨(zb y409 x5_1).f0, wrap64 (x1_1 + 1), (zb y409 x5_1).f2⟩ : S35) : List (S35))).bind fun y410 => (zbj.l0 k1 (y410.set (x5_1 : Int).toNat (⟨(zb y410 x5_1).f0, (zb y410 x5_1).f1, wrap64 ((wrap64 (x1_1 + 1)) + 1)⟩ : S35)) (wrap64 ((wrap64 ((wrap64 (x1_1 + 1)) + 1)) + 1)) (wrap64 (x5_1 + 1)))) = some (r1, r2) := by first | (rw [hy409]; with_reducible exact H) | (have H2_ := (Option.bind_some _ _).symm.trans H; rw [hy409]; with_reducible exact H2_) | (have H2_ := (Option.bind_some _ _).symm.trans H; with_reducible exact H2_) | with_reducible exact H | (rw [hy409]; exact H) | exact H
     have Ny409 := za.mk hy409;clear hy409;obtain ⟨y410, hy410⟩ : ∃ y_ : List (S35), y_ = (y409.set (x5_1 : Int).toNat (⟨(zb y409 x5_1).f0, wrap64 (x1_1 + 1), (zb y409 x5_1).f2⟩ : S35)) := ⟨_, rfl⟩;replace H : (zbj.l0 k1 (y410.set (x5_1 : Int).toNat (⟨(zb y410 x5_1).f0, (zb y410 x5_1).f1, wrap64 ((wrap64 (x1_1 + 1)) + 1)⟩ : S35)) (wrap64 ((wrap64 ((wrap64 (x1_1 + 1)) + 1)) + 1)) (wrap64 (x5_1 + 1))) = some (r1, r2) := by first | (rw [hy410]; with_reducible exact H) | (have H2_ := (Option.bind_some _ _).symm.trans H; rw [hy410]; with_reducible exact H2_) | (have H2_ := (Option.bind_some _ _).symm.trans H; with_reducible exact H2_) | with_reducible exact H | (rw [hy410]; exact H) | exact H
     have Ny410 := za.mk hy410;clear hy410;obtain ⟨y411, hy411⟩ : ∃ y_ : List (S35), y_ = (y410.set (x5_1 : Int).toNat (⟨(zb y410 x5_1).f0, (zb y410 x5_1).f1, wrap64 ((wrap64 (x1_1 + 1)) + 1)⟩ : S35)) := ⟨_, rfl⟩;replace H : (zbj.l0 k1 y411 (wrap64 ((wrap64 ((wrap64 (x1_1 + 1)) + 1)) + 1)) (wrap64 (x5_1 + 1))) = some (r1, r2) := by first | (rw [hy411]; with_reducible exact H) | (have H2_ := (Option.bind_some _ _).symm.trans H; rw [hy411]; with_reducible exact H2_) | (have H2_ := (Option.bind_some _ _).symm.trans H; with_reducible exact H2_) | with_reducible exact H | (rw [hy411]; exact H) | exact H
     have Ny411 := za.mk hy411;clear hy411;have H' := za.mk H;clear H;obtain ⟨Ao8, co8, eo8⟩ := Kd.zch HO_0.out;subst eo8;have p5 : 0 ≤ (x5_1 : Int) := of_decide_eq_true Zas;have q5 : (x5_1 : Int) < ((x0_1.length : Int) : Int) := of_decide_eq_true Zas;obtain ⟨go5, co5, eo5, gb5, gl5, cl5, HG5⟩ := Kd.zfu HO_0.out (by omega);(first | cases eo5 | (injection eo5 with ea_ en_ ec_; (first | subst ea_ | (injection ea_ with ea_; subst ea_)); subst ec_; clear en_));have GB5 := za.mk gb5;have GG5 := za.mk HG5;clear gb5 gl5 HG5;have HMgo5 := za.mk (show (P0_ go5 ∨ w.heap.size ≤ go5) from (HO_0.out.1 _ rfl));obtain ⟨ce5, hcl5, hM5, hcc5, hfr5⟩ := Kd.zer HO_0.out z35 (x5_1 : Int) p5 q5;obtain rfl := zdg hM5;have hx5_0 : wr.cell? ⟨go5, (x5_1 : Int).toNat * 3, none⟩ = some (.int .i64 ((zb x0_1 x5_1).f0)) := hcc5 0 _ rfl;have hx5_1 : wr.cell? ⟨go5, (x5_1 : Int).toNat * 3 + 1, none⟩ = some (.int .i64 ((zb x0_1 x5_1).f1)) := hcc5 1 _ rfl;have hx5_2 : wr.cell? ⟨go5, (x5_1 : Int).toNat * 3 + 2, none⟩ = some (.int .i64 ((zb x0_1 x5_1).f2)) := hcc5 2 _ rfl;have hf5_0 : wr.frozen? ⟨go5, (x5_1 : Int).toNat * 3, none⟩ = false := hfr5 0;have hf5_1 : wr.frozen? ⟨go5, (x5_1 : Int).toNat * 3 + 1, none⟩ = false := hfr5 1;have hf5_2 : wr.frozen? ⟨go5, (x5_1 : Int).toNat * 3 + 2, none⟩ = false := hfr5 2;clear hcl5 hcc5 hfr5 hM5;replace p5 := eq_true p5;replace q5 := eq_true q5;have HX9 := za.mk (show Kd.R k35 35 wr w0.heap.size (fun k_ => (P0_ k_ ∨ w.heap.size ≤ k_)) (.slice (some ⟨go5, 0, none⟩) x0_1.length co8) x0_1 from (Zq10 HO_0));obtain ⟨ce9, hcl9, hM9, hcc9, hfr9⟩ := Kd.zer HX9.out z35 (x5_1 : Int) (of_decide_eq_true Zas) (by have h_ : (x5_1 : Int) < ((x0_1.length : Int) : Int) := of_decide_eq_true Zas; first | exact h_ | (have e_ := (Kd.zbm HO_0.out).1; omega) | simpa using h_);obtain rfl := zdg hM9;have HP9 := Kd.R_seg HX9.out (x5_1 : Int) (of_decide_eq_true Zas) (by have h_ : (x5_1 : Int) < ((x0_1.length : Int) : Int) := of_decide_eq_true Zas; first | exact h_ | (have e_ := (Kd.zbm HO_0.out).1; omega) | simpa using h_) (seg := [.int .i64 x1_1]) (j := 0) hcl9 hcc9 (show 1 ≤ 3 from by decide) (x' := (⟨x1_1, (zb x0_1 x5_1).f1, (zb x0_1 x5_1).f2⟩ : S35)) (zf5 _ _ _ (⟨x1_1, (zb x0_1 x5_1).f1, (zb x0_1 x5_1).f2⟩ : S35) ) (fun _ hk => hk);have hx9_0 := hcc9 0 _ rfl;(try simp only [show (k35).sz = 3 from rfl, Nat.mul_one, Nat.add_zero] at hx9_0);have hf9_0 := hfr9 0;(try simp only [show (k35).sz = 3 from rfl, Nat.mul_one, Nat.add_zero] at hf9_0);clear hcl9 hcc9 hfr9 hM9
     go_wp2_with (first | ((with_reducible refine zd3 (t := 3) (p := 16) rfl ?_); refine zds (t := 3) (p := 16) (v := ?vo_w10) (w1 := (wr.setCell ⟨go5, (x5_1 : Int).toNat * 3, none⟩ (.int .i64 x1_1))) ?hg ?ho ?hn ?hr ?_; (case ho => rfl); (case hg => rfl); (case hn => rfl); (case hr => first | (go_simp; done) | (go_simp; rfl)); intro w10 hw; have hg : wr.grownBy w10 (some go5) := (by rw [hw]; exact HP9.2); have hp_ : Kd.R k35 35 w10 w0.heap.size (fun k_ => (P0_ k_ ∨ w.heap.size ≤ k_)) (.slice (some ⟨go5, 0, none⟩) x0_1.length co8) y409 := (by rw [hw, Ny409.out]; exact HP9.1); clear HP9; have n0_ := za.mk (hp_); have n1_ := za.mk ((by rw [hw]; exact zcs (HB.out) GB5.out : Below w0.heap.size w0 w10)); have n2_ := za.mk (Kept.zev (S := (fun k_ => P0_ k_)) hg (Zq13 HK) (fun k_ e_ => (HO_0.out.1 k_ e_))); clear HO_0; clear HB; clear HK; have HO_0 := n0_; have HB := n1_; have HK := n2_; clear n0_ n1_ n2_; clear hg hw hp_; have p6 : 0 ≤ (x5_1 : Int) := of_decide_eq_true Zas; have q6 : (x5_1 : Int) < ((x0_1.length : Int) : Int) := of_decide_eq_true Zas; obtain ⟨ce6, hcl6, hM6, hcc6, hfr6⟩ := Kd.zer HO_0.out z35 (x5_1 : Int) p6 q6; obtain rfl := zdg hM6; have hx6_0 : w10.cell? ⟨go5, (x5_1 : Int).toNat * 3, none⟩ = some (.int .i64 ((zb y409 x5_1).f0)) := hcc6 0 _ rfl; have hx6_1 : w10.cell? ⟨go5, (x5_1 : Int).toNat * 3 + 1, none⟩ = some (.int .i64 ((zb y409 x5_1).f1)) := hcc6 1 _ rfl; have hx6_2 : w10.cell? ⟨go5, (x5_1 : Int).toNat * 3 + 2, none⟩ = some (.int .i64 ((zb y409 x5_1).f2)) := hcc6 2 _ rfl; have hf6_0 : w10.frozen? ⟨go5, (x5_1 : Int).toNat * 3, none⟩ = false := hfr6 0; have hf6_1 : w10.frozen? ⟨go5, (x5_1 : Int).toNat * 3 + 1, none⟩ = false := hfr6 1; have hf6_2 : w10.frozen? ⟨go5, (x5_1 : Int).toNat * 3 + 2, none⟩ = false := hfr6 2; (try clear hcl6); (try clear hcc6); (try clear hfr6); (try clear hM6); replace p6 := eq_true p6; replace q6 := eq_true q6; have HX11 := za.mk (show Kd.R k35 35 w10 w0.heap.size (fun k_ => (P0_ k_ ∨ w.heap.size ≤ k_)) (.slice (some ⟨go5, 0, none⟩) x0_1.length co8) y409 from (Zq10 HO_0)); obtain ⟨ce11, hcl11, hM11, hcc11, hfr11⟩ := Kd.zer HX11.out z35 (x5_1 : Int) (of_decide_eq_true Zas) (by have h_ : (x5_1 : Int) < ((x0_1.length : Int) : Int) := of_decide_eq_true Zas; first | exact h_ | (have e_ := (Kd.zbm HO_0.out).1; omega) | simpa using h_); obtain rfl := zdg hM11; have HP11 := Kd.R_seg HX11.out (x5_1 : Int) (of_decide_eq_true Zas) (by have h_ : (x5_1 : Int) < ((x0_1.length : Int) : Int) := of_decide_eq_true Zas; first | exact h_ | (have e_ := (Kd.zbm HO_0.out).1; omega) | simpa using h_) (seg := [.int .i64 (wrap64 (x1_1 + 1))]) (j := 1) hcl11 hcc11 (show 2 ≤ 3 from by decide) (x' := (⟨(zb y409 x5_1).f0, wrap64 (x1_1 + 1), (zb y409 x5_1).f2⟩ : S35)) (zf5 _ _ _ (⟨(zb y409 x5_1).f0, wrap64 (x1_1 + 1), (zb y409 x5_1).f2⟩ : S35) ) (fun _ hk => hk); have hx11_1 := hcc11 1 _ rfl; (try simp only [show (k35).sz = 3 from rfl, Nat.mul_one, Nat.add_zero] at hx11_1); have hf11_1 := hfr11 1; (try simp only [show (k35).sz = 3 from rfl, Nat.mul_one, Nat.add_zero] at hf11_1); (try clear hcl11); (try clear hcc11); (try clear hfr11); (try clear hM11)) | ((with_reducible refine zd3 (t := 3) (p := 23) rfl ?_); refine zds (t := 3) (p := 23) (v := ?vo_w12) (w1 := (w10.setCell ⟨go5, (x5_1 : Int).toNat * 3 + 1, none⟩ (.int .i64 (wrap64 (x1_1 + 1))))) ?hg ?ho ?hn ?hr ?_; (case ho => rfl); (case hg => rfl); (case hn => rfl); (case hr => first | (go_simp; done) | (go_simp; rfl)); intro w12 hw; have hg : w10.grownBy w12 (some go5) := (by rw [hw]; exact HP11.2); have hp_ : Kd.R k35 35 w12 w0.heap.size (fun k_ => (P0_ k_ ∨ w.heap.size ≤ k_)) (.slice (some ⟨go5, 0, none⟩) x0_1.length co8) y410 := (by rw [hw, Ny410.out]; exact HP11.1); clear HP11; have n0_ := za.mk (hp_); have n1_ := za.mk ((by rw [hw]; exact zcs (HB.out) GB5.out : Below w0.heap.size w0 w12)); have n2_ := za.mk (Kept.zev (S := (fun k_ => P0_ k_)) hg (Zq13 HK) (fun k_ e_ => (HO_0.out.1 k_ e_))); clear HO_0; clear HB; clear HK; have HO_0 := n0_; have HB := n1_; have HK := n2_; clear n0_ n1_ n2_; clear hg hw hp_; have p7 : 0 ≤ (x5_1 : Int) := of_decide_eq_true Zas; have q7 : (x5_1 : Int) < ((x0_1.length : Int) : Int) := of_decide_eq_true Zas; obtain ⟨ce7, hcl7, hM7, hcc7, hfr7⟩ := Kd.zer HO_0.out z35 (x5_1 : Int) p7 q7; obtain rfl := zdg hM7; have hx7_0 : w12.cell? ⟨go5, (x5_1 : Int).toNat * 3, none⟩ = some (.int .i64 ((zb y410 x5_1).f0)) := hcc7 0 _ rfl; have hx7_1 : w12.cell? ⟨go5, (x5_1 : Int).toNat * 3 + 1, none⟩ = some (.int .i64 ((zb y410 x5_1).f1)) := hcc7 1 _ rfl; have hx7_2 : w12.cell? ⟨go5, (x5_1 : Int).toNat * 3 + 2, none⟩ = some (.int .i64 ((zb y410 x5_1).f2)) := hcc7 2 _ rfl; have hf7_0 : w12.frozen? ⟨go5, (x5_1 : Int).toNat * 3, none⟩ = false := hfr7 0; have hf7_1 : w12.frozen? ⟨go5, (x5_1 : Int).toNat * 3 + 1, none⟩ = false := hfr7 1; have hf7_2 : w12.frozen? ⟨go5, (x5_1 : Int).toNat * 3 + 2, none⟩ = false := hfr7 2; (try clear hcl7); (try clear hcc7); (try clear hfr7); (try clear hM7); replace p7 := eq_true p7; replace q7 := eq_true q7; have HX13 := za.mk (show Kd.R k35 35 w12 w0.heap.size (fun k_ => (P0_ k_ ∨ w.heap.size ≤ k_)) (.slice (some ⟨go5, 0, none⟩) x0_1.length co8) y410 from (Zq10 HO_0)); obtain ⟨ce13, hcl13, hM13, hcc13, hfr13⟩ := Kd.zer HX13.out z35 (x5_1 : Int) (of_decide_eq_true Zas) (by have h_ : (x5_1 : Int) < ((x0_1.length : Int) : Int) := of_decide_eq_true Zas; first | exact h_ | (have e_ := (Kd.zbm HO_0.out).1; omega) | simpa using h_); obtain rfl := zdg hM13; have HP13 := Kd.R_seg HX13.out (x5_1 : Int) (of_decide_eq_true Zas) (by have h_ : (x5_1 : Int) < ((x0_1.length : Int) : Int) := of_decide_eq_true Zas; first | exact h_ | (have e_ := (Kd.zbm HO_0.out).1; omega) | simpa using h_) (seg := [.int .i64 (wrap64 ((wrap64 (x1_1 + 1)) + 1))]) (j := 2) hcl13 hcc13 (show 3 ≤ 3 from by decide) (x' := (⟨(zb y410 x5_1).f0, (zb y410 x5_1).f1, wrap64 ((wrap64 (x1_1 + 1)) + 1)⟩ : S35)) (zf5 _ _ _ (⟨(zb y410 x5_1).f0, (zb y410 x5_1).f1, wrap64 ((wrap64 (x1_1 + 1)) + 1)⟩ : S35) ) (fun _ hk => hk); have hx13_2 := hcc13 2 _ rfl; (try simp only [show (k35).sz = 3 from rfl, Nat.mul_one, Nat.add_zero] at hx13_2); have hf13_2 := hfr13 2; (try simp only [show (k35).sz = 3 from rfl, Nat.mul_one, Nat.add_zero] at hf13_2); (try clear hcl13); (try clear hcc13); (try clear hfr13); (try clear hM13)) | ((with_reducible refine zd3 (t := 3) (p := 30) rfl ?_); refine zds (t := 3) (p := 30) (v := ?vo_w14) (w1 := (w12.setCell ⟨go5, (x5_1 : Int).toNat * 3 + 2, none⟩ (.int .i64 (wrap64 ((wrap64 (x1_1 + 1)) + 1))))) ?hg ?ho ?hn ?hr ?_; (case ho => rfl); (case hg => rfl); (case hn => rfl); (case hr => first | (go_simp; done) | (go_simp; rfl)); intro w14 hw; have hg : w12.grownBy w14 (some go5) := (by rw [hw]; exact HP13.2); have hp_ : Kd.R k35 35 w14 w0.heap.size (fun k_ => (P0_ k_ ∨ w.heap.size ≤ k_)) (.slice (some ⟨go5, 0, none⟩) x0_1.length co8) y411 := (by rw [hw, Ny411.out]; exact HP13.1); clear HP13; have n0_ := za.mk (hp_); have n1_ := za.mk ((by rw [hw]; exact zcs (HB.out) GB5.out : Below w0.heap.size w0 w14)); have n2_ := za.mk (Kept.zev (S := (fun k_ => P0_ k_)) hg (Zq13 HK) (fun k_ e_ => (HO_0.out.1 k_ e_))); clear HO_0; clear HB; clear HK; have HO_0 := n0_; have HB := n1_; have HK := n2_; clear n0_ n1_ n2_; clear hg hw hp_))
     go_roundg k1
     case measure => have := HK1.out; omega
     case rel => exact ⟨(y411), (wrap64 ((wrap64 ((wrap64 (x1_1 + 1)) + 1)) + 1)), (wrap64 (x5_1 + 1)), Zrs, Zrs, H', ⟨by have := HK1.out; omega⟩, ⟨Zq10 HO_0⟩, ⟨Zq13 HK⟩, ⟨Zq0 HB⟩⟩
    ·rw [if_neg c4] at H
     exact absurd H (by simp)
   ·rw [if_neg c3] at H
    have c3b0 : decide (x5_1 < (x0_1.length : Int)) = false := decide_eq_false c3;clear c3;simp only [Option.some.injEq, Prod.mk.injEq] at H;obtain ⟨rfl, rfl⟩ := H;obtain ⟨Ao15, co15, eo15⟩ := Kd.zch HO_0.out;subst eo15;go_wp2;go_ret;exact ⟨by first | rfl | (simp [zn, zo] <;> rfl) | (simp [*, zn, zo] <;> rfl), Zq10 HO_0, Zq0 HB, Zq13 HK⟩
def zbz.l0 : Nat → List Int → Int → Int → Option (Int × List Int)
 | 0, _, _, _ => none
 | k + 1, x0, x1, x5 => if x5 < (x0.length : Int) then (if 0 ≤ x5 then (zbz.l0 k (x0.set (x5 : Int).toNat x1) (wrap64 (x1 + 1)) (wrap64 (x5 + 1))) else (none)) else (some (x1, x0))
def zbz.f (k : Nat) (l0 : List Int) (a1 : Int) : Option (Int × List Int) := zbz.l0 k l0 a1 0
theorem Kd.Qc_form {α : Type} {d : Kd α} {e base : Nat} {w : World} {ok : Nat → Prop} {v : Value} {xs : List α} (h : Kd.Qc d e w base ok v xs) (hp : 0 < xs.length) : ∃ g cap, v = .slice (some ⟨g, 0, none⟩) xs.length cap ∧ base ≤ g ∧ g < w.heap.size ∧ ∃ cells, w.heap[g]? = some (.cells cells e (0, 0)) := by
  obtain ⟨v', hc, h⟩ := h
  obtain ⟨g, cap, he, h1, h2, h3⟩ := Kd.zfu h hp
  rcases hc with rfl | ⟨ad, n1, c1, c', e1, e2, h4, h5⟩
  · exact ⟨g, cap, he, h1, h2, h3⟩
  · rw [e2] at he
    injection he with e3 e4 e5
    subst e4
    rw [e3] at e1
    exact ⟨g, c1, e1, h1, h2, h3⟩
theorem Kd.Qc_celln {α : Type} {enc : α → Value} {h1 : ∀ x, (enc x).oneCell' = true} {e base g n cap : Nat} {ok : Nat → Prop} {W : World} {xs : List α} (d : α) (h : Kd.Qc (Kd.scalar enc h1) e W base ok (.slice (some ⟨g, 0, none⟩) n cap) xs) (i : Int) (h0 : 0 ≤ i) (hi : i < n) : W.cell? ⟨g, i.toNat, none⟩ = some (enc (rdOf d xs i)) ∧ W.frozen? ⟨g, i.toNat, none⟩ = false := by
  obtain ⟨v', hc, h⟩ := h
  rcases hc with rfl | ⟨ad, n1, c1, c', e1, rfl, h4, h5⟩
  · exact Kd.zfe d h i h0 hi
  · injection e1 with e3 e4 e5
    injection e3 with e3
    subst e3 e4 e5
    exact Kd.zfe d h i h0 hi
set_option maxHeartbeats 8000000 in
theorem zbz.callsQ (k : Nat) (P0_ : Nat → Prop) (u9000_ : Value) (l0 : List Int) (a1 : Int) (r1 : Int) (r2 : List Int) (w0 w : World) (hB : Below w0.heap.size w0 w) (ho0 : Kd.Qc (Kd.int .i64) 3 w w0.heap.size P0_ u9000_ l0) (h : zbz.f k l0 a1 = some (r1, r2)) :
    Calls Try.prog 49 #[u9000_, .int .i64 a1] w fun e w' => e = .returned (.int .i64 r1) ∧ Kd.Qc (Kd.int .i64) 3 w' w0.heap.size (fun k_ => (P0_ k_ ∨ w.heap.size ≤ k_)) u9000_ r2 ∧ Below w0.heap.size w0 w' ∧ Kept w w' (fun k_ => P0_ k_) := by
  have HO0 := za.mk (show Kd.Qc (Kd.int .i64) 3 w w0.heap.size (fun k_ => (P0_ k_ ∨ w.heap.size ≤ k_)) u9000_ l0 from Kd.zf7 ho0 (fun k_ hk => (.inl hk)))
  have HK := za.mk (Kept.refl w (fun k_ => P0_ k_))
  have HW0 := za.mk hB.size
  have HB := za.mk hB
  clear hB
  have H : (zbz.l0 k l0 a1 0) = some (r1, r2) := h
  clear h
  have H' := za.mk H
  clear H
  go_enter Try.func49, Try.ntmps49
  go_wp2
  go_loopg [1, 5] k (fun kq v1 v5 w' => ∃ (x0_1 : List Int) (x1_1 : Int) (x5_1 : Int), v1 = .int .i64 x1_1 ∧ v5 = .int .i64 x5_1 ∧ za (zbz.l0 kq x0_1 x1_1 x5_1 = some (r1, r2)) ∧ za (kq ≤ k) ∧ za (Kd.Qc (Kd.int .i64) 3 w' w0.heap.size (fun k_ => (P0_ k_ ∨ w.heap.size ≤ k_)) u9000_ x0_1) ∧ za (Kept w w' (fun k_ => P0_ k_)) ∧ za (Below w0.heap.size w0 w'))
  case atStart => exact ⟨(l0), (a1), (0), (by first | rfl | (simp; done) | (simp [*]; done)), (by first | rfl | (simp; done) | (simp [*]; done)), H', ⟨Nat.le_refl _⟩, ⟨by (with_reducible repeat (first | apply Kd.zg8 | apply Kd.zg7 | apply Kd.zif)); exact HO0.out⟩, ⟨by repeat (first | (with_reducible first | exact HK.out | apply Kept.alloc | apply Kept.drewN | apply Kept.drew) | exact HK.out)⟩, ⟨by repeat (first | (with_reducible first | exact HB.out | apply zb1 | apply zb6 | apply zbe) | exact HB.out)⟩⟩
  case round =>
    clear H'
    try clear p2
    obtain ⟨x0_1, x1_1, x5_1, rfl, rfl, HA, HK1, HO_0, HK, HB⟩ := hrel
    cases gk with
    | zero => exact absurd HA.out (by simp [zbz.l0])
    | succ k1 =>
      have H := HA.out
      clear HA
      simp only [zbz.l0] at H
      by_cases c3 : x5_1 < (x0_1.length : Int)
      · rw [if_pos c3] at H
        have c3b0 : decide (x5_1 < (x0_1.length : Int)) = true := decide_eq_true c3
        clear c3
        by_cases c4 : 0 ≤ x5_1
        · rw [if_pos c4] at H
          have c4b0 : decide (0 ≤ x5_1) = true := decide_eq_true c4
          clear c4
          obtain ⟨y412, hy412⟩ : ∃ y_ : List Int, y_ = (x0_1.set (x5_1 : Int).toNat x1_1) := ⟨_, rfl⟩
          replace H : (zbz.l0 k1 y412 (wrap64 (x1_1 + 1)) (wrap64 (x5_1 + 1))) = some (r1, r2) := by first | (rw [hy412]; with_reducible exact H) | (have H2_ := (Option.bind_some _ _).symm.trans H; rw [hy412]; with_reducible exact H2_) | (have H2_ := (Option.bind_some _ _).symm.trans H; with_reducible exact H2_) | with_reducible exact H | (rw [hy412]; exact H) | exact H
          have Ny412 := za.mk hy412
          clear hy412
          have H' := za.mk H
          clear H
          obtain ⟨Ao6, co6, eo6⟩ := Kd.zfo HO_0.out
          subst eo6
          have p5 : 0 ≤ (x5_1 : Int) := of_decide_eq_true (by first | (with_reducible assumption) | assumption)
          have q5 : (x5_1 : Int) < ((x0_1.length : Int) : Int) := of_decide_eq_true (by first | (with_reducible assumption) | assumption)
          obtain ⟨go5, co5, eo5, gb5, gl5, cl5, HG5⟩ := Kd.Qc_form HO_0.out (by omega)
          (first | cases eo5 | (injection eo5 with ea_ en_ ec_; (first | subst ea_ | (injection ea_ with ea_; subst ea_)); subst ec_; clear en_))
          have GB5 := za.mk gb5
          have GG5 := za.mk HG5
          clear gb5 gl5 HG5
          have HMgo5 := za.mk (show (P0_ go5 ∨ w.heap.size ≤ go5) from (Kd.Qc_1 HO_0.out _ rfl))
          obtain ⟨hx5_0, hf5_0⟩ := Kd.Qc_celln 0 HO_0.out (x5_1 : Int) p5 q5
          replace p5 := eq_true p5
          replace q5 := eq_true q5
          have HP7 := Kd.Qc_putg HO_0.out (x5_1 : Int) x1_1
          go_wp2_with (first | ((with_reducible refine zd3 (t := 3) (p := 15) rfl ?_); refine zds (t := 3) (p := 15) (v := ?vo_w8) (w1 := (wr.setCell ⟨go5, (x5_1 : Int).toNat, none⟩ (.int .i64 x1_1))) ?hg ?ho ?hn ?hr ?_; (case ho => rfl); (case hg => rfl); (case hn => rfl); (case hr => first | (go_simp; done) | (go_simp; rfl)); intro w8 hw; have hg : wr.grownBy w8 (some go5) := (by rw [hw]; exact HP7.2); have hp_ : Kd.Qc (Kd.int .i64) 3 w8 w0.heap.size (fun k_ => (P0_ k_ ∨ w.heap.size ≤ k_)) (.slice (some ⟨go5, 0, none⟩) x0_1.length co6) y412 := (by rw [hw, Ny412.out]; exact HP7.1); clear HP7; have n0_ := za.mk (hp_); have n1_ := za.mk ((by rw [hw]; exact zcs (HB.out) GB5.out : Below w0.heap.size w0 w8)); have n2_ := za.mk (Kept.zev (S := (fun k_ => P0_ k_)) hg (by repeat (first | (with_reducible first | exact HK.out | apply Kept.alloc | apply Kept.drewN | apply Kept.drew) | exact HK.out)) (fun k_ e_ => (Kd.Qc_1 HO_0.out k_ e_))); clear HO_0; clear HB; clear HK; have HO_0 := n0_; have HB := n1_; have HK := n2_; clear n0_ n1_ n2_; clear hg hw hp_))
          go_roundg k1
          case measure => have := HK1.out; omega
          case rel => exact ⟨(y412), (wrap64 (x1_1 + 1)), (wrap64 (x5_1 + 1)), (by first | rfl | (simp; done) | (simp [*]; done)), (by first | rfl | (simp; done) | (simp [*]; done)), H', ⟨by have := HK1.out; omega⟩, ⟨by (with_reducible repeat (first | apply Kd.zg8 | apply Kd.zg7 | apply Kd.zif)); exact HO_0.out⟩, ⟨by repeat (first | (with_reducible first | exact HK.out | apply Kept.alloc | apply Kept.drewN | apply Kept.drew) | exact HK.out)⟩, ⟨by repeat (first | (with_reducible first | exact HB.out | apply zb1 | apply zb6 | apply zbe) | exact HB.out)⟩⟩
        · rw [if_neg c4] at H
          exact absurd H (by simp)
      · rw [if_neg c3] at H
        have c3b0 : decide (x5_1 < (x0_1.length : Int)) = false := decide_eq_false c3
        clear c3
        simp only [Option.some.injEq, Prod.mk.injEq] at H
        obtain ⟨rfl, rfl⟩ := H
        obtain ⟨Ao9, co9, eo9⟩ := Kd.zfo HO_0.out
        subst eo9
        go_wp2
        go_ret
        exact ⟨by first | rfl | (simp [zn, zo] <;> rfl) | (simp [*, zn, zo] <;> rfl), by (with_reducible repeat (first | apply Kd.zg8 | apply Kd.zg7 | apply Kd.zif)); exact HO_0.out, by repeat (first | (with_reducible first | exact HB.out | apply zb1 | apply zb6 | apply zbe) | exact HB.out), by repeat (first | (with_reducible first | exact HK.out | apply Kept.alloc | apply Kept.drewN | apply Kept.drew) | exact HK.out)⟩
def zbs.l0 : Nat → List (List Int) → Int → Int → Option (Int × List (List Int))
  | 0, _, _, _ => none
  | k + 1, x0, x1, x5 => if x5 < (x0.length : Int) then (if 0 ≤ x5 then ((zbz.f k (x0.getD x5.toNat []) x1).bind fun p => (zbs.l0 k (x0.set x5.toNat p.2) p.1 (wrap64 (x5 + 1)))) else (none)) else (some (x1, x0))
def zbs.f (k : Nat) (l0 : List (List Int)) (a1 : Int) : Option (Int × List (List Int)) := zbs.l0 k l0 a1 0
set_option maxHeartbeats 8000000 in
theorem zbs.calls (k : Nat) (P0_ : Nat → Prop) (u9000_ : Value) (l0 : List (List Int)) (a1 : Int) (r1 : Int) (r2 : List (List Int)) (w0 w : World) (hB : Below w0.heap.size w0 w) (ho0 : Kd.S (Kd.cut 3 (Kd.int .i64)) 33 w w0.heap.size P0_ u9000_ l0) (h : zbs.f k l0 a1 = some (r1, r2)) :
    Calls Try.prog 23 #[u9000_, .int .i64 a1] w fun e w' => e = .returned (.int .i64 r1) ∧ Kd.S (Kd.cut 3 (Kd.int .i64)) 33 w' w0.heap.size (fun k_ => P0_ k_) u9000_ r2 ∧ Below w0.heap.size w0 w' ∧ Kept w w' (fun k_ => P0_ k_) := by
  have HO0 := za.mk ho0
  have HK := za.mk (Kept.refl w (fun k_ => P0_ k_))
  have HB := za.mk hB
  clear hB ho0
  have H' := za.mk (show zbs.l0 k l0 a1 0 = some (r1, r2) from h)
  clear h
  go_enter Try.func23, Try.ntmps23
  go_wp2
  go_loopg [1, 5] k (fun kq v1 v5 wr => ∃ (x0 : List (List Int)) (x1 x5 : Int), v1 = .int .i64 x1 ∧ v5 = .int .i64 x5 ∧ za (zbs.l0 kq x0 x1 x5 = some (r1, r2)) ∧ za (kq ≤ k) ∧ za (Kd.S (Kd.cut 3 (Kd.int .i64)) 33 wr w0.heap.size (fun k_ => P0_ k_) u9000_ x0) ∧ za (Kept w wr (fun k_ => P0_ k_)) ∧ za (Below w0.heap.size w0 wr))
  case atStart => exact ⟨l0, a1, 0, by go_num, by go_num, H', ⟨Nat.le_refl _⟩, HO0, HK, HB⟩
  case round =>
    clear H' HK HB HO0
    obtain ⟨x0, x1, x5, rfl, rfl, HA, HK1, HO, HK, HB⟩ := hrel
    cases gk with
    | zero => exact absurd HA.out (by simp [zbs.l0])
    | succ k1 =>
      have H := HA.out
      clear HA
      simp only [zbs.l0] at H
      by_cases c3 : x5 < (x0.length : Int)
      · rw [if_pos c3] at H
        by_cases c4 : 0 ≤ x5
        · rw [if_pos c4] at H
          replace H := Option.bind_eq_some_iff.mp H
          obtain ⟨⟨t1, t2⟩, A5, H⟩ := H
          have A5' := za.mk A5
          have H' := za.mk (show zbs.l0 k1 (x0.set x5.toNat t2) t1 (wrap64 (x5 + 1)) = some (r1, r2) from H)
          clear A5 H
          obtain ⟨A, cA, eA⟩ := Kd.zdp HO.out
          subst eA
          obtain ⟨go, co, eo, gb, gl, _⟩ := Kd.S_form HO.out (by omega)
          injection eo with ea en ec
          subst ea ec
          clear en
          obtain ⟨oki, c, hcl, hM, hcc, hoki, hback⟩ := Kd.S_lend HO.out ([] : List Int) x5 c4 c3
          obtain ⟨vi, hc, hvi⟩ := hM
          subst hc
          have hx := hcc 0 vi rfl
          rw [show (Kd.cut 3 (Kd.int .i64)).sz = 1 from rfl, Nat.mul_one, Nat.add_zero] at hx
          have hvt := Kd.Qc_tight rfl hvi
          have hv1 := Kd.Qc_1 hvi
          obtain ⟨Ai, ci, ei⟩ := Kd.zfo hvi
          have HT := za.mk hvt
          have BK := za.mk hback
          have HV := za.mk hv1
          have HOK := za.mk hoki
          obtain ⟨row, hrow⟩ : ∃ row, x0.getD x5.toNat [] = row := ⟨_, rfl⟩
          rw [hrow] at ei HT A5'
          obtain ⟨ni, hni⟩ : ∃ n, n = row.length := ⟨_, rfl⟩
          rw [← hni] at ei
          subst ei
          clear hvi hvt hv1 hback hcc hcl hoki hrow hni
          have c3b : decide (x5 < (x0.length : Int)) = true := decide_eq_true c3
          go_wp2_with (go_at_call 49; refine (zbz.callsQ k1 _ _ row x1 t1 t2 w0 wr HB.out HT.out A5'.out).mono ?_; rintro e w1 ⟨rfl, h1, h2, h3⟩; have R1 := za.mk h1; have B1 := za.mk h2; have K1 := za.mk h3; clear h1 h2 h3)
          have RT := Kd.Qc_reok (ok := oki) rfl R1.out (fun k hk => HV.out k hk)
          have HO2 := za.mk (show Kd.S (Kd.cut 3 (Kd.int .i64)) 33 w1 w0.heap.size (fun k_ => P0_ k_) (.slice (some ⟨go, 0, none⟩) x0.length cA) (x0.set x5.toNat t2) from Kd.H_back (Kd.H_kept BK.out K1.out (fun k ho hn hs => hn (HV.out k hs.symm))) ⟨_, rfl, RT⟩ (fun _ hk => hk))
          have HK2 := za.mk (HK.out.then_ K1.out (fun k hk => Or.inl (HOK.out k (HV.out k hk.symm)).1))
          clear HO HK HB RT BK R1 K1 HT hx HV HOK
          go_roundg k1
          case measure => have := HK1.out; omega
          case rel => exact ⟨x0.set x5.toNat t2, t1, wrap64 (x5 + 1), by go_num, by go_num, H', ⟨by have := HK1.out; omega⟩, HO2, HK2, B1⟩
        · rw [if_neg c4] at H
          cases H
      · rw [if_neg c3] at H
        obtain ⟨rfl, rfl⟩ := Prod.mk.inj (Option.some.inj H)
        obtain ⟨A, cA, eA⟩ := Kd.zdp HO.out
        subst eA
        have c3b : decide (x5 < (x0.length : Int)) = false := decide_eq_false c3
        go_wp2
        go_ret
        exact ⟨rfl, HO.out, HB.out, HK.out⟩
def zb5.l0 : Nat → List Int → Int → Int → Option (Int)
 | 0, _, _, _ => none
 | k + 1, x0, x1, x5 => if x5 < (x0.length : Int) then (if 0 ≤ x5 then (if (rd x0 x5) = x1 then (zb5.l0 k x0 (wrap64 (x1 + 1)) (wrap64 (x5 + 1))) else (some (-1))) else (none)) else (some x1)
def zb5.f (k : Nat) (l0 : List Int) (a1 : Int) : Option (Int) := zb5.l0 k l0 a1 0
set_option maxHeartbeats 8000000 in
theorem zb5.calls (k : Nat) (A0 : Option Addr) (c0 : Nat) (l0 : List Int) (a1 : Int) (r : Int) (w : World) (hr0 : Kd.C (Kd.int .i64) w A0 l0.length l0) (hc0 : l0.length ≤ c0) (h : zb5.f k l0 a1 = some r) :
  Calls Try.prog 50 #[.slice A0 l0.length c0, .int .i64 a1] w fun e w' => e = .returned (.int .i64 r) ∧ zbl w w' := by
 have HR0 := za.mk hr0
 have HC0 := za.mk hc0
 clear hr0 hc0
 have H : (zb5.l0 k l0 a1 0) = some r := h
 clear h
 have H' := za.mk H
 clear H
 go_enter Try.func50, Try.ntmps50
 go_wp2
 go_loopg [1, 5] k (fun kq v1 v5 w' => ∃ (x1_1 : Int) (x5_1 : Int), v1 = .int .i64 x1_1 ∧ v5 = .int .i64 x5_1 ∧ za (zb5.l0 kq l0 x1_1 x5_1 = some r) ∧ za (kq ≤ k) ∧ zbl w w')
 case atStart => exact ⟨(a1), (0), Zrs, Zrs, H', ⟨Nat.le_refl _⟩, by repeat (first | exact zbl.refl _ | apply zbl.step)⟩
 case round =>
  clear H'
  try clear p2
  obtain ⟨x1_1, x5_1, rfl, rfl, HA, HK1, ⟨m1, rfl⟩⟩ := hrel
  cases gk with
  | zero => exact absurd HA.out (by simp [zb5.l0])
  | succ k1 =>
   have H := HA.out;clear HA;simp only [zb5.l0] at H;by_cases c3 : x5_1 < (l0.length : Int)
   ·rw [if_pos c3] at H
    have c3b0 : decide (x5_1 < (l0.length : Int)) = true := decide_eq_true c3;clear c3;by_cases c4 : 0 ≤ x5_1
    ·rw [if_pos c4] at H
     have c4b0 : decide (0 ≤ x5_1) = true := decide_eq_true c4;clear c4;by_cases c5 : (rd l0 x5_1) = x1_1
     ·rw [if_pos c5] at H
      have c5b0 : ((rd l0 x5_1) == x1_1) = true := beq_iff_eq.mpr c5;have c5b1 : ((rd l0 x5_1) != x1_1) = false := bne_eq_false_iff_eq.mpr c5;clear c5;have H' := za.mk H;clear H;have p414 : 0 ≤ (x5_1 : Int) := of_decide_eq_true Zas;have q414 : x5_1 < (l0.length : Int) := of_decide_eq_true Zas;obtain ⟨ad414, e414, hx414_0⟩ := Kd.zcb HR0.out x5_1 p414 q414
      cases e414
      replace p414 := eq_true p414;replace q414 := eq_true q414;go_wp2;go_roundg k1
      case measure => have := HK1.out; omega
      case rel => exact ⟨(wrap64 (x1_1 + 1)), (wrap64 (x5_1 + 1)), Zrs, Zrs, H', ⟨by have := HK1.out; omega⟩, by repeat (first | exact zbl.refl _ | apply zbl.step)⟩
     ·rw [if_neg c5] at H
      have c5b0 : ((rd l0 x5_1) == x1_1) = false := beq_eq_false_iff_ne.mpr c5;have c5b1 : ((rd l0 x5_1) != x1_1) = true := bne_iff_ne.mpr c5;obtain rfl := Option.some.inj H;have p414 : 0 ≤ (x5_1 : Int) := of_decide_eq_true Zas;have q414 : x5_1 < (l0.length : Int) := of_decide_eq_true Zas;obtain ⟨ad414, e414, hx414_0⟩ := Kd.zcb HR0.out x5_1 p414 q414
      cases e414
      replace p414 := eq_true p414;replace q414 := eq_true q414;go_wp2;go_ret;exact ⟨by first | rfl | (simp; done) | (simp [*]; done), by repeat (first | exact zbl.refl _ | apply zbl.step)⟩
    ·rw [if_neg c4] at H
     exact absurd H (by simp)
   ·rw [if_neg c3] at H
    have c3b0 : decide (x5_1 < (l0.length : Int)) = false := decide_eq_false c3;clear c3;obtain rfl := Option.some.inj H;go_wp2;go_ret;exact ⟨by first | rfl | (simp; done) | (simp [*]; done), by repeat (first | exact zbl.refl _ | apply zbl.step)⟩
def zbf.l0 : Nat → List (List Int) → Int → Int → Option (Int)
 | 0, _, _, _ => none
 | k + 1, x0, x1, x5 => if x5 < (x0.length : Int) then (if 0 ≤ x5 then ((zb5.f k (zc5 x0 x5) x1).bind fun t416 => (if t416 < 0 then (some (-1)) else (zbf.l0 k x0 t416 (wrap64 (x5 + 1))))) else (none)) else (some x1)
def zbf.f (k : Nat) (l0 : List (List Int)) (a1 : Int) : Option (Int) := zbf.l0 k l0 a1 0
set_option maxHeartbeats 8000000 in
theorem zbf.calls (k : Nat) (A0 : Option Addr) (c0 : Nat) (l0 : List (List Int)) (a1 : Int) (r : Int) (w : World) (hr0 : Kd.C (Kd.slice 3 (Kd.int .i64)) w A0 l0.length l0) (hc0 : l0.length ≤ c0) (h : zbf.f k l0 a1 = some r) :
  Calls Try.prog 24 #[.slice A0 l0.length c0, .int .i64 a1] w fun e w' => e = .returned (.int .i64 r) ∧ zbl w w' := by
 have HR0 := za.mk hr0
 have HC0 := za.mk hc0
 clear hr0 hc0
 have H : (zbf.l0 k l0 a1 0) = some r := h
 clear h
 have H' := za.mk H
 clear H
 go_enter Try.func24, Try.ntmps24
 go_wp2
 go_loopg [1, 5] k (fun kq v1 v5 w' => ∃ (x1_1 : Int) (x5_1 : Int), v1 = .int .i64 x1_1 ∧ v5 = .int .i64 x5_1 ∧ za (zbf.l0 kq l0 x1_1 x5_1 = some r) ∧ za (kq ≤ k) ∧ zbl w w')
 case atStart => exact ⟨(a1), (0), Zrs, Zrs, H', ⟨Nat.le_refl _⟩, by repeat (first | exact zbl.refl _ | apply zbl.step)⟩
 case round =>
  clear H'
  (try clear c2);(try clear p2)
  obtain ⟨x1_1, x5_1, rfl, rfl, HA, HK1, ⟨m1, rfl⟩⟩ := hrel
  cases gk with
  | zero => exact absurd HA.out (by simp [zbf.l0])
  | succ k1 =>
   have H := HA.out;clear HA;simp only [zbf.l0] at H;by_cases c3 : x5_1 < (l0.length : Int)
   ·rw [if_pos c3] at H
    have c3b0 : decide (x5_1 < (l0.length : Int)) = true := decide_eq_true c3;clear c3;by_cases c4 : 0 ≤ x5_1
    ·rw [if_pos c4] at H
     have c4b0 : decide (0 ≤ x5_1) = true := decide_eq_true c4;clear c4;replace H := Option.bind_eq_some_iff.mp H;obtain ⟨t416, A50, H⟩ := H;replace H : (if t416 < 0 then (some (-1)) else (zbf.l0 k1 l0 t416 (wrap64 (x5_1 + 1)))) = some r := H;have A5 := za.mk A50;clear A50;by_cases c6 : t416 < 0
     ·rw [if_pos c6] at H
      have c6b0 : decide (t416 < 0) = true := decide_eq_true c6;clear c6;obtain rfl := Option.some.inj H;have p415 : 0 ≤ (x5_1 : Int) := of_decide_eq_true Zas;have q415 : x5_1 < (l0.length : Int) := of_decide_eq_true Zas;obtain ⟨ad415, A415_0, c415_0, e415, hx415_0, hl415_0, hi415_0⟩ := at_L3 HR0.out x5_1 p415 q415
      cases e415
      have HR415_0 := za.mk hi415_0;have HC415_0 := za.mk hl415_0;clear hi415_0 hl415_0;replace p415 := eq_true p415;replace q415 := eq_true q415;go_wp2_with (first | ((with_reducible refine zt (f := 50) rfl ?_); refine zbt (some 17) rfl rfl Try.func50 (by kernel_rfl) rfl #[.slice A415_0 (zc5 l0 x5_1).length c415_0, .int .i64 x1_1] rfl Zmt ?_; (with_reducible refine (zb5.calls k1 _ _ (zc5 l0 x5_1) x1_1 t416 _ ?side1 ?side2 A5.out).mono ?_); (case side1 => exact Zq4 HR415_0); (case side2 => exact HC415_0.out); rintro e w' ⟨rfl, ⟨nd, rfl⟩⟩; refine ⟨_, rfl, ?_⟩));go_ret;exact ⟨by first | rfl | (simp; done) | (simp [*]; done), by repeat (first | exact zbl.refl _ | apply zbl.step)⟩
     ·rw [if_neg c6] at H
      have c6b0 : decide (t416 < 0) = false := decide_eq_false c6;clear c6;have H' := za.mk H;clear H;have p415 : 0 ≤ (x5_1 : Int) := of_decide_eq_true Zas;have q415 : x5_1 < (l0.length : Int) := of_decide_eq_true Zas;obtain ⟨ad415, A415_0, c415_0, e415, hx415_0, hl415_0, hi415_0⟩ := at_L3 HR0.out x5_1 p415 q415
      cases e415
      have HR415_0 := za.mk hi415_0;have HC415_0 := za.mk hl415_0;clear hi415_0 hl415_0;replace p415 := eq_true p415;replace q415 := eq_true q415;go_wp2_with (first | ((with_reducible refine zt (f := 50) rfl ?_); refine zbt (some 17) rfl rfl Try.func50 (by kernel_rfl) rfl #[.slice A415_0 (zc5 l0 x5_1).length c415_0, .int .i64 x1_1] rfl Zmt ?_; (with_reducible refine (zb5.calls k1 _ _ (zc5 l0 x5_1) x1_1 t416 _ ?side1 ?side2 A5.out).mono ?_); (case side1 => exact Zq4 HR415_0); (case side2 => exact HC415_0.out); rintro e w' ⟨rfl, ⟨nd, rfl⟩⟩; refine ⟨_, rfl, ?_⟩));go_roundg k1
      case measure => have := HK1.out; omega
      case rel => exact ⟨(t416), (wrap64 (x5_1 + 1)), Zrs, Zrs, H', ⟨by have := HK1.out; omega⟩, by repeat (first | exact zbl.refl _ | apply zbl.step)⟩
    ·rw [if_neg c4] at H
     exact absurd H (by simp)
   ·rw [if_neg c3] at H
    have c3b0 : decide (x5_1 < (l0.length : Int)) = false := decide_eq_false c3;clear c3;obtain rfl := Option.some.inj H;go_wp2;go_ret;exact ⟨by first | rfl | (simp; done) | (simp [*]; done), by repeat (first | exact zbl.refl _ | apply zbl.step)⟩
end Go.Proofs.Ytnilnaabjpcfjaa.P
