/- The law FnFairFull for every input, part 5 of its proof: what the program's functions answer, and the plain law. No condition. -/
import Derived.Test.YtnilnaabjpcfjaaMFnFairFull1
import Derived.Test.YtnilnaabjpcfjaaMFnFairFull3
import Derived.Test.YtnilnaabjpcfjaaMFnFairFull4
set_option maxRecDepth 100000
namespace Go.Proofs.Ytnilnaabjpcfjaa.P
open Go.RowKit Go.Proofs.YtnilnaabjpcfjaaW.PrintWords Go.Proofs.YtnilnaabjpcfjaaW.PrintLast Go.Proofs.YtnilnaabjpcfjaaW.PrintMore
attribute [local go_sem] ze7 ze8 zf5 zf6 zem zen ze9 zfa
set_option linter.unusedVariables false
set_option linter.unusedSimpArgs false
mutual
def zbb.l0 : Nat → List (S35) → List Int → Int → Int → List Int → Option (List Int)
 | 0, _, _, _, _, _ => none
 | k + 1, x0, x1, x2, x3, x9 => if (x9.length : Int) < x3 then (zbb.l1 k x0 x1 x2 x3 x9 (-1) 0) else (some x9)
def zbb.l1 : Nat → List (S35) → List Int → Int → Int → List Int → Int → Int → Option (List Int)
 | 0, _, _, _, _, _, _, _ => none
 | k + 1, x0, x1, x2, x3, x9, x10, x11 => if x11 < (x0.length : Int) then (if 0 ≤ x11 then (if x11 < (x1.length : Int) then ((zbf.f ((zg x0 x11).f0) ((zg x0 x11).f1) ((zg x0 x11).f2) (rd x1 x11)).bind fun bt314 => (if bt314.1 ≤ x2 then ((zca.f k x9 x11).bind fun t316 => (if t316 < 0 then (if x10 < 0 then (zbb.l1 k x0 x1 x2 x3 x9 x11 (wrap64 (x11 + 1))) else ((zm.f k x0 x1 x11 x10).bind fun t317 => (if t317 = true then (zbb.l1 k x0 x1 x2 x3 x9 x11 (wrap64 (x11 + 1))) else (zbb.l1 k x0 x1 x2 x3 x9 x10 (wrap64 (x11 + 1)))))) else (zbb.l1 k x0 x1 x2 x3 x9 x10 (wrap64 (x11 + 1))))) else (zbb.l1 k x0 x1 x2 x3 x9 x10 (wrap64 (x11 + 1))))) else (none)) else (none)) else (if x10 < 0 then (some x9) else (if x9.length < 17592186044416 then (zbb.l0 k x0 x1 x2 x3 (x9 ++ [x10])) else (none)))
end
def zbb.f (k : Nat) (l0 : List (S35)) (l1 : List Int) (a2 : Int) (a3 : Int) : Option (List Int) := zbb.l0 k l0 l1 a2 a3 (([] : List Int))
def zbb.T7 : Bool × List (List Nat × List Nat) := (true, [([], []), ([], []), ([0, 1], [0, 1]), ([2], [2]), ([], []), ([], []), ([4, 5], [4, 5]), ([6], [6]), ([3, 7], [3, 7]), ([8], [8]), ([], []), ([9, 10], [9, 10]), ([11, 8], [11]), ([12], [12]), ([12], [12]), ([13, 14, 12, 12], [12, 13, 14]), ([15, 12], [12, 15]), ([12, 16], [12, 16]), ([17, 15], [17]), ([18], [18]), ([19, 18], [18, 19]), ([20, 18, 18], [18, 20]), ([21], [21]), ([21], [21]), ([21], [21]), ([21], [21]), ([22, 23, 24, 25, 21, 21], [21, 22, 23, 24, 25]), ([21, 26, 18], [18, 21, 26]), ([18, 27], [18, 27])])
def zbb.B7 : List Nat := [0, 0, 3, 7, 0, 0, 48, 112, 255, 511, 0, 2047, 4095, 8191, 8191, 32767, 65535, 131071, 262143, 524287, 1048575, 2097151, 4194303, 4194303, 4194303, 4194303, 67108863, 134217727, 268435455]
theorem zbb.tab7 : rtab .any (opsOf Try.f38 7) = zbb.T7 := by kernel_rfl
theorem zbb.zjd : zcs zbb.T7.2 zbb.B7 = true := by kernel_rfl
set_option maxHeartbeats 8000000 in
theorem zbb.calls (k : Nat) (A0 : Option Addr) (c0 : Nat) (l0 : List (S35)) (A1 : Option Addr) (c1 : Nat) (l1 : List Int) (a2 : Int) (a3 : Int) (r : List Int) (w : World) (hr0 : Kd.C k35 w A0 l0.length l0) (hc0 : l0.length ≤ c0) (hr1 : Kd.C (Kd.int .i64) w A1 l1.length l1) (hc1 : l1.length ≤ c1) (h : zbb.f k l0 l1 a2 a3 = some r) :
  Calls Try.prog 38 #[.slice A0 l0.length c0, .slice A1 l1.length c1, .int .i64 a2, .int .i64 a3] w fun e w' => ∃ v0_ : Value, e = .returned (v0_) ∧ Kd.R (Kd.int .i64) 3 w' w.heap.size (fun _ => True) v0_ r ∧ Below w.heap.size w w' := by
 have hfld39_0 : ∀ (v0_ v1_ : Value) (W : World), (Instr.field 39 (.agg #[v0_, v1_]) 0).run Try.prog W = .ok v0_ W := fun _ _ _ => rfl
 have hfld39_1 : ∀ (v0_ v1_ : Value) (W : World), (Instr.field 39 (.agg #[v0_, v1_]) 1).run Try.prog W = .ok v1_ W := fun _ _ _ => rfl
 have hu35 := Try.underlying35
 have HR0 := za.mk hr0
 have HC0 := za.mk hc0
 clear hr0 hc0
 have HR1 := za.mk hr1
 have HC1 := za.mk hc1
 clear hr1 hc1
 have HB := za.mk (Below.refl w.heap.size w)
 have H : (zbb.l0 k l0 l1 a2 a3 (([] : List Int))) = some r := h
 clear h
 obtain ⟨y306, hy306⟩ : ∃ y_ : List Int, y_ = (([] : List Int)) := ⟨_, rfl⟩
 replace H : (zbb.l0 k l0 l1 a2 a3 y306) = some r := by first | (rw [hy306]; with_reducible exact H) | (have H2_ := (Option.bind_some _ _).symm.trans H; rw [hy306]; with_reducible exact H2_) | (have H2_ := (Option.bind_some _ _).symm.trans H; with_reducible exact H2_) | with_reducible exact H | (rw [hy306]; exact H) | exact H
 have Ny306 := za.mk hy306
 clear hy306
 have H' := za.mk H
 clear H
 go_enter Try.func38, Try.ntmps38
 go_wp2_with (first | ((with_reducible refine zbx (N := 12) rfl ?_); refine Kd.zi0 (Kd.int .i64) _ 3 ?hg (N := 12) ?hd (xs := ([] : List Int)) (inner := []) (ok := fun _ => True) (okp := fun _ => True) ?hr ?hp (fun _ hk => hk) trivial (Below.refl _ _) (Nat.le_refl _) (by simp) ?_; (case hd => rfl); (case hg => rfl); (case hr => first | (go_simp; done) | (go_simp; rfl)); (case hp => exact (Reps.none _ _)); intro v307 w5 ho6 hb hg_ hnew_; clear hg_ hnew_; (first | rw [← Ny306.out] at ho6 | (simp only [Int.reduceToNat] at ho6; rw [← Ny306.out] at ho6)); have n0_ := za.mk (Kd.zcw ho6 (zba (Zq1 HB))); have n1_ := za.mk (zn (Zq1 HB) hb); clear HB; have HO308 := n0_; have HB := n1_; clear n0_ n1_; clear hb ho6))
 go_loopg [9] k (fun kq v9 w' => ∃ (x9_1 : List Int), za (zbb.l0 kq l0 l1 a2 a3 x9_1 = some r) ∧ za (kq ≤ k) ∧ za (Kd.R (Kd.int .i64) 3 w' w.heap.size (fun _ => True) v9 x9_1) ∧ za (Below w.heap.size w w'))
 case atStart => exact ⟨(y306), H', ⟨Nat.le_refl _⟩, ⟨Zq12 HO308⟩, ⟨Zq1 HB⟩⟩
 case round =>
  clear H'
  (try clear c1);(try clear p2);(try clear c3)
  obtain ⟨x9_1, HA, HK1, HO_9, HB⟩ := hrel
  cases gk with
  | zero => exact absurd HA.out (by simp [zbb.l0])
  | succ k1 =>
   have H := HA.out;clear HA;simp only [zbb.l0] at H;by_cases c7 : (x9_1.length : Int) < a3
   ·rw [if_pos c7] at H
    have c7b0 : decide ((x9_1.length : Int) < a3) = true := decide_eq_true c7;clear c7;have H' := za.mk H;clear H;obtain ⟨Ao8, co8, eo8⟩ := Kd.zct HO_9.out;subst eo8;go_wp2
    go_loopg [10, 11] k1 (fun kq v10 v11 w' => ∃ (x10_2 : Int) (x11_2 : Int), v10 = .int .i64 x10_2 ∧ v11 = .int .i64 x11_2 ∧ za (zbb.l1 kq l0 l1 a2 a3 x9_1 x10_2 x11_2 = some r) ∧ za (kq ≤ k1) ∧ za (Kd.R (Kd.int .i64) 3 w' w.heap.size (fun _ => True) (.slice Ao8 x9_1.length co8) x9_1) ∧ za (Below w.heap.size w w'))
    case atStart => exact ⟨((-1)), (0), Zrs, Zrs, H', ⟨Nat.le_refl _⟩, ⟨Zq12 HO_9⟩, ⟨Zq1 HB⟩⟩
    case round =>
     clear H'
     (try clear c1);(try clear p2);(try clear c3);(try clear c7);(try clear c7b0);(try clear p2)
     obtain ⟨x10_2, x11_2, rfl, rfl, HA, HK2, HO_9, HB⟩ := hrel
     cases gk with
     | zero => exact absurd HA.out (by simp [zbb.l1])
     | succ k2 =>
      have H := HA.out;clear HA;simp only [zbb.l1] at H;by_cases c9 : x11_2 < (l0.length : Int)
      ·rw [if_pos c9] at H
       have c9b0 : decide (x11_2 < (l0.length : Int)) = true := decide_eq_true c9;clear c9;by_cases c10 : 0 ≤ x11_2
       ·rw [if_pos c10] at H
        have c10b0 : decide (0 ≤ x11_2) = true := decide_eq_true c10;clear c10;by_cases c11 : x11_2 < (l1.length : Int)
        ·rw [if_pos c11] at H
         have c11b0 : decide (x11_2 < (l1.length : Int)) = true := decide_eq_true c11;clear c11;replace H := Option.bind_eq_some_iff.mp H;obtain ⟨⟨t314, t315⟩, A120, H⟩ := H;replace H : (if t314 ≤ a2 then ((zca.f k2 x9_1 x11_2).bind fun t316 => (if t316 < 0 then (if x10_2 < 0 then (zbb.l1 k2 l0 l1 a2 a3 x9_1 x11_2 (wrap64 (x11_2 + 1))) else ((zm.f k2 l0 l1 x11_2 x10_2).bind fun t317 => (if t317 = true then (zbb.l1 k2 l0 l1 a2 a3 x9_1 x11_2 (wrap64 (x11_2 + 1))) else (zbb.l1 k2 l0 l1 a2 a3 x9_1 x10_2 (wrap64 (x11_2 + 1)))))) else (zbb.l1 k2 l0 l1 a2 a3 x9_1 x10_2 (wrap64 (x11_2 + 1))))) else (zbb.l1 k2 l0 l1 a2 a3 x9_1 x10_2 (wrap64 (x11_2 + 1)))) = some r := H;have A12 := za.mk A120;clear A120;by_cases c13 : t314 ≤ a2
         ·rw [if_pos c13] at H
          have c13b0 : decide (t314 ≤ a2) = true := decide_eq_true c13;clear c13;replace H := Option.bind_eq_some_iff.mp H;obtain ⟨t316, A140, H⟩ := H;replace H : (if t316 < 0 then (if x10_2 < 0 then (zbb.l1 k2 l0 l1 a2 a3 x9_1 x11_2 (wrap64 (x11_2 + 1))) else ((zm.f k2 l0 l1 x11_2 x10_2).bind fun t317 => (if t317 = true then (zbb.l1 k2 l0 l1 a2 a3 x9_1 x11_2 (wrap64 (x11_2 + 1))) else (zbb.l1 k2 l0 l1 a2 a3 x9_1 x10_2 (wrap64 (x11_2 + 1)))))) else (zbb.l1 k2 l0 l1 a2 a3 x9_1 x10_2 (wrap64 (x11_2 + 1)))) = some r := H;have A14 := za.mk A140;clear A140;by_cases c15 : t316 < 0
          ·rw [if_pos c15] at H
           have c15b0 : decide (t316 < 0) = true := decide_eq_true c15;clear c15;by_cases c16 : x10_2 < 0
           ·rw [if_pos c16] at H
            have c16b0 : decide (x10_2 < 0) = true := decide_eq_true c16;clear c16;have H' := za.mk H;clear H
            try go_wp2
            have n0_ := za.mk (Kd.zb5 HO_9.out);have n1_ := za.mk (zbh HB.out);clear HO_9;clear HB;have HO_9 := n0_;have HB := n1_;clear n0_ n1_;have p312 : 0 ≤ (x11_2 : Int) := of_decide_eq_true Zas;have q312 : x11_2 < (l0.length : Int) := of_decide_eq_true Zas;obtain ⟨ad312, e312, hx312_0, hx312_1, hx312_2⟩ := zck HR0.out x11_2 p312 q312;have hw312_2 := hx312_2;have hw312_1 := hx312_1;have hw312_0 := hx312_0
            cases e312
            replace hx312_0 := (HB.out.cell (World.block_lt_of_cell? w _ hx312_0)).trans hx312_0;replace hx312_1 := (HB.out.cell (World.block_lt_of_cell? w _ hx312_1)).trans hx312_1;replace hx312_2 := (HB.out.cell (World.block_lt_of_cell? w _ hx312_2)).trans hx312_2;replace p312 := eq_true p312;replace q312 := eq_true q312;have p313 : 0 ≤ (x11_2 : Int) := of_decide_eq_true Zas;have q313 : x11_2 < (l1.length : Int) := of_decide_eq_true Zas;obtain ⟨ad313, e313, hx313_0⟩ := Kd.zb6 HR1.out x11_2 p313 q313;have hw313_0 := hx313_0
            cases e313
            replace hx313_0 := (HB.out.cell (World.block_lt_of_cell? w _ hx313_0)).trans hx313_0;replace p313 := eq_true p313;replace q313 := eq_true q313;refine zci (n := 29) (S := fun w' => w'.cell? (ad312.add ((x11_2).toNat * 3)) = some (.int .i64 ((zg l0 x11_2).f0)) ∧ w'.cell? ⟨(ad312.add ((x11_2).toNat * 3)).block, (ad312.add ((x11_2).toNat * 3)).off + 1, none⟩ = some (.int .i64 ((zg l0 x11_2).f1)) ∧ w'.cell? ⟨(ad312.add ((x11_2).toNat * 3)).block, (ad312.add ((x11_2).toNat * 3)).off + 2, none⟩ = some (.int .i64 ((zg l0 x11_2).f2)) ∧ w'.cell? (ad313.add (x11_2).toNat) = some (.int .i64 (rd l1 x11_2))) (ds := []) #[false, false, false, false, false, false, false, false, false, false, false, false, false, false, false, false, false, false, false, false, false, false, false, false, false, false, false, false, false] (by kernel_rfl) rfl rfl ⟨((HB.out.cell (World.block_lt_of_cell? w _ hw312_0)).trans hw312_0), ((HB.out.cell (World.block_lt_of_cell? w _ hw312_1)).trans hw312_1), ((HB.out.cell (World.block_lt_of_cell? w _ hw312_2)).trans hw312_2), ((HB.out.cell (World.block_lt_of_cell? w _ hw313_0)).trans hw313_0)⟩ (fun hHeld => ?_); refine zbp zbb.tab7 zbb.zjd (fun HT_ HW_ => ?_);generalize wr.drew = w17 at HO_9 HB hx312_0 hx312_1 hx312_2 hx313_0 hHeld ⊢;refine zl (i := 0) (N := some 23) (v := ?_) (a' := ?_) #[true, false, false, false, false, false, false, false, false, false, false, false, false, false, false, false, false, false, false, false, false, false, false, false, false, false, false, false, false] rfl rfl (zf HT_.out (by kernel_rfl)) (fun _ _ _ h => h) (Or.inl ⟨by rfl, ?_⟩) ?_ ?_;rotate_left
            ·intro w'
             go_simp;with_reducible rfl
            rotate_left
            ·simp only [Act.put, Zs1, Zs2, Zs3, zh, zi]
             rfl
            refine zl (i := 1) (N := some 24) (v := ?_) (a' := ?_) #[true, true, false, false, false, false, false, false, false, false, false, false, false, false, false, false, false, false, false, false, false, false, false, false, false, false, false, false, false] rfl rfl (zf HT_.out (by kernel_rfl)) (fun _ _ _ h => h) (Or.inl ⟨by rfl, ?_⟩) ?_ ?_;rotate_left
            ·intro w'
             go_simp;with_reducible rfl
            rotate_left
            ·simp only [Act.put, Zs1, Zs2, Zs3, zh, zi]
             rfl
            refine zl (i := 2) (N := some 25) (v := ?_) (a' := ?_) #[true, true, true, false, false, false, false, false, false, false, false, false, false, false, false, false, false, false, false, false, false, false, false, false, false, false, false, false, false] rfl rfl (zf HT_.out (by kernel_rfl)) (fun _ _ _ h => h) (Or.inl ⟨by rfl, ?_⟩) ?_ ?_;rotate_left
            ·intro w'
             go_simp;with_reducible rfl
            rotate_left
            ·simp only [Act.put, Zs1, Zs2, Zs3, zh, zi]
             rfl
            refine zl (i := 4) (N := some 27) (v := ?_) (a' := ?_) #[true, true, true, false, true, false, false, false, false, false, false, false, false, false, false, false, false, false, false, false, false, false, false, false, false, false, false, false, false] rfl rfl (zf HT_.out (by kernel_rfl)) (fun _ _ _ h => h) (Or.inl ⟨by rfl, ?_⟩) ?_ ?_;rotate_left
            ·intro w'
             go_simp;with_reducible rfl
            rotate_left
            ·simp only [Act.put, Zs1, Zs2, Zs3, zh, zi]
             rfl
            refine zl (i := 5) (N := some 28) (v := ?_) (a' := ?_) #[true, true, true, false, true, true, false, false, false, false, false, false, false, false, false, false, false, false, false, false, false, false, false, false, false, false, false, false, false] rfl rfl (zf HT_.out (by kernel_rfl)) (fun _ _ _ h => h) (Or.inl ⟨by rfl, ?_⟩) ?_ ?_;rotate_left
            ·intro w'
             go_simp;with_reducible rfl
            rotate_left
            ·simp only [Act.put, Zs1, Zs2, Zs3, zh, zi]
             rfl
            refine zl (i := 6) (N := some 29) (v := ?_) (a' := ?_) #[true, true, true, false, true, true, true, false, false, false, false, false, false, false, false, false, false, false, false, false, false, false, false, false, false, false, false, false, false] rfl rfl (zf HT_.out (by kernel_rfl)) (fun _ _ _ h => h) (Or.inl ⟨by rfl, ?_⟩) ?_ ?_;rotate_left
            ·intro w'
             go_simp;with_reducible rfl
            rotate_left
            ·simp only [Act.put, Zs1, Zs2, Zs3, zh, zi]
             rfl
            refine zl (i := 10) (N := some 33) (v := ?_) (a' := ?_) #[true, true, true, false, true, true, true, false, false, false, true, false, false, false, false, false, false, false, false, false, false, false, false, false, false, false, false, false, false] rfl rfl (zf HT_.out (by kernel_rfl)) (fun _ _ _ h => h) (Or.inl ⟨by rfl, ?_⟩) ?_ ?_;rotate_left
            ·intro w'
             go_simp;with_reducible rfl
            rotate_left
            ·simp only [Act.put, Zs1, Zs2, Zs3, zh, zi]
             rfl
            refine zbw (i := 3) (N := some 26) (v := ?_) (a' := ?_) #[true, true, true, true, true, true, true, false, false, false, true, false, false, false, false, false, false, false, false, false, false, false, false, false, false, false, false, false, false] rfl rfl (z8 HT_.out HW_.out (by kernel_rfl)) (fun _ _ _ h => h) (Or.inl ⟨by rfl, ?_⟩) hHeld ?_ ?_;rotate_left
            ·rintro w' ⟨s0, s1, s2, s3⟩
             go_simp;with_reducible rfl
            rotate_left
            ·simp only [Act.put, Zs1, Zs2, Zs3, zh, zi]
             rfl
            refine zbw (i := 7) (N := some 30) (v := ?_) (a' := ?_) #[true, true, true, true, true, true, true, true, false, false, true, false, false, false, false, false, false, false, false, false, false, false, false, false, false, false, false, false, false] rfl rfl (z8 HT_.out HW_.out (by kernel_rfl)) (fun _ _ _ h => h) (Or.inl ⟨by rfl, ?_⟩) hHeld ?_ ?_;rotate_left
            ·rintro w' ⟨s0, s1, s2, s3⟩
             go_simp;with_reducible rfl
            rotate_left
            ·simp only [Act.put, Zs1, Zs2, Zs3, zh, zi]
             rfl
            refine one_ (i := 8) (N := some 31) #[true, true, true, true, true, true, true, true, true, false, true, false, false, false, false, false, false, false, false, false, false, false, false, false, false, false, false, false, false] rfl rfl (zbz HT_.out (by kernel_rfl)) (by decide) (fun K hK => ?_);refine zcp Try.func64 (by kernel_rfl) rfl #[.agg #[.int .i64 ((zg l0 x11_2).f0), .int .i64 ((zg l0 x11_2).f1), .int .i64 ((zg l0 x11_2).f2)], .int .i64 (rd l1 x11_2)] (by rfl) rfl rfl Zmt ?_;with_reducible refine (zbf.calls ((zg l0 x11_2).f0) ((zg l0 x11_2).f1) ((zg l0 x11_2).f2) (rd l1 x11_2) t314 t315 _ A12.out).mono ?_
            rintro e w18 ⟨rfl, hb⟩;refine ⟨_, rfl, ?_⟩;have n0_ := za.mk (Kd.zcy (Zq12 HO_9) hb);have n1_ := za.mk (zn (Zq1 HB) hb);clear HO_9;clear HB;have HO_9 := n0_;have HB := n1_;clear n0_ n1_;(try clear hb);(try clear hb2);(try clear hk);(try clear hi);refine hK.out _ _ ⟨((HB.out.cell (World.block_lt_of_cell? w _ hw312_0)).trans hw312_0), ((HB.out.cell (World.block_lt_of_cell? w _ hw312_1)).trans hw312_1), ((HB.out.cell (World.block_lt_of_cell? w _ hw312_2)).trans hw312_2), ((HB.out.cell (World.block_lt_of_cell? w _ hw313_0)).trans hw313_0)⟩ (fun hHeld => ?_);clear hK K;refine zcc (a' := ?_) ?_ ?_;rotate_left
            ·show Act.put _ (some 31) _ = _
             simp only [Act.put, Zs1, Zs2, Zs3, zh, zi];rfl
            refine zl (i := 9) (N := some 32) (v := ?_) (a' := ?_) #[true, true, true, true, true, true, true, true, true, true, true, false, false, false, false, false, false, false, false, false, false, false, false, false, false, false, false, false, false] rfl rfl (zf HT_.out (by kernel_rfl)) (fun _ _ _ h => h) (Or.inl ⟨by rfl, ?_⟩) ?_ ?_;rotate_left
            ·intro w'
             go_simp;with_reducible rfl
            rotate_left
            ·simp only [Act.put, Zs1, Zs2, Zs3, zh, zi]
             rfl
            refine zl (i := 11) (N := some 34) (v := ?_) (a' := ?_) #[true, true, true, true, true, true, true, true, true, true, true, true, false, false, false, false, false, false, false, false, false, false, false, false, false, false, false, false, false] rfl rfl (zf HT_.out (by kernel_rfl)) (fun _ _ _ h => h) (Or.inl ⟨by rfl, ?_⟩) ?_ ?_;rotate_left
            ·intro w'
             go_simp;with_reducible rfl
            rotate_left
            ·simp only [Act.put, Zs1, Zs2, Zs3, zh, zi]
             rfl
            refine zl (i := 12) (N := some 35) (v := ?_) (a' := ?_) #[true, true, true, true, true, true, true, true, true, true, true, true, true, false, false, false, false, false, false, false, false, false, false, false, false, false, false, false, false] rfl rfl (zf HT_.out (by kernel_rfl)) (fun _ _ _ h => h) (Or.inl ⟨by rfl, ?_⟩) ?_ ?_;rotate_left
            ·intro w'
             go_simp;with_reducible rfl
            rotate_left
            ·simp only [Act.put, Zs1, Zs2, Zs3, zh, zi]
             rfl
            refine zl (i := 13) (N := some 36) (v := ?_) (a' := ?_) #[true, true, true, true, true, true, true, true, true, true, true, true, true, true, false, false, false, false, false, false, false, false, false, false, false, false, false, false, false] rfl rfl (zf HT_.out (by kernel_rfl)) (fun _ _ _ h => h) (Or.inl ⟨by rfl, ?_⟩) ?_ ?_;rotate_left
            ·intro w'
             go_simp;with_reducible rfl
            rotate_left
            ·simp only [Act.put, Zs1, Zs2, Zs3, zh, zi]
             rfl
            refine zl (i := 14) (N := some 37) (v := ?_) (a' := ?_) #[true, true, true, true, true, true, true, true, true, true, true, true, true, true, true, false, false, false, false, false, false, false, false, false, false, false, false, false, false] rfl rfl (zf HT_.out (by kernel_rfl)) (fun _ _ _ h => h) (Or.inl ⟨by rfl, ?_⟩) ?_ ?_;rotate_left
            ·intro w'
             go_simp;with_reducible rfl
            rotate_left
            ·simp only [Act.put, Zs1, Zs2, Zs3, zh, zi]
             rfl
            refine one_ (i := 15) (N := some 38) #[true, true, true, true, true, true, true, true, true, true, true, true, true, true, true, true, false, false, false, false, false, false, false, false, false, false, false, false, false] rfl rfl (zbz HT_.out (by kernel_rfl)) (by decide) (fun K hK => ?_);refine zcp Try.func65 (by kernel_rfl) rfl #[.slice Ao8 x9_1.length co8, .int .i64 x11_2] (by rfl) rfl rfl Zmt ?_;with_reducible refine (zca.calls k2 _ _ x9_1 x11_2 t316 _ ?side1 ?side2 A14.out).mono ?_
            (case side1 => exact Zq18 ((Kd.zbo HO_9.out).2.2));(case side2 => exact (Kd.zbo HO_9.out).2.1);rintro e w' ⟨rfl, ⟨nd, rfl⟩⟩;refine ⟨_, rfl, ?_⟩;refine hK.out _ _ ⟨((HB.out.cell (World.block_lt_of_cell? w _ hw312_0)).trans hw312_0), ((HB.out.cell (World.block_lt_of_cell? w _ hw312_1)).trans hw312_1), ((HB.out.cell (World.block_lt_of_cell? w _ hw312_2)).trans hw312_2), ((HB.out.cell (World.block_lt_of_cell? w _ hw313_0)).trans hw313_0)⟩ (fun hHeld => ?_);clear hK K;refine zcc (a' := ?_) ?_ ?_;rotate_left
            ·show Act.put _ (some 38) _ = _
             simp only [Act.put, Zs1, Zs2, Zs3, zh, zi];rfl
            refine zl (i := 16) (N := some 39) (v := ?_) (a' := ?_) #[true, true, true, true, true, true, true, true, true, true, true, true, true, true, true, true, true, false, false, false, false, false, false, false, false, false, false, false, false] rfl rfl (zf HT_.out (by kernel_rfl)) (fun _ _ _ h => h) (Or.inl ⟨by rfl, ?_⟩) ?_ ?_;rotate_left
            ·intro w'
             go_simp;with_reducible rfl
            rotate_left
            ·simp only [Act.put, Zs1, Zs2, Zs3, zh, zi]
             rfl
            refine zl (i := 17) (N := some 40) (v := ?_) (a' := ?_) #[true, true, true, true, true, true, true, true, true, true, true, true, true, true, true, true, true, true, false, false, false, false, false, false, false, false, false, false, false] rfl rfl (zf HT_.out (by kernel_rfl)) (fun _ _ _ h => h) (Or.inl ⟨by rfl, ?_⟩) ?_ ?_;rotate_left
            ·intro w'
             go_simp;with_reducible rfl
            rotate_left
            ·simp only [Act.put, Zs1, Zs2, Zs3, zh, zi]
             rfl
            refine zl (i := 18) (N := some 41) (v := ?_) (a' := ?_) #[true, true, true, true, true, true, true, true, true, true, true, true, true, true, true, true, true, true, true, false, false, false, false, false, false, false, false, false, false] rfl rfl (zf HT_.out (by kernel_rfl)) (fun _ _ _ h => h) (Or.inl ⟨by rfl, ?_⟩) ?_ ?_;rotate_left
            ·intro w'
             go_simp;with_reducible rfl
            rotate_left
            ·simp only [Act.put, Zs1, Zs2, Zs3, zh, zi]
             rfl
            refine zl (i := 19) (N := some 42) (v := ?_) (a' := ?_) #[true, true, true, true, true, true, true, true, true, true, true, true, true, true, true, true, true, true, true, true, false, false, false, false, false, false, false, false, false] rfl rfl (zf HT_.out (by kernel_rfl)) (fun _ _ _ h => h) (Or.inl ⟨by rfl, ?_⟩) ?_ ?_;rotate_left
            ·intro w'
             go_simp;with_reducible rfl
            rotate_left
            ·simp only [Act.put, Zs1, Zs2, Zs3, zh, zi]
             rfl
            refine zl (i := 20) (N := some 43) (v := ?_) (a' := ?_) #[true, true, true, true, true, true, true, true, true, true, true, true, true, true, true, true, true, true, true, true, true, false, false, false, false, false, false, false, false] rfl rfl (zf HT_.out (by kernel_rfl)) (fun _ _ _ h => h) (Or.inl ⟨by rfl, ?_⟩) ?_ ?_;rotate_left
            ·intro w'
             go_simp;with_reducible rfl
            rotate_left
            ·simp only [Act.put, Zs1, Zs2, Zs3, zh, zi]
             rfl
            refine zl (i := 21) (N := some 44) (v := ?_) (a' := ?_) #[true, true, true, true, true, true, true, true, true, true, true, true, true, true, true, true, true, true, true, true, true, true, false, false, false, false, false, false, false] rfl rfl (zf HT_.out (by kernel_rfl)) (fun _ _ _ h => h) (Or.inl ⟨by rfl, ?_⟩) ?_ ?_;rotate_left
            ·intro w'
             go_simp;with_reducible rfl
            rotate_left
            ·simp only [Act.put, Zs1, Zs2, Zs3, zh, zi]
             rfl
            refine zl (i := 22) (N := some 45) (v := undef) (a' := ?_) #[true, true, true, true, true, true, true, true, true, true, true, true, true, true, true, true, true, true, true, true, true, true, true, false, false, false, false, false, false] rfl rfl (zf HT_.out (by kernel_rfl)) (fun _ _ _ h => h) (Or.inr ⟨by rfl, rfl⟩) ?_ ?_;rotate_left
            ·simp only [Act.put, Zs1, Zs2, Zs3, zh, zi]
             rfl
            refine zl (i := 23) (N := some 46) (v := undef) (a' := ?_) #[true, true, true, true, true, true, true, true, true, true, true, true, true, true, true, true, true, true, true, true, true, true, true, true, false, false, false, false, false] rfl rfl (zf HT_.out (by kernel_rfl)) (fun _ _ _ h => h) (Or.inr ⟨by rfl, rfl⟩) ?_ ?_;rotate_left
            ·simp only [Act.put, Zs1, Zs2, Zs3, zh, zi]
             rfl
            refine zl (i := 24) (N := some 47) (v := undef) (a' := ?_) #[true, true, true, true, true, true, true, true, true, true, true, true, true, true, true, true, true, true, true, true, true, true, true, true, true, false, false, false, false] rfl rfl (zf HT_.out (by kernel_rfl)) (fun _ _ _ h => h) (Or.inr ⟨by rfl, rfl⟩) ?_ ?_;rotate_left
            ·simp only [Act.put, Zs1, Zs2, Zs3, zh, zi]
             rfl
            refine zl (i := 25) (N := some 48) (v := undef) (a' := ?_) #[true, true, true, true, true, true, true, true, true, true, true, true, true, true, true, true, true, true, true, true, true, true, true, true, true, true, false, false, false] rfl rfl (zf HT_.out (by kernel_rfl)) (fun _ _ _ h => h) (Or.inr ⟨by rfl, rfl⟩) ?_ ?_;rotate_left
            ·simp only [Act.put, Zs1, Zs2, Zs3, zh, zi]
             rfl
            refine zl (i := 26) (N := some 49) (v := undef) (a' := ?_) #[true, true, true, true, true, true, true, true, true, true, true, true, true, true, true, true, true, true, true, true, true, true, true, true, true, true, true, false, false] rfl rfl (zf HT_.out (by kernel_rfl)) (fun _ _ _ h => h) (Or.inr ⟨by rfl, rfl⟩) ?_ ?_;rotate_left
            ·simp only [Act.put, Zs1, Zs2, Zs3, zh, zi]
             rfl
            refine zl (i := 27) (N := some 50) (v := ?_) (a' := ?_) #[true, true, true, true, true, true, true, true, true, true, true, true, true, true, true, true, true, true, true, true, true, true, true, true, true, true, true, true, false] rfl rfl (zf HT_.out (by kernel_rfl)) (fun _ _ _ h => h) (Or.inl ⟨by rfl, ?_⟩) ?_ ?_;rotate_left
            ·intro w'
             go_simp;with_reducible rfl
            rotate_left
            ·simp only [Act.put, Zs1, Zs2, Zs3, zh, zi]
             rfl
            refine zl (i := 28) (N := some 51) (v := ?_) (a' := ?_) #[true, true, true, true, true, true, true, true, true, true, true, true, true, true, true, true, true, true, true, true, true, true, true, true, true, true, true, true, true] rfl rfl (zf HT_.out (by kernel_rfl)) (fun _ _ _ h => h) (Or.inl ⟨by rfl, ?_⟩) ?_ ?_;rotate_left
            ·intro w'
             go_simp;with_reducible rfl
            rotate_left
            ·simp only [Act.put, Zs1, Zs2, Zs3, zh, zi]
             rfl
            refine zcz (zb4 HT_.out (by kernel_rfl)) ?_
            try go_wp2
            go_roundg k2
            case measure => have := HK1.out; have := HK2.out; omega
            case rel => exact ⟨(x11_2), (wrap64 (x11_2 + 1)), Zrs, Zrs, H', ⟨by have := HK1.out; have := HK2.out; omega⟩, ⟨Zq12 HO_9⟩, ⟨Zq1 HB⟩⟩
           ·rw [if_neg c16] at H
            have c16b0 : decide (x10_2 < 0) = false := decide_eq_false c16;clear c16;replace H := Option.bind_eq_some_iff.mp H;obtain ⟨t317, A190, H⟩ := H;replace H : (if t317 = true then (zbb.l1 k2 l0 l1 a2 a3 x9_1 x11_2 (wrap64 (x11_2 + 1))) else (zbb.l1 k2 l0 l1 a2 a3 x9_1 x10_2 (wrap64 (x11_2 + 1)))) = some r := H;have A19 := za.mk A190;clear A190;by_cases c20 : t317 = true
            ·subst c20
             have H1 : (zbb.l1 k2 l0 l1 a2 a3 x9_1 x11_2 (wrap64 (x11_2 + 1))) = some r := by rw [if_pos rfl] at H; exact H
             clear H;have H := H1;clear H1;have H' := za.mk H;clear H
             try go_wp2
             have n0_ := za.mk (Kd.zb5 HO_9.out);have n1_ := za.mk (zbh HB.out);clear HO_9;clear HB;have HO_9 := n0_;have HB := n1_;clear n0_ n1_;have p312 : 0 ≤ (x11_2 : Int) := of_decide_eq_true Zas;have q312 : x11_2 < (l0.length : Int) := of_decide_eq_true Zas;obtain ⟨ad312, e312, hx312_0, hx312_1, hx312_2⟩ := zck HR0.out x11_2 p312 q312;have hw312_2 := hx312_2;have hw312_1 := hx312_1;have hw312_0 := hx312_0
             cases e312
             replace hx312_0 := (HB.out.cell (World.block_lt_of_cell? w _ hx312_0)).trans hx312_0;replace hx312_1 := (HB.out.cell (World.block_lt_of_cell? w _ hx312_1)).trans hx312_1;replace hx312_2 := (HB.out.cell (World.block_lt_of_cell? w _ hx312_2)).trans hx312_2;replace p312 := eq_true p312;replace q312 := eq_true q312;have p313 : 0 ≤ (x11_2 : Int) := of_decide_eq_true Zas;have q313 : x11_2 < (l1.length : Int) := of_decide_eq_true Zas;obtain ⟨ad313, e313, hx313_0⟩ := Kd.zb6 HR1.out x11_2 p313 q313;have hw313_0 := hx313_0
             cases e313
             replace hx313_0 := (HB.out.cell (World.block_lt_of_cell? w _ hx313_0)).trans hx313_0;replace p313 := eq_true p313;replace q313 := eq_true q313;refine zci (n := 29) (S := fun w' => w'.cell? (ad312.add ((x11_2).toNat * 3)) = some (.int .i64 ((zg l0 x11_2).f0)) ∧ w'.cell? ⟨(ad312.add ((x11_2).toNat * 3)).block, (ad312.add ((x11_2).toNat * 3)).off + 1, none⟩ = some (.int .i64 ((zg l0 x11_2).f1)) ∧ w'.cell? ⟨(ad312.add ((x11_2).toNat * 3)).block, (ad312.add ((x11_2).toNat * 3)).off + 2, none⟩ = some (.int .i64 ((zg l0 x11_2).f2)) ∧ w'.cell? (ad313.add (x11_2).toNat) = some (.int .i64 (rd l1 x11_2))) (ds := []) #[false, false, false, false, false, false, false, false, false, false, false, false, false, false, false, false, false, false, false, false, false, false, false, false, false, false, false, false, false] (by kernel_rfl) rfl rfl ⟨((HB.out.cell (World.block_lt_of_cell? w _ hw312_0)).trans hw312_0), ((HB.out.cell (World.block_lt_of_cell? w _ hw312_1)).trans hw312_1), ((HB.out.cell (World.block_lt_of_cell? w _ hw312_2)).trans hw312_2), ((HB.out.cell (World.block_lt_of_cell? w _ hw313_0)).trans hw313_0)⟩ (fun hHeld => ?_); refine zbp zbb.tab7 zbb.zjd (fun HT_ HW_ => ?_);generalize wr.drew = w21 at HO_9 HB hx312_0 hx312_1 hx312_2 hx313_0 hHeld ⊢;refine zl (i := 0) (N := some 23) (v := ?_) (a' := ?_) #[true, false, false, false, false, false, false, false, false, false, false, false, false, false, false, false, false, false, false, false, false, false, false, false, false, false, false, false, false] rfl rfl (zf HT_.out (by kernel_rfl)) (fun _ _ _ h => h) (Or.inl ⟨by rfl, ?_⟩) ?_ ?_;rotate_left
             ·intro w'
              go_simp;with_reducible rfl
             rotate_left
             ·simp only [Act.put, Zs1, Zs2, Zs3, zh, zi]
              rfl
             refine zl (i := 1) (N := some 24) (v := ?_) (a' := ?_) #[true, true, false, false, false, false, false, false, false, false, false, false, false, false, false, false, false, false, false, false, false, false, false, false, false, false, false, false, false] rfl rfl (zf HT_.out (by kernel_rfl)) (fun _ _ _ h => h) (Or.inl ⟨by rfl, ?_⟩) ?_ ?_;rotate_left
             ·intro w'
              go_simp;with_reducible rfl
             rotate_left
             ·simp only [Act.put, Zs1, Zs2, Zs3, zh, zi]
              rfl
             refine zl (i := 2) (N := some 25) (v := ?_) (a' := ?_) #[true, true, true, false, false, false, false, false, false, false, false, false, false, false, false, false, false, false, false, false, false, false, false, false, false, false, false, false, false] rfl rfl (zf HT_.out (by kernel_rfl)) (fun _ _ _ h => h) (Or.inl ⟨by rfl, ?_⟩) ?_ ?_;rotate_left
             ·intro w'
              go_simp;with_reducible rfl
             rotate_left
             ·simp only [Act.put, Zs1, Zs2, Zs3, zh, zi]
              rfl
             refine zl (i := 4) (N := some 27) (v := ?_) (a' := ?_) #[true, true, true, false, true, false, false, false, false, false, false, false, false, false, false, false, false, false, false, false, false, false, false, false, false, false, false, false, false] rfl rfl (zf HT_.out (by kernel_rfl)) (fun _ _ _ h => h) (Or.inl ⟨by rfl, ?_⟩) ?_ ?_;rotate_left
             ·intro w'
              go_simp;with_reducible rfl
             rotate_left
             ·simp only [Act.put, Zs1, Zs2, Zs3, zh, zi]
              rfl
             refine zl (i := 5) (N := some 28) (v := ?_) (a' := ?_) #[true, true, true, false, true, true, false, false, false, false, false, false, false, false, false, false, false, false, false, false, false, false, false, false, false, false, false, false, false] rfl rfl (zf HT_.out (by kernel_rfl)) (fun _ _ _ h => h) (Or.inl ⟨by rfl, ?_⟩) ?_ ?_;rotate_left
             ·intro w'
              go_simp;with_reducible rfl
             rotate_left
             ·simp only [Act.put, Zs1, Zs2, Zs3, zh, zi]
              rfl
             refine zl (i := 6) (N := some 29) (v := ?_) (a' := ?_) #[true, true, true, false, true, true, true, false, false, false, false, false, false, false, false, false, false, false, false, false, false, false, false, false, false, false, false, false, false] rfl rfl (zf HT_.out (by kernel_rfl)) (fun _ _ _ h => h) (Or.inl ⟨by rfl, ?_⟩) ?_ ?_;rotate_left
             ·intro w'
              go_simp;with_reducible rfl
             rotate_left
             ·simp only [Act.put, Zs1, Zs2, Zs3, zh, zi]
              rfl
             refine zl (i := 10) (N := some 33) (v := ?_) (a' := ?_) #[true, true, true, false, true, true, true, false, false, false, true, false, false, false, false, false, false, false, false, false, false, false, false, false, false, false, false, false, false] rfl rfl (zf HT_.out (by kernel_rfl)) (fun _ _ _ h => h) (Or.inl ⟨by rfl, ?_⟩) ?_ ?_;rotate_left
             ·intro w'
              go_simp;with_reducible rfl
             rotate_left
             ·simp only [Act.put, Zs1, Zs2, Zs3, zh, zi]
              rfl
             refine zbw (i := 3) (N := some 26) (v := ?_) (a' := ?_) #[true, true, true, true, true, true, true, false, false, false, true, false, false, false, false, false, false, false, false, false, false, false, false, false, false, false, false, false, false] rfl rfl (z8 HT_.out HW_.out (by kernel_rfl)) (fun _ _ _ h => h) (Or.inl ⟨by rfl, ?_⟩) hHeld ?_ ?_;rotate_left
             ·rintro w' ⟨s0, s1, s2, s3⟩
              go_simp;with_reducible rfl
             rotate_left
             ·simp only [Act.put, Zs1, Zs2, Zs3, zh, zi]
              rfl
             refine zbw (i := 7) (N := some 30) (v := ?_) (a' := ?_) #[true, true, true, true, true, true, true, true, false, false, true, false, false, false, false, false, false, false, false, false, false, false, false, false, false, false, false, false, false] rfl rfl (z8 HT_.out HW_.out (by kernel_rfl)) (fun _ _ _ h => h) (Or.inl ⟨by rfl, ?_⟩) hHeld ?_ ?_;rotate_left
             ·rintro w' ⟨s0, s1, s2, s3⟩
              go_simp;with_reducible rfl
             rotate_left
             ·simp only [Act.put, Zs1, Zs2, Zs3, zh, zi]
              rfl
             refine one_ (i := 8) (N := some 31) #[true, true, true, true, true, true, true, true, true, false, true, false, false, false, false, false, false, false, false, false, false, false, false, false, false, false, false, false, false] rfl rfl (zbz HT_.out (by kernel_rfl)) (by decide) (fun K hK => ?_);refine zcp Try.func64 (by kernel_rfl) rfl #[.agg #[.int .i64 ((zg l0 x11_2).f0), .int .i64 ((zg l0 x11_2).f1), .int .i64 ((zg l0 x11_2).f2)], .int .i64 (rd l1 x11_2)] (by rfl) rfl rfl Zmt ?_;with_reducible refine (zbf.calls ((zg l0 x11_2).f0) ((zg l0 x11_2).f1) ((zg l0 x11_2).f2) (rd l1 x11_2) t314 t315 _ A12.out).mono ?_
             rintro e w22 ⟨rfl, hb⟩;refine ⟨_, rfl, ?_⟩;have n0_ := za.mk (Kd.zcy (Zq12 HO_9) hb);have n1_ := za.mk (zn (Zq1 HB) hb);clear HO_9;clear HB;have HO_9 := n0_;have HB := n1_;clear n0_ n1_;(try clear hb);(try clear hb2);(try clear hk);(try clear hi);refine hK.out _ _ ⟨((HB.out.cell (World.block_lt_of_cell? w _ hw312_0)).trans hw312_0), ((HB.out.cell (World.block_lt_of_cell? w _ hw312_1)).trans hw312_1), ((HB.out.cell (World.block_lt_of_cell? w _ hw312_2)).trans hw312_2), ((HB.out.cell (World.block_lt_of_cell? w _ hw313_0)).trans hw313_0)⟩ (fun hHeld => ?_);clear hK K;refine zcc (a' := ?_) ?_ ?_;rotate_left
             ·show Act.put _ (some 31) _ = _
              simp only [Act.put, Zs1, Zs2, Zs3, zh, zi];rfl
             refine zl (i := 9) (N := some 32) (v := ?_) (a' := ?_) #[true, true, true, true, true, true, true, true, true, true, true, false, false, false, false, false, false, false, false, false, false, false, false, false, false, false, false, false, false] rfl rfl (zf HT_.out (by kernel_rfl)) (fun _ _ _ h => h) (Or.inl ⟨by rfl, ?_⟩) ?_ ?_;rotate_left
             ·intro w'
              go_simp;with_reducible rfl
             rotate_left
             ·simp only [Act.put, Zs1, Zs2, Zs3, zh, zi]
              rfl
             refine zl (i := 11) (N := some 34) (v := ?_) (a' := ?_) #[true, true, true, true, true, true, true, true, true, true, true, true, false, false, false, false, false, false, false, false, false, false, false, false, false, false, false, false, false] rfl rfl (zf HT_.out (by kernel_rfl)) (fun _ _ _ h => h) (Or.inl ⟨by rfl, ?_⟩) ?_ ?_;rotate_left
             ·intro w'
              go_simp;with_reducible rfl
             rotate_left
             ·simp only [Act.put, Zs1, Zs2, Zs3, zh, zi]
              rfl
             refine zl (i := 12) (N := some 35) (v := ?_) (a' := ?_) #[true, true, true, true, true, true, true, true, true, true, true, true, true, false, false, false, false, false, false, false, false, false, false, false, false, false, false, false, false] rfl rfl (zf HT_.out (by kernel_rfl)) (fun _ _ _ h => h) (Or.inl ⟨by rfl, ?_⟩) ?_ ?_;rotate_left
             ·intro w'
              go_simp;with_reducible rfl
             rotate_left
             ·simp only [Act.put, Zs1, Zs2, Zs3, zh, zi]
              rfl
             refine zl (i := 13) (N := some 36) (v := ?_) (a' := ?_) #[true, true, true, true, true, true, true, true, true, true, true, true, true, true, false, false, false, false, false, false, false, false, false, false, false, false, false, false, false] rfl rfl (zf HT_.out (by kernel_rfl)) (fun _ _ _ h => h) (Or.inl ⟨by rfl, ?_⟩) ?_ ?_;rotate_left
             ·intro w'
              go_simp;with_reducible rfl
             rotate_left
             ·simp only [Act.put, Zs1, Zs2, Zs3, zh, zi]
              rfl
             refine zl (i := 14) (N := some 37) (v := ?_) (a' := ?_) #[true, true, true, true, true, true, true, true, true, true, true, true, true, true, true, false, false, false, false, false, false, false, false, false, false, false, false, false, false] rfl rfl (zf HT_.out (by kernel_rfl)) (fun _ _ _ h => h) (Or.inl ⟨by rfl, ?_⟩) ?_ ?_;rotate_left
             ·intro w'
              go_simp;with_reducible rfl
             rotate_left
             ·simp only [Act.put, Zs1, Zs2, Zs3, zh, zi]
              rfl
             refine one_ (i := 15) (N := some 38) #[true, true, true, true, true, true, true, true, true, true, true, true, true, true, true, true, false, false, false, false, false, false, false, false, false, false, false, false, false] rfl rfl (zbz HT_.out (by kernel_rfl)) (by decide) (fun K hK => ?_);refine zcp Try.func65 (by kernel_rfl) rfl #[.slice Ao8 x9_1.length co8, .int .i64 x11_2] (by rfl) rfl rfl Zmt ?_;with_reducible refine (zca.calls k2 _ _ x9_1 x11_2 t316 _ ?side1 ?side2 A14.out).mono ?_
             (case side1 => exact Zq18 ((Kd.zbo HO_9.out).2.2));(case side2 => exact (Kd.zbo HO_9.out).2.1);rintro e w' ⟨rfl, ⟨nd, rfl⟩⟩;refine ⟨_, rfl, ?_⟩;refine hK.out _ _ ⟨((HB.out.cell (World.block_lt_of_cell? w _ hw312_0)).trans hw312_0), ((HB.out.cell (World.block_lt_of_cell? w _ hw312_1)).trans hw312_1), ((HB.out.cell (World.block_lt_of_cell? w _ hw312_2)).trans hw312_2), ((HB.out.cell (World.block_lt_of_cell? w _ hw313_0)).trans hw313_0)⟩ (fun hHeld => ?_);clear hK K;refine zcc (a' := ?_) ?_ ?_;rotate_left
             ·show Act.put _ (some 38) _ = _
              simp only [Act.put, Zs1, Zs2, Zs3, zh, zi];rfl
             refine zl (i := 16) (N := some 39) (v := ?_) (a' := ?_) #[true, true, true, true, true, true, true, true, true, true, true, true, true, true, true, true, true, false, false, false, false, false, false, false, false, false, false, false, false] rfl rfl (zf HT_.out (by kernel_rfl)) (fun _ _ _ h => h) (Or.inl ⟨by rfl, ?_⟩) ?_ ?_;rotate_left
             ·intro w'
              go_simp;with_reducible rfl
             rotate_left
             ·simp only [Act.put, Zs1, Zs2, Zs3, zh, zi]
              rfl
             refine zl (i := 17) (N := some 40) (v := ?_) (a' := ?_) #[true, true, true, true, true, true, true, true, true, true, true, true, true, true, true, true, true, true, false, false, false, false, false, false, false, false, false, false, false] rfl rfl (zf HT_.out (by kernel_rfl)) (fun _ _ _ h => h) (Or.inl ⟨by rfl, ?_⟩) ?_ ?_;rotate_left
             ·intro w'
              go_simp;with_reducible rfl
             rotate_left
             ·simp only [Act.put, Zs1, Zs2, Zs3, zh, zi]
              rfl
             refine zl (i := 18) (N := some 41) (v := ?_) (a' := ?_) #[true, true, true, true, true, true, true, true, true, true, true, true, true, true, true, true, true, true, true, false, false, false, false, false, false, false, false, false, false] rfl rfl (zf HT_.out (by kernel_rfl)) (fun _ _ _ h => h) (Or.inl ⟨by rfl, ?_⟩) ?_ ?_;rotate_left
             ·intro w'
              go_simp;with_reducible rfl
             rotate_left
             ·simp only [Act.put, Zs1, Zs2, Zs3, zh, zi]
              rfl
             refine zl (i := 19) (N := some 42) (v := ?_) (a' := ?_) #[true, true, true, true, true, true, true, true, true, true, true, true, true, true, true, true, true, true, true, true, false, false, false, false, false, false, false, false, false] rfl rfl (zf HT_.out (by kernel_rfl)) (fun _ _ _ h => h) (Or.inl ⟨by rfl, ?_⟩) ?_ ?_;rotate_left
             ·intro w'
              go_simp;with_reducible rfl
             rotate_left
             ·simp only [Act.put, Zs1, Zs2, Zs3, zh, zi]
              rfl
             refine zl (i := 20) (N := some 43) (v := ?_) (a' := ?_) #[true, true, true, true, true, true, true, true, true, true, true, true, true, true, true, true, true, true, true, true, true, false, false, false, false, false, false, false, false] rfl rfl (zf HT_.out (by kernel_rfl)) (fun _ _ _ h => h) (Or.inl ⟨by rfl, ?_⟩) ?_ ?_;rotate_left
             ·intro w'
              go_simp;with_reducible rfl
             rotate_left
             ·simp only [Act.put, Zs1, Zs2, Zs3, zh, zi]
              rfl
             refine zl (i := 21) (N := some 44) (v := ?_) (a' := ?_) #[true, true, true, true, true, true, true, true, true, true, true, true, true, true, true, true, true, true, true, true, true, true, false, false, false, false, false, false, false] rfl rfl (zf HT_.out (by kernel_rfl)) (fun _ _ _ h => h) (Or.inl ⟨by rfl, ?_⟩) ?_ ?_;rotate_left
             ·intro w'
              go_simp;with_reducible rfl
             rotate_left
             ·simp only [Act.put, Zs1, Zs2, Zs3, zh, zi]
              rfl
             refine zl (i := 22) (N := some 45) (v := ?_) (a' := ?_) #[true, true, true, true, true, true, true, true, true, true, true, true, true, true, true, true, true, true, true, true, true, true, true, false, false, false, false, false, false] rfl rfl (zf HT_.out (by kernel_rfl)) (fun _ _ _ h => h) (Or.inl ⟨by rfl, ?_⟩) ?_ ?_;rotate_left
             ·intro w'
              go_simp;with_reducible rfl
             rotate_left
             ·simp only [Act.put, Zs1, Zs2, Zs3, zh, zi]
              rfl
             refine zl (i := 23) (N := some 46) (v := ?_) (a' := ?_) #[true, true, true, true, true, true, true, true, true, true, true, true, true, true, true, true, true, true, true, true, true, true, true, true, false, false, false, false, false] rfl rfl (zf HT_.out (by kernel_rfl)) (fun _ _ _ h => h) (Or.inl ⟨by rfl, ?_⟩) ?_ ?_;rotate_left
             ·intro w'
              go_simp;with_reducible rfl
             rotate_left
             ·simp only [Act.put, Zs1, Zs2, Zs3, zh, zi]
              rfl
             refine zl (i := 24) (N := some 47) (v := ?_) (a' := ?_) #[true, true, true, true, true, true, true, true, true, true, true, true, true, true, true, true, true, true, true, true, true, true, true, true, true, false, false, false, false] rfl rfl (zf HT_.out (by kernel_rfl)) (fun _ _ _ h => h) (Or.inl ⟨by rfl, ?_⟩) ?_ ?_;rotate_left
             ·intro w'
              go_simp;with_reducible rfl
             rotate_left
             ·simp only [Act.put, Zs1, Zs2, Zs3, zh, zi]
              rfl
             refine zl (i := 25) (N := some 48) (v := ?_) (a' := ?_) #[true, true, true, true, true, true, true, true, true, true, true, true, true, true, true, true, true, true, true, true, true, true, true, true, true, true, false, false, false] rfl rfl (zf HT_.out (by kernel_rfl)) (fun _ _ _ h => h) (Or.inl ⟨by rfl, ?_⟩) ?_ ?_;rotate_left
             ·intro w'
              go_simp;with_reducible rfl
             rotate_left
             ·simp only [Act.put, Zs1, Zs2, Zs3, zh, zi]
              rfl
             refine one_ (i := 26) (N := some 49) #[true, true, true, true, true, true, true, true, true, true, true, true, true, true, true, true, true, true, true, true, true, true, true, true, true, true, true, false, false] rfl rfl (zbz HT_.out (by kernel_rfl)) (by decide) (fun K hK => ?_);refine zcp Try.func66 (by kernel_rfl) rfl #[.slice (some ad312) l0.length c0, .slice (some ad313) l1.length c1, .int .i64 x11_2, .int .i64 x10_2] (by rfl) rfl rfl Zmt ?_;with_reducible refine (zm.calls k2 _ _ l0 _ _ l1 x11_2 x10_2 true _ ?side1 ?side2 ?side3 ?side4 A19.out).mono ?_
             (case side1 => repeat (first | exact (Kd.zc9 HR0.out (Zq1 HB)) | (with_reducible refine Kd.zdu ?_ _) | (with_reducible refine Kd.zd6 ?_ _) | (with_reducible refine Kd.zd5 ?_)));(case side2 => exact HC0.out);(case side3 => repeat (first | exact (Kd.zc9 HR1.out (Zq1 HB)) | (with_reducible refine Kd.zdu ?_ _) | (with_reducible refine Kd.zd6 ?_ _) | (with_reducible refine Kd.zd5 ?_)));(case side4 => exact HC1.out);rintro e w23 ⟨rfl, hb⟩;refine ⟨_, rfl, ?_⟩;have n0_ := za.mk (Kd.zcy (Zq12 HO_9) hb);have n1_ := za.mk (zn (Zq1 HB) hb);clear HO_9;clear HB;have HO_9 := n0_;have HB := n1_;clear n0_ n1_;(try clear hb);(try clear hb2);(try clear hk);(try clear hi);refine hK.out _ _ ⟨((HB.out.cell (World.block_lt_of_cell? w _ hw312_0)).trans hw312_0), ((HB.out.cell (World.block_lt_of_cell? w _ hw312_1)).trans hw312_1), ((HB.out.cell (World.block_lt_of_cell? w _ hw312_2)).trans hw312_2), ((HB.out.cell (World.block_lt_of_cell? w _ hw313_0)).trans hw313_0)⟩ (fun hHeld => ?_);clear hK K;refine zcc (a' := ?_) ?_ ?_;rotate_left
             ·show Act.put _ (some 49) _ = _
              simp only [Act.put, Zs1, Zs2, Zs3, zh, zi];rfl
             refine zl (i := 27) (N := some 50) (v := ?_) (a' := ?_) #[true, true, true, true, true, true, true, true, true, true, true, true, true, true, true, true, true, true, true, true, true, true, true, true, true, true, true, true, false] rfl rfl (zf HT_.out (by kernel_rfl)) (fun _ _ _ h => h) (Or.inl ⟨by rfl, ?_⟩) ?_ ?_;rotate_left
             ·intro w'
              go_simp;with_reducible rfl
             rotate_left
             ·simp only [Act.put, Zs1, Zs2, Zs3, zh, zi]
              rfl
             refine zl (i := 28) (N := some 51) (v := ?_) (a' := ?_) #[true, true, true, true, true, true, true, true, true, true, true, true, true, true, true, true, true, true, true, true, true, true, true, true, true, true, true, true, true] rfl rfl (zf HT_.out (by kernel_rfl)) (fun _ _ _ h => h) (Or.inl ⟨by rfl, ?_⟩) ?_ ?_;rotate_left
             ·intro w'
              go_simp;with_reducible rfl
             rotate_left
             ·simp only [Act.put, Zs1, Zs2, Zs3, zh, zi]
              rfl
             refine zcz (zb4 HT_.out (by kernel_rfl)) ?_
             try go_wp2
             go_roundg k2
             case measure => have := HK1.out; have := HK2.out; omega
             case rel => exact ⟨(x11_2), (wrap64 (x11_2 + 1)), Zrs, Zrs, H', ⟨by have := HK1.out; have := HK2.out; omega⟩, ⟨Zq12 HO_9⟩, ⟨Zq1 HB⟩⟩
            ·replace c20 := Bool.eq_false_iff.mpr c20
             subst c20;have H1 : (zbb.l1 k2 l0 l1 a2 a3 x9_1 x10_2 (wrap64 (x11_2 + 1))) = some r := by rw [if_neg (show ¬ (false = true) by decide)] at H; exact H
             clear H;have H := H1;clear H1;have H' := za.mk H;clear H
             try go_wp2
             have n0_ := za.mk (Kd.zb5 HO_9.out);have n1_ := za.mk (zbh HB.out);clear HO_9;clear HB;have HO_9 := n0_;have HB := n1_;clear n0_ n1_;have p312 : 0 ≤ (x11_2 : Int) := of_decide_eq_true Zas;have q312 : x11_2 < (l0.length : Int) := of_decide_eq_true Zas;obtain ⟨ad312, e312, hx312_0, hx312_1, hx312_2⟩ := zck HR0.out x11_2 p312 q312;have hw312_2 := hx312_2;have hw312_1 := hx312_1;have hw312_0 := hx312_0
             cases e312
             replace hx312_0 := (HB.out.cell (World.block_lt_of_cell? w _ hx312_0)).trans hx312_0;replace hx312_1 := (HB.out.cell (World.block_lt_of_cell? w _ hx312_1)).trans hx312_1;replace hx312_2 := (HB.out.cell (World.block_lt_of_cell? w _ hx312_2)).trans hx312_2;replace p312 := eq_true p312;replace q312 := eq_true q312;have p313 : 0 ≤ (x11_2 : Int) := of_decide_eq_true Zas;have q313 : x11_2 < (l1.length : Int) := of_decide_eq_true Zas;obtain ⟨ad313, e313, hx313_0⟩ := Kd.zb6 HR1.out x11_2 p313 q313;have hw313_0 := hx313_0
             cases e313
             replace hx313_0 := (HB.out.cell (World.block_lt_of_cell? w _ hx313_0)).trans hx313_0;replace p313 := eq_true p313;replace q313 := eq_true q313;refine zci (n := 29) (S := fun w' => w'.cell? (ad312.add ((x11_2).toNat * 3)) = some (.int .i64 ((zg l0 x11_2).f0)) ∧ w'.cell? ⟨(ad312.add ((x11_2).toNat * 3)).block, (ad312.add ((x11_2).toNat * 3)).off + 1, none⟩ = some (.int .i64 ((zg l0 x11_2).f1)) ∧ w'.cell? ⟨(ad312.add ((x11_2).toNat * 3)).block, (ad312.add ((x11_2).toNat * 3)).off + 2, none⟩ = some (.int .i64 ((zg l0 x11_2).f2)) ∧ w'.cell? (ad313.add (x11_2).toNat) = some (.int .i64 (rd l1 x11_2))) (ds := []) #[false, false, false, false, false, false, false, false, false, false, false, false, false, false, false, false, false, false, false, false, false, false, false, false, false, false, false, false, false] (by kernel_rfl) rfl rfl ⟨((HB.out.cell (World.block_lt_of_cell? w _ hw312_0)).trans hw312_0), ((HB.out.cell (World.block_lt_of_cell? w _ hw312_1)).trans hw312_1), ((HB.out.cell (World.block_lt_of_cell? w _ hw312_2)).trans hw312_2), ((HB.out.cell (World.block_lt_of_cell? w _ hw313_0)).trans hw313_0)⟩ (fun hHeld => ?_); refine zbp zbb.tab7 zbb.zjd (fun HT_ HW_ => ?_);generalize wr.drew = w24 at HO_9 HB hx312_0 hx312_1 hx312_2 hx313_0 hHeld ⊢;refine zl (i := 0) (N := some 23) (v := ?_) (a' := ?_) #[true, false, false, false, false, false, false, false, false, false, false, false, false, false, false, false, false, false, false, false, false, false, false, false, false, false, false, false, false] rfl rfl (zf HT_.out (by kernel_rfl)) (fun _ _ _ h => h) (Or.inl ⟨by rfl, ?_⟩) ?_ ?_;rotate_left
             ·intro w'
              go_simp;with_reducible rfl
             rotate_left
             ·simp only [Act.put, Zs1, Zs2, Zs3, zh, zi]
              rfl
             refine zl (i := 1) (N := some 24) (v := ?_) (a' := ?_) #[true, true, false, false, false, false, false, false, false, false, false, false, false, false, false, false, false, false, false, false, false, false, false, false, false, false, false, false, false] rfl rfl (zf HT_.out (by kernel_rfl)) (fun _ _ _ h => h) (Or.inl ⟨by rfl, ?_⟩) ?_ ?_;rotate_left
             ·intro w'
              go_simp;with_reducible rfl
             rotate_left
             ·simp only [Act.put, Zs1, Zs2, Zs3, zh, zi]
              rfl
             refine zl (i := 2) (N := some 25) (v := ?_) (a' := ?_) #[true, true, true, false, false, false, false, false, false, false, false, false, false, false, false, false, false, false, false, false, false, false, false, false, false, false, false, false, false] rfl rfl (zf HT_.out (by kernel_rfl)) (fun _ _ _ h => h) (Or.inl ⟨by rfl, ?_⟩) ?_ ?_;rotate_left
             ·intro w'
              go_simp;with_reducible rfl
             rotate_left
             ·simp only [Act.put, Zs1, Zs2, Zs3, zh, zi]
              rfl
             refine zl (i := 4) (N := some 27) (v := ?_) (a' := ?_) #[true, true, true, false, true, false, false, false, false, false, false, false, false, false, false, false, false, false, false, false, false, false, false, false, false, false, false, false, false] rfl rfl (zf HT_.out (by kernel_rfl)) (fun _ _ _ h => h) (Or.inl ⟨by rfl, ?_⟩) ?_ ?_;rotate_left
             ·intro w'
              go_simp;with_reducible rfl
             rotate_left
             ·simp only [Act.put, Zs1, Zs2, Zs3, zh, zi]
              rfl
             refine zl (i := 5) (N := some 28) (v := ?_) (a' := ?_) #[true, true, true, false, true, true, false, false, false, false, false, false, false, false, false, false, false, false, false, false, false, false, false, false, false, false, false, false, false] rfl rfl (zf HT_.out (by kernel_rfl)) (fun _ _ _ h => h) (Or.inl ⟨by rfl, ?_⟩) ?_ ?_;rotate_left
             ·intro w'
              go_simp;with_reducible rfl
             rotate_left
             ·simp only [Act.put, Zs1, Zs2, Zs3, zh, zi]
              rfl
             refine zl (i := 6) (N := some 29) (v := ?_) (a' := ?_) #[true, true, true, false, true, true, true, false, false, false, false, false, false, false, false, false, false, false, false, false, false, false, false, false, false, false, false, false, false] rfl rfl (zf HT_.out (by kernel_rfl)) (fun _ _ _ h => h) (Or.inl ⟨by rfl, ?_⟩) ?_ ?_;rotate_left
             ·intro w'
              go_simp;with_reducible rfl
             rotate_left
             ·simp only [Act.put, Zs1, Zs2, Zs3, zh, zi]
              rfl
             refine zl (i := 10) (N := some 33) (v := ?_) (a' := ?_) #[true, true, true, false, true, true, true, false, false, false, true, false, false, false, false, false, false, false, false, false, false, false, false, false, false, false, false, false, false] rfl rfl (zf HT_.out (by kernel_rfl)) (fun _ _ _ h => h) (Or.inl ⟨by rfl, ?_⟩) ?_ ?_;rotate_left
             ·intro w'
              go_simp;with_reducible rfl
             rotate_left
             ·simp only [Act.put, Zs1, Zs2, Zs3, zh, zi]
              rfl
             refine zbw (i := 3) (N := some 26) (v := ?_) (a' := ?_) #[true, true, true, true, true, true, true, false, false, false, true, false, false, false, false, false, false, false, false, false, false, false, false, false, false, false, false, false, false] rfl rfl (z8 HT_.out HW_.out (by kernel_rfl)) (fun _ _ _ h => h) (Or.inl ⟨by rfl, ?_⟩) hHeld ?_ ?_;rotate_left
             ·rintro w' ⟨s0, s1, s2, s3⟩
              go_simp;with_reducible rfl
             rotate_left
             ·simp only [Act.put, Zs1, Zs2, Zs3, zh, zi]
              rfl
             refine zbw (i := 7) (N := some 30) (v := ?_) (a' := ?_) #[true, true, true, true, true, true, true, true, false, false, true, false, false, false, false, false, false, false, false, false, false, false, false, false, false, false, false, false, false] rfl rfl (z8 HT_.out HW_.out (by kernel_rfl)) (fun _ _ _ h => h) (Or.inl ⟨by rfl, ?_⟩) hHeld ?_ ?_;rotate_left
             ·rintro w' ⟨s0, s1, s2, s3⟩
              go_simp;with_reducible rfl
             rotate_left
             ·simp only [Act.put, Zs1, Zs2, Zs3, zh, zi]
              rfl
             refine one_ (i := 8) (N := some 31) #[true, true, true, true, true, true, true, true, true, false, true, false, false, false, false, false, false, false, false, false, false, false, false, false, false, false, false, false, false] rfl rfl (zbz HT_.out (by kernel_rfl)) (by decide) (fun K hK => ?_);refine zcp Try.func64 (by kernel_rfl) rfl #[.agg #[.int .i64 ((zg l0 x11_2).f0), .int .i64 ((zg l0 x11_2).f1), .int .i64 ((zg l0 x11_2).f2)], .int .i64 (rd l1 x11_2)] (by rfl) rfl rfl Zmt ?_;with_reducible refine (zbf.calls ((zg l0 x11_2).f0) ((zg l0 x11_2).f1) ((zg l0 x11_2).f2) (rd l1 x11_2) t314 t315 _ A12.out).mono ?_
             rintro e w25 ⟨rfl, hb⟩;refine ⟨_, rfl, ?_⟩;have n0_ := za.mk (Kd.zcy (Zq12 HO_9) hb);have n1_ := za.mk (zn (Zq1 HB) hb);clear HO_9;clear HB;have HO_9 := n0_;have HB := n1_;clear n0_ n1_;(try clear hb);(try clear hb2);(try clear hk);(try clear hi);refine hK.out _ _ ⟨((HB.out.cell (World.block_lt_of_cell? w _ hw312_0)).trans hw312_0), ((HB.out.cell (World.block_lt_of_cell? w _ hw312_1)).trans hw312_1), ((HB.out.cell (World.block_lt_of_cell? w _ hw312_2)).trans hw312_2), ((HB.out.cell (World.block_lt_of_cell? w _ hw313_0)).trans hw313_0)⟩ (fun hHeld => ?_);clear hK K;refine zcc (a' := ?_) ?_ ?_;rotate_left
             ·show Act.put _ (some 31) _ = _
              simp only [Act.put, Zs1, Zs2, Zs3, zh, zi];rfl
             refine zl (i := 9) (N := some 32) (v := ?_) (a' := ?_) #[true, true, true, true, true, true, true, true, true, true, true, false, false, false, false, false, false, false, false, false, false, false, false, false, false, false, false, false, false] rfl rfl (zf HT_.out (by kernel_rfl)) (fun _ _ _ h => h) (Or.inl ⟨by rfl, ?_⟩) ?_ ?_;rotate_left
             ·intro w'
              go_simp;with_reducible rfl
             rotate_left
             ·simp only [Act.put, Zs1, Zs2, Zs3, zh, zi]
              rfl
             refine zl (i := 11) (N := some 34) (v := ?_) (a' := ?_) #[true, true, true, true, true, true, true, true, true, true, true, true, false, false, false, false, false, false, false, false, false, false, false, false, false, false, false, false, false] rfl rfl (zf HT_.out (by kernel_rfl)) (fun _ _ _ h => h) (Or.inl ⟨by rfl, ?_⟩) ?_ ?_;rotate_left
             ·intro w'
              go_simp;with_reducible rfl
             rotate_left
             ·simp only [Act.put, Zs1, Zs2, Zs3, zh, zi]
              rfl
             refine zl (i := 12) (N := some 35) (v := ?_) (a' := ?_) #[true, true, true, true, true, true, true, true, true, true, true, true, true, false, false, false, false, false, false, false, false, false, false, false, false, false, false, false, false] rfl rfl (zf HT_.out (by kernel_rfl)) (fun _ _ _ h => h) (Or.inl ⟨by rfl, ?_⟩) ?_ ?_;rotate_left
             ·intro w'
              go_simp;with_reducible rfl
             rotate_left
             ·simp only [Act.put, Zs1, Zs2, Zs3, zh, zi]
              rfl
             refine zl (i := 13) (N := some 36) (v := ?_) (a' := ?_) #[true, true, true, true, true, true, true, true, true, true, true, true, true, true, false, false, false, false, false, false, false, false, false, false, false, false, false, false, false] rfl rfl (zf HT_.out (by kernel_rfl)) (fun _ _ _ h => h) (Or.inl ⟨by rfl, ?_⟩) ?_ ?_;rotate_left
             ·intro w'
              go_simp;with_reducible rfl
             rotate_left
             ·simp only [Act.put, Zs1, Zs2, Zs3, zh, zi]
              rfl
             refine zl (i := 14) (N := some 37) (v := ?_) (a' := ?_) #[true, true, true, true, true, true, true, true, true, true, true, true, true, true, true, false, false, false, false, false, false, false, false, false, false, false, false, false, false] rfl rfl (zf HT_.out (by kernel_rfl)) (fun _ _ _ h => h) (Or.inl ⟨by rfl, ?_⟩) ?_ ?_;rotate_left
             ·intro w'
              go_simp;with_reducible rfl
             rotate_left
             ·simp only [Act.put, Zs1, Zs2, Zs3, zh, zi]
              rfl
             refine one_ (i := 15) (N := some 38) #[true, true, true, true, true, true, true, true, true, true, true, true, true, true, true, true, false, false, false, false, false, false, false, false, false, false, false, false, false] rfl rfl (zbz HT_.out (by kernel_rfl)) (by decide) (fun K hK => ?_);refine zcp Try.func65 (by kernel_rfl) rfl #[.slice Ao8 x9_1.length co8, .int .i64 x11_2] (by rfl) rfl rfl Zmt ?_;with_reducible refine (zca.calls k2 _ _ x9_1 x11_2 t316 _ ?side1 ?side2 A14.out).mono ?_
             (case side1 => exact Zq18 ((Kd.zbo HO_9.out).2.2));(case side2 => exact (Kd.zbo HO_9.out).2.1);rintro e w' ⟨rfl, ⟨nd, rfl⟩⟩;refine ⟨_, rfl, ?_⟩;refine hK.out _ _ ⟨((HB.out.cell (World.block_lt_of_cell? w _ hw312_0)).trans hw312_0), ((HB.out.cell (World.block_lt_of_cell? w _ hw312_1)).trans hw312_1), ((HB.out.cell (World.block_lt_of_cell? w _ hw312_2)).trans hw312_2), ((HB.out.cell (World.block_lt_of_cell? w _ hw313_0)).trans hw313_0)⟩ (fun hHeld => ?_);clear hK K;refine zcc (a' := ?_) ?_ ?_;rotate_left
             ·show Act.put _ (some 38) _ = _
              simp only [Act.put, Zs1, Zs2, Zs3, zh, zi];rfl
             refine zl (i := 16) (N := some 39) (v := ?_) (a' := ?_) #[true, true, true, true, true, true, true, true, true, true, true, true, true, true, true, true, true, false, false, false, false, false, false, false, false, false, false, false, false] rfl rfl (zf HT_.out (by kernel_rfl)) (fun _ _ _ h => h) (Or.inl ⟨by rfl, ?_⟩) ?_ ?_;rotate_left
             ·intro w'
              go_simp;with_reducible rfl
             rotate_left
             ·simp only [Act.put, Zs1, Zs2, Zs3, zh, zi]
              rfl
             refine zl (i := 17) (N := some 40) (v := ?_) (a' := ?_) #[true, true, true, true, true, true, true, true, true, true, true, true, true, true, true, true, true, true, false, false, false, false, false, false, false, false, false, false, false] rfl rfl (zf HT_.out (by kernel_rfl)) (fun _ _ _ h => h) (Or.inl ⟨by rfl, ?_⟩) ?_ ?_;rotate_left
             ·intro w'
              go_simp;with_reducible rfl
             rotate_left
             ·simp only [Act.put, Zs1, Zs2, Zs3, zh, zi]
              rfl
             refine zl (i := 18) (N := some 41) (v := ?_) (a' := ?_) #[true, true, true, true, true, true, true, true, true, true, true, true, true, true, true, true, true, true, true, false, false, false, false, false, false, false, false, false, false] rfl rfl (zf HT_.out (by kernel_rfl)) (fun _ _ _ h => h) (Or.inl ⟨by rfl, ?_⟩) ?_ ?_;rotate_left
             ·intro w'
              go_simp;with_reducible rfl
             rotate_left
             ·simp only [Act.put, Zs1, Zs2, Zs3, zh, zi]
              rfl
             refine zl (i := 19) (N := some 42) (v := ?_) (a' := ?_) #[true, true, true, true, true, true, true, true, true, true, true, true, true, true, true, true, true, true, true, true, false, false, false, false, false, false, false, false, false] rfl rfl (zf HT_.out (by kernel_rfl)) (fun _ _ _ h => h) (Or.inl ⟨by rfl, ?_⟩) ?_ ?_;rotate_left
             ·intro w'
              go_simp;with_reducible rfl
             rotate_left
             ·simp only [Act.put, Zs1, Zs2, Zs3, zh, zi]
              rfl
             refine zl (i := 20) (N := some 43) (v := ?_) (a' := ?_) #[true, true, true, true, true, true, true, true, true, true, true, true, true, true, true, true, true, true, true, true, true, false, false, false, false, false, false, false, false] rfl rfl (zf HT_.out (by kernel_rfl)) (fun _ _ _ h => h) (Or.inl ⟨by rfl, ?_⟩) ?_ ?_;rotate_left
             ·intro w'
              go_simp;with_reducible rfl
             rotate_left
             ·simp only [Act.put, Zs1, Zs2, Zs3, zh, zi]
              rfl
             refine zl (i := 21) (N := some 44) (v := ?_) (a' := ?_) #[true, true, true, true, true, true, true, true, true, true, true, true, true, true, true, true, true, true, true, true, true, true, false, false, false, false, false, false, false] rfl rfl (zf HT_.out (by kernel_rfl)) (fun _ _ _ h => h) (Or.inl ⟨by rfl, ?_⟩) ?_ ?_;rotate_left
             ·intro w'
              go_simp;with_reducible rfl
             rotate_left
             ·simp only [Act.put, Zs1, Zs2, Zs3, zh, zi]
              rfl
             refine zl (i := 22) (N := some 45) (v := ?_) (a' := ?_) #[true, true, true, true, true, true, true, true, true, true, true, true, true, true, true, true, true, true, true, true, true, true, true, false, false, false, false, false, false] rfl rfl (zf HT_.out (by kernel_rfl)) (fun _ _ _ h => h) (Or.inl ⟨by rfl, ?_⟩) ?_ ?_;rotate_left
             ·intro w'
              go_simp;with_reducible rfl
             rotate_left
             ·simp only [Act.put, Zs1, Zs2, Zs3, zh, zi]
              rfl
             refine zl (i := 23) (N := some 46) (v := ?_) (a' := ?_) #[true, true, true, true, true, true, true, true, true, true, true, true, true, true, true, true, true, true, true, true, true, true, true, true, false, false, false, false, false] rfl rfl (zf HT_.out (by kernel_rfl)) (fun _ _ _ h => h) (Or.inl ⟨by rfl, ?_⟩) ?_ ?_;rotate_left
             ·intro w'
              go_simp;with_reducible rfl
             rotate_left
             ·simp only [Act.put, Zs1, Zs2, Zs3, zh, zi]
              rfl
             refine zl (i := 24) (N := some 47) (v := ?_) (a' := ?_) #[true, true, true, true, true, true, true, true, true, true, true, true, true, true, true, true, true, true, true, true, true, true, true, true, true, false, false, false, false] rfl rfl (zf HT_.out (by kernel_rfl)) (fun _ _ _ h => h) (Or.inl ⟨by rfl, ?_⟩) ?_ ?_;rotate_left
             ·intro w'
              go_simp;with_reducible rfl
             rotate_left
             ·simp only [Act.put, Zs1, Zs2, Zs3, zh, zi]
              rfl
             refine zl (i := 25) (N := some 48) (v := ?_) (a' := ?_) #[true, true, true, true, true, true, true, true, true, true, true, true, true, true, true, true, true, true, true, true, true, true, true, true, true, true, false, false, false] rfl rfl (zf HT_.out (by kernel_rfl)) (fun _ _ _ h => h) (Or.inl ⟨by rfl, ?_⟩) ?_ ?_;rotate_left
             ·intro w'
              go_simp;with_reducible rfl
             rotate_left
             ·simp only [Act.put, Zs1, Zs2, Zs3, zh, zi]
              rfl
             refine one_ (i := 26) (N := some 49) #[true, true, true, true, true, true, true, true, true, true, true, true, true, true, true, true, true, true, true, true, true, true, true, true, true, true, true, false, false] rfl rfl (zbz HT_.out (by kernel_rfl)) (by decide) (fun K hK => ?_);refine zcp Try.func66 (by kernel_rfl) rfl #[.slice (some ad312) l0.length c0, .slice (some ad313) l1.length c1, .int .i64 x11_2, .int .i64 x10_2] (by rfl) rfl rfl Zmt ?_;with_reducible refine (zm.calls k2 _ _ l0 _ _ l1 x11_2 x10_2 false _ ?side1 ?side2 ?side3 ?side4 A19.out).mono ?_
             (case side1 => repeat (first | exact (Kd.zc9 HR0.out (Zq1 HB)) | (with_reducible refine Kd.zdu ?_ _) | (with_reducible refine Kd.zd6 ?_ _) | (with_reducible refine Kd.zd5 ?_)));(case side2 => exact HC0.out);(case side3 => repeat (first | exact (Kd.zc9 HR1.out (Zq1 HB)) | (with_reducible refine Kd.zdu ?_ _) | (with_reducible refine Kd.zd6 ?_ _) | (with_reducible refine Kd.zd5 ?_)));(case side4 => exact HC1.out);rintro e w26 ⟨rfl, hb⟩;refine ⟨_, rfl, ?_⟩;have n0_ := za.mk (Kd.zcy (Zq12 HO_9) hb);have n1_ := za.mk (zn (Zq1 HB) hb);clear HO_9;clear HB;have HO_9 := n0_;have HB := n1_;clear n0_ n1_;(try clear hb);(try clear hb2);(try clear hk);(try clear hi);refine hK.out _ _ ⟨((HB.out.cell (World.block_lt_of_cell? w _ hw312_0)).trans hw312_0), ((HB.out.cell (World.block_lt_of_cell? w _ hw312_1)).trans hw312_1), ((HB.out.cell (World.block_lt_of_cell? w _ hw312_2)).trans hw312_2), ((HB.out.cell (World.block_lt_of_cell? w _ hw313_0)).trans hw313_0)⟩ (fun hHeld => ?_);clear hK K;refine zcc (a' := ?_) ?_ ?_;rotate_left
             ·show Act.put _ (some 49) _ = _
              simp only [Act.put, Zs1, Zs2, Zs3, zh, zi];rfl
             refine zl (i := 27) (N := some 50) (v := ?_) (a' := ?_) #[true, true, true, true, true, true, true, true, true, true, true, true, true, true, true, true, true, true, true, true, true, true, true, true, true, true, true, true, false] rfl rfl (zf HT_.out (by kernel_rfl)) (fun _ _ _ h => h) (Or.inl ⟨by rfl, ?_⟩) ?_ ?_;rotate_left
             ·intro w'
              go_simp;with_reducible rfl
             rotate_left
             ·simp only [Act.put, Zs1, Zs2, Zs3, zh, zi]
              rfl
             refine zl (i := 28) (N := some 51) (v := ?_) (a' := ?_) #[true, true, true, true, true, true, true, true, true, true, true, true, true, true, true, true, true, true, true, true, true, true, true, true, true, true, true, true, true] rfl rfl (zf HT_.out (by kernel_rfl)) (fun _ _ _ h => h) (Or.inl ⟨by rfl, ?_⟩) ?_ ?_;rotate_left
             ·intro w'
              go_simp;with_reducible rfl
             rotate_left
             ·simp only [Act.put, Zs1, Zs2, Zs3, zh, zi]
              rfl
             refine zcz (zb4 HT_.out (by kernel_rfl)) ?_
             try go_wp2
             go_roundg k2
             case measure => have := HK1.out; have := HK2.out; omega
             case rel => exact ⟨(x10_2), (wrap64 (x11_2 + 1)), Zrs, Zrs, H', ⟨by have := HK1.out; have := HK2.out; omega⟩, ⟨Zq12 HO_9⟩, ⟨Zq1 HB⟩⟩
          ·rw [if_neg c15] at H
           have c15b0 : decide (t316 < 0) = false := decide_eq_false c15;clear c15;have H' := za.mk H;clear H
           try go_wp2
           have n0_ := za.mk (Kd.zb5 HO_9.out);have n1_ := za.mk (zbh HB.out);clear HO_9;clear HB;have HO_9 := n0_;have HB := n1_;clear n0_ n1_;have p312 : 0 ≤ (x11_2 : Int) := of_decide_eq_true Zas;have q312 : x11_2 < (l0.length : Int) := of_decide_eq_true Zas;obtain ⟨ad312, e312, hx312_0, hx312_1, hx312_2⟩ := zck HR0.out x11_2 p312 q312;have hw312_2 := hx312_2;have hw312_1 := hx312_1;have hw312_0 := hx312_0
           cases e312
           replace hx312_0 := (HB.out.cell (World.block_lt_of_cell? w _ hx312_0)).trans hx312_0;replace hx312_1 := (HB.out.cell (World.block_lt_of_cell? w _ hx312_1)).trans hx312_1;replace hx312_2 := (HB.out.cell (World.block_lt_of_cell? w _ hx312_2)).trans hx312_2;replace p312 := eq_true p312;replace q312 := eq_true q312;have p313 : 0 ≤ (x11_2 : Int) := of_decide_eq_true Zas;have q313 : x11_2 < (l1.length : Int) := of_decide_eq_true Zas;obtain ⟨ad313, e313, hx313_0⟩ := Kd.zb6 HR1.out x11_2 p313 q313;have hw313_0 := hx313_0
           cases e313
           replace hx313_0 := (HB.out.cell (World.block_lt_of_cell? w _ hx313_0)).trans hx313_0;replace p313 := eq_true p313;replace q313 := eq_true q313;refine zci (n := 29) (S := fun w' => w'.cell? (ad312.add ((x11_2).toNat * 3)) = some (.int .i64 ((zg l0 x11_2).f0)) ∧ w'.cell? ⟨(ad312.add ((x11_2).toNat * 3)).block, (ad312.add ((x11_2).toNat * 3)).off + 1, none⟩ = some (.int .i64 ((zg l0 x11_2).f1)) ∧ w'.cell? ⟨(ad312.add ((x11_2).toNat * 3)).block, (ad312.add ((x11_2).toNat * 3)).off + 2, none⟩ = some (.int .i64 ((zg l0 x11_2).f2)) ∧ w'.cell? (ad313.add (x11_2).toNat) = some (.int .i64 (rd l1 x11_2))) (ds := []) #[false, false, false, false, false, false, false, false, false, false, false, false, false, false, false, false, false, false, false, false, false, false, false, false, false, false, false, false, false] (by kernel_rfl) rfl rfl ⟨((HB.out.cell (World.block_lt_of_cell? w _ hw312_0)).trans hw312_0), ((HB.out.cell (World.block_lt_of_cell? w _ hw312_1)).trans hw312_1), ((HB.out.cell (World.block_lt_of_cell? w _ hw312_2)).trans hw312_2), ((HB.out.cell (World.block_lt_of_cell? w _ hw313_0)).trans hw313_0)⟩ (fun hHeld => ?_); refine zbp zbb.tab7 zbb.zjd (fun HT_ HW_ => ?_);generalize wr.drew = w27 at HO_9 HB hx312_0 hx312_1 hx312_2 hx313_0 hHeld ⊢;refine zl (i := 0) (N := some 23) (v := ?_) (a' := ?_) #[true, false, false, false, false, false, false, false, false, false, false, false, false, false, false, false, false, false, false, false, false, false, false, false, false, false, false, false, false] rfl rfl (zf HT_.out (by kernel_rfl)) (fun _ _ _ h => h) (Or.inl ⟨by rfl, ?_⟩) ?_ ?_;rotate_left
           ·intro w'
            go_simp;with_reducible rfl
           rotate_left
           ·simp only [Act.put, Zs1, Zs2, Zs3, zh, zi]
            rfl
           refine zl (i := 1) (N := some 24) (v := ?_) (a' := ?_) #[true, true, false, false, false, false, false, false, false, false, false, false, false, false, false, false, false, false, false, false, false, false, false, false, false, false, false, false, false] rfl rfl (zf HT_.out (by kernel_rfl)) (fun _ _ _ h => h) (Or.inl ⟨by rfl, ?_⟩) ?_ ?_;rotate_left
           ·intro w'
            go_simp;with_reducible rfl
           rotate_left
           ·simp only [Act.put, Zs1, Zs2, Zs3, zh, zi]
            rfl
           refine zl (i := 2) (N := some 25) (v := ?_) (a' := ?_) #[true, true, true, false, false, false, false, false, false, false, false, false, false, false, false, false, false, false, false, false, false, false, false, false, false, false, false, false, false] rfl rfl (zf HT_.out (by kernel_rfl)) (fun _ _ _ h => h) (Or.inl ⟨by rfl, ?_⟩) ?_ ?_;rotate_left
           ·intro w'
            go_simp;with_reducible rfl
           rotate_left
           ·simp only [Act.put, Zs1, Zs2, Zs3, zh, zi]
            rfl
           refine zl (i := 4) (N := some 27) (v := ?_) (a' := ?_) #[true, true, true, false, true, false, false, false, false, false, false, false, false, false, false, false, false, false, false, false, false, false, false, false, false, false, false, false, false] rfl rfl (zf HT_.out (by kernel_rfl)) (fun _ _ _ h => h) (Or.inl ⟨by rfl, ?_⟩) ?_ ?_;rotate_left
           ·intro w'
            go_simp;with_reducible rfl
           rotate_left
           ·simp only [Act.put, Zs1, Zs2, Zs3, zh, zi]
            rfl
           refine zl (i := 5) (N := some 28) (v := ?_) (a' := ?_) #[true, true, true, false, true, true, false, false, false, false, false, false, false, false, false, false, false, false, false, false, false, false, false, false, false, false, false, false, false] rfl rfl (zf HT_.out (by kernel_rfl)) (fun _ _ _ h => h) (Or.inl ⟨by rfl, ?_⟩) ?_ ?_;rotate_left
           ·intro w'
            go_simp;with_reducible rfl
           rotate_left
           ·simp only [Act.put, Zs1, Zs2, Zs3, zh, zi]
            rfl
           refine zl (i := 6) (N := some 29) (v := ?_) (a' := ?_) #[true, true, true, false, true, true, true, false, false, false, false, false, false, false, false, false, false, false, false, false, false, false, false, false, false, false, false, false, false] rfl rfl (zf HT_.out (by kernel_rfl)) (fun _ _ _ h => h) (Or.inl ⟨by rfl, ?_⟩) ?_ ?_;rotate_left
           ·intro w'
            go_simp;with_reducible rfl
           rotate_left
           ·simp only [Act.put, Zs1, Zs2, Zs3, zh, zi]
            rfl
           refine zl (i := 10) (N := some 33) (v := ?_) (a' := ?_) #[true, true, true, false, true, true, true, false, false, false, true, false, false, false, false, false, false, false, false, false, false, false, false, false, false, false, false, false, false] rfl rfl (zf HT_.out (by kernel_rfl)) (fun _ _ _ h => h) (Or.inl ⟨by rfl, ?_⟩) ?_ ?_;rotate_left
           ·intro w'
            go_simp;with_reducible rfl
           rotate_left
           ·simp only [Act.put, Zs1, Zs2, Zs3, zh, zi]
            rfl
           refine zbw (i := 3) (N := some 26) (v := ?_) (a' := ?_) #[true, true, true, true, true, true, true, false, false, false, true, false, false, false, false, false, false, false, false, false, false, false, false, false, false, false, false, false, false] rfl rfl (z8 HT_.out HW_.out (by kernel_rfl)) (fun _ _ _ h => h) (Or.inl ⟨by rfl, ?_⟩) hHeld ?_ ?_;rotate_left
           ·rintro w' ⟨s0, s1, s2, s3⟩
            go_simp;with_reducible rfl
           rotate_left
           ·simp only [Act.put, Zs1, Zs2, Zs3, zh, zi]
            rfl
           refine zbw (i := 7) (N := some 30) (v := ?_) (a' := ?_) #[true, true, true, true, true, true, true, true, false, false, true, false, false, false, false, false, false, false, false, false, false, false, false, false, false, false, false, false, false] rfl rfl (z8 HT_.out HW_.out (by kernel_rfl)) (fun _ _ _ h => h) (Or.inl ⟨by rfl, ?_⟩) hHeld ?_ ?_;rotate_left
           ·rintro w' ⟨s0, s1, s2, s3⟩
            go_simp;with_reducible rfl
           rotate_left
           ·simp only [Act.put, Zs1, Zs2, Zs3, zh, zi]
            rfl
           refine one_ (i := 8) (N := some 31) #[true, true, true, true, true, true, true, true, true, false, true, false, false, false, false, false, false, false, false, false, false, false, false, false, false, false, false, false, false] rfl rfl (zbz HT_.out (by kernel_rfl)) (by decide) (fun K hK => ?_);refine zcp Try.func64 (by kernel_rfl) rfl #[.agg #[.int .i64 ((zg l0 x11_2).f0), .int .i64 ((zg l0 x11_2).f1), .int .i64 ((zg l0 x11_2).f2)], .int .i64 (rd l1 x11_2)] (by rfl) rfl rfl Zmt ?_;with_reducible refine (zbf.calls ((zg l0 x11_2).f0) ((zg l0 x11_2).f1) ((zg l0 x11_2).f2) (rd l1 x11_2) t314 t315 _ A12.out).mono ?_
           rintro e w28 ⟨rfl, hb⟩;refine ⟨_, rfl, ?_⟩;have n0_ := za.mk (Kd.zcy (Zq12 HO_9) hb);have n1_ := za.mk (zn (Zq1 HB) hb);clear HO_9;clear HB;have HO_9 := n0_;have HB := n1_;clear n0_ n1_;(try clear hb);(try clear hb2);(try clear hk);(try clear hi);refine hK.out _ _ ⟨((HB.out.cell (World.block_lt_of_cell? w _ hw312_0)).trans hw312_0), ((HB.out.cell (World.block_lt_of_cell? w _ hw312_1)).trans hw312_1), ((HB.out.cell (World.block_lt_of_cell? w _ hw312_2)).trans hw312_2), ((HB.out.cell (World.block_lt_of_cell? w _ hw313_0)).trans hw313_0)⟩ (fun hHeld => ?_);clear hK K;refine zcc (a' := ?_) ?_ ?_;rotate_left
           ·show Act.put _ (some 31) _ = _
            simp only [Act.put, Zs1, Zs2, Zs3, zh, zi];rfl
           refine zl (i := 9) (N := some 32) (v := ?_) (a' := ?_) #[true, true, true, true, true, true, true, true, true, true, true, false, false, false, false, false, false, false, false, false, false, false, false, false, false, false, false, false, false] rfl rfl (zf HT_.out (by kernel_rfl)) (fun _ _ _ h => h) (Or.inl ⟨by rfl, ?_⟩) ?_ ?_;rotate_left
           ·intro w'
            go_simp;with_reducible rfl
           rotate_left
           ·simp only [Act.put, Zs1, Zs2, Zs3, zh, zi]
            rfl
           refine zl (i := 11) (N := some 34) (v := ?_) (a' := ?_) #[true, true, true, true, true, true, true, true, true, true, true, true, false, false, false, false, false, false, false, false, false, false, false, false, false, false, false, false, false] rfl rfl (zf HT_.out (by kernel_rfl)) (fun _ _ _ h => h) (Or.inl ⟨by rfl, ?_⟩) ?_ ?_;rotate_left
           ·intro w'
            go_simp;with_reducible rfl
           rotate_left
           ·simp only [Act.put, Zs1, Zs2, Zs3, zh, zi]
            rfl
           refine zl (i := 12) (N := some 35) (v := ?_) (a' := ?_) #[true, true, true, true, true, true, true, true, true, true, true, true, true, false, false, false, false, false, false, false, false, false, false, false, false, false, false, false, false] rfl rfl (zf HT_.out (by kernel_rfl)) (fun _ _ _ h => h) (Or.inl ⟨by rfl, ?_⟩) ?_ ?_;rotate_left
           ·intro w'
            go_simp;with_reducible rfl
           rotate_left
           ·simp only [Act.put, Zs1, Zs2, Zs3, zh, zi]
            rfl
           refine zl (i := 13) (N := some 36) (v := ?_) (a' := ?_) #[true, true, true, true, true, true, true, true, true, true, true, true, true, true, false, false, false, false, false, false, false, false, false, false, false, false, false, false, false] rfl rfl (zf HT_.out (by kernel_rfl)) (fun _ _ _ h => h) (Or.inl ⟨by rfl, ?_⟩) ?_ ?_;rotate_left
           ·intro w'
            go_simp;with_reducible rfl
           rotate_left
           ·simp only [Act.put, Zs1, Zs2, Zs3, zh, zi]
            rfl
           refine zl (i := 14) (N := some 37) (v := ?_) (a' := ?_) #[true, true, true, true, true, true, true, true, true, true, true, true, true, true, true, false, false, false, false, false, false, false, false, false, false, false, false, false, false] rfl rfl (zf HT_.out (by kernel_rfl)) (fun _ _ _ h => h) (Or.inl ⟨by rfl, ?_⟩) ?_ ?_;rotate_left
           ·intro w'
            go_simp;with_reducible rfl
           rotate_left
           ·simp only [Act.put, Zs1, Zs2, Zs3, zh, zi]
            rfl
           refine one_ (i := 15) (N := some 38) #[true, true, true, true, true, true, true, true, true, true, true, true, true, true, true, true, false, false, false, false, false, false, false, false, false, false, false, false, false] rfl rfl (zbz HT_.out (by kernel_rfl)) (by decide) (fun K hK => ?_);refine zcp Try.func65 (by kernel_rfl) rfl #[.slice Ao8 x9_1.length co8, .int .i64 x11_2] (by rfl) rfl rfl Zmt ?_;with_reducible refine (zca.calls k2 _ _ x9_1 x11_2 t316 _ ?side1 ?side2 A14.out).mono ?_
           (case side1 => exact Zq18 ((Kd.zbo HO_9.out).2.2));(case side2 => exact (Kd.zbo HO_9.out).2.1);rintro e w' ⟨rfl, ⟨nd, rfl⟩⟩;refine ⟨_, rfl, ?_⟩;refine hK.out _ _ ⟨((HB.out.cell (World.block_lt_of_cell? w _ hw312_0)).trans hw312_0), ((HB.out.cell (World.block_lt_of_cell? w _ hw312_1)).trans hw312_1), ((HB.out.cell (World.block_lt_of_cell? w _ hw312_2)).trans hw312_2), ((HB.out.cell (World.block_lt_of_cell? w _ hw313_0)).trans hw313_0)⟩ (fun hHeld => ?_);clear hK K;refine zcc (a' := ?_) ?_ ?_;rotate_left
           ·show Act.put _ (some 38) _ = _
            simp only [Act.put, Zs1, Zs2, Zs3, zh, zi];rfl
           refine zl (i := 16) (N := some 39) (v := ?_) (a' := ?_) #[true, true, true, true, true, true, true, true, true, true, true, true, true, true, true, true, true, false, false, false, false, false, false, false, false, false, false, false, false] rfl rfl (zf HT_.out (by kernel_rfl)) (fun _ _ _ h => h) (Or.inl ⟨by rfl, ?_⟩) ?_ ?_;rotate_left
           ·intro w'
            go_simp;with_reducible rfl
           rotate_left
           ·simp only [Act.put, Zs1, Zs2, Zs3, zh, zi]
            rfl
           refine zl (i := 17) (N := some 40) (v := ?_) (a' := ?_) #[true, true, true, true, true, true, true, true, true, true, true, true, true, true, true, true, true, true, false, false, false, false, false, false, false, false, false, false, false] rfl rfl (zf HT_.out (by kernel_rfl)) (fun _ _ _ h => h) (Or.inl ⟨by rfl, ?_⟩) ?_ ?_;rotate_left
           ·intro w'
            go_simp;with_reducible rfl
           rotate_left
           ·simp only [Act.put, Zs1, Zs2, Zs3, zh, zi]
            rfl
           refine zl (i := 18) (N := some 41) (v := ?_) (a' := ?_) #[true, true, true, true, true, true, true, true, true, true, true, true, true, true, true, true, true, true, true, false, false, false, false, false, false, false, false, false, false] rfl rfl (zf HT_.out (by kernel_rfl)) (fun _ _ _ h => h) (Or.inl ⟨by rfl, ?_⟩) ?_ ?_;rotate_left
           ·intro w'
            go_simp;with_reducible rfl
           rotate_left
           ·simp only [Act.put, Zs1, Zs2, Zs3, zh, zi]
            rfl
           refine zl (i := 19) (N := some 42) (v := undef) (a' := ?_) #[true, true, true, true, true, true, true, true, true, true, true, true, true, true, true, true, true, true, true, true, false, false, false, false, false, false, false, false, false] rfl rfl (zf HT_.out (by kernel_rfl)) (fun _ _ _ h => h) (Or.inr ⟨by rfl, rfl⟩) ?_ ?_;rotate_left
           ·simp only [Act.put, Zs1, Zs2, Zs3, zh, zi]
            rfl
           refine zl (i := 20) (N := some 43) (v := undef) (a' := ?_) #[true, true, true, true, true, true, true, true, true, true, true, true, true, true, true, true, true, true, true, true, true, false, false, false, false, false, false, false, false] rfl rfl (zf HT_.out (by kernel_rfl)) (fun _ _ _ h => h) (Or.inr ⟨by rfl, rfl⟩) ?_ ?_;rotate_left
           ·simp only [Act.put, Zs1, Zs2, Zs3, zh, zi]
            rfl
           refine zl (i := 21) (N := some 44) (v := undef) (a' := ?_) #[true, true, true, true, true, true, true, true, true, true, true, true, true, true, true, true, true, true, true, true, true, true, false, false, false, false, false, false, false] rfl rfl (zf HT_.out (by kernel_rfl)) (fun _ _ _ h => h) (Or.inr ⟨by rfl, rfl⟩) ?_ ?_;rotate_left
           ·simp only [Act.put, Zs1, Zs2, Zs3, zh, zi]
            rfl
           refine zl (i := 22) (N := some 45) (v := undef) (a' := ?_) #[true, true, true, true, true, true, true, true, true, true, true, true, true, true, true, true, true, true, true, true, true, true, true, false, false, false, false, false, false] rfl rfl (zf HT_.out (by kernel_rfl)) (fun _ _ _ h => h) (Or.inr ⟨by rfl, rfl⟩) ?_ ?_;rotate_left
           ·simp only [Act.put, Zs1, Zs2, Zs3, zh, zi]
            rfl
           refine zl (i := 23) (N := some 46) (v := undef) (a' := ?_) #[true, true, true, true, true, true, true, true, true, true, true, true, true, true, true, true, true, true, true, true, true, true, true, true, false, false, false, false, false] rfl rfl (zf HT_.out (by kernel_rfl)) (fun _ _ _ h => h) (Or.inr ⟨by rfl, rfl⟩) ?_ ?_;rotate_left
           ·simp only [Act.put, Zs1, Zs2, Zs3, zh, zi]
            rfl
           refine zl (i := 24) (N := some 47) (v := undef) (a' := ?_) #[true, true, true, true, true, true, true, true, true, true, true, true, true, true, true, true, true, true, true, true, true, true, true, true, true, false, false, false, false] rfl rfl (zf HT_.out (by kernel_rfl)) (fun _ _ _ h => h) (Or.inr ⟨by rfl, rfl⟩) ?_ ?_;rotate_left
           ·simp only [Act.put, Zs1, Zs2, Zs3, zh, zi]
            rfl
           refine zl (i := 25) (N := some 48) (v := undef) (a' := ?_) #[true, true, true, true, true, true, true, true, true, true, true, true, true, true, true, true, true, true, true, true, true, true, true, true, true, true, false, false, false] rfl rfl (zf HT_.out (by kernel_rfl)) (fun _ _ _ h => h) (Or.inr ⟨by rfl, rfl⟩) ?_ ?_;rotate_left
           ·simp only [Act.put, Zs1, Zs2, Zs3, zh, zi]
            rfl
           refine zl (i := 26) (N := some 49) (v := undef) (a' := ?_) #[true, true, true, true, true, true, true, true, true, true, true, true, true, true, true, true, true, true, true, true, true, true, true, true, true, true, true, false, false] rfl rfl (zf HT_.out (by kernel_rfl)) (fun _ _ _ h => h) (Or.inr ⟨by rfl, rfl⟩) ?_ ?_;rotate_left
           ·simp only [Act.put, Zs1, Zs2, Zs3, zh, zi]
            rfl
           refine zl (i := 27) (N := some 50) (v := undef) (a' := ?_) #[true, true, true, true, true, true, true, true, true, true, true, true, true, true, true, true, true, true, true, true, true, true, true, true, true, true, true, true, false] rfl rfl (zf HT_.out (by kernel_rfl)) (fun _ _ _ h => h) (Or.inr ⟨by rfl, rfl⟩) ?_ ?_;rotate_left
           ·simp only [Act.put, Zs1, Zs2, Zs3, zh, zi]
            rfl
           refine zl (i := 28) (N := some 51) (v := ?_) (a' := ?_) #[true, true, true, true, true, true, true, true, true, true, true, true, true, true, true, true, true, true, true, true, true, true, true, true, true, true, true, true, true] rfl rfl (zf HT_.out (by kernel_rfl)) (fun _ _ _ h => h) (Or.inl ⟨by rfl, ?_⟩) ?_ ?_;rotate_left
           ·intro w'
            go_simp;with_reducible rfl
           rotate_left
           ·simp only [Act.put, Zs1, Zs2, Zs3, zh, zi]
            rfl
           refine zcz (zb4 HT_.out (by kernel_rfl)) ?_
           try go_wp2
           go_roundg k2
           case measure => have := HK1.out; have := HK2.out; omega
           case rel => exact ⟨(x10_2), (wrap64 (x11_2 + 1)), Zrs, Zrs, H', ⟨by have := HK1.out; have := HK2.out; omega⟩, ⟨Zq12 HO_9⟩, ⟨Zq1 HB⟩⟩
         ·rw [if_neg c13] at H
          have c13b0 : decide (t314 ≤ a2) = false := decide_eq_false c13;clear c13;have H' := za.mk H;clear H
          try go_wp2
          have n0_ := za.mk (Kd.zb5 HO_9.out);have n1_ := za.mk (zbh HB.out);clear HO_9;clear HB;have HO_9 := n0_;have HB := n1_;clear n0_ n1_;have p312 : 0 ≤ (x11_2 : Int) := of_decide_eq_true Zas;have q312 : x11_2 < (l0.length : Int) := of_decide_eq_true Zas;obtain ⟨ad312, e312, hx312_0, hx312_1, hx312_2⟩ := zck HR0.out x11_2 p312 q312;have hw312_2 := hx312_2;have hw312_1 := hx312_1;have hw312_0 := hx312_0
          cases e312
          replace hx312_0 := (HB.out.cell (World.block_lt_of_cell? w _ hx312_0)).trans hx312_0;replace hx312_1 := (HB.out.cell (World.block_lt_of_cell? w _ hx312_1)).trans hx312_1;replace hx312_2 := (HB.out.cell (World.block_lt_of_cell? w _ hx312_2)).trans hx312_2;replace p312 := eq_true p312;replace q312 := eq_true q312;have p313 : 0 ≤ (x11_2 : Int) := of_decide_eq_true Zas;have q313 : x11_2 < (l1.length : Int) := of_decide_eq_true Zas;obtain ⟨ad313, e313, hx313_0⟩ := Kd.zb6 HR1.out x11_2 p313 q313;have hw313_0 := hx313_0
          cases e313
          replace hx313_0 := (HB.out.cell (World.block_lt_of_cell? w _ hx313_0)).trans hx313_0;replace p313 := eq_true p313;replace q313 := eq_true q313;refine zci (n := 29) (S := fun w' => w'.cell? (ad312.add ((x11_2).toNat * 3)) = some (.int .i64 ((zg l0 x11_2).f0)) ∧ w'.cell? ⟨(ad312.add ((x11_2).toNat * 3)).block, (ad312.add ((x11_2).toNat * 3)).off + 1, none⟩ = some (.int .i64 ((zg l0 x11_2).f1)) ∧ w'.cell? ⟨(ad312.add ((x11_2).toNat * 3)).block, (ad312.add ((x11_2).toNat * 3)).off + 2, none⟩ = some (.int .i64 ((zg l0 x11_2).f2)) ∧ w'.cell? (ad313.add (x11_2).toNat) = some (.int .i64 (rd l1 x11_2))) (ds := []) #[false, false, false, false, false, false, false, false, false, false, false, false, false, false, false, false, false, false, false, false, false, false, false, false, false, false, false, false, false] (by kernel_rfl) rfl rfl ⟨((HB.out.cell (World.block_lt_of_cell? w _ hw312_0)).trans hw312_0), ((HB.out.cell (World.block_lt_of_cell? w _ hw312_1)).trans hw312_1), ((HB.out.cell (World.block_lt_of_cell? w _ hw312_2)).trans hw312_2), ((HB.out.cell (World.block_lt_of_cell? w _ hw313_0)).trans hw313_0)⟩ (fun hHeld => ?_); refine zbp zbb.tab7 zbb.zjd (fun HT_ HW_ => ?_);generalize wr.drew = w29 at HO_9 HB hx312_0 hx312_1 hx312_2 hx313_0 hHeld ⊢;refine zl (i := 0) (N := some 23) (v := ?_) (a' := ?_) #[true, false, false, false, false, false, false, false, false, false, false, false, false, false, false, false, false, false, false, false, false, false, false, false, false, false, false, false, false] rfl rfl (zf HT_.out (by kernel_rfl)) (fun _ _ _ h => h) (Or.inl ⟨by rfl, ?_⟩) ?_ ?_;rotate_left
          ·intro w'
           go_simp;with_reducible rfl
          rotate_left
          ·simp only [Act.put, Zs1, Zs2, Zs3, zh, zi]
           rfl
          refine zl (i := 1) (N := some 24) (v := ?_) (a' := ?_) #[true, true, false, false, false, false, false, false, false, false, false, false, false, false, false, false, false, false, false, false, false, false, false, false, false, false, false, false, false] rfl rfl (zf HT_.out (by kernel_rfl)) (fun _ _ _ h => h) (Or.inl ⟨by rfl, ?_⟩) ?_ ?_;rotate_left
          ·intro w'
           go_simp;with_reducible rfl
          rotate_left
          ·simp only [Act.put, Zs1, Zs2, Zs3, zh, zi]
           rfl
          refine zl (i := 2) (N := some 25) (v := ?_) (a' := ?_) #[true, true, true, false, false, false, false, false, false, false, false, false, false, false, false, false, false, false, false, false, false, false, false, false, false, false, false, false, false] rfl rfl (zf HT_.out (by kernel_rfl)) (fun _ _ _ h => h) (Or.inl ⟨by rfl, ?_⟩) ?_ ?_;rotate_left
          ·intro w'
           go_simp;with_reducible rfl
          rotate_left
          ·simp only [Act.put, Zs1, Zs2, Zs3, zh, zi]
           rfl
          refine zl (i := 4) (N := some 27) (v := ?_) (a' := ?_) #[true, true, true, false, true, false, false, false, false, false, false, false, false, false, false, false, false, false, false, false, false, false, false, false, false, false, false, false, false] rfl rfl (zf HT_.out (by kernel_rfl)) (fun _ _ _ h => h) (Or.inl ⟨by rfl, ?_⟩) ?_ ?_;rotate_left
          ·intro w'
           go_simp;with_reducible rfl
          rotate_left
          ·simp only [Act.put, Zs1, Zs2, Zs3, zh, zi]
           rfl
          refine zl (i := 5) (N := some 28) (v := ?_) (a' := ?_) #[true, true, true, false, true, true, false, false, false, false, false, false, false, false, false, false, false, false, false, false, false, false, false, false, false, false, false, false, false] rfl rfl (zf HT_.out (by kernel_rfl)) (fun _ _ _ h => h) (Or.inl ⟨by rfl, ?_⟩) ?_ ?_;rotate_left
          ·intro w'
           go_simp;with_reducible rfl
          rotate_left
          ·simp only [Act.put, Zs1, Zs2, Zs3, zh, zi]
           rfl
          refine zl (i := 6) (N := some 29) (v := ?_) (a' := ?_) #[true, true, true, false, true, true, true, false, false, false, false, false, false, false, false, false, false, false, false, false, false, false, false, false, false, false, false, false, false] rfl rfl (zf HT_.out (by kernel_rfl)) (fun _ _ _ h => h) (Or.inl ⟨by rfl, ?_⟩) ?_ ?_;rotate_left
          ·intro w'
           go_simp;with_reducible rfl
          rotate_left
          ·simp only [Act.put, Zs1, Zs2, Zs3, zh, zi]
           rfl
          refine zl (i := 10) (N := some 33) (v := ?_) (a' := ?_) #[true, true, true, false, true, true, true, false, false, false, true, false, false, false, false, false, false, false, false, false, false, false, false, false, false, false, false, false, false] rfl rfl (zf HT_.out (by kernel_rfl)) (fun _ _ _ h => h) (Or.inl ⟨by rfl, ?_⟩) ?_ ?_;rotate_left
          ·intro w'
           go_simp;with_reducible rfl
          rotate_left
          ·simp only [Act.put, Zs1, Zs2, Zs3, zh, zi]
           rfl
          refine zbw (i := 3) (N := some 26) (v := ?_) (a' := ?_) #[true, true, true, true, true, true, true, false, false, false, true, false, false, false, false, false, false, false, false, false, false, false, false, false, false, false, false, false, false] rfl rfl (z8 HT_.out HW_.out (by kernel_rfl)) (fun _ _ _ h => h) (Or.inl ⟨by rfl, ?_⟩) hHeld ?_ ?_;rotate_left
          ·rintro w' ⟨s0, s1, s2, s3⟩
           go_simp;with_reducible rfl
          rotate_left
          ·simp only [Act.put, Zs1, Zs2, Zs3, zh, zi]
           rfl
          refine zbw (i := 7) (N := some 30) (v := ?_) (a' := ?_) #[true, true, true, true, true, true, true, true, false, false, true, false, false, false, false, false, false, false, false, false, false, false, false, false, false, false, false, false, false] rfl rfl (z8 HT_.out HW_.out (by kernel_rfl)) (fun _ _ _ h => h) (Or.inl ⟨by rfl, ?_⟩) hHeld ?_ ?_;rotate_left
          ·rintro w' ⟨s0, s1, s2, s3⟩
           go_simp;with_reducible rfl
          rotate_left
          ·simp only [Act.put, Zs1, Zs2, Zs3, zh, zi]
           rfl
          refine one_ (i := 8) (N := some 31) #[true, true, true, true, true, true, true, true, true, false, true, false, false, false, false, false, false, false, false, false, false, false, false, false, false, false, false, false, false] rfl rfl (zbz HT_.out (by kernel_rfl)) (by decide) (fun K hK => ?_);refine zcp Try.func64 (by kernel_rfl) rfl #[.agg #[.int .i64 ((zg l0 x11_2).f0), .int .i64 ((zg l0 x11_2).f1), .int .i64 ((zg l0 x11_2).f2)], .int .i64 (rd l1 x11_2)] (by rfl) rfl rfl Zmt ?_;with_reducible refine (zbf.calls ((zg l0 x11_2).f0) ((zg l0 x11_2).f1) ((zg l0 x11_2).f2) (rd l1 x11_2) t314 t315 _ A12.out).mono ?_
          rintro e w30 ⟨rfl, hb⟩;refine ⟨_, rfl, ?_⟩;have n0_ := za.mk (Kd.zcy (Zq12 HO_9) hb);have n1_ := za.mk (zn (Zq1 HB) hb);clear HO_9;clear HB;have HO_9 := n0_;have HB := n1_;clear n0_ n1_;(try clear hb);(try clear hb2);(try clear hk);(try clear hi);refine hK.out _ _ ⟨((HB.out.cell (World.block_lt_of_cell? w _ hw312_0)).trans hw312_0), ((HB.out.cell (World.block_lt_of_cell? w _ hw312_1)).trans hw312_1), ((HB.out.cell (World.block_lt_of_cell? w _ hw312_2)).trans hw312_2), ((HB.out.cell (World.block_lt_of_cell? w _ hw313_0)).trans hw313_0)⟩ (fun hHeld => ?_);clear hK K;refine zcc (a' := ?_) ?_ ?_;rotate_left
          ·show Act.put _ (some 31) _ = _
           simp only [Act.put, Zs1, Zs2, Zs3, zh, zi];rfl
          refine zl (i := 9) (N := some 32) (v := ?_) (a' := ?_) #[true, true, true, true, true, true, true, true, true, true, true, false, false, false, false, false, false, false, false, false, false, false, false, false, false, false, false, false, false] rfl rfl (zf HT_.out (by kernel_rfl)) (fun _ _ _ h => h) (Or.inl ⟨by rfl, ?_⟩) ?_ ?_;rotate_left
          ·intro w'
           go_simp;with_reducible rfl
          rotate_left
          ·simp only [Act.put, Zs1, Zs2, Zs3, zh, zi]
           rfl
          refine zl (i := 11) (N := some 34) (v := ?_) (a' := ?_) #[true, true, true, true, true, true, true, true, true, true, true, true, false, false, false, false, false, false, false, false, false, false, false, false, false, false, false, false, false] rfl rfl (zf HT_.out (by kernel_rfl)) (fun _ _ _ h => h) (Or.inl ⟨by rfl, ?_⟩) ?_ ?_;rotate_left
          ·intro w'
           go_simp;with_reducible rfl
          rotate_left
          ·simp only [Act.put, Zs1, Zs2, Zs3, zh, zi]
           rfl
          refine zl (i := 12) (N := some 35) (v := ?_) (a' := ?_) #[true, true, true, true, true, true, true, true, true, true, true, true, true, false, false, false, false, false, false, false, false, false, false, false, false, false, false, false, false] rfl rfl (zf HT_.out (by kernel_rfl)) (fun _ _ _ h => h) (Or.inl ⟨by rfl, ?_⟩) ?_ ?_;rotate_left
          ·intro w'
           go_simp;with_reducible rfl
          rotate_left
          ·simp only [Act.put, Zs1, Zs2, Zs3, zh, zi]
           rfl
          refine zl (i := 13) (N := some 36) (v := undef) (a' := ?_) #[true, true, true, true, true, true, true, true, true, true, true, true, true, true, false, false, false, false, false, false, false, false, false, false, false, false, false, false, false] rfl rfl (zf HT_.out (by kernel_rfl)) (fun _ _ _ h => h) (Or.inr ⟨by rfl, rfl⟩) ?_ ?_;rotate_left
          ·simp only [Act.put, Zs1, Zs2, Zs3, zh, zi]
           rfl
          refine zl (i := 14) (N := some 37) (v := undef) (a' := ?_) #[true, true, true, true, true, true, true, true, true, true, true, true, true, true, true, false, false, false, false, false, false, false, false, false, false, false, false, false, false] rfl rfl (zf HT_.out (by kernel_rfl)) (fun _ _ _ h => h) (Or.inr ⟨by rfl, rfl⟩) ?_ ?_;rotate_left
          ·simp only [Act.put, Zs1, Zs2, Zs3, zh, zi]
           rfl
          refine zl (i := 15) (N := some 38) (v := undef) (a' := ?_) #[true, true, true, true, true, true, true, true, true, true, true, true, true, true, true, true, false, false, false, false, false, false, false, false, false, false, false, false, false] rfl rfl (zf HT_.out (by kernel_rfl)) (fun _ _ _ h => h) (Or.inr ⟨by rfl, rfl⟩) ?_ ?_;rotate_left
          ·simp only [Act.put, Zs1, Zs2, Zs3, zh, zi]
           rfl
          refine zl (i := 16) (N := some 39) (v := undef) (a' := ?_) #[true, true, true, true, true, true, true, true, true, true, true, true, true, true, true, true, true, false, false, false, false, false, false, false, false, false, false, false, false] rfl rfl (zf HT_.out (by kernel_rfl)) (fun _ _ _ h => h) (Or.inr ⟨by rfl, rfl⟩) ?_ ?_;rotate_left
          ·simp only [Act.put, Zs1, Zs2, Zs3, zh, zi]
           rfl
          refine zl (i := 17) (N := some 40) (v := ?_) (a' := ?_) #[true, true, true, true, true, true, true, true, true, true, true, true, true, true, true, true, true, true, false, false, false, false, false, false, false, false, false, false, false] rfl rfl (zf HT_.out (by kernel_rfl)) (fun _ _ _ h => h) (Or.inl ⟨by rfl, ?_⟩) ?_ ?_;rotate_left
          ·intro w'
           go_simp;with_reducible rfl
          rotate_left
          ·simp only [Act.put, Zs1, Zs2, Zs3, zh, zi]
           rfl
          refine zl (i := 18) (N := some 41) (v := ?_) (a' := ?_) #[true, true, true, true, true, true, true, true, true, true, true, true, true, true, true, true, true, true, true, false, false, false, false, false, false, false, false, false, false] rfl rfl (zf HT_.out (by kernel_rfl)) (fun _ _ _ h => h) (Or.inl ⟨by rfl, ?_⟩) ?_ ?_;rotate_left
          ·intro w'
           go_simp;with_reducible rfl
          rotate_left
          ·simp only [Act.put, Zs1, Zs2, Zs3, zh, zi]
           rfl
          refine zl (i := 19) (N := some 42) (v := undef) (a' := ?_) #[true, true, true, true, true, true, true, true, true, true, true, true, true, true, true, true, true, true, true, true, false, false, false, false, false, false, false, false, false] rfl rfl (zf HT_.out (by kernel_rfl)) (fun _ _ _ h => h) (Or.inr ⟨by rfl, rfl⟩) ?_ ?_;rotate_left
          ·simp only [Act.put, Zs1, Zs2, Zs3, zh, zi]
           rfl
          refine zl (i := 20) (N := some 43) (v := undef) (a' := ?_) #[true, true, true, true, true, true, true, true, true, true, true, true, true, true, true, true, true, true, true, true, true, false, false, false, false, false, false, false, false] rfl rfl (zf HT_.out (by kernel_rfl)) (fun _ _ _ h => h) (Or.inr ⟨by rfl, rfl⟩) ?_ ?_;rotate_left
          ·simp only [Act.put, Zs1, Zs2, Zs3, zh, zi]
           rfl
          refine zl (i := 21) (N := some 44) (v := undef) (a' := ?_) #[true, true, true, true, true, true, true, true, true, true, true, true, true, true, true, true, true, true, true, true, true, true, false, false, false, false, false, false, false] rfl rfl (zf HT_.out (by kernel_rfl)) (fun _ _ _ h => h) (Or.inr ⟨by rfl, rfl⟩) ?_ ?_;rotate_left
          ·simp only [Act.put, Zs1, Zs2, Zs3, zh, zi]
           rfl
          refine zl (i := 22) (N := some 45) (v := undef) (a' := ?_) #[true, true, true, true, true, true, true, true, true, true, true, true, true, true, true, true, true, true, true, true, true, true, true, false, false, false, false, false, false] rfl rfl (zf HT_.out (by kernel_rfl)) (fun _ _ _ h => h) (Or.inr ⟨by rfl, rfl⟩) ?_ ?_;rotate_left
          ·simp only [Act.put, Zs1, Zs2, Zs3, zh, zi]
           rfl
          refine zl (i := 23) (N := some 46) (v := undef) (a' := ?_) #[true, true, true, true, true, true, true, true, true, true, true, true, true, true, true, true, true, true, true, true, true, true, true, true, false, false, false, false, false] rfl rfl (zf HT_.out (by kernel_rfl)) (fun _ _ _ h => h) (Or.inr ⟨by rfl, rfl⟩) ?_ ?_;rotate_left
          ·simp only [Act.put, Zs1, Zs2, Zs3, zh, zi]
           rfl
          refine zl (i := 24) (N := some 47) (v := undef) (a' := ?_) #[true, true, true, true, true, true, true, true, true, true, true, true, true, true, true, true, true, true, true, true, true, true, true, true, true, false, false, false, false] rfl rfl (zf HT_.out (by kernel_rfl)) (fun _ _ _ h => h) (Or.inr ⟨by rfl, rfl⟩) ?_ ?_;rotate_left
          ·simp only [Act.put, Zs1, Zs2, Zs3, zh, zi]
           rfl
          refine zl (i := 25) (N := some 48) (v := undef) (a' := ?_) #[true, true, true, true, true, true, true, true, true, true, true, true, true, true, true, true, true, true, true, true, true, true, true, true, true, true, false, false, false] rfl rfl (zf HT_.out (by kernel_rfl)) (fun _ _ _ h => h) (Or.inr ⟨by rfl, rfl⟩) ?_ ?_;rotate_left
          ·simp only [Act.put, Zs1, Zs2, Zs3, zh, zi]
           rfl
          refine zl (i := 26) (N := some 49) (v := undef) (a' := ?_) #[true, true, true, true, true, true, true, true, true, true, true, true, true, true, true, true, true, true, true, true, true, true, true, true, true, true, true, false, false] rfl rfl (zf HT_.out (by kernel_rfl)) (fun _ _ _ h => h) (Or.inr ⟨by rfl, rfl⟩) ?_ ?_;rotate_left
          ·simp only [Act.put, Zs1, Zs2, Zs3, zh, zi]
           rfl
          refine zl (i := 27) (N := some 50) (v := undef) (a' := ?_) #[true, true, true, true, true, true, true, true, true, true, true, true, true, true, true, true, true, true, true, true, true, true, true, true, true, true, true, true, false] rfl rfl (zf HT_.out (by kernel_rfl)) (fun _ _ _ h => h) (Or.inr ⟨by rfl, rfl⟩) ?_ ?_;rotate_left
          ·simp only [Act.put, Zs1, Zs2, Zs3, zh, zi]
           rfl
          refine zl (i := 28) (N := some 51) (v := ?_) (a' := ?_) #[true, true, true, true, true, true, true, true, true, true, true, true, true, true, true, true, true, true, true, true, true, true, true, true, true, true, true, true, true] rfl rfl (zf HT_.out (by kernel_rfl)) (fun _ _ _ h => h) (Or.inl ⟨by rfl, ?_⟩) ?_ ?_;rotate_left
          ·intro w'
           go_simp;with_reducible rfl
          rotate_left
          ·simp only [Act.put, Zs1, Zs2, Zs3, zh, zi]
           rfl
          refine zcz (zb4 HT_.out (by kernel_rfl)) ?_
          try go_wp2
          go_roundg k2
          case measure => have := HK1.out; have := HK2.out; omega
          case rel => exact ⟨(x10_2), (wrap64 (x11_2 + 1)), Zrs, Zrs, H', ⟨by have := HK1.out; have := HK2.out; omega⟩, ⟨Zq12 HO_9⟩, ⟨Zq1 HB⟩⟩
        ·rw [if_neg c11] at H
         exact absurd H (by simp)
       ·rw [if_neg c10] at H
        exact absurd H (by simp)
      ·rw [if_neg c9] at H
       have c9b0 : decide (x11_2 < (l0.length : Int)) = false := decide_eq_false c9;clear c9;by_cases c31 : x10_2 < 0
       ·rw [if_pos c31] at H
        have c31b0 : decide (x10_2 < 0) = true := decide_eq_true c31;clear c31;obtain rfl := Option.some.inj H;go_wp2;go_ret;exact ⟨_, by first | rfl | (simp [zq, zt] <;> rfl) | (simp [*, zq, zt] <;> rfl), Zq12 HO_9, Zq1 HB⟩
       ·rw [if_neg c31] at H
        have c31b0 : decide (x10_2 < 0) = false := decide_eq_false c31;clear c31;by_cases c32 : x9_1.length < 17592186044416
        ·rw [if_pos c32] at H
         have LMc32 := za.mk c32;clear c32;obtain ⟨y309, hy309⟩ : ∃ y_ : List Int, y_ = (x9_1 ++ [x10_2]) := ⟨_, rfl⟩;replace H : (zbb.l0 k2 l0 l1 a2 a3 y309) = some r := by first | (rw [hy309]; with_reducible exact H) | (have H2_ := (Option.bind_some _ _).symm.trans H; rw [hy309]; with_reducible exact H2_) | (have H2_ := (Option.bind_some _ _).symm.trans H; with_reducible exact H2_) | with_reducible exact H | (rw [hy309]; exact H) | exact H
         have Ny309 := za.mk hy309;clear hy309;have H' := za.mk H;clear H;go_wp2_with (first | ((with_reducible refine zda (b := .append) (xs := #[.tmp 56, .tmp 58]) rfl ?_); at_builtin; refine Kd.zer (Kd.int .i64) (w0 := w) w.heap.size rfl (.tmp 56) (.tmp 58) 33 3 (.int .i64 0) 8 rfl Try.underlying33 info3 rfl (by decide) (by omega) (.slice Ao8 x9_1.length co8) x9_1 x10_2 [.int .i64 x10_2] (fun _ => True) (fun _ => False) rfl rfl ?aP (fun _ hk => hk.elim) ?aF ?aO ?aB ?aS ?aL ?_; (case aP => exact rfl); (case aB => exact (Zq1 HB)); (case aF => exact (fun _ _ => trivial)); (case aO => exact (Zq12 HO_9)); (case aS => exact (zba (Zq1 HB))); (case aL => have := LMc32.out; omega); intro v310 w33 ho hb hg hat; rw [← Ny309.out] at ho; have n0_ := za.mk (hb); have n1_ := za.mk (ho); clear HB; clear HO_9; have HB := n0_; have HO311 := n1_; clear n0_ n1_; clear ho hb hg hat));go_roundg k2
         case measure => have := HK1.out; have := HK2.out; omega
         case rel => exact ⟨(y309), H', ⟨by have := HK1.out; have := HK2.out; omega⟩, ⟨Zq12 HO311⟩, ⟨Zq1 HB⟩⟩
        ·rw [if_neg c32] at H
         exact absurd H (by simp)
   ·rw [if_neg c7] at H
    have c7b0 : decide ((x9_1.length : Int) < a3) = false := decide_eq_false c7;clear c7;obtain rfl := Option.some.inj H;obtain ⟨Ao34, co34, eo34⟩ := Kd.zct HO_9.out;subst eo34;go_wp2;go_ret;exact ⟨_, by first | rfl | (simp [zq, zt] <;> rfl) | (simp [*, zq, zt] <;> rfl), Zq12 HO_9, Zq1 HB⟩
theorem Zq20 {X0 P : Prop} (x0 : za X0) (h : X0 → P := by intro x0; (with_reducible repeat (first | apply Kd.zf3 | apply Kd.zf4 | apply Kd.zfn)); exact x0) : P := h x0.out
mutual
def zu.j0 : Nat → List (S35) → Int → List (List Int) → Bool → Option ((List (List Int)))
 | 0, _, _, _, _ => none
 | k + 1, x0, x1, x5, x19 => if x19 = true then (some x5) else (zu.l0 k x0 x1 x5 0)
def zu.l0 : Nat → List (S35) → Int → List (List Int) → Int → Option ((List (List Int)))
 | 0, _, _, _, _ => none
 | k + 1, x0, x1, x5, x6 => if x6 < (x0.length : Int) then (if 0 ≤ x6 then (if ((zg x0 x6).f1) = ((zg x0 x6).f2) then (zu.l0 k x0 x1 x5 (wrap64 (x6 + 1))) else (some x5)) else (none)) else (if 0 ≤ (x0.length : Int) then (if ((x0.length : Int) : Int).toNat ≤ 35184372088832 then (zu.l1 k x0 x1 x5 (List.replicate ((x0.length : Int) : Int).toNat 0) 0) else (none)) else (none))
def zu.l1 : Nat → List (S35) → Int → List (List Int) → List Int → Int → Option ((List (List Int)))
 | 0, _, _, _, _, _ => none
 | k + 1, x0, x1, x5, x7, x8 => if x8 < 120 then ((zbb.f k x0 x7 x8 x1).bind fun t328 => (zu.l2 k x0 x1 x5 x7 x8 t328 0)) else (some x5)
def zu.l2 : Nat → List (S35) → Int → List (List Int) → List Int → Int → List Int → Int → Option ((List (List Int)))
 | 0, _, _, _, _, _, _, _ => none
 | k + 1, x0, x1, x5, x7, x8, x9, x10 => if x10 < (x9.length : Int) then (if 0 ≤ x10 then (if 0 ≤ (rd x9 x10) then (if (rd x9 x10) < (x7.length : Int) then (zu.l2 k x0 x1 x5 (x7.set ((rd x9 x10) : Int).toNat (wrap64 ((rd x7 (rd x9 x10)) + 1))) x8 x9 (wrap64 (x10 + 1))) else (none)) else (none)) else (none)) else (if x5.length < 5864062014805 then (zu.l1 k x0 x1 (x5 ++ [x9]) x7 (wrap64 (x8 + 1))) else (none))
end
def zu.f (k : Nat) (l0 : List (S35)) (a1 : Int) : Option ((List (List Int))) := (some (([] : List (List Int)) : List (List Int))).bind fun y318 => ((zb3.f k l0).bind fun t321 => (if t321 = true then ((zce.f a1 1 5).bind fun t322 => (zu.j0 k l0 a1 y318 (!t322))) else (zu.j0 k l0 a1 y318 true)))
def zu.T7 : Bool × List (List Nat × List Nat) := (true, [([], []), ([], []), ([0, 1], [0, 1]), ([2], [2]), ([3], [3]), ([], []), ([], []), ([5, 6], [5, 6]), ([7], [7]), ([8], [8]), ([4, 9], [4, 9])])
def zu.B7 : List Nat := [0, 0, 3, 7, 15, 0, 0, 96, 224, 480, 1023]
theorem zu.tab7 : rtab .any (opsOf Try.f12 7) = zu.T7 := by kernel_rfl
theorem zu.zjd : zcs zu.T7.2 zu.B7 = true := by kernel_rfl
def zu.T17 : Bool × List (List Nat × List Nat) := (true, [([], []), ([], []), ([], []), ([1, 2], [1, 2]), ([3], [3]), ([], []), ([], []), ([], []), ([6, 7], [6, 7]), ([8], [8]), ([5, 9], [5, 9]), ([10], [10]), ([11], [11]), ([0, 4, 0, 1, 2, 3, 4, 5, 6, 7, 8, 9, 10, 11, 12], [0, 4]), ([13, 12, 0, 1, 2, 3, 4, 5, 6, 7, 8, 9, 10, 11, 12], [12, 13])])
def zu.B17 : List Nat := [0, 0, 0, 6, 14, 0, 0, 0, 192, 448, 992, 2016, 4064, 8191, 16383]
theorem zu.tab17 : rtab .any (opsOf Try.f12 17) = zu.T17 := by kernel_rfl
theorem zu.bits17 : zcs zu.T17.2 zu.B17 = true := by kernel_rfl
set_option maxHeartbeats 8000000 in
theorem zu.calls (k : Nat) (A0 : Option Addr) (c0 : Nat) (l0 : List (S35)) (a1 : Int) (r : List (List Int)) (w : World) (hr0 : Kd.C k35 w A0 l0.length l0) (hc0 : l0.length ≤ c0) (h : zu.f k l0 a1 = some r) :
  Calls Try.prog 12 #[.slice A0 l0.length c0, .int .i64 a1] w fun e w' => ∃ v0_ : Value, e = .returned (v0_) ∧ Kd.S (Kd.slice 3 (Kd.int .i64)) 33 w' w.heap.size (fun _ => True) v0_ r ∧ Below w.heap.size w w' := by
 have HR0 := za.mk hr0
 have HC0 := za.mk hc0
 clear hr0 hc0
 have HB := za.mk (Below.refl w.heap.size w)
 have H : ((some (([] : List (List Int)) : List (List Int))).bind fun y318 => ((zb3.f k l0).bind fun t321 => (if t321 = true then ((zce.f a1 1 5).bind fun t322 => (zu.j0 k l0 a1 y318 (!t322))) else (zu.j0 k l0 a1 y318 true)))) = some r := h
 clear h
 obtain ⟨y318, hy318⟩ : ∃ y_ : List (List Int), y_ = (([] : List (List Int))) := ⟨_, rfl⟩
 replace H : ((zb3.f k l0).bind fun t321 => (if t321 = true then ((zce.f a1 1 5).bind fun t322 => (zu.j0 k l0 a1 y318 (!t322))) else (zu.j0 k l0 a1 y318 true))) = some r := by first | (rw [hy318]; with_reducible exact H) | (have H2_ := (Option.bind_some _ _).symm.trans H; rw [hy318]; with_reducible exact H2_) | (have H2_ := (Option.bind_some _ _).symm.trans H; with_reducible exact H2_) | with_reducible exact H | (rw [hy318]; exact H) | exact H
 have Ny318 := za.mk hy318
 clear hy318
 have HC3 := za.mk H
 clear H
 go_enter Try.func12, Try.ntmps12
 go_upto_region 2 with (first | ((with_reducible refine zbx (N := 11) rfl ?_); refine Kd.S_lit (Kd.slice 3 (Kd.int .i64)) _ 33 ?hg (N := 11) ?hd (xs := ([] : List (List Int))) (inner := []) (ok := fun _ => True) (okp := fun _ => True) ?hr ?hp (fun _ hk => hk) trivial (Below.refl _ _) (Nat.le_refl _) (by simp) ?_; (case hd => rfl); (case hg => rfl); (case hr => first | (go_simp; done) | (go_simp; rfl)); (case hp => exact (Reps.none _ _)); intro v319 w4 ho5 hb hg_ hnew_; clear hg_ hnew_; (first | rw [← Ny318.out] at ho5 | (simp only [Int.reduceToNat] at ho5; rw [← Ny318.out] at ho5)); have n0_ := za.mk (Kd.S_lower ho5 (zba (Zq1 HB))); have n1_ := za.mk (zn (Zq1 HB) hb); clear HB; have HO320 := n0_; have HB := n1_; clear n0_ n1_; clear hb ho5))
 (try simp only [Act.put, Zs1, Zs2, Zs3])
 go_cut [19] (fun v19 wc => ∃ (kq : Nat) (x19_2 : Bool), v19 = .bool x19_2 ∧ za (zu.j0 kq l0 a1 y318 x19_2 = some r) ∧ za (kq ≤ k) ∧ za (Kd.S (Kd.slice 3 (Kd.int .i64)) 33 wc w.heap.size (fun _ => True) v319 y318) ∧ za (Below w.heap.size w wc))
 case first =>
  have H := HC3.out;clear HC3;replace H := Option.bind_eq_some_iff.mp H;obtain ⟨t321, A60, H⟩ := H;replace H : (if t321 = true then ((zce.f a1 1 5).bind fun t322 => (zu.j0 k l0 a1 y318 (!t322))) else (zu.j0 k l0 a1 y318 true)) = some r := H;have A6 := za.mk A60;clear A60;by_cases c7 : t321 = true
  ·subst c7
   have H1 : ((zce.f a1 1 5).bind fun t322 => (zu.j0 k l0 a1 y318 (!t322))) = some r := by rw [if_pos rfl] at H; exact H
   clear H;have H := H1;clear H1;replace H := Option.bind_eq_some_iff.mp H;obtain ⟨t322, A80, H⟩ := H;replace H : (zu.j0 k l0 a1 y318 (!t322)) = some r := H;have A8 := za.mk A80;clear A80;have H' := za.mk H;clear H;go_wp2_with (first | ((with_reducible refine zw (f := 36) rfl ?_); refine zbv (some 13) rfl rfl Try.func36 (by kernel_rfl) rfl #[.slice A0 l0.length c0] rfl Zmt ?_; (with_reducible refine (zb3.calls k _ _ l0 true _ ?side1 ?side2 A6.out).mono ?_); (case side1 => exact Zq18 (Kd.zc9 HR0.out HB.out)); (case side2 => exact HC0.out); rintro e w9 ⟨rfl, hb⟩; refine ⟨_, rfl, ?_⟩; have n0_ := za.mk (Kd.zgv (Zq20 HO320) hb); have n1_ := za.mk (zn (Zq1 HB) hb); clear HO320; clear HB; have HO320 := n0_; have HB := n1_; clear n0_ n1_; (try clear hb); (try clear hb2); (try clear hk); (try clear hi)) | (go_at_call 37; (with_reducible refine (zce.calls a1 1 5 t322 _ A8.out).mono ?_); rintro e w' ⟨rfl, ⟨nd, rfl⟩⟩));go_meet
   case rel => exact ⟨_, (!t322), Zrs, H', ⟨by first | omega | exact Nat.le_refl _⟩, ⟨Zq20 HO320⟩, ⟨Zq1 HB⟩⟩
  ·replace c7 := Bool.eq_false_iff.mpr c7
   subst c7;have H1 : (zu.j0 k l0 a1 y318 true) = some r := by rw [if_neg (show ¬ (false = true) by decide)] at H; exact H
   clear H;have H := H1;clear H1;have H' := za.mk H;clear H;go_wp2_with (first | ((with_reducible refine zw (f := 36) rfl ?_); refine zbv (some 13) rfl rfl Try.func36 (by kernel_rfl) rfl #[.slice A0 l0.length c0] rfl Zmt ?_; (with_reducible refine (zb3.calls k _ _ l0 false _ ?side1 ?side2 A6.out).mono ?_); (case side1 => exact Zq18 (Kd.zc9 HR0.out HB.out)); (case side2 => exact HC0.out); rintro e w10 ⟨rfl, hb⟩; refine ⟨_, rfl, ?_⟩; have n0_ := za.mk (Kd.zgv (Zq20 HO320) hb); have n1_ := za.mk (zn (Zq1 HB) hb); clear HO320; clear HB; have HO320 := n0_; have HB := n1_; clear n0_ n1_; (try clear hb); (try clear hb2); (try clear hk); (try clear hi)));go_meet
   case rel => exact ⟨_, (true), Zrs, H', ⟨by first | omega | exact Nat.le_refl _⟩, ⟨Zq20 HO320⟩, ⟨Zq1 HB⟩⟩
 case rest =>
  clear HC3
  (try clear c1);(try clear p2);(try clear c3);(try clear c7)
  obtain ⟨kq, x19_2, rfl, HA, HJ2, HO_5, HB⟩ := hcut
  cases kq with
  | zero => exact absurd HA.out (by simp [zu.j0])
  | succ kj2 =>
   have H := HA.out;clear HA;simp only [zu.j0] at H;by_cases c11 : x19_2 = true
   ·subst c11
    have H1 : (some y318) = some r := by rw [if_pos rfl] at H; exact H
    clear H;have H := H1;clear H1;obtain rfl := Option.some.inj H;go_wp2;go_ret;exact ⟨_, by first | rfl | (simp [zq, zt] <;> rfl) | (simp [*, zq, zt] <;> rfl), Zq20 HO_5, Zq1 HB⟩
   ·replace c11 := Bool.eq_false_iff.mpr c11
    subst c11;have H1 : (zu.l0 kj2 l0 a1 y318 0) = some r := by rw [if_neg (show ¬ (false = true) by decide)] at H; exact H
    clear H;have H := H1;clear H1;have H' := za.mk H;clear H;go_wp2
    go_loopg [6] kj2 (fun kq v6 w' => ∃ (x6_2 : Int), v6 = .int .i64 x6_2 ∧ za (zu.l0 kq l0 a1 y318 x6_2 = some r) ∧ za (kq ≤ kj2) ∧ za (Kd.S (Kd.slice 3 (Kd.int .i64)) 33 w' w.heap.size (fun _ => True) v319 y318) ∧ za (Below w.heap.size w w'))
    case atStart => exact ⟨(0), Zrs, H', ⟨Nat.le_refl _⟩, ⟨Zq20 HO_5⟩, ⟨Zq1 HB⟩⟩
    case round =>
     clear H'
     (try clear c1);(try clear p2);(try clear c3);(try clear c7);(try clear c11);(try clear p2)
     obtain ⟨x6_2, rfl, HA, HK2, HO_5, HB⟩ := hrel
     cases gk with
     | zero => exact absurd HA.out (by simp [zu.l0])
     | succ k2 =>
      have H := HA.out;clear HA;simp only [zu.l0] at H;by_cases c12 : x6_2 < (l0.length : Int)
      ·rw [if_pos c12] at H
       have c12b0 : decide (x6_2 < (l0.length : Int)) = true := decide_eq_true c12;clear c12;by_cases c13 : 0 ≤ x6_2
       ·rw [if_pos c13] at H
        have c13b0 : decide (0 ≤ x6_2) = true := decide_eq_true c13;clear c13;by_cases c14 : ((zg l0 x6_2).f1) = ((zg l0 x6_2).f2)
        ·rw [if_pos c14] at H
         have c14b0 : (((zg l0 x6_2).f1) == ((zg l0 x6_2).f2)) = true := beq_iff_eq.mpr c14;have c14b1 : (((zg l0 x6_2).f1) != ((zg l0 x6_2).f2)) = false := bne_eq_false_iff_eq.mpr c14;clear c14;have H' := za.mk H;clear H
         try go_wp2
         have n0_ := za.mk (Kd.zfn HO_5.out);have n1_ := za.mk (zbh HB.out);clear HO_5;clear HB;have HO_5 := n0_;have HB := n1_;clear n0_ n1_;have p323 : 0 ≤ (x6_2 : Int) := of_decide_eq_true Zas;have q323 : x6_2 < (l0.length : Int) := of_decide_eq_true Zas;obtain ⟨ad323, e323, hx323_0, hx323_1, hx323_2⟩ := zck HR0.out x6_2 p323 q323;have hw323_2 := hx323_2;have hw323_1 := hx323_1;have hw323_0 := hx323_0
         cases e323
         replace hx323_0 := (HB.out.cell (World.block_lt_of_cell? w _ hx323_0)).trans hx323_0;replace hx323_1 := (HB.out.cell (World.block_lt_of_cell? w _ hx323_1)).trans hx323_1;replace hx323_2 := (HB.out.cell (World.block_lt_of_cell? w _ hx323_2)).trans hx323_2;replace p323 := eq_true p323;replace q323 := eq_true q323;have p324 : 0 ≤ (x6_2 : Int) := of_decide_eq_true Zas;have q324 : x6_2 < (l0.length : Int) := of_decide_eq_true Zas;obtain ⟨ad324, e324, hx324_0, hx324_1, hx324_2⟩ := zck HR0.out x6_2 p324 q324;have hw324_2 := hx324_2;have hw324_1 := hx324_1;have hw324_0 := hx324_0;obtain rfl : ad323 = ad324 := (by injection e324);replace hx324_0 := (HB.out.cell (World.block_lt_of_cell? w _ hx324_0)).trans hx324_0;replace hx324_1 := (HB.out.cell (World.block_lt_of_cell? w _ hx324_1)).trans hx324_1;replace hx324_2 := (HB.out.cell (World.block_lt_of_cell? w _ hx324_2)).trans hx324_2;replace p324 := eq_true p324;replace q324 := eq_true q324;refine zci (n := 11) (S := fun w' => w'.cell? (ad323.add ((x6_2).toNat * 3)) = some (.int .i64 ((zg l0 x6_2).f0)) ∧ w'.cell? ⟨(ad323.add ((x6_2).toNat * 3)).block, (ad323.add ((x6_2).toNat * 3)).off + 1, none⟩ = some (.int .i64 ((zg l0 x6_2).f1)) ∧ w'.cell? ⟨(ad323.add ((x6_2).toNat * 3)).block, (ad323.add ((x6_2).toNat * 3)).off + 2, none⟩ = some (.int .i64 ((zg l0 x6_2).f2)) ∧ w'.cell? (ad323.add ((x6_2).toNat * 3)) = some (.int .i64 ((zg l0 x6_2).f0)) ∧ w'.cell? ⟨(ad323.add ((x6_2).toNat * 3)).block, (ad323.add ((x6_2).toNat * 3)).off + 1, none⟩ = some (.int .i64 ((zg l0 x6_2).f1)) ∧ w'.cell? ⟨(ad323.add ((x6_2).toNat * 3)).block, (ad323.add ((x6_2).toNat * 3)).off + 2, none⟩ = some (.int .i64 ((zg l0 x6_2).f2))) (ds := []) #[false, false, false, false, false, false, false, false, false, false, false] (by kernel_rfl) rfl rfl ⟨((HB.out.cell (World.block_lt_of_cell? w _ hw323_0)).trans hw323_0), ((HB.out.cell (World.block_lt_of_cell? w _ hw323_1)).trans hw323_1), ((HB.out.cell (World.block_lt_of_cell? w _ hw323_2)).trans hw323_2), ((HB.out.cell (World.block_lt_of_cell? w _ hw324_0)).trans hw324_0), ((HB.out.cell (World.block_lt_of_cell? w _ hw324_1)).trans hw324_1), ((HB.out.cell (World.block_lt_of_cell? w _ hw324_2)).trans hw324_2)⟩ (fun hHeld => ?_); refine zbp zu.tab7 zu.zjd (fun HT_ HW_ => ?_);generalize wr.drew = w15 at HO_5 HB hx323_0 hx323_1 hx323_2 hx324_0 hx324_1 hx324_2 hHeld ⊢;refine zl (i := 0) (N := some 27) (v := ?_) (a' := ?_) #[true, false, false, false, false, false, false, false, false, false, false] rfl rfl (zf HT_.out (by kernel_rfl)) (fun _ _ _ h => h) (Or.inl ⟨by rfl, ?_⟩) ?_ ?_;rotate_left
         ·intro w'
          go_simp;with_reducible rfl
         rotate_left
         ·simp only [Act.put, Zs1, Zs2, Zs3, zh, zi]
          rfl
         refine zl (i := 1) (N := some 28) (v := ?_) (a' := ?_) #[true, true, false, false, false, false, false, false, false, false, false] rfl rfl (zf HT_.out (by kernel_rfl)) (fun _ _ _ h => h) (Or.inl ⟨by rfl, ?_⟩) ?_ ?_;rotate_left
         ·intro w'
          go_simp;with_reducible rfl
         rotate_left
         ·simp only [Act.put, Zs1, Zs2, Zs3, zh, zi]
          rfl
         refine zl (i := 2) (N := some 29) (v := ?_) (a' := ?_) #[true, true, true, false, false, false, false, false, false, false, false] rfl rfl (zf HT_.out (by kernel_rfl)) (fun _ _ _ h => h) (Or.inl ⟨by rfl, ?_⟩) ?_ ?_;rotate_left
         ·intro w'
          go_simp;with_reducible rfl
         rotate_left
         ·simp only [Act.put, Zs1, Zs2, Zs3, zh, zi]
          rfl
         refine zl (i := 3) (N := some 30) (v := ?_) (a' := ?_) #[true, true, true, true, false, false, false, false, false, false, false] rfl rfl (zf HT_.out (by kernel_rfl)) (fun _ _ _ h => h) (Or.inl ⟨by rfl, ?_⟩) ?_ ?_;rotate_left
         ·intro w'
          go_simp;with_reducible rfl
         rotate_left
         ·simp only [Act.put, Zs1, Zs2, Zs3, zh, zi]
          rfl
         refine zl (i := 5) (N := some 32) (v := ?_) (a' := ?_) #[true, true, true, true, false, true, false, false, false, false, false] rfl rfl (zf HT_.out (by kernel_rfl)) (fun _ _ _ h => h) (Or.inl ⟨by rfl, ?_⟩) ?_ ?_;rotate_left
         ·intro w'
          go_simp;with_reducible rfl
         rotate_left
         ·simp only [Act.put, Zs1, Zs2, Zs3, zh, zi]
          rfl
         refine zl (i := 6) (N := some 33) (v := ?_) (a' := ?_) #[true, true, true, true, false, true, true, false, false, false, false] rfl rfl (zf HT_.out (by kernel_rfl)) (fun _ _ _ h => h) (Or.inl ⟨by rfl, ?_⟩) ?_ ?_;rotate_left
         ·intro w'
          go_simp;with_reducible rfl
         rotate_left
         ·simp only [Act.put, Zs1, Zs2, Zs3, zh, zi]
          rfl
         refine zl (i := 7) (N := some 34) (v := ?_) (a' := ?_) #[true, true, true, true, false, true, true, true, false, false, false] rfl rfl (zf HT_.out (by kernel_rfl)) (fun _ _ _ h => h) (Or.inl ⟨by rfl, ?_⟩) ?_ ?_;rotate_left
         ·intro w'
          go_simp;with_reducible rfl
         rotate_left
         ·simp only [Act.put, Zs1, Zs2, Zs3, zh, zi]
          rfl
         refine zl (i := 8) (N := some 35) (v := ?_) (a' := ?_) #[true, true, true, true, false, true, true, true, true, false, false] rfl rfl (zf HT_.out (by kernel_rfl)) (fun _ _ _ h => h) (Or.inl ⟨by rfl, ?_⟩) ?_ ?_;rotate_left
         ·intro w'
          go_simp;with_reducible rfl
         rotate_left
         ·simp only [Act.put, Zs1, Zs2, Zs3, zh, zi]
          rfl
         refine zbw (i := 4) (N := some 31) (v := ?_) (a' := ?_) #[true, true, true, true, true, true, true, true, true, false, false] rfl rfl (z8 HT_.out HW_.out (by kernel_rfl)) (fun _ _ _ h => h) (Or.inl ⟨by rfl, ?_⟩) hHeld ?_ ?_;rotate_left
         ·rintro w' ⟨s0, s1, s2, s3, s4, s5⟩
          go_simp;with_reducible rfl
         rotate_left
         ·simp only [Act.put, Zs1, Zs2, Zs3, zh, zi]
          rfl
         refine zbw (i := 9) (N := some 36) (v := ?_) (a' := ?_) #[true, true, true, true, true, true, true, true, true, true, false] rfl rfl (z8 HT_.out HW_.out (by kernel_rfl)) (fun _ _ _ h => h) (Or.inl ⟨by rfl, ?_⟩) hHeld ?_ ?_;rotate_left
         ·rintro w' ⟨s0, s1, s2, s3, s4, s5⟩
          go_simp;with_reducible rfl
         rotate_left
         ·simp only [Act.put, Zs1, Zs2, Zs3, zh, zi]
          rfl
         refine zl (i := 10) (N := some 37) (v := ?_) (a' := ?_) #[true, true, true, true, true, true, true, true, true, true, true] rfl rfl (zf HT_.out (by kernel_rfl)) (fun _ _ _ h => h) (Or.inl ⟨by rfl, ?_⟩) ?_ ?_;rotate_left
         ·intro w'
          go_simp;with_reducible rfl
         rotate_left
         ·simp only [Act.put, Zs1, Zs2, Zs3, zh, zi]
          rfl
         refine zcz (zb4 HT_.out (by kernel_rfl)) ?_
         try go_wp2
         go_roundg k2
         case measure => have := HJ2.out; have := HK2.out; omega
         case rel => exact ⟨(wrap64 (x6_2 + 1)), Zrs, H', ⟨by have := HJ2.out; have := HK2.out; omega⟩, ⟨Zq20 HO_5⟩, ⟨Zq1 HB⟩⟩
        ·rw [if_neg c14] at H
         have c14b0 : (((zg l0 x6_2).f1) == ((zg l0 x6_2).f2)) = false := beq_eq_false_iff_ne.mpr c14;have c14b1 : (((zg l0 x6_2).f1) != ((zg l0 x6_2).f2)) = true := bne_iff_ne.mpr c14;obtain rfl := Option.some.inj H
         try go_wp2
         have n0_ := za.mk (Kd.zfn HO_5.out);have n1_ := za.mk (zbh HB.out);clear HO_5;clear HB;have HO_5 := n0_;have HB := n1_;clear n0_ n1_;have p323 : 0 ≤ (x6_2 : Int) := of_decide_eq_true Zas;have q323 : x6_2 < (l0.length : Int) := of_decide_eq_true Zas;obtain ⟨ad323, e323, hx323_0, hx323_1, hx323_2⟩ := zck HR0.out x6_2 p323 q323;have hw323_2 := hx323_2;have hw323_1 := hx323_1;have hw323_0 := hx323_0
         cases e323
         replace hx323_0 := (HB.out.cell (World.block_lt_of_cell? w _ hx323_0)).trans hx323_0;replace hx323_1 := (HB.out.cell (World.block_lt_of_cell? w _ hx323_1)).trans hx323_1;replace hx323_2 := (HB.out.cell (World.block_lt_of_cell? w _ hx323_2)).trans hx323_2;replace p323 := eq_true p323;replace q323 := eq_true q323;have p324 : 0 ≤ (x6_2 : Int) := of_decide_eq_true Zas;have q324 : x6_2 < (l0.length : Int) := of_decide_eq_true Zas;obtain ⟨ad324, e324, hx324_0, hx324_1, hx324_2⟩ := zck HR0.out x6_2 p324 q324;have hw324_2 := hx324_2;have hw324_1 := hx324_1;have hw324_0 := hx324_0;obtain rfl : ad323 = ad324 := (by injection e324);replace hx324_0 := (HB.out.cell (World.block_lt_of_cell? w _ hx324_0)).trans hx324_0;replace hx324_1 := (HB.out.cell (World.block_lt_of_cell? w _ hx324_1)).trans hx324_1;replace hx324_2 := (HB.out.cell (World.block_lt_of_cell? w _ hx324_2)).trans hx324_2;replace p324 := eq_true p324;replace q324 := eq_true q324;refine zci (n := 11) (S := fun w' => w'.cell? (ad323.add ((x6_2).toNat * 3)) = some (.int .i64 ((zg l0 x6_2).f0)) ∧ w'.cell? ⟨(ad323.add ((x6_2).toNat * 3)).block, (ad323.add ((x6_2).toNat * 3)).off + 1, none⟩ = some (.int .i64 ((zg l0 x6_2).f1)) ∧ w'.cell? ⟨(ad323.add ((x6_2).toNat * 3)).block, (ad323.add ((x6_2).toNat * 3)).off + 2, none⟩ = some (.int .i64 ((zg l0 x6_2).f2)) ∧ w'.cell? (ad323.add ((x6_2).toNat * 3)) = some (.int .i64 ((zg l0 x6_2).f0)) ∧ w'.cell? ⟨(ad323.add ((x6_2).toNat * 3)).block, (ad323.add ((x6_2).toNat * 3)).off + 1, none⟩ = some (.int .i64 ((zg l0 x6_2).f1)) ∧ w'.cell? ⟨(ad323.add ((x6_2).toNat * 3)).block, (ad323.add ((x6_2).toNat * 3)).off + 2, none⟩ = some (.int .i64 ((zg l0 x6_2).f2))) (ds := []) #[false, false, false, false, false, false, false, false, false, false, false] (by kernel_rfl) rfl rfl ⟨((HB.out.cell (World.block_lt_of_cell? w _ hw323_0)).trans hw323_0), ((HB.out.cell (World.block_lt_of_cell? w _ hw323_1)).trans hw323_1), ((HB.out.cell (World.block_lt_of_cell? w _ hw323_2)).trans hw323_2), ((HB.out.cell (World.block_lt_of_cell? w _ hw324_0)).trans hw324_0), ((HB.out.cell (World.block_lt_of_cell? w _ hw324_1)).trans hw324_1), ((HB.out.cell (World.block_lt_of_cell? w _ hw324_2)).trans hw324_2)⟩ (fun hHeld => ?_); refine zbp zu.tab7 zu.zjd (fun HT_ HW_ => ?_);generalize wr.drew = w16 at HO_5 HB hx323_0 hx323_1 hx323_2 hx324_0 hx324_1 hx324_2 hHeld ⊢;refine zl (i := 0) (N := some 27) (v := ?_) (a' := ?_) #[true, false, false, false, false, false, false, false, false, false, false] rfl rfl (zf HT_.out (by kernel_rfl)) (fun _ _ _ h => h) (Or.inl ⟨by rfl, ?_⟩) ?_ ?_;rotate_left
         ·intro w'
          go_simp;with_reducible rfl
         rotate_left
         ·simp only [Act.put, Zs1, Zs2, Zs3, zh, zi]
          rfl
         refine zl (i := 1) (N := some 28) (v := ?_) (a' := ?_) #[true, true, false, false, false, false, false, false, false, false, false] rfl rfl (zf HT_.out (by kernel_rfl)) (fun _ _ _ h => h) (Or.inl ⟨by rfl, ?_⟩) ?_ ?_;rotate_left
         ·intro w'
          go_simp;with_reducible rfl
         rotate_left
         ·simp only [Act.put, Zs1, Zs2, Zs3, zh, zi]
          rfl
         refine zl (i := 2) (N := some 29) (v := ?_) (a' := ?_) #[true, true, true, false, false, false, false, false, false, false, false] rfl rfl (zf HT_.out (by kernel_rfl)) (fun _ _ _ h => h) (Or.inl ⟨by rfl, ?_⟩) ?_ ?_;rotate_left
         ·intro w'
          go_simp;with_reducible rfl
         rotate_left
         ·simp only [Act.put, Zs1, Zs2, Zs3, zh, zi]
          rfl
         refine zl (i := 3) (N := some 30) (v := ?_) (a' := ?_) #[true, true, true, true, false, false, false, false, false, false, false] rfl rfl (zf HT_.out (by kernel_rfl)) (fun _ _ _ h => h) (Or.inl ⟨by rfl, ?_⟩) ?_ ?_;rotate_left
         ·intro w'
          go_simp;with_reducible rfl
         rotate_left
         ·simp only [Act.put, Zs1, Zs2, Zs3, zh, zi]
          rfl
         refine zl (i := 5) (N := some 32) (v := ?_) (a' := ?_) #[true, true, true, true, false, true, false, false, false, false, false] rfl rfl (zf HT_.out (by kernel_rfl)) (fun _ _ _ h => h) (Or.inl ⟨by rfl, ?_⟩) ?_ ?_;rotate_left
         ·intro w'
          go_simp;with_reducible rfl
         rotate_left
         ·simp only [Act.put, Zs1, Zs2, Zs3, zh, zi]
          rfl
         refine zl (i := 6) (N := some 33) (v := ?_) (a' := ?_) #[true, true, true, true, false, true, true, false, false, false, false] rfl rfl (zf HT_.out (by kernel_rfl)) (fun _ _ _ h => h) (Or.inl ⟨by rfl, ?_⟩) ?_ ?_;rotate_left
         ·intro w'
          go_simp;with_reducible rfl
         rotate_left
         ·simp only [Act.put, Zs1, Zs2, Zs3, zh, zi]
          rfl
         refine zl (i := 7) (N := some 34) (v := ?_) (a' := ?_) #[true, true, true, true, false, true, true, true, false, false, false] rfl rfl (zf HT_.out (by kernel_rfl)) (fun _ _ _ h => h) (Or.inl ⟨by rfl, ?_⟩) ?_ ?_;rotate_left
         ·intro w'
          go_simp;with_reducible rfl
         rotate_left
         ·simp only [Act.put, Zs1, Zs2, Zs3, zh, zi]
          rfl
         refine zl (i := 8) (N := some 35) (v := ?_) (a' := ?_) #[true, true, true, true, false, true, true, true, true, false, false] rfl rfl (zf HT_.out (by kernel_rfl)) (fun _ _ _ h => h) (Or.inl ⟨by rfl, ?_⟩) ?_ ?_;rotate_left
         ·intro w'
          go_simp;with_reducible rfl
         rotate_left
         ·simp only [Act.put, Zs1, Zs2, Zs3, zh, zi]
          rfl
         refine zbw (i := 4) (N := some 31) (v := ?_) (a' := ?_) #[true, true, true, true, true, true, true, true, true, false, false] rfl rfl (z8 HT_.out HW_.out (by kernel_rfl)) (fun _ _ _ h => h) (Or.inl ⟨by rfl, ?_⟩) hHeld ?_ ?_;rotate_left
         ·rintro w' ⟨s0, s1, s2, s3, s4, s5⟩
          go_simp;with_reducible rfl
         rotate_left
         ·simp only [Act.put, Zs1, Zs2, Zs3, zh, zi]
          rfl
         refine zbw (i := 9) (N := some 36) (v := ?_) (a' := ?_) #[true, true, true, true, true, true, true, true, true, true, false] rfl rfl (z8 HT_.out HW_.out (by kernel_rfl)) (fun _ _ _ h => h) (Or.inl ⟨by rfl, ?_⟩) hHeld ?_ ?_;rotate_left
         ·rintro w' ⟨s0, s1, s2, s3, s4, s5⟩
          go_simp;with_reducible rfl
         rotate_left
         ·simp only [Act.put, Zs1, Zs2, Zs3, zh, zi]
          rfl
         refine zl (i := 10) (N := some 37) (v := ?_) (a' := ?_) #[true, true, true, true, true, true, true, true, true, true, true] rfl rfl (zf HT_.out (by kernel_rfl)) (fun _ _ _ h => h) (Or.inl ⟨by rfl, ?_⟩) ?_ ?_;rotate_left
         ·intro w'
          go_simp;with_reducible rfl
         rotate_left
         ·simp only [Act.put, Zs1, Zs2, Zs3, zh, zi]
          rfl
         refine zcz (zb4 HT_.out (by kernel_rfl)) ?_
         try go_wp2
         go_ret;exact ⟨_, by first | rfl | (simp [zq, zt] <;> rfl) | (simp [*, zq, zt] <;> rfl), Zq20 HO_5, Zq1 HB⟩
       ·rw [if_neg c13] at H
        exact absurd H (by simp)
      ·rw [if_neg c12] at H
       have c12b0 : decide (x6_2 < (l0.length : Int)) = false := decide_eq_false c12;clear c12;by_cases c17 : 0 ≤ (l0.length : Int)
       ·rw [if_pos c17] at H
        have c17b0 := eq_true c17;have c17b1 : decide (0 ≤ (l0.length : Int)) = true := decide_eq_true c17;clear c17;by_cases c18 : ((l0.length : Int) : Int).toNat ≤ 35184372088832
        ·rw [if_pos c18] at H
         have c18b0 := eq_true c18;have c18b1 : decide (((l0.length : Int) : Int).toNat ≤ 35184372088832) = true := decide_eq_true c18;clear c18;obtain ⟨y325, hy325⟩ : ∃ y_ : List Int, y_ = (List.replicate ((l0.length : Int) : Int).toNat 0) := ⟨_, rfl⟩;replace H : (zu.l1 k2 l0 a1 y318 y325 0) = some r := by first | (rw [hy325]; with_reducible exact H) | (have H2_ := (Option.bind_some _ _).symm.trans H; rw [hy325]; with_reducible exact H2_) | (have H2_ := (Option.bind_some _ _).symm.trans H; with_reducible exact H2_) | with_reducible exact H | (rw [hy325]; exact H) | exact H
         have Ny325 := za.mk hy325;clear hy325;have H' := za.mk H;clear H;go_wp2_with (first | ((with_reducible refine zbx (N := 41) rfl ?_); refine Kd.R_make (Kd.int .i64) _ 3 rfl (N := 41) rfl 33 _ _ rfl (l0.length : Int) rfl rfl Try.underlying33 (.int .i64 0) 8 info3 rfl (by decide) (by omega) 0 (ok := fun _ => True) (okp := fun _ => True) rfl (fun _ hk => hk) trivial (of_decide_eq_true Zas) (Nat.le_trans (Nat.mul_le_mul_right _ (of_decide_eq_true Zas : (l0.length : Int).toNat ≤ 35184372088832)) (by omega)) (Below.refl _ _) (Nat.le_refl _) ?_; intro v326 w19 ho20 hb hg_ hnew_; clear hg_ hnew_; (first | rw [← Ny325.out] at ho20 | (simp only [Int.reduceToNat] at ho20; rw [← Ny325.out] at ho20)); have n0_ := za.mk (Kd.S_elder' (Zq20 HO_5) (Kd.zc8 ho20) hb); have n1_ := za.mk (Kd.zcw ho20 (zba (Zq1 HB))); have n2_ := za.mk (zn (Zq1 HB) hb); clear HO_5; clear HB; have HO_5 := n0_; have HO327 := n1_; have HB := n2_; clear n0_ n1_ n2_; clear hb ho20))
         go_loopg [5, 8] k2 (fun kq v5 v8 w' => ∃ (x5_3 : List (List Int)) (x7_3 : List Int) (x8_3 : Int), v8 = .int .i64 x8_3 ∧ za (zu.l1 kq l0 a1 x5_3 x7_3 x8_3 = some r) ∧ za (kq ≤ k2) ∧ za (Kd.S (Kd.slice 3 (Kd.int .i64)) 33 w' w.heap.size (fun k_ => some k_ ≠ (v326 : Value).ownBlock) v5 x5_3) ∧ za (Kd.R (Kd.int .i64) 3 w' w.heap.size (fun _ => True) v326 x7_3) ∧ za (Below w.heap.size w w'))
         case atStart => exact ⟨(y318), (y325), (0), Zrs, H', ⟨Nat.le_refl _⟩, ⟨by (with_reducible repeat (first | apply Kd.zf3 | apply Kd.zf4 | apply Kd.zfn)); exact Kd.zhr HO_5.out (fun _ hk => hk.2)⟩, ⟨Zq12 HO327⟩, ⟨Zq1 HB⟩⟩
         case round =>
          clear H'
          (try clear c1);(try clear p2);(try clear c3);(try clear p3);(try clear q3);(try clear hx3);(try clear p6);(try clear c7);(try clear c11);(try clear c12);(try clear c12b0);(try clear c13);(try clear c13b0);(try clear c14);(try clear c14b0);(try clear c14b1);(try clear c17);(try clear c17b0);(try clear c17b1);(try clear c18);(try clear c18b0);(try clear c18b1);(try clear hx323_0);(try clear hx323_1);(try clear hx323_2);(try clear hx324_0);(try clear hx324_1);(try clear hx324_2);(try clear p2);(try clear p323);(try clear p324);(try clear q323);(try clear q324)
          obtain ⟨x5_3, x7_3, x8_3, rfl, HA, HK3, HO_5, HO_7, HB⟩ := hrel
          cases gk with
          | zero => exact absurd HA.out (by simp [zu.l1])
          | succ k3 =>
           have H := HA.out;clear HA;simp only [zu.l1] at H;by_cases c21 : x8_3 < 120
           ·rw [if_pos c21] at H
            have c21b0 : decide (x8_3 < 120) = true := decide_eq_true c21;clear c21;replace H := Option.bind_eq_some_iff.mp H;obtain ⟨t328, A220, H⟩ := H;replace H : (zu.l2 k3 l0 a1 x5_3 x7_3 x8_3 t328 0) = some r := H;have A22 := za.mk A220;clear A220;have H' := za.mk H;clear H;obtain ⟨Ao23, co23, eo23⟩ := Kd.zct HO_7.out;subst eo23;go_wp2_with (first | ((with_reducible refine zw (f := 38) rfl ?_); refine zbv (some 50) rfl rfl Try.func38 (by kernel_rfl) rfl #[.slice A0 l0.length c0, .slice Ao23 x7_3.length co23, .int .i64 x8_3, .int .i64 a1] rfl Zmt ?_; (with_reducible refine (zbb.calls k3 _ _ l0 _ _ x7_3 x8_3 a1 t328 _ ?side1 ?side2 ?side3 ?side4 A22.out).mono ?_); (case side1 => exact Zq18 (Kd.zc9 HR0.out HB.out)); (case side2 => exact HC0.out); (case side3 => exact Zq18 ((Kd.zbo HO_7.out).2.2)); (case side4 => exact (Kd.zbo HO_7.out).2.1); rintro e w24 ⟨v329, rfl, ho0, hb⟩; refine ⟨_, rfl, ?_⟩; have n0_ := za.mk (Kd.S_elder' (Zq20 HO_5) (Kd.zc8 ho0) hb); have n1_ := za.mk (Kd.zcr (Zq12 HO_7) (Kd.zc8 ho0) hb); have n2_ := za.mk (Kd.zcw (Kd.zdi ho0 (Kd.R_lt (Zq12 HO_7))) (zba (Zq1 HB))); have n3_ := za.mk (zn (Zq1 HB) hb); clear HO_5; clear HO_7; clear HB; have HO_5 := n0_; have HO_7 := n1_; have HO330 := n2_; have HB := n3_; clear n0_ n1_ n2_ n3_; (try clear hb); (try clear hb2); (try clear hk); (try clear hi); (try clear ho0)))
            go_loopg [10] k3 (fun kq v10 w' => ∃ (x7_4 : List Int) (x10_4 : Int), v10 = .int .i64 x10_4 ∧ za (zu.l2 kq l0 a1 x5_3 x7_4 x8_3 t328 x10_4 = some r) ∧ za (kq ≤ k3) ∧ za (Kd.S (Kd.slice 3 (Kd.int .i64)) 33 w' w.heap.size (fun k_ => some k_ ≠ ((.slice Ao23 x7_3.length co23) : Value).ownBlock ∧ some k_ ≠ (v329 : Value).ownBlock) u5 x5_3) ∧ za (Kd.R (Kd.int .i64) 3 w' w.heap.size (fun k_ => some k_ ≠ (v329 : Value).ownBlock) (.slice Ao23 x7_3.length co23) x7_4) ∧ za (Kd.R (Kd.int .i64) 3 w' w.heap.size (fun k_ => some k_ ≠ ((.slice Ao23 x7_3.length co23) : Value).ownBlock) v329 t328) ∧ za (Below w.heap.size w w'))
            case atStart => exact ⟨(x7_3), (0), Zrs, H', ⟨Nat.le_refl _⟩, ⟨Zq20 HO_5⟩, ⟨by (with_reducible repeat (first | apply Kd.zcg | apply Kd.zch | apply Kd.zb5)); exact Kd.zbm HO_7.out (fun _ hk => hk.2)⟩, ⟨by (with_reducible repeat (first | apply Kd.zcg | apply Kd.zch | apply Kd.zb5)); exact Kd.zbm HO330.out (fun _ hk => hk.2)⟩, ⟨Zq1 HB⟩⟩
            case round =>
             clear H'
             (try clear c1);(try clear c2);(try clear p2);(try clear c3);(try clear p3);(try clear q3);(try clear hx3);(try clear p6);(try clear c7);(try clear c11);(try clear c12);(try clear c12b0);(try clear c13);(try clear c13b0);(try clear c14);(try clear c14b0);(try clear c14b1);(try clear c17);(try clear c17b0);(try clear c17b1);(try clear c18);(try clear c18b0);(try clear c18b1);(try clear c21);(try clear c21b0);(try clear hx323_0);(try clear hx323_1);(try clear hx323_2);(try clear hx324_0);(try clear hx324_1);(try clear hx324_2);(try clear p2);(try clear p3);(try clear p323);(try clear p324);(try clear p6);(try clear q3);(try clear q323);(try clear q324)
             obtain ⟨x7_4, x10_4, rfl, HA, HK4, HO_5, HO_7, HO_9, HB⟩ := hrel;have hl7_4 := (Kd.zbo HO_7.out).1;rw [hl7_4] at HO_7;(try simp only [hl7_4]);(try simp only [hl7_4] at HO_5);(try simp only [hl7_4] at HO_9)
             cases gk with
             | zero => exact absurd HA.out (by simp [zu.l2])
             | succ k4 =>
              have H := HA.out;clear HA;simp only [zu.l2] at H;by_cases c25 : x10_4 < (t328.length : Int)
              ·rw [if_pos c25] at H
               have c25b0 : decide (x10_4 < (t328.length : Int)) = true := decide_eq_true c25;clear c25;by_cases c26 : 0 ≤ x10_4
               ·rw [if_pos c26] at H
                have c26b0 : decide (0 ≤ x10_4) = true := decide_eq_true c26;clear c26;by_cases c27 : 0 ≤ (rd t328 x10_4)
                ·rw [if_pos c27] at H
                 have c27b0 : decide (0 ≤ (rd t328 x10_4)) = true := decide_eq_true c27;clear c27;by_cases c28 : (rd t328 x10_4) < (x7_4.length : Int)
                 ·rw [if_pos c28] at H
                  have c28b0 : decide ((rd t328 x10_4) < (x7_4.length : Int)) = true := decide_eq_true c28;clear c28;obtain ⟨y334, hy334⟩ : ∃ y_ : List Int, y_ = (x7_4.set ((rd t328 x10_4) : Int).toNat (wrap64 ((rd x7_4 (rd t328 x10_4)) + 1))) := ⟨_, rfl⟩;replace H : (zu.l2 k4 l0 a1 x5_3 y334 x8_3 t328 (wrap64 (x10_4 + 1))) = some r := by first | (rw [hy334]; with_reducible exact H) | (have H2_ := (Option.bind_some _ _).symm.trans H; rw [hy334]; with_reducible exact H2_) | (have H2_ := (Option.bind_some _ _).symm.trans H; with_reducible exact H2_) | with_reducible exact H | (rw [hy334]; exact H) | exact H
                  have Ny334 := za.mk hy334;clear hy334;have H' := za.mk H;clear H;obtain ⟨Ao30, co30, eo30⟩ := Kd.zct HO_9.out;subst eo30
                  try go_wp2
                  have n0_ := za.mk (Kd.zfn HO_5.out);have n1_ := za.mk (Kd.zb5 HO_7.out);have n2_ := za.mk (Kd.zb5 HO_9.out);have n3_ := za.mk (zbh HB.out);clear HO_5;clear HO_7;clear HO_9;clear HB;have HO_5 := n0_;have HO_7 := n1_;have HO_9 := n2_;have HB := n3_;clear n0_ n1_ n2_ n3_;have p331 : 0 ≤ (x10_4 : Int) := of_decide_eq_true Zas;have q331 : x10_4 < (t328.length : Int) := of_decide_eq_true Zas;obtain ⟨ad331, e331, hx331_0⟩ := Kd.zb6 (Kd.zbo HO_9.out).2.2 x10_4 p331 q331
                  cases e331
                  replace p331 := eq_true p331;replace q331 := eq_true q331;have p332 : 0 ≤ (x10_4 : Int) := of_decide_eq_true Zas;have q332 : x10_4 < (t328.length : Int) := of_decide_eq_true Zas;obtain ⟨ad332, e332, hx332_0⟩ := Kd.zb6 (Kd.zbo HO_9.out).2.2 x10_4 p332 q332;obtain rfl : ad331 = ad332 := (by injection e332);replace p332 := eq_true p332;replace q332 := eq_true q332;have p333 : 0 ≤ ((rd t328 x10_4) : Int) := of_decide_eq_true Zas;have q333 : (rd t328 x10_4) < (x7_4.length : Int) := of_decide_eq_true Zas;obtain ⟨ad333, e333, hx333_0⟩ := Kd.zb6 (Kd.zbo HO_7.out).2.2 (rd t328 x10_4) p333 q333
                  cases e333
                  replace p333 := eq_true p333;replace q333 := eq_true q333;have p29 : 0 ≤ ((rd t328 x10_4) : Int) := of_decide_eq_true Zas;have q29 : ((rd t328 x10_4) : Int) < ((x7_4.length : Int) : Int) := of_decide_eq_true Zas;obtain ⟨go29, co29, eo29, gb29, gl29, cl29, HG29⟩ := Kd.zhn HO_7.out (by omega);(first | cases eo29 | (injection eo29 with ea_ en_ ec_; (first | subst ea_ | (injection ea_ with ea_; subst ea_)); subst ec_; clear en_));have GB29 := za.mk gb29;have GG29 := za.mk HG29;clear gb29 gl29 HG29;(first | simp only [add_plain] at hx333_0 | skip);obtain ⟨hx29_0, hf29_0⟩ := Kd.zgq 0 HO_7.out ((rd t328 x10_4) : Int) p29 q29;replace p29 := eq_true p29;replace q29 := eq_true q29;have HP32 := Kd.R_putn HO_7.out ((rd t328 x10_4) : Int) (wrap64 ((rd x7_4 (rd t328 x10_4)) + 1));rw [← Ny334.out] at HP32;have HQ32 := za.mk HP32;clear HP32;refine zci (n := 15) (S := fun w' => w'.cell? (ad331.add (x10_4).toNat) = some (.int .i64 (rd t328 x10_4)) ∧ w'.cell? (ad331.add (x10_4).toNat) = some (.int .i64 (rd t328 x10_4)) ∧ w'.cell? ⟨go29, ((rd t328 x10_4)).toNat, none⟩ = some (.int .i64 (rd x7_4 (rd t328 x10_4)))) (ds := [14]) #[false, false, false, false, false, false, false, false, false, false, false, false, false, false, false] (by kernel_rfl) rfl rfl ⟨hx331_0, hx332_0, hx333_0⟩ (fun hHeld => ?_); refine zbp zu.tab17 zu.bits17 (fun HT_ HW_ => ?_);generalize wr.drew = w31 at HO_5 HO_7 HO_9 HB GG29 HQ32 hf29_0 hx29_0 hx331_0 hx332_0 hx333_0 hHeld ⊢;refine zl (i := 0) (N := some 57) (v := ?_) (a' := ?_) #[true, false, false, false, false, false, false, false, false, false, false, false, false, false, false] rfl rfl (zf HT_.out (by kernel_rfl)) (fun _ _ _ h => h) (Or.inl ⟨by rfl, ?_⟩) ?_ ?_;rotate_left
                  ·intro w'
                   go_simp;with_reducible rfl
                  rotate_left
                  ·simp only [Act.put, Zs1, Zs2, Zs3, zh, zi]
                   rfl
                  refine zl (i := 1) (N := some 58) (v := ?_) (a' := ?_) #[true, true, false, false, false, false, false, false, false, false, false, false, false, false, false] rfl rfl (zf HT_.out (by kernel_rfl)) (fun _ _ _ h => h) (Or.inl ⟨by rfl, ?_⟩) ?_ ?_;rotate_left
                  ·intro w'
                   go_simp;with_reducible rfl
                  rotate_left
                  ·simp only [Act.put, Zs1, Zs2, Zs3, zh, zi]
                   rfl
                  refine zl (i := 2) (N := some 59) (v := ?_) (a' := ?_) #[true, true, true, false, false, false, false, false, false, false, false, false, false, false, false] rfl rfl (zf HT_.out (by kernel_rfl)) (fun _ _ _ h => h) (Or.inl ⟨by rfl, ?_⟩) ?_ ?_;rotate_left
                  ·intro w'
                   go_simp;with_reducible rfl
                  rotate_left
                  ·simp only [Act.put, Zs1, Zs2, Zs3, zh, zi]
                   rfl
                  refine zl (i := 3) (N := some 60) (v := ?_) (a' := ?_) #[true, true, true, true, false, false, false, false, false, false, false, false, false, false, false] rfl rfl (zf HT_.out (by kernel_rfl)) (fun _ _ _ h => h) (Or.inl ⟨by rfl, ?_⟩) ?_ ?_;rotate_left
                  ·intro w'
                   go_simp;with_reducible rfl
                  rotate_left
                  ·simp only [Act.put, Zs1, Zs2, Zs3, zh, zi]
                   rfl
                  refine zl (i := 5) (N := some 62) (v := ?_) (a' := ?_) #[true, true, true, true, false, true, false, false, false, false, false, false, false, false, false] rfl rfl (zf HT_.out (by kernel_rfl)) (fun _ _ _ h => h) (Or.inl ⟨by rfl, ?_⟩) ?_ ?_;rotate_left
                  ·intro w'
                   go_simp;with_reducible rfl
                  rotate_left
                  ·simp only [Act.put, Zs1, Zs2, Zs3, zh, zi]
                   rfl
                  refine zl (i := 6) (N := some 63) (v := ?_) (a' := ?_) #[true, true, true, true, false, true, true, false, false, false, false, false, false, false, false] rfl rfl (zf HT_.out (by kernel_rfl)) (fun _ _ _ h => h) (Or.inl ⟨by rfl, ?_⟩) ?_ ?_;rotate_left
                  ·intro w'
                   go_simp;with_reducible rfl
                  rotate_left
                  ·simp only [Act.put, Zs1, Zs2, Zs3, zh, zi]
                   rfl
                  refine zl (i := 7) (N := some 64) (v := ?_) (a' := ?_) #[true, true, true, true, false, true, true, true, false, false, false, false, false, false, false] rfl rfl (zf HT_.out (by kernel_rfl)) (fun _ _ _ h => h) (Or.inl ⟨by rfl, ?_⟩) ?_ ?_;rotate_left
                  ·intro w'
                   go_simp;with_reducible rfl
                  rotate_left
                  ·simp only [Act.put, Zs1, Zs2, Zs3, zh, zi]
                   rfl
                  refine zl (i := 8) (N := some 65) (v := ?_) (a' := ?_) #[true, true, true, true, false, true, true, true, true, false, false, false, false, false, false] rfl rfl (zf HT_.out (by kernel_rfl)) (fun _ _ _ h => h) (Or.inl ⟨by rfl, ?_⟩) ?_ ?_;rotate_left
                  ·intro w'
                   go_simp;with_reducible rfl
                  rotate_left
                  ·simp only [Act.put, Zs1, Zs2, Zs3, zh, zi]
                   rfl
                  refine zbw (i := 4) (N := some 61) (v := ?_) (a' := ?_) #[true, true, true, true, true, true, true, true, true, false, false, false, false, false, false] rfl rfl (z8 HT_.out HW_.out (by kernel_rfl)) (fun _ _ _ h => h) (Or.inl ⟨by rfl, ?_⟩) hHeld ?_ ?_;rotate_left
                  ·rintro w' ⟨s0, s1, s2⟩
                   go_simp;with_reducible rfl
                  rotate_left
                  ·simp only [Act.put, Zs1, Zs2, Zs3, zh, zi]
                   rfl
                  refine zbw (i := 9) (N := some 66) (v := ?_) (a' := ?_) #[true, true, true, true, true, true, true, true, true, true, false, false, false, false, false] rfl rfl (z8 HT_.out HW_.out (by kernel_rfl)) (fun _ _ _ h => h) (Or.inl ⟨by rfl, ?_⟩) hHeld ?_ ?_;rotate_left
                  ·rintro w' ⟨s0, s1, s2⟩
                   go_simp;with_reducible rfl
                  rotate_left
                  ·simp only [Act.put, Zs1, Zs2, Zs3, zh, zi]
                   rfl
                  refine zl (i := 10) (N := some 67) (v := ?_) (a' := ?_) #[true, true, true, true, true, true, true, true, true, true, true, false, false, false, false] rfl rfl (zf HT_.out (by kernel_rfl)) (fun _ _ _ h => h) (Or.inl ⟨by rfl, ?_⟩) ?_ ?_;rotate_left
                  ·intro w'
                   go_simp;with_reducible rfl
                  rotate_left
                  ·simp only [Act.put, Zs1, Zs2, Zs3, zh, zi]
                   rfl
                  refine zbw (i := 11) (N := some 68) (v := ?_) (a' := ?_) #[true, true, true, true, true, true, true, true, true, true, true, true, false, false, false] rfl rfl (z8 HT_.out HW_.out (by kernel_rfl)) (fun _ _ _ h => h) (Or.inl ⟨by rfl, ?_⟩) hHeld ?_ ?_;rotate_left
                  ·rintro w' ⟨s0, s1, s2⟩
                   go_simp;with_reducible rfl
                  rotate_left
                  ·simp only [Act.put, Zs1, Zs2, Zs3, zh, zi]
                   rfl
                  refine zl (i := 12) (N := some 69) (v := ?_) (a' := ?_) #[true, true, true, true, true, true, true, true, true, true, true, true, true, false, false] rfl rfl (zf HT_.out (by kernel_rfl)) (fun _ _ _ h => h) (Or.inl ⟨by rfl, ?_⟩) ?_ ?_;rotate_left
                  ·intro w'
                   go_simp;with_reducible rfl
                  rotate_left
                  ·simp only [Act.put, Zs1, Zs2, Zs3, zh, zi]
                   rfl
                  refine zl (i := 13) (N := some 70) (v := ?_) (a' := ?_) #[true, true, true, true, true, true, true, true, true, true, true, true, true, true, false] rfl rfl (zf HT_.out (by kernel_rfl)) (fun _ _ _ h => h) (Or.inl ⟨by rfl, ?_⟩) ?_ ?_;rotate_left
                  ·intro w'
                   go_simp;with_reducible rfl
                  rotate_left
                  ·simp only [Act.put, Zs1, Zs2, Zs3, zh, zi]
                   rfl
                  refine last_ (i := 14) (N := none) #[true, true, true, true, true, true, true, true, true, true, true, true, true, true, true] rfl rfl (zbz HT_.out (by kernel_rfl)) (by decide) (fun K hK => ?_);refine zh9 (w1 := ?_) (by rfl) rfl ?_ ?_;rotate_left
                  ·go_simp
                   rfl
                  refine hK.out _ _ ?_;clear hK K;refine zcz (zb4 HT_.out (by kernel_rfl)) ?_
                  try go_wp2
                  (try simp only [← hl7_4]);go_roundg k4
                  case measure => have := HJ2.out; have := HK2.out; have := HK3.out; have := HK4.out; omega
                  case rel => exact ⟨(y334), (wrap64 (x10_4 + 1)), Zrs, H', ⟨by have := HJ2.out; have := HK2.out; have := HK3.out; have := HK4.out; omega⟩, ⟨by (try simp only [hl7_4]); (with_reducible repeat (first | apply Kd.zf3 | apply Kd.zf4 | apply Kd.zfn)); exact Kd.zhr (Kd.S_far (p := ⟨go29, ((rd t328 x10_4) : Int).toNat, none⟩) (Kd.zhr HO_5.out (fun k_ hk => (⟨hk, fun e_ => hk.1 (by rw [e_]; rfl)⟩ : _ ∧ k_ ≠ go29))) (fun _ hk => hk.2) (.int .i64 (wrap64 ((rd x7_4 (rd t328 x10_4)) + 1)))) (fun _ hk => ⟨hk.1.1, hk.1.2⟩)⟩, ⟨by (try simp only [hl7_4]); (with_reducible repeat (first | apply Kd.zcg | apply Kd.zch | apply Kd.zb5)); exact HQ32.out⟩, ⟨by (try simp only [hl7_4]); (with_reducible repeat (first | apply Kd.zcg | apply Kd.zch | apply Kd.zb5)); exact Kd.zbm (Kd.ze0 (p := ⟨go29, ((rd t328 x10_4) : Int).toNat, none⟩) (Kd.zbm HO_9.out (fun k_ hk => (⟨hk, fun e_ => hk (by rw [e_]; rfl)⟩ : _ ∧ k_ ≠ go29))) (fun _ hk => hk.2) (.int .i64 (wrap64 ((rd x7_4 (rd t328 x10_4)) + 1)))) (fun _ hk => hk.1)⟩, ⟨Zq3 HB GB29⟩⟩
                 ·rw [if_neg c28] at H
                  exact absurd H (by simp)
                ·rw [if_neg c27] at H
                 exact absurd H (by simp)
               ·rw [if_neg c26] at H
                exact absurd H (by simp)
              ·rw [if_neg c25] at H
               have c25b0 : decide (x10_4 < (t328.length : Int)) = false := decide_eq_false c25;clear c25;by_cases c33 : x5_3.length < 5864062014805
               ·rw [if_pos c33] at H
                have LMc33 := za.mk c33;clear c33;obtain ⟨y335, hy335⟩ : ∃ y_ : List (List Int), y_ = (x5_3 ++ [t328]) := ⟨_, rfl⟩;replace H : (zu.l1 k4 l0 a1 y335 x7_4 (wrap64 (x8_3 + 1))) = some r := by first | (rw [hy335]; with_reducible exact H) | (have H2_ := (Option.bind_some _ _).symm.trans H; rw [hy335]; with_reducible exact H2_) | (have H2_ := (Option.bind_some _ _).symm.trans H; with_reducible exact H2_) | with_reducible exact H | (rw [hy335]; exact H) | exact H
                have Ny335 := za.mk hy335;clear hy335;have H' := za.mk H;clear H;obtain ⟨Ao34, co34, eo34⟩ := Kd.zct HO_9.out;subst eo34;go_wp2_with (first | ((with_reducible refine zda (b := .append) (xs := #[.tmp 71, .tmp 73]) rfl ?_); at_builtin; refine Kd.S_append (Kd.slice 3 (Kd.int .i64)) (w0 := w) w.heap.size rfl (.tmp 71) (.tmp 73) 26 33 (.slice none 0 0) 24 rfl Try.underlying26 info33 rfl (by decide) (by omega) u5 x5_3 t328 [.slice Ao34 t328.length co34] (fun k_ => some k_ ≠ (.slice Ao23 x7_4.length co23 : Value).ownBlock) (fun k_ => some k_ = (.slice Ao34 t328.length co34 : Value).ownBlock) rfl rfl ?aP (fun k_ hk_ => ((Kd.zbm (ok' := fun k_ => ((fun k_ => some k_ ≠ (.slice Ao23 x7_4.length co23 : Value).ownBlock)) k_ ∧ some k_ ≠ (u5 : Value).ownBlock) (Kd.R_apart' (HO_9.out) (Kd.zjy HO_5.out) (by decide)) (fun k_ hk => ⟨hk.1, hk.2⟩))).1 k_ hk_.symm) ?aF ?aO ?aB ?aS ?aL ?_; (case aP => exact Kd.M_row (Kd.zbm (Kd.R_tight rfl (Kd.zbm (ok' := fun k_ => ((fun k_ => some k_ ≠ (.slice Ao23 x7_4.length co23 : Value).ownBlock)) k_ ∧ some k_ ≠ (u5 : Value).ownBlock) (Kd.R_apart' (HO_9.out) (Kd.zjy HO_5.out) (by decide)) (fun k_ hk => ⟨hk.1, hk.2⟩))) (fun _ h_ => h_))); (case aB => exact (Zq1 HB)); (case aF => exact (fun k_ hk => Kd.fresh' (Kd.R_lt (Zq12 HO_7)) k_ hk)); (case aO => exact (by (with_reducible repeat (first | apply Kd.zf3 | apply Kd.zf4 | apply Kd.zfn)); exact Kd.zhr HO_5.out (fun k_ hk => ⟨hk.1, fun e_ => hk.2 e_⟩))); (case aS => exact (zba (Zq1 HB))); (case aL => have := LMc33.out; omega); intro v336 w35 ho hb hg hat; rw [← Ny335.out] at ho; have n0_ := za.mk (Kd.R_over' (Zq12 HO_7) (Kd.zjy (Zq20 HO_5)) (by decide) hg); have n1_ := za.mk (hb); have n2_ := za.mk (ho); clear HO_7; clear HB; clear HO_5; clear HO_9; have HO_7 := n0_; have HB := n1_; have HO337 := n2_; clear n0_ n1_ n2_; clear ho hb hg hat));(try simp only [← hl7_4]);go_roundg k4
                case measure => have := HJ2.out; have := HK2.out; have := HK3.out; have := HK4.out; omega
                case rel => exact ⟨(y335), (x7_4), (wrap64 (x8_3 + 1)), Zrs, H', ⟨by have := HJ2.out; have := HK2.out; have := HK3.out; have := HK4.out; omega⟩, ⟨by (try simp only [hl7_4]); (with_reducible repeat (first | apply Kd.zf3 | apply Kd.zf4 | apply Kd.zfn)); exact HO337.out⟩, ⟨by (try simp only [hl7_4]); (with_reducible repeat (first | apply Kd.zcg | apply Kd.zch | apply Kd.zb5)); exact Kd.zbm HO_7.out (fun _ hk => trivial)⟩, ⟨Zq1 HB⟩⟩
               ·rw [if_neg c33] at H
                exact absurd H (by simp)
           ·rw [if_neg c21] at H
            have c21b0 : decide (x8_3 < 120) = false := decide_eq_false c21;clear c21;obtain rfl := Option.some.inj H;go_wp2;go_ret;exact ⟨_, by first | rfl | (simp [zq, zt] <;> rfl) | (simp [*, zq, zt] <;> rfl), by (with_reducible repeat (first | apply Kd.zf3 | apply Kd.zf4 | apply Kd.zfn)); exact Kd.zhr HO_5.out (fun _ hk => trivial), Zq1 HB⟩
        ·rw [if_neg c18] at H
         exact absurd H (by simp)
       ·rw [if_neg c17] at H
        exact absurd H (by simp)
def zcx.l0 : Nat → Int → Int → Option (Int)
 | 0, _, _ => none
 | k + 1, x0, x1 => if x1 = 0 then (some x0) else (zcx.l0 k x1 (Int.tmod x0 x1))
def zcx.f (k : Nat) (a0 : Int) (a1 : Int) : Option (Int) := zcx.l0 k a0 a1
set_option maxHeartbeats 8000000 in
theorem zcx.calls (k : Nat) (a0 : Int) (a1 : Int) (r : Int) (w : World) (h : zcx.f k a0 a1 = some r) :
  Calls Try.prog 68 #[.int .i64 a0, .int .i64 a1] w fun e w' => e = .returned (.int .i64 r) ∧ zbt w w' := by
 have H : (zcx.l0 k a0 a1) = some r := h
 clear h
 have H' := za.mk H
 clear H
 go_enter Try.func68, Try.ntmps68
 go_wp2
 repeat (go_quiet (fail); try go_wp2)
 go_loopg [0, 1] k (fun kq v0 v1 w' => ∃ (x0_1 : Int) (x1_1 : Int), v0 = .int .i64 x0_1 ∧ v1 = .int .i64 x1_1 ∧ za (zcx.l0 kq x0_1 x1_1 = some r) ∧ za (kq ≤ k) ∧ zbt w w')
 case atStart => exact ⟨(a0), (a1), Zrs, Zrs, H', ⟨Nat.le_refl _⟩, by repeat (first | exact zbt.refl _ | apply zbt.step)⟩
 case round =>
  clear H'
  try clear p2
  obtain ⟨x0_1, x1_1, rfl, rfl, HA, HK1, ⟨m1, rfl⟩⟩ := hrel
  cases gk with
  | zero => exact absurd HA.out (by simp [zcx.l0])
  | succ k1 =>
   have H := HA.out;clear HA;simp only [zcx.l0] at H;by_cases c3 : x1_1 = 0
   ·rw [if_pos c3] at H
    have c3b0 : (x1_1 == 0) = true := beq_iff_eq.mpr c3;have c3b1 : (x1_1 != 0) = false := bne_eq_false_iff_eq.mpr c3;clear c3;obtain rfl := Option.some.inj H;go_wp2
    repeat (go_quiet (fail); try go_wp2)
    go_ret;exact ⟨by first | rfl | (simp; done) | (simp [*]; done), by repeat (first | exact zbt.refl _ | apply zbt.step)⟩
   ·rw [if_neg c3] at H
    have c3b0 : (x1_1 == 0) = false := beq_eq_false_iff_ne.mpr c3;have c3b1 : (x1_1 != 0) = true := bne_iff_ne.mpr c3;have H' := za.mk H;clear H;go_wp2
    repeat (go_quiet (fail); try go_wp2)
    go_roundg k1
    case measure => have := HK1.out; omega
    case rel => exact ⟨(x1_1), (Int.tmod x0_1 x1_1), Zrs, Zrs, H', ⟨by have := HK1.out; omega⟩, by repeat (first | exact zbt.refl _ | apply zbt.step)⟩
def zcb.f (k : Nat) (a0 : Int) (a1 : Int) : Option (Int × Int) := (zcx.f k a0 a1).bind fun t339 => (if t339 = 0 then (none) else (some (wrap64 (Int.tdiv a0 t339), wrap64 (Int.tdiv a1 t339))))
def zcb.T2 : Bool × List (List Nat × List Nat) := (true, [([], []), ([], []), ([0, 1], [0, 1]), ([], []), ([], []), ([3, 4], [3, 4]), ([2, 5], [2, 5]), ([6, 0, 1, 2, 3, 4, 5, 6], [6])])
def zcb.B2 : List Nat := [0, 0, 3, 0, 0, 24, 63, 127]
theorem zcb.tab2 : rtab .any (opsOf Try.f40 2) = zcb.T2 := by kernel_rfl
theorem zcb.zic : zcs zcb.T2.2 zcb.B2 = true := by kernel_rfl
set_option maxHeartbeats 8000000 in
theorem zcb.calls (k : Nat) (a0 : Int) (a1 : Int) (r1 : Int) (r2 : Int) (w : World) (h : zcb.f k a0 a1 = some (r1, r2)) :
  Calls Try.prog 40 #[.int .i64 a0, .int .i64 a1] w fun e w' => e = .returned (.agg #[.int .i64 r1, .int .i64 r2]) ∧ Below w.heap.size w w' := by
 have hu30 := Try.underlying30
 have HB := za.mk (Below.refl w.heap.size w)
 have H : ((zcx.f k a0 a1).bind fun t339 => (if t339 = 0 then (none) else (some (wrap64 (Int.tdiv a0 t339), wrap64 (Int.tdiv a1 t339))))) = some (r1, r2) := h
 clear h
 replace H := Option.bind_eq_some_iff.mp H
 obtain ⟨t339, A30, H⟩ := H
 replace H : (if t339 = 0 then (none) else (some (wrap64 (Int.tdiv a0 t339), wrap64 (Int.tdiv a1 t339)))) = some (r1, r2) := H
 have A3 := za.mk A30
 clear A30
 by_cases c4 : t339 = 0
 ·rw [if_pos c4] at H
  exact absurd H (by simp)
 ·rw [if_neg c4] at H
  have c4b0 : (t339 == 0) = false := beq_eq_false_iff_ne.mpr c4;have c4b1 : (t339 != 0) = true := bne_iff_ne.mpr c4;simp only [Option.some.injEq, Prod.mk.injEq] at H;obtain ⟨rfl, rfl⟩ := H;go_enter Try.func40, Try.ntmps40
  try go_wp2_with (first | ((with_reducible refine zbx (N := 4) rfl ?_); refine zb0 ?hg (N := 4) ?hd (cs := #[.int .i64 0, .int .i64 0]) (t := 30) ?hr ?_; (case hd => rfl); (case hg => rfl); (case hr => first | (go_simp; done) | (go_simp; rfl)); intro gb338 hg w5 hbox hb; have n0_ := za.mk (zn (Zq1 HB) hb); have n1_ := za.mk (hbox); have n2_ := za.mk ((by rw [hg]; exact (zba (Zq1 HB)) : w.heap.size ≤ gb338)); have n3_ := za.mk ((by rw [hg]; exact (zba (Zq1 HB)) : w.heap.size ≤ gb338)); clear HB; have HB := n0_; have BK338 := n1_; have GW338 := n2_; have GE338 := n3_; clear n0_ n1_ n2_ n3_; clear hb hbox hg) | ((with_reducible refine zw (f := 68) rfl ?_); refine zbv (some 8) rfl rfl Try.func68 (by kernel_rfl) rfl #[.int .i64 a0, .int .i64 a1] rfl Zmt ?_; (with_reducible refine (zcx.calls k a0 a1 t339 _ A3.out).mono ?_); rintro e w' ⟨rfl, ⟨nd, rfl⟩⟩; refine ⟨_, rfl, ?_⟩; (try (rw [zf7 w5]; generalize hq_ : World.drewN w5 _ = w5; have n0_ : za (w5.heap[gb338]? = some (.cells #[.int .i64 0, .int .i64 0] 30 (0, 0))) := ⟨by rw [← hq_]; exact (Zq2 BK338)⟩; have n1_ : za (Below w.heap.size w w5) := ⟨by rw [← hq_]; exact (Zq3 HB GE338)⟩; clear BK338 HB hq_; have BK338 := n0_; have HB := n1_; clear n0_ n1_))))
  have n0_ := za.mk (zz BK338.out);have n1_ := za.mk (zbh HB.out);clear BK338;clear HB;have BK338 := n0_;have HB := n1_;clear n0_ n1_;refine zci (n := 8) (S := fun w' => True) (ds := []) #[false, false, false, false, false, false, false, false] (by kernel_rfl) rfl rfl trivial (fun hHeld => ?_); refine zbp zcb.tab2 zcb.zic (fun HT_ HW_ => ?_);generalize w5.drew = w6 at BK338 HB hHeld ⊢;refine zl (i := 0) (N := some 9) (v := ?_) (a' := ?_) #[true, false, false, false, false, false, false, false] rfl rfl (zf HT_.out (by kernel_rfl)) (fun _ _ _ h => h) (Or.inl ⟨by rfl, ?_⟩) ?_ ?_;rotate_left
  ·intro w'
   go_simp;with_reducible rfl
  rotate_left
  ·simp only [Act.put, Zs1, Zs2, Zs3, zh, zi]
   rfl
  refine zl (i := 1) (N := some 10) (v := ?_) (a' := ?_) #[true, true, false, false, false, false, false, false] rfl rfl (zf HT_.out (by kernel_rfl)) (fun _ _ _ h => h) (Or.inl ⟨by rfl, ?_⟩) ?_ ?_;rotate_left
  ·intro w'
   go_simp;with_reducible rfl
  rotate_left
  ·simp only [Act.put, Zs1, Zs2, Zs3, zh, zi]
   rfl
  refine zl (i := 2) (N := some 11) (v := ?_) (a' := ?_) #[true, true, true, false, false, false, false, false] rfl rfl (zf HT_.out (by kernel_rfl)) (fun _ _ _ h => h) (Or.inl ⟨by rfl, ?_⟩) ?_ ?_;rotate_left
  ·intro w'
   go_simp;with_reducible rfl
  rotate_left
  ·simp only [Act.put, Zs1, Zs2, Zs3, zh, zi]
   rfl
  refine zl (i := 3) (N := some 12) (v := ?_) (a' := ?_) #[true, true, true, true, false, false, false, false] rfl rfl (zf HT_.out (by kernel_rfl)) (fun _ _ _ h => h) (Or.inl ⟨by rfl, ?_⟩) ?_ ?_;rotate_left
  ·intro w'
   go_simp;with_reducible rfl
  rotate_left
  ·simp only [Act.put, Zs1, Zs2, Zs3, zh, zi]
   rfl
  refine zl (i := 4) (N := some 13) (v := ?_) (a' := ?_) #[true, true, true, true, true, false, false, false] rfl rfl (zf HT_.out (by kernel_rfl)) (fun _ _ _ h => h) (Or.inl ⟨by rfl, ?_⟩) ?_ ?_;rotate_left
  ·intro w'
   go_simp;with_reducible rfl
  rotate_left
  ·simp only [Act.put, Zs1, Zs2, Zs3, zh, zi]
   rfl
  refine zl (i := 5) (N := some 14) (v := ?_) (a' := ?_) #[true, true, true, true, true, true, false, false] rfl rfl (zf HT_.out (by kernel_rfl)) (fun _ _ _ h => h) (Or.inl ⟨by rfl, ?_⟩) ?_ ?_;rotate_left
  ·intro w'
   go_simp;with_reducible rfl
  rotate_left
  ·simp only [Act.put, Zs1, Zs2, Zs3, zh, zi]
   rfl
  refine zl (i := 6) (N := some 15) (v := ?_) (a' := ?_) #[true, true, true, true, true, true, true, false] rfl rfl (zf HT_.out (by kernel_rfl)) (fun _ _ _ h => h) (Or.inl ⟨by rfl, ?_⟩) ?_ ?_;rotate_left
  ·intro w'
   go_simp;with_reducible rfl
  rotate_left
  ·simp only [Act.put, Zs1, Zs2, Zs3, zh, zi]
   rfl
  refine one_ (i := 7) (N := none) #[true, true, true, true, true, true, true, true] rfl rfl (zbz HT_.out (by kernel_rfl)) (by decide) (fun K hK => ?_);have hs7 : w6.cell? ⟨gb338, 0, none⟩ = some (.int .i64 0) := (ze BK338.out 0).trans rfl;have hfs7 := zo BK338.out 0;have hs8 : w6.cell? ⟨gb338, 1, none⟩ = some (.int .i64 0) := (ze BK338.out 1).trans rfl;have hfs8 := zo BK338.out 1;refine zh9 (w1 := ?_) (by rfl) rfl ?_ ?_;rotate_left
  ·go_simp
   rfl
  refine hK.out _ _ trivial (fun hHeld => ?_);clear hK K;refine zcz (zb4 HT_.out (by kernel_rfl)) ?_
  try go_wp2
  refine bodyPost_ret (results_cell_row rfl _ _ gb338 30 #[.int .i64 (wrap64 (Int.tdiv a0 t339)), .int .i64 (wrap64 (Int.tdiv a1 t339))] (0, 0) _ rfl (by (with_reducible repeat (first | refine zbe ?_ _ | refine zz ?_ | refine zbd ?_ _)); refine zcj (cs := #[.int .i64 (wrap64 (Int.tdiv a0 t339)), .int .i64 0]) ?_ 1 _ rfl; (with_reducible repeat (first | refine zbe ?_ _ | refine zz ?_ | refine zbd ?_ _)); refine zcj (cs := #[.int .i64 0, .int .i64 0]) ?_ 0 _ rfl; (with_reducible repeat (first | refine zbe ?_ _ | refine zz ?_ | refine zbd ?_ _)); exact BK338.out) Try.underlying30 rfl (by kernel_rfl)) rfl ?_;exact ⟨by first | rfl | (simp [zq, zt] <;> rfl) | (simp [*, zq, zt] <;> rfl), Zq3 HB GE338⟩
def zex.f (k : Nat) (a0 : Int) (a1 : Int) : Option (Int) := (zcx.f k a0 a1).bind fun t340 => (if t340 = 0 then (none) else (some (wrap64 ((wrap64 (Int.tdiv a0 t340)) * a1))))
set_option maxHeartbeats 8000000 in
theorem zex.calls (k : Nat) (a0 : Int) (a1 : Int) (r : Int) (w : World) (h : zex.f k a0 a1 = some r) :
  Calls Try.prog 69 #[.int .i64 a0, .int .i64 a1] w fun e w' => e = .returned (.int .i64 r) ∧ zbt w w' := by
 have H : ((zcx.f k a0 a1).bind fun t340 => (if t340 = 0 then (none) else (some (wrap64 ((wrap64 (Int.tdiv a0 t340)) * a1))))) = some r := h
 clear h
 replace H := Option.bind_eq_some_iff.mp H
 obtain ⟨t340, A30, H⟩ := H
 replace H : (if t340 = 0 then (none) else (some (wrap64 ((wrap64 (Int.tdiv a0 t340)) * a1)))) = some r := H
 have A3 := za.mk A30
 clear A30
 by_cases c4 : t340 = 0
 ·rw [if_pos c4] at H
  exact absurd H (by simp)
 ·rw [if_neg c4] at H
  have c4b0 : (t340 == 0) = false := beq_eq_false_iff_ne.mpr c4;have c4b1 : (t340 != 0) = true := bne_iff_ne.mpr c4;obtain rfl := Option.some.inj H;go_enter Try.func69, Try.ntmps69;go_wp2_with (first | ((with_reducible refine zw (f := 68) rfl ?_); refine zbv (some 8) rfl rfl Try.func68 (by kernel_rfl) rfl #[.int .i64 a0, .int .i64 a1] rfl Zmt ?_; (with_reducible refine (zcx.calls k a0 a1 t340 _ A3.out).mono ?_); rintro e w' ⟨rfl, ⟨nd, rfl⟩⟩; refine ⟨_, rfl, ?_⟩));go_ret;exact ⟨by first | rfl | (simp; done) | (simp [*]; done), by repeat (first | exact zbt.refl _ | apply zbt.step)⟩
def zb7.l0 : Nat → Int → List (S35) → Int → Int → Option (Int)
 | 0, _, _, _, _ => none
 | k + 1, x3, x6, x7, x8 => if x8 < x7 then (if 0 ≤ x8 then (if x8 < (x6.length : Int) then ((zex.f k x3 ((zg x6 x8).f2)).bind fun t343 => (zb7.l0 k t343 x6 x7 (wrap64 (x8 + 1)))) else (none)) else (none)) else (some x3)
def zb7.f (k : Nat) (l0 : List (S35)) : Option (Int) := zb7.l0 k 1 l0 (l0.length : Int) 0
set_option maxHeartbeats 8000000 in
theorem zb7.calls (k : Nat) (A0 : Option Addr) (c0 : Nat) (l0 : List (S35)) (r : Int) (w : World) (hr0 : Kd.C k35 w A0 l0.length l0) (hc0 : l0.length ≤ c0) (h : zb7.f k l0 = some r) :
  Calls Try.prog 42 #[.slice A0 l0.length c0] w fun e w' => e = .returned (.int .i64 r) ∧ Below w.heap.size w w' := by
 have hu35 := Try.underlying35
 have HR0 := za.mk hr0
 have HC0 := za.mk hc0
 clear hr0 hc0
 have HB := za.mk (Below.refl w.heap.size w)
 have H : (zb7.l0 k 1 l0 (l0.length : Int) 0) = some r := h
 clear h
 have H' := za.mk H
 clear H
 go_enter Try.func42, Try.ntmps42
 go_wp2
 go_loopg [3, 8] k (fun kq v3 v8 w' => ∃ (x3_1 : Int) (x8_1 : Int), v3 = .int .i64 x3_1 ∧ v8 = .int .i64 x8_1 ∧ za (zb7.l0 kq x3_1 l0 (l0.length : Int) x8_1 = some r) ∧ za (kq ≤ k) ∧ za (Below w.heap.size w w'))
 case atStart => exact ⟨(1), (0), Zrs, Zrs, H', ⟨Nat.le_refl _⟩, ⟨Zq1 HB⟩⟩
 case round =>
  clear H';obtain ⟨x3_1, x8_1, rfl, rfl, HA, HK1, HB⟩ := hrel
  cases gk with
  | zero => exact absurd HA.out (by simp [zb7.l0])
  | succ k1 =>
   have H := HA.out;clear HA;simp only [zb7.l0] at H;by_cases c2 : x8_1 < (l0.length : Int)
   ·rw [if_pos c2] at H
    have c2b0 : decide (x8_1 < (l0.length : Int)) = true := decide_eq_true c2;clear c2;by_cases c3 : 0 ≤ x8_1
    ·rw [if_pos c3] at H
     have c3b0 : decide (0 ≤ x8_1) = true := decide_eq_true c3;clear c3;by_cases c4 : x8_1 < (l0.length : Int)
     ·rw [if_pos c4] at H
      have c4b0 : decide (x8_1 < (l0.length : Int)) = true := decide_eq_true c4;clear c4;replace H := Option.bind_eq_some_iff.mp H;obtain ⟨t343, A50, H⟩ := H;replace H : (zb7.l0 k1 t343 l0 (l0.length : Int) (wrap64 (x8_1 + 1))) = some r := H;have A5 := za.mk A50;clear A50;have H' := za.mk H;clear H;have p341 : 0 ≤ (x8_1 : Int) := of_decide_eq_true Zas;have q341 : x8_1 < (l0.length : Int) := of_decide_eq_true Zas;obtain ⟨ad341, e341, hx341_0, hx341_1, hx341_2⟩ := zck HR0.out x8_1 p341 q341
      cases e341
      replace hx341_0 := (HB.out.cell (World.block_lt_of_cell? w _ hx341_0)).trans hx341_0;replace hx341_1 := (HB.out.cell (World.block_lt_of_cell? w _ hx341_1)).trans hx341_1;replace hx341_2 := (HB.out.cell (World.block_lt_of_cell? w _ hx341_2)).trans hx341_2;replace p341 := eq_true p341;replace q341 := eq_true q341;go_wp2_with (first | ((with_reducible refine zbx (N := 5) rfl ?_); refine zb0 ?hg (N := 5) ?hd (cs := #[.int .i64 0, .int .i64 0, .int .i64 0]) (t := 35) ?hr ?_; (case hd => rfl); (case hg => rfl); (case hr => first | (go_simp; done) | (go_simp; rfl)); intro gb342 hg w6 hbox hb; have n0_ := za.mk (zn (Zq1 HB) hb); have n1_ := za.mk (hbox); have n2_ := za.mk ((by rw [hg]; exact (zba (Zq1 HB)) : w.heap.size ≤ gb342)); have n3_ := za.mk ((by rw [hg]; exact (zba (Zq1 HB)) : w.heap.size ≤ gb342)); clear HB; have HB := n0_; have BK342 := n1_; have GW342 := n2_; have GE342 := n3_; clear n0_ n1_ n2_ n3_; clear hb hbox hg; have hcz7_0 : w6.cell? ⟨gb342, 0, none⟩ = some (.int .i64 0) := (ze BK342.out 0).trans rfl; have hcz7_1 : w6.cell? ⟨gb342, 1, none⟩ = some (.int .i64 0) := (ze BK342.out 1).trans rfl; have hcz7_2 : w6.cell? ⟨gb342, 2, none⟩ = some (.int .i64 0) := (ze BK342.out 2).trans rfl; have hfz7_0 := zo BK342.out 0; have hfz7_1 := zo BK342.out 1; have hfz7_2 := zo BK342.out 2) | ((with_reducible refine zw (f := 69) rfl ?_); refine zbv (some 15) rfl rfl Try.func69 (by kernel_rfl) rfl #[.int .i64 x3_1, .int .i64 ((zg l0 x8_1).f2)] rfl Zmt ?_; (with_reducible refine (zex.calls k1 x3_1 ((zg l0 x8_1).f2) t343 _ A5.out).mono ?_); rintro e w' ⟨rfl, ⟨nd, rfl⟩⟩; refine ⟨_, rfl, ?_⟩));go_roundg k1
      case measure => have := HK1.out; omega
      case rel => exact ⟨(t343), (wrap64 (x8_1 + 1)), Zrs, Zrs, H', ⟨by have := HK1.out; omega⟩, ⟨Zq3 HB GE342⟩⟩
     ·rw [if_neg c4] at H
      exact absurd H (by simp)
    ·rw [if_neg c3] at H
     exact absurd H (by simp)
   ·rw [if_neg c2] at H
    have c2b0 : decide (x8_1 < (l0.length : Int)) = false := decide_eq_false c2;clear c2;obtain rfl := Option.some.inj H;go_wp2;go_ret;exact ⟨by first | rfl | (simp [zq, zt] <;> rfl) | (simp [*, zq, zt] <;> rfl), Zq1 HB⟩
def zcq.l0 : Nat → Int → Int → List (S35) → Int → Int → Option (Int)
 | 0, _, _, _, _, _ => none
 | k + 1, x3, x4, x9, x10, x11 => if x11 < x10 then (if 0 ≤ x11 then (if x11 < (x9.length : Int) then (if ((zg x9 x11).f2) = 0 then (none) else (zcq.l0 k x3 (wrap64 (x4 + (wrap64 ((wrap64 (Int.tdiv x3 ((zg x9 x11).f2))) * ((zg x9 x11).f0))))) x9 x10 (wrap64 (x11 + 1)))) else (none)) else (none)) else (some x4)
def zcq.f (k : Nat) (l0 : List (S35)) : Option (Int) := (zb7.f k l0).bind fun t344 => (zcq.l0 k t344 0 l0 (l0.length : Int) 0)
set_option maxHeartbeats 8000000 in
theorem zcq.calls (k : Nat) (A0 : Option Addr) (c0 : Nat) (l0 : List (S35)) (r : Int) (w : World) (hr0 : Kd.C k35 w A0 l0.length l0) (hc0 : l0.length ≤ c0) (h : zcq.f k l0 = some r) :
  Calls Try.prog 41 #[.slice A0 l0.length c0] w fun e w' => e = .returned (.int .i64 r) ∧ Below w.heap.size w w' := by
 have hu35 := Try.underlying35
 have HR0 := za.mk hr0
 have HC0 := za.mk hc0
 clear hr0 hc0
 have HB := za.mk (Below.refl w.heap.size w)
 have H : ((zb7.f k l0).bind fun t344 => (zcq.l0 k t344 0 l0 (l0.length : Int) 0)) = some r := h
 clear h
 replace H := Option.bind_eq_some_iff.mp H
 obtain ⟨t344, A20, H⟩ := H
 replace H : (zcq.l0 k t344 0 l0 (l0.length : Int) 0) = some r := H
 have A2 := za.mk A20
 clear A20
 have H' := za.mk H
 clear H
 go_enter Try.func41, Try.ntmps41
 go_wp2_with (first | (go_at_call 42; (with_reducible refine (zb7.calls k _ _ l0 t344 _ ?side1 ?side2 A2.out).mono ?_); (case side1 => exact Zq17 HR0); (case side2 => exact HC0.out); rintro e w3 ⟨rfl, hb⟩; have n0_ := za.mk (zn (Zq1 HB) hb); clear HB; have HB := n0_; clear n0_; (try clear hb); (try clear hb2); (try clear hk); (try clear hi)))
 repeat (go_quiet (first | (go_at_call 42; (with_reducible refine (zb7.calls k _ _ l0 t344 _ ?side1 ?side2 A2.out).mono ?_); (case side1 => exact Zq17 HR0); (case side2 => exact HC0.out); rintro e w3 ⟨rfl, hb⟩; have n0_ := za.mk (zn (Zq1 HB) hb); clear HB; have HB := n0_; clear n0_; (try clear hb); (try clear hb2); (try clear hk); (try clear hi))); try go_wp2_with (first | (go_at_call 42; (with_reducible refine (zb7.calls k _ _ l0 t344 _ ?side1 ?side2 A2.out).mono ?_); (case side1 => exact Zq17 HR0); (case side2 => exact HC0.out); rintro e w3 ⟨rfl, hb⟩; have n0_ := za.mk (zn (Zq1 HB) hb); clear HB; have HB := n0_; clear n0_; (try clear hb); (try clear hb2); (try clear hk); (try clear hi))))
 go_loopg [4, 11] k (fun kq v4 v11 w' => ∃ (x4_1 : Int) (x11_1 : Int), v4 = .int .i64 x4_1 ∧ v11 = .int .i64 x11_1 ∧ za (zcq.l0 kq t344 x4_1 l0 (l0.length : Int) x11_1 = some r) ∧ za (kq ≤ k) ∧ za (Below w.heap.size w w'))
 case atStart => exact ⟨(0), (0), Zrs, Zrs, H', ⟨Nat.le_refl _⟩, ⟨Zq1 HB⟩⟩
 case round =>
  clear H'
  try clear p2
  obtain ⟨x4_1, x11_1, rfl, rfl, HA, HK1, HB⟩ := hrel
  cases gk with
  | zero => exact absurd HA.out (by simp [zcq.l0])
  | succ k1 =>
   have H := HA.out;clear HA;simp only [zcq.l0] at H;by_cases c4 : x11_1 < (l0.length : Int)
   ·rw [if_pos c4] at H
    have c4b0 : decide (x11_1 < (l0.length : Int)) = true := decide_eq_true c4;clear c4;by_cases c5 : 0 ≤ x11_1
    ·rw [if_pos c5] at H
     have c5b0 : decide (0 ≤ x11_1) = true := decide_eq_true c5;clear c5;by_cases c6 : x11_1 < (l0.length : Int)
     ·rw [if_pos c6] at H
      have c6b0 : decide (x11_1 < (l0.length : Int)) = true := decide_eq_true c6;clear c6;by_cases c7 : ((zg l0 x11_1).f2) = 0
      ·rw [if_pos c7] at H
       exact absurd H (by simp)
      ·rw [if_neg c7] at H
       have c7b0 : (((zg l0 x11_1).f2) == 0) = false := beq_eq_false_iff_ne.mpr c7;have c7b1 : (((zg l0 x11_1).f2) != 0) = true := bne_iff_ne.mpr c7;have H' := za.mk H;clear H;have p345 : 0 ≤ (x11_1 : Int) := of_decide_eq_true Zas;have q345 : x11_1 < (l0.length : Int) := of_decide_eq_true Zas;obtain ⟨ad345, e345, hx345_0, hx345_1, hx345_2⟩ := zck HR0.out x11_1 p345 q345
       cases e345
       replace hx345_0 := (HB.out.cell (World.block_lt_of_cell? w _ hx345_0)).trans hx345_0;replace hx345_1 := (HB.out.cell (World.block_lt_of_cell? w _ hx345_1)).trans hx345_1;replace hx345_2 := (HB.out.cell (World.block_lt_of_cell? w _ hx345_2)).trans hx345_2;replace p345 := eq_true p345;replace q345 := eq_true q345;go_wp2_with (first | ((with_reducible refine zbx (N := 6) rfl ?_); refine zb0 ?hg (N := 6) ?hd (cs := #[.int .i64 0, .int .i64 0, .int .i64 0]) (t := 35) ?hr ?_; (case hd => rfl); (case hg => rfl); (case hr => first | (go_simp; done) | (go_simp; rfl)); intro gb346 hg w8 hbox hb; have n0_ := za.mk (zn (Zq1 HB) hb); have n1_ := za.mk (hbox); have n2_ := za.mk ((by rw [hg]; exact (zba (Zq1 HB)) : w.heap.size ≤ gb346)); have n3_ := za.mk ((by rw [hg]; exact (zba (Zq1 HB)) : w.heap.size ≤ gb346)); clear HB; have HB := n0_; have BK346 := n1_; have GW346 := n2_; have GE346 := n3_; clear n0_ n1_ n2_ n3_; clear hb hbox hg; have hcz9_0 : w8.cell? ⟨gb346, 0, none⟩ = some (.int .i64 0) := (ze BK346.out 0).trans rfl; have hcz9_1 : w8.cell? ⟨gb346, 1, none⟩ = some (.int .i64 0) := (ze BK346.out 1).trans rfl; have hcz9_2 : w8.cell? ⟨gb346, 2, none⟩ = some (.int .i64 0) := (ze BK346.out 2).trans rfl; have hfz9_0 := zo BK346.out 0; have hfz9_1 := zo BK346.out 1; have hfz9_2 := zo BK346.out 2))
       repeat (go_quiet (first | ((with_reducible refine zbx (N := 6) rfl ?_); refine zb0 ?hg (N := 6) ?hd (cs := #[.int .i64 0, .int .i64 0, .int .i64 0]) (t := 35) ?hr ?_; (case hd => rfl); (case hg => rfl); (case hr => first | (go_simp; done) | (go_simp; rfl)); intro gb346 hg w8 hbox hb; have n0_ := za.mk (zn (Zq1 HB) hb); have n1_ := za.mk (hbox); have n2_ := za.mk ((by rw [hg]; exact (zba (Zq1 HB)) : w.heap.size ≤ gb346)); have n3_ := za.mk ((by rw [hg]; exact (zba (Zq1 HB)) : w.heap.size ≤ gb346)); clear HB; have HB := n0_; have BK346 := n1_; have GW346 := n2_; have GE346 := n3_; clear n0_ n1_ n2_ n3_; clear hb hbox hg; have hcz9_0 : w8.cell? ⟨gb346, 0, none⟩ = some (.int .i64 0) := (ze BK346.out 0).trans rfl; have hcz9_1 : w8.cell? ⟨gb346, 1, none⟩ = some (.int .i64 0) := (ze BK346.out 1).trans rfl; have hcz9_2 : w8.cell? ⟨gb346, 2, none⟩ = some (.int .i64 0) := (ze BK346.out 2).trans rfl; have hfz9_0 := zo BK346.out 0; have hfz9_1 := zo BK346.out 1; have hfz9_2 := zo BK346.out 2)); try go_wp2_with (first | ((with_reducible refine zbx (N := 6) rfl ?_); refine zb0 ?hg (N := 6) ?hd (cs := #[.int .i64 0, .int .i64 0, .int .i64 0]) (t := 35) ?hr ?_; (case hd => rfl); (case hg => rfl); (case hr => first | (go_simp; done) | (go_simp; rfl)); intro gb346 hg w8 hbox hb; have n0_ := za.mk (zn (Zq1 HB) hb); have n1_ := za.mk (hbox); have n2_ := za.mk ((by rw [hg]; exact (zba (Zq1 HB)) : w.heap.size ≤ gb346)); have n3_ := za.mk ((by rw [hg]; exact (zba (Zq1 HB)) : w.heap.size ≤ gb346)); clear HB; have HB := n0_; have BK346 := n1_; have GW346 := n2_; have GE346 := n3_; clear n0_ n1_ n2_ n3_; clear hb hbox hg; have hcz9_0 : w8.cell? ⟨gb346, 0, none⟩ = some (.int .i64 0) := (ze BK346.out 0).trans rfl; have hcz9_1 : w8.cell? ⟨gb346, 1, none⟩ = some (.int .i64 0) := (ze BK346.out 1).trans rfl; have hcz9_2 : w8.cell? ⟨gb346, 2, none⟩ = some (.int .i64 0) := (ze BK346.out 2).trans rfl; have hfz9_0 := zo BK346.out 0; have hfz9_1 := zo BK346.out 1; have hfz9_2 := zo BK346.out 2)))
       go_roundg k1
       case measure => have := HK1.out; omega
       case rel => exact ⟨(wrap64 (x4_1 + (wrap64 ((wrap64 (Int.tdiv t344 ((zg l0 x11_1).f2))) * ((zg l0 x11_1).f0))))), (wrap64 (x11_1 + 1)), Zrs, Zrs, H', ⟨by have := HK1.out; omega⟩, ⟨Zq3 HB GE346⟩⟩
     ·rw [if_neg c6] at H
      exact absurd H (by simp)
    ·rw [if_neg c5] at H
     exact absurd H (by simp)
   ·rw [if_neg c4] at H
    have c4b0 : decide (x11_1 < (l0.length : Int)) = false := decide_eq_false c4;clear c4;obtain rfl := Option.some.inj H;go_wp2
    repeat (go_quiet (fail); try go_wp2)
    go_ret;exact ⟨by first | rfl | (simp [zq, zt] <;> rfl) | (simp [*, zq, zt] <;> rfl), Zq1 HB⟩
def zb9.f (k : Nat) (l0 : List (S35)) : Option (Int × Int) := (zco.f l0).bind fun t348 => (if t348 = true then ((zcq.f k l0).bind fun t349 => ((zb7.f k l0).bind fun t350 => ((zcb.f k t349 t350).bind fun bt351 => (some (bt351.1, bt351.2))))) else (some (0, 0)))
set_option maxHeartbeats 8000000 in
theorem zb9.calls (k : Nat) (A0 : Option Addr) (c0 : Nat) (l0 : List (S35)) (r1 : Int) (r2 : Int) (w : World) (hr0 : Kd.C k35 w A0 l0.length l0) (hc0 : l0.length ≤ c0) (h : zb9.f k l0 = some (r1, r2)) :
  Calls Try.prog 13 #[.slice A0 l0.length c0] w fun e w' => e = .returned (.agg #[.int .i64 r1, .int .i64 r2]) ∧ Below w.heap.size w w' := by
 have hu30 := Try.underlying30
 have HR0 := za.mk hr0
 have HC0 := za.mk hc0
 clear hr0 hc0
 have HB := za.mk (Below.refl w.heap.size w)
 have H : ((zco.f l0).bind fun t348 => (if t348 = true then ((zcq.f k l0).bind fun t349 => ((zb7.f k l0).bind fun t350 => ((zcb.f k t349 t350).bind fun bt351 => (some (bt351.1, bt351.2))))) else (some (0, 0)))) = some (r1, r2) := h
 clear h
 replace H := Option.bind_eq_some_iff.mp H
 obtain ⟨t348, A20, H⟩ := H
 replace H : (if t348 = true then ((zcq.f k l0).bind fun t349 => ((zb7.f k l0).bind fun t350 => ((zcb.f k t349 t350).bind fun bt351 => (some (bt351.1, bt351.2))))) else (some (0, 0))) = some (r1, r2) := H
 have A2 := za.mk A20
 clear A20
 by_cases c3 : t348 = true
 ·subst c3
  have H1 : ((zcq.f k l0).bind fun t349 => ((zb7.f k l0).bind fun t350 => ((zcb.f k t349 t350).bind fun bt351 => (some (bt351.1, bt351.2))))) = some (r1, r2) := by rw [if_pos rfl] at H; exact H
  clear H;have H := H1;clear H1;replace H := Option.bind_eq_some_iff.mp H;obtain ⟨t349, A40, H⟩ := H;replace H : ((zb7.f k l0).bind fun t350 => ((zcb.f k t349 t350).bind fun bt351 => (some (bt351.1, bt351.2)))) = some (r1, r2) := H;have A4 := za.mk A40;clear A40;replace H := Option.bind_eq_some_iff.mp H;obtain ⟨t350, A50, H⟩ := H;replace H : ((zcb.f k t349 t350).bind fun bt351 => (some (bt351.1, bt351.2))) = some (r1, r2) := H;have A5 := za.mk A50;clear A50;replace H := Option.bind_eq_some_iff.mp H;obtain ⟨⟨t351, t352⟩, A60, H⟩ := H;replace H : (some (t351, t352)) = some (r1, r2) := H;have A6 := za.mk A60;clear A60;simp only [Option.some.injEq, Prod.mk.injEq] at H;obtain ⟨rfl, rfl⟩ := H;go_enter Try.func13, Try.ntmps13;go_wp2_with (first | ((with_reducible refine zbx (N := 2) rfl ?_); refine zb0 ?hg (N := 2) ?hd (cs := #[.int .i64 0, .int .i64 0]) (t := 30) ?hr ?_; (case hd => rfl); (case hg => rfl); (case hr => first | (go_simp; done) | (go_simp; rfl)); intro gb347 hg w7 hbox hb; have n0_ := za.mk (zn (Zq1 HB) hb); have n1_ := za.mk (hbox); have n2_ := za.mk ((by rw [hg]; exact (zba (Zq1 HB)) : w.heap.size ≤ gb347)); have n3_ := za.mk ((by rw [hg]; exact (zba (Zq1 HB)) : w.heap.size ≤ gb347)); clear HB; have HB := n0_; have BK347 := n1_; have GW347 := n2_; have GE347 := n3_; clear n0_ n1_ n2_ n3_; clear hb hbox hg) | ((with_reducible refine zw (f := 39) rfl ?_); refine zbv (some 4) rfl rfl Try.func39 (by kernel_rfl) rfl #[.slice A0 l0.length c0] rfl Zmt ?_; (with_reducible refine (zco.calls _ _ l0 true _ ?side1 ?side2 A2.out).mono ?_); (case side1 => exact Zq18 (Kd.zc9 HR0.out HB.out)); (case side2 => exact HC0.out); rintro e w8 ⟨rfl, hb⟩; refine ⟨_, rfl, ?_⟩; have n0_ := za.mk (zbk (g := gb347) (o := .cells #[.int .i64 0, .int .i64 0] 30 (0, 0)) (Zq2 BK347) hb); have n1_ := za.mk (zn (Zq3 HB GE347) hb); clear BK347; clear HB; have BK347 := n0_; have HB := n1_; clear n0_ n1_; (try clear hb); (try clear hb2); (try clear hk); (try clear hi)) | ((with_reducible refine zw (f := 41) rfl ?_); refine zbv (some 8) rfl rfl Try.func41 (by kernel_rfl) rfl #[.slice A0 l0.length c0] rfl Zmt ?_; (with_reducible refine (zcq.calls k _ _ l0 t349 _ ?side1 ?side2 A4.out).mono ?_); (case side1 => exact Zq18 (Kd.zc9 HR0.out HB.out)); (case side2 => exact HC0.out); rintro e w9 ⟨rfl, hb⟩; refine ⟨_, rfl, ?_⟩; have n0_ := za.mk (zbk (g := gb347) (o := .cells #[.int .i64 0, .int .i64 0] 30 (0, 0)) (Zq2 BK347) hb); have n1_ := za.mk (zn (Zq3 HB GE347) hb); clear BK347; clear HB; have BK347 := n0_; have HB := n1_; clear n0_ n1_; (try clear hb); (try clear hb2); (try clear hk); (try clear hi)) | ((with_reducible refine zw (f := 42) rfl ?_); refine zbv (some 10) rfl rfl Try.func42 (by kernel_rfl) rfl #[.slice A0 l0.length c0] rfl Zmt ?_; (with_reducible refine (zb7.calls k _ _ l0 t350 _ ?side1 ?side2 A5.out).mono ?_); (case side1 => exact Zq18 (Kd.zc9 HR0.out HB.out)); (case side2 => exact HC0.out); rintro e w10 ⟨rfl, hb⟩; refine ⟨_, rfl, ?_⟩; have n0_ := za.mk (zbk (g := gb347) (o := .cells #[.int .i64 0, .int .i64 0] 30 (0, 0)) (Zq2 BK347) hb); have n1_ := za.mk (zn (Zq3 HB GE347) hb); clear BK347; clear HB; have BK347 := n0_; have HB := n1_; clear n0_ n1_; (try clear hb); (try clear hb2); (try clear hk); (try clear hi)) | ((with_reducible refine zw (f := 40) rfl ?_); refine zbv (some 11) rfl rfl Try.func40 (by kernel_rfl) rfl #[.int .i64 t349, .int .i64 t350] rfl Zmt ?_; (with_reducible refine (zcb.calls k t349 t350 t351 t352 _ A6.out).mono ?_); rintro e w11 ⟨rfl, hb⟩; refine ⟨_, rfl, ?_⟩; have n0_ := za.mk (zbk (g := gb347) (o := .cells #[.int .i64 0, .int .i64 0] 30 (0, 0)) (Zq2 BK347) hb); have n1_ := za.mk (zn (Zq3 HB GE347) hb); clear BK347; clear HB; have BK347 := n0_; have HB := n1_; clear n0_ n1_; (try clear hb); (try clear hb2); (try clear hk); (try clear hi); have hcz12_0 : w11.cell? ⟨gb347, 0, none⟩ = some (.int .i64 0) := (ze BK347.out 0).trans rfl; have hcz12_1 : w11.cell? ⟨gb347, 1, none⟩ = some (.int .i64 0) := (ze BK347.out 1).trans rfl; have hfz12_0 := zo BK347.out 0; have hfz12_1 := zo BK347.out 1));refine bodyPost_ret (results_cell_row rfl _ _ gb347 30 #[.int .i64 t351, .int .i64 t352] (0, 0) _ rfl (by (with_reducible repeat (first | refine zbe ?_ _ | refine zz ?_ | refine zbd ?_ _)); refine zcj (cs := #[.int .i64 t351, .int .i64 0]) ?_ 1 _ rfl; (with_reducible repeat (first | refine zbe ?_ _ | refine zz ?_ | refine zbd ?_ _)); refine zcj (cs := #[.int .i64 0, .int .i64 0]) ?_ 0 _ rfl; (with_reducible repeat (first | refine zbe ?_ _ | refine zz ?_ | refine zbd ?_ _)); exact BK347.out) Try.underlying30 rfl (by kernel_rfl)) rfl ?_;exact ⟨by first | rfl | (simp [zq, zt] <;> rfl) | (simp [*, zq, zt] <;> rfl), Zq3 HB GE347⟩
 ·replace c3 := Bool.eq_false_iff.mpr c3
  subst c3;have H1 : (some (0, 0)) = some (r1, r2) := by rw [if_neg (show ¬ (false = true) by decide)] at H; exact H
  clear H;have H := H1;clear H1;simp only [Option.some.injEq, Prod.mk.injEq] at H;obtain ⟨rfl, rfl⟩ := H;go_enter Try.func13, Try.ntmps13;go_wp2_with (first | ((with_reducible refine zbx (N := 2) rfl ?_); refine zb0 ?hg (N := 2) ?hd (cs := #[.int .i64 0, .int .i64 0]) (t := 30) ?hr ?_; (case hd => rfl); (case hg => rfl); (case hr => first | (go_simp; done) | (go_simp; rfl)); intro gb347 hg w13 hbox hb; have n0_ := za.mk (zn (Zq1 HB) hb); have n1_ := za.mk (hbox); have n2_ := za.mk ((by rw [hg]; exact (zba (Zq1 HB)) : w.heap.size ≤ gb347)); have n3_ := za.mk ((by rw [hg]; exact (zba (Zq1 HB)) : w.heap.size ≤ gb347)); clear HB; have HB := n0_; have BK347 := n1_; have GW347 := n2_; have GE347 := n3_; clear n0_ n1_ n2_ n3_; clear hb hbox hg) | ((with_reducible refine zw (f := 39) rfl ?_); refine zbv (some 4) rfl rfl Try.func39 (by kernel_rfl) rfl #[.slice A0 l0.length c0] rfl Zmt ?_; (with_reducible refine (zco.calls _ _ l0 false _ ?side1 ?side2 A2.out).mono ?_); (case side1 => exact Zq18 (Kd.zc9 HR0.out HB.out)); (case side2 => exact HC0.out); rintro e w14 ⟨rfl, hb⟩; refine ⟨_, rfl, ?_⟩; have n0_ := za.mk (zbk (g := gb347) (o := .cells #[.int .i64 0, .int .i64 0] 30 (0, 0)) (Zq2 BK347) hb); have n1_ := za.mk (zn (Zq3 HB GE347) hb); clear BK347; clear HB; have BK347 := n0_; have HB := n1_; clear n0_ n1_; (try clear hb); (try clear hb2); (try clear hk); (try clear hi); have hcz15_0 : w14.cell? ⟨gb347, 0, none⟩ = some (.int .i64 0) := (ze BK347.out 0).trans rfl; have hcz15_1 : w14.cell? ⟨gb347, 1, none⟩ = some (.int .i64 0) := (ze BK347.out 1).trans rfl; have hfz15_0 := zo BK347.out 0; have hfz15_1 := zo BK347.out 1));refine bodyPost_ret (results_cell_row rfl _ _ gb347 30 #[.int .i64 0, .int .i64 0] (0, 0) _ rfl (by (with_reducible repeat (first | refine zbe ?_ _ | refine zz ?_ | refine zbd ?_ _)); refine zcj (cs := #[.int .i64 0, .int .i64 0]) ?_ 1 _ rfl; (with_reducible repeat (first | refine zbe ?_ _ | refine zz ?_ | refine zbd ?_ _)); refine zcj (cs := #[.int .i64 0, .int .i64 0]) ?_ 0 _ rfl; (with_reducible repeat (first | refine zbe ?_ _ | refine zz ?_ | refine zbd ?_ _)); exact BK347.out) Try.underlying30 rfl (by kernel_rfl)) rfl ?_;exact ⟨by first | rfl | (simp [zq, zt] <;> rfl) | (simp [*, zq, zt] <;> rfl), Zq3 HB GE347⟩
def zdv.f  : Option (Bool) := (zcm.f 1 1 1).bind fun t353 => (some t353)
set_option maxHeartbeats 8000000 in
theorem zdv.calls  (r : Bool) (w : World) (h : zdv.f  = some r) :
  Calls Try.prog 14 #[] w fun e w' => e = .returned (.bool r) ∧ Below w.heap.size w w' := by
 have hu35 := Try.underlying35
 have HB := za.mk (Below.refl w.heap.size w)
 have H : ((zcm.f 1 1 1).bind fun t353 => (some t353)) = some r := h
 clear h
 replace H := Option.bind_eq_some_iff.mp H
 obtain ⟨t353, A10, H⟩ := H
 replace H : (some t353) = some r := H
 have A1 := za.mk A10
 clear A10
 obtain rfl := Option.some.inj H
 go_enter Try.func14, Try.ntmps14
 go_wp2_with (first | ((with_reducible refine zw (f := 43) rfl ?_); refine zbv (some 2) rfl rfl Try.func43 (by kernel_rfl) rfl #[.agg #[.int .i64 1, .int .i64 1, .int .i64 1]] rfl Zmt ?_; (with_reducible refine (zcm.calls 1 1 1 t353 _ A1.out).mono ?_); rintro e w2 ⟨rfl, hb⟩; refine ⟨_, rfl, ?_⟩; have n0_ := za.mk (zn (Zq1 HB) hb); clear HB; have HB := n0_; clear n0_; (try clear hb); (try clear hb2); (try clear hk); (try clear hi)))
 go_ret
 exact ⟨by first | rfl | (simp [zq, zt] <;> rfl) | (simp [*, zq, zt] <;> rfl), Zq1 HB⟩
end Go.Proofs.Ytnilnaabjpcfjaa.P
