/- The law FnFairOne for every input, part 5 of its proof: what the program's functions answer, and the plain law. No condition. -/
import Derived.Test.YtnilnaabjpcfjaaMFnFairOne1
import Derived.Test.YtnilnaabjpcfjaaMFnFairOne2
import Derived.Test.YtnilnaabjpcfjaaMFnFairOne3
import Derived.Test.YtnilnaabjpcfjaaMFnFairOne4
set_option maxRecDepth 100000
namespace Go.Proofs.Ytnilnaabjpcfjaa.P
open Go.RowKit Go.Proofs.YtnilnaabjpcfjaaW.PrintWords Go.Proofs.YtnilnaabjpcfjaaW.PrintLast Go.Proofs.YtnilnaabjpcfjaaW.PrintMore
attribute [local go_sem] zfg zfh zgr zgs zex zey zfi zfj
set_option linter.unusedVariables false
set_option linter.unusedSimpArgs false
mutual
def zz.l0 : Nat → List (S35) → List Int → Int → Int → List Int → Option (List Int)
 | 0, _, _, _, _, _ => none
 | k + 1, x0, x1, x2, x3, x9 => if (x9.length : Int) < x3 then (zz.l1 k x0 x1 x2 x3 x9 (-1) 0) else (some x9)
def zz.l1 : Nat → List (S35) → List Int → Int → Int → List Int → Int → Int → Option (List Int)
 | 0, _, _, _, _, _, _, _ => none
 | k + 1, x0, x1, x2, x3, x9, x10, x11 => if x11 < (x0.length : Int) then (if 0 ≤ x11 then (if x11 < (x1.length : Int) then ((zbc.f ((zf x0 x11).f0) ((zf x0 x11).f1) ((zf x0 x11).f2) (rd x1 x11)).bind fun bt314 => (if bt314.1 ≤ x2 then ((zb9.f k x9 x11).bind fun t316 => (if t316 < 0 then (if x10 < 0 then (zz.l1 k x0 x1 x2 x3 x9 x11 (wrap64 (x11 + 1))) else ((zl.f k x0 x1 x11 x10).bind fun t317 => (if t317 = true then (zz.l1 k x0 x1 x2 x3 x9 x11 (wrap64 (x11 + 1))) else (zz.l1 k x0 x1 x2 x3 x9 x10 (wrap64 (x11 + 1)))))) else (zz.l1 k x0 x1 x2 x3 x9 x10 (wrap64 (x11 + 1))))) else (zz.l1 k x0 x1 x2 x3 x9 x10 (wrap64 (x11 + 1))))) else (none)) else (none)) else (if x10 < 0 then (some x9) else (if x9.length < 17592186044416 then (zz.l0 k x0 x1 x2 x3 (x9 ++ [x10])) else (none)))
end
def zz.f (k : Nat) (l0 : List (S35)) (l1 : List Int) (a2 : Int) (a3 : Int) : Option (List Int) := zz.l0 k l0 l1 a2 a3 (([] : List Int))
def zz.T7 : Bool × List (List Nat × List Nat) := (true, [([], []), ([], []), ([0, 1], [0, 1]), ([2], [2]), ([], []), ([], []), ([4, 5], [4, 5]), ([6], [6]), ([3, 7], [3, 7]), ([8], [8]), ([], []), ([9, 10], [9, 10]), ([11, 8], [11]), ([12], [12]), ([12], [12]), ([13, 14, 12, 12], [12, 13, 14]), ([15, 12], [12, 15]), ([12, 16], [12, 16]), ([17, 15], [17]), ([18], [18]), ([19, 18], [18, 19]), ([20, 18, 18], [18, 20]), ([21], [21]), ([21], [21]), ([21], [21]), ([21], [21]), ([22, 23, 24, 25, 21, 21], [21, 22, 23, 24, 25]), ([21, 26, 18], [18, 21, 26]), ([18, 27], [18, 27])])
def zz.B7 : List Nat := [0, 0, 3, 7, 0, 0, 48, 112, 255, 511, 0, 2047, 4095, 8191, 8191, 32767, 65535, 131071, 262143, 524287, 1048575, 2097151, 4194303, 4194303, 4194303, 4194303, 67108863, 134217727, 268435455]
theorem zz.tab7 : rtab .any (opsOf Try.f38 7) = zz.T7 := by kernel_rfl
theorem zz.zi6 : zcs zz.T7.2 zz.B7 = true := by kernel_rfl
set_option maxHeartbeats 8000000 in
theorem zz.calls (k : Nat) (A0 : Option Addr) (c0 : Nat) (l0 : List (S35)) (A1 : Option Addr) (c1 : Nat) (l1 : List Int) (a2 : Int) (a3 : Int) (r : List Int) (w : World) (hr0 : Kd.C k35 w A0 l0.length l0) (hc0 : l0.length ≤ c0) (hr1 : Kd.C (Kd.int .i64) w A1 l1.length l1) (hc1 : l1.length ≤ c1) (h : zz.f k l0 l1 a2 a3 = some r) :
  Calls Try.prog 38 #[.slice A0 l0.length c0, .slice A1 l1.length c1, .int .i64 a2, .int .i64 a3] w fun e w' => ∃ v0_ : Value, e = .returned (v0_) ∧ Kd.R (Kd.int .i64) 3 w' w.heap.size (fun _ => True) v0_ r ∧ Below w.heap.size w w' := by
 have hfld39_0 : ∀ (v0_ v1_ : Value) (W : World), (Instr.field 39 (.agg #[v0_, v1_]) 0).run Try.prog W = .ok v0_ W := fun _ _ _ => rfl
 have hfld39_1 : ∀ (v0_ v1_ : Value) (W : World), (Instr.field 39 (.agg #[v0_, v1_]) 1).run Try.prog W = .ok v1_ W := fun _ _ _ => rfl
 have hu35 := Try.underlying35
 have HR0 := za.mk hr0
 have HC0 := za.mk hc0
 clear hr0 hc0
 have HR1 := za.mk hr1
 have HC1 := za.mk hc1
 clear hr1 hc1
 have HB := za.mk (Below.refl w.heap.size w)
 have H : (zz.l0 k l0 l1 a2 a3 (([] : List Int))) = some r := h
 clear h
 obtain ⟨y306, hy306⟩ : ∃ y_ : List Int, y_ = (([] : List Int)) := ⟨_, rfl⟩
 replace H : (zz.l0 k l0 l1 a2 a3 y306) = some r := by first | (rw [hy306]; with_reducible exact H) | (have H2_ := (Option.bind_some _ _).symm.trans H; rw [hy306]; with_reducible exact H2_) | (have H2_ := (Option.bind_some _ _).symm.trans H; with_reducible exact H2_) | with_reducible exact H | (rw [hy306]; exact H) | exact H
 have Ny306 := za.mk hy306
 clear hy306
 have H' := za.mk H
 clear H
 go_enter Try.func38, Try.ntmps38
 go_wp2_with (first | ((with_reducible refine zby (N := 12) rfl ?_); refine Kd.zis (Kd.int .i64) _ 3 ?hg (N := 12) ?hd (xs := ([] : List Int)) (inner := []) (ok := fun _ => True) (okp := fun _ => True) ?hr ?hp (fun _ hk => hk) trivial (Below.refl _ _) (Nat.le_refl _) (by simp) ?_; (case hd => rfl); (case hg => rfl); (case hr => first | (go_simp; done) | (go_simp; rfl)); (case hp => exact (Reps.none _ _)); intro v307 w5 ho6 hb hg_ hnew_; clear hg_ hnew_; (first | rw [← Ny306.out] at ho6 | (simp only [Int.reduceToNat] at ho6; rw [← Ny306.out] at ho6)); have n0_ := za.mk (Kd.zcv ho6 (zbb (Zq1 HB))); have n1_ := za.mk (zm (Zq1 HB) hb); clear HB; have HO308 := n0_; have HB := n1_; clear n0_ n1_; clear hb ho6))
 go_loopg [9] k (fun kq v9 w' => ∃ (x9_1 : List Int), za (zz.l0 kq l0 l1 a2 a3 x9_1 = some r) ∧ za (kq ≤ k) ∧ za (Kd.R (Kd.int .i64) 3 w' w.heap.size (fun _ => True) v9 x9_1) ∧ za (Below w.heap.size w w'))
 case atStart => exact ⟨(y306), H', ⟨Nat.le_refl _⟩, ⟨Zq12 HO308⟩, ⟨Zq1 HB⟩⟩
 case round =>
  clear H'
  (try clear c1);(try clear p2);(try clear c3)
  obtain ⟨x9_1, HA, HK1, HO_9, HB⟩ := hrel
  cases gk with
  | zero => exact absurd HA.out (by simp [zz.l0])
  | succ k1 =>
   have H := HA.out;clear HA;simp only [zz.l0] at H;by_cases c7 : (x9_1.length : Int) < a3
   ·rw [if_pos c7] at H
    have c7b0 : decide ((x9_1.length : Int) < a3) = true := decide_eq_true c7;clear c7;have H' := za.mk H;clear H;obtain ⟨Ao8, co8, eo8⟩ := Kd.zcr HO_9.out;subst eo8;go_wp2
    go_loopg [10, 11] k1 (fun kq v10 v11 w' => ∃ (x10_2 : Int) (x11_2 : Int), v10 = .int .i64 x10_2 ∧ v11 = .int .i64 x11_2 ∧ za (zz.l1 kq l0 l1 a2 a3 x9_1 x10_2 x11_2 = some r) ∧ za (kq ≤ k1) ∧ za (Kd.R (Kd.int .i64) 3 w' w.heap.size (fun _ => True) (.slice Ao8 x9_1.length co8) x9_1) ∧ za (Below w.heap.size w w'))
    case atStart => exact ⟨((-1)), (0), Zrs, Zrs, H', ⟨Nat.le_refl _⟩, ⟨Zq12 HO_9⟩, ⟨Zq1 HB⟩⟩
    case round =>
     clear H'
     (try clear c1);(try clear p2);(try clear c3);(try clear c7);(try clear c7b0);(try clear p2)
     obtain ⟨x10_2, x11_2, rfl, rfl, HA, HK2, HO_9, HB⟩ := hrel
     cases gk with
     | zero => exact absurd HA.out (by simp [zz.l1])
     | succ k2 =>
      have H := HA.out;clear HA;simp only [zz.l1] at H;by_cases c9 : x11_2 < (l0.length : Int)
      ·rw [if_pos c9] at H
       have c9b0 : decide (x11_2 < (l0.length : Int)) = true := decide_eq_true c9;clear c9;by_cases c10 : 0 ≤ x11_2
       ·rw [if_pos c10] at H
        have c10b0 : decide (0 ≤ x11_2) = true := decide_eq_true c10;clear c10;by_cases c11 : x11_2 < (l1.length : Int)
        ·rw [if_pos c11] at H
         have c11b0 : decide (x11_2 < (l1.length : Int)) = true := decide_eq_true c11;clear c11;replace H := Option.bind_eq_some_iff.mp H;obtain ⟨⟨t314, t315⟩, A120, H⟩ := H;replace H : (if t314 ≤ a2 then ((zb9.f k2 x9_1 x11_2).bind fun t316 => (if t316 < 0 then (if x10_2 < 0 then (zz.l1 k2 l0 l1 a2 a3 x9_1 x11_2 (wrap64 (x11_2 + 1))) else ((zl.f k2 l0 l1 x11_2 x10_2).bind fun t317 => (if t317 = true then (zz.l1 k2 l0 l1 a2 a3 x9_1 x11_2 (wrap64 (x11_2 + 1))) else (zz.l1 k2 l0 l1 a2 a3 x9_1 x10_2 (wrap64 (x11_2 + 1)))))) else (zz.l1 k2 l0 l1 a2 a3 x9_1 x10_2 (wrap64 (x11_2 + 1))))) else (zz.l1 k2 l0 l1 a2 a3 x9_1 x10_2 (wrap64 (x11_2 + 1)))) = some r := H;have A12 := za.mk A120;clear A120;by_cases c13 : t314 ≤ a2
         ·rw [if_pos c13] at H
          have c13b0 : decide (t314 ≤ a2) = true := decide_eq_true c13;clear c13;replace H := Option.bind_eq_some_iff.mp H;obtain ⟨t316, A140, H⟩ := H;replace H : (if t316 < 0 then (if x10_2 < 0 then (zz.l1 k2 l0 l1 a2 a3 x9_1 x11_2 (wrap64 (x11_2 + 1))) else ((zl.f k2 l0 l1 x11_2 x10_2).bind fun t317 => (if t317 = true then (zz.l1 k2 l0 l1 a2 a3 x9_1 x11_2 (wrap64 (x11_2 + 1))) else (zz.l1 k2 l0 l1 a2 a3 x9_1 x10_2 (wrap64 (x11_2 + 1)))))) else (zz.l1 k2 l0 l1 a2 a3 x9_1 x10_2 (wrap64 (x11_2 + 1)))) = some r := H;have A14 := za.mk A140;clear A140;by_cases c15 : t316 < 0
          ·rw [if_pos c15] at H
           have c15b0 : decide (t316 < 0) = true := decide_eq_true c15;clear c15;by_cases c16 : x10_2 < 0
           ·rw [if_pos c16] at H
            have c16b0 : decide (x10_2 < 0) = true := decide_eq_true c16;clear c16;have H' := za.mk H;clear H
            try go_wp2
            have n0_ := za.mk (Kd.zb7 HO_9.out);have n1_ := za.mk (zbf HB.out);clear HO_9;clear HB;have HO_9 := n0_;have HB := n1_;clear n0_ n1_;have p312 : 0 ≤ (x11_2 : Int) := of_decide_eq_true Zas;have q312 : x11_2 < (l0.length : Int) := of_decide_eq_true Zas;obtain ⟨ad312, e312, hx312_0, hx312_1, hx312_2⟩ := zcm HR0.out x11_2 p312 q312;have hw312_2 := hx312_2;have hw312_1 := hx312_1;have hw312_0 := hx312_0
            cases e312
            replace hx312_0 := (HB.out.cell (World.block_lt_of_cell? w _ hx312_0)).trans hx312_0;replace hx312_1 := (HB.out.cell (World.block_lt_of_cell? w _ hx312_1)).trans hx312_1;replace hx312_2 := (HB.out.cell (World.block_lt_of_cell? w _ hx312_2)).trans hx312_2;replace p312 := eq_true p312;replace q312 := eq_true q312;have p313 : 0 ≤ (x11_2 : Int) := of_decide_eq_true Zas;have q313 : x11_2 < (l1.length : Int) := of_decide_eq_true Zas;obtain ⟨ad313, e313, hx313_0⟩ := Kd.zb6 HR1.out x11_2 p313 q313;have hw313_0 := hx313_0
            cases e313
            replace hx313_0 := (HB.out.cell (World.block_lt_of_cell? w _ hx313_0)).trans hx313_0;replace p313 := eq_true p313;replace q313 := eq_true q313;refine zcj (n := 29) (S := fun w' => w'.cell? (ad312.add ((x11_2).toNat * 3)) = some (.int .i64 ((zf l0 x11_2).f0)) ∧ w'.cell? ⟨(ad312.add ((x11_2).toNat * 3)).block, (ad312.add ((x11_2).toNat * 3)).off + 1, none⟩ = some (.int .i64 ((zf l0 x11_2).f1)) ∧ w'.cell? ⟨(ad312.add ((x11_2).toNat * 3)).block, (ad312.add ((x11_2).toNat * 3)).off + 2, none⟩ = some (.int .i64 ((zf l0 x11_2).f2)) ∧ w'.cell? (ad313.add (x11_2).toNat) = some (.int .i64 (rd l1 x11_2))) (ds := []) #[false, false, false, false, false, false, false, false, false, false, false, false, false, false, false, false, false, false, false, false, false, false, false, false, false, false, false, false, false] (by kernel_rfl) rfl rfl ⟨((HB.out.cell (World.block_lt_of_cell? w _ hw312_0)).trans hw312_0), ((HB.out.cell (World.block_lt_of_cell? w _ hw312_1)).trans hw312_1), ((HB.out.cell (World.block_lt_of_cell? w _ hw312_2)).trans hw312_2), ((HB.out.cell (World.block_lt_of_cell? w _ hw313_0)).trans hw313_0)⟩ (fun hHeld => ?_); refine zbr zz.tab7 zz.zi6 (fun HT_ HW_ => ?_);generalize wr.drew = w17 at HO_9 HB hx312_0 hx312_1 hx312_2 hx313_0 hHeld ⊢;refine zn (i := 0) (N := some 23) (v := ?_) (a' := ?_) #[true, false, false, false, false, false, false, false, false, false, false, false, false, false, false, false, false, false, false, false, false, false, false, false, false, false, false, false, false] rfl rfl (zg HT_.out (by kernel_rfl)) (fun _ _ _ h => h) (Or.inl ⟨by rfl, ?_⟩) ?_ ?_;rotate_left
            ·intro w'
             go_simp;with_reducible rfl
            rotate_left
            ·simp only [Act.put, Zs1, Zs2, Zs3, zh, zi]
             rfl
            refine zn (i := 1) (N := some 24) (v := ?_) (a' := ?_) #[true, true, false, false, false, false, false, false, false, false, false, false, false, false, false, false, false, false, false, false, false, false, false, false, false, false, false, false, false] rfl rfl (zg HT_.out (by kernel_rfl)) (fun _ _ _ h => h) (Or.inl ⟨by rfl, ?_⟩) ?_ ?_;rotate_left
            ·intro w'
             go_simp;with_reducible rfl
            rotate_left
            ·simp only [Act.put, Zs1, Zs2, Zs3, zh, zi]
             rfl
            refine zn (i := 2) (N := some 25) (v := ?_) (a' := ?_) #[true, true, true, false, false, false, false, false, false, false, false, false, false, false, false, false, false, false, false, false, false, false, false, false, false, false, false, false, false] rfl rfl (zg HT_.out (by kernel_rfl)) (fun _ _ _ h => h) (Or.inl ⟨by rfl, ?_⟩) ?_ ?_;rotate_left
            ·intro w'
             go_simp;with_reducible rfl
            rotate_left
            ·simp only [Act.put, Zs1, Zs2, Zs3, zh, zi]
             rfl
            refine zn (i := 4) (N := some 27) (v := ?_) (a' := ?_) #[true, true, true, false, true, false, false, false, false, false, false, false, false, false, false, false, false, false, false, false, false, false, false, false, false, false, false, false, false] rfl rfl (zg HT_.out (by kernel_rfl)) (fun _ _ _ h => h) (Or.inl ⟨by rfl, ?_⟩) ?_ ?_;rotate_left
            ·intro w'
             go_simp;with_reducible rfl
            rotate_left
            ·simp only [Act.put, Zs1, Zs2, Zs3, zh, zi]
             rfl
            refine zn (i := 5) (N := some 28) (v := ?_) (a' := ?_) #[true, true, true, false, true, true, false, false, false, false, false, false, false, false, false, false, false, false, false, false, false, false, false, false, false, false, false, false, false] rfl rfl (zg HT_.out (by kernel_rfl)) (fun _ _ _ h => h) (Or.inl ⟨by rfl, ?_⟩) ?_ ?_;rotate_left
            ·intro w'
             go_simp;with_reducible rfl
            rotate_left
            ·simp only [Act.put, Zs1, Zs2, Zs3, zh, zi]
             rfl
            refine zn (i := 6) (N := some 29) (v := ?_) (a' := ?_) #[true, true, true, false, true, true, true, false, false, false, false, false, false, false, false, false, false, false, false, false, false, false, false, false, false, false, false, false, false] rfl rfl (zg HT_.out (by kernel_rfl)) (fun _ _ _ h => h) (Or.inl ⟨by rfl, ?_⟩) ?_ ?_;rotate_left
            ·intro w'
             go_simp;with_reducible rfl
            rotate_left
            ·simp only [Act.put, Zs1, Zs2, Zs3, zh, zi]
             rfl
            refine zn (i := 10) (N := some 33) (v := ?_) (a' := ?_) #[true, true, true, false, true, true, true, false, false, false, true, false, false, false, false, false, false, false, false, false, false, false, false, false, false, false, false, false, false] rfl rfl (zg HT_.out (by kernel_rfl)) (fun _ _ _ h => h) (Or.inl ⟨by rfl, ?_⟩) ?_ ?_;rotate_left
            ·intro w'
             go_simp;with_reducible rfl
            rotate_left
            ·simp only [Act.put, Zs1, Zs2, Zs3, zh, zi]
             rfl
            refine zbx (i := 3) (N := some 26) (v := ?_) (a' := ?_) #[true, true, true, true, true, true, true, false, false, false, true, false, false, false, false, false, false, false, false, false, false, false, false, false, false, false, false, false, false] rfl rfl (z8 HT_.out HW_.out (by kernel_rfl)) (fun _ _ _ h => h) (Or.inl ⟨by rfl, ?_⟩) hHeld ?_ ?_;rotate_left
            ·rintro w' ⟨s0, s1, s2, s3⟩
             go_simp;with_reducible rfl
            rotate_left
            ·simp only [Act.put, Zs1, Zs2, Zs3, zh, zi]
             rfl
            refine zbx (i := 7) (N := some 30) (v := ?_) (a' := ?_) #[true, true, true, true, true, true, true, true, false, false, true, false, false, false, false, false, false, false, false, false, false, false, false, false, false, false, false, false, false] rfl rfl (z8 HT_.out HW_.out (by kernel_rfl)) (fun _ _ _ h => h) (Or.inl ⟨by rfl, ?_⟩) hHeld ?_ ?_;rotate_left
            ·rintro w' ⟨s0, s1, s2, s3⟩
             go_simp;with_reducible rfl
            rotate_left
            ·simp only [Act.put, Zs1, Zs2, Zs3, zh, zi]
             rfl
            refine one_ (i := 8) (N := some 31) #[true, true, true, true, true, true, true, true, true, false, true, false, false, false, false, false, false, false, false, false, false, false, false, false, false, false, false, false, false] rfl rfl (zb0 HT_.out (by kernel_rfl)) (by decide) (fun K hK => ?_);refine zco Try.func64 (by kernel_rfl) rfl #[.agg #[.int .i64 ((zf l0 x11_2).f0), .int .i64 ((zf l0 x11_2).f1), .int .i64 ((zf l0 x11_2).f2)], .int .i64 (rd l1 x11_2)] (by rfl) rfl rfl Zmt ?_;with_reducible refine (zbc.calls ((zf l0 x11_2).f0) ((zf l0 x11_2).f1) ((zf l0 x11_2).f2) (rd l1 x11_2) t314 t315 _ A12.out).mono ?_
            rintro e w18 ⟨rfl, hb⟩;refine ⟨_, rfl, ?_⟩;have n0_ := za.mk (Kd.zcy (Zq12 HO_9) hb);have n1_ := za.mk (zm (Zq1 HB) hb);clear HO_9;clear HB;have HO_9 := n0_;have HB := n1_;clear n0_ n1_;(try clear hb);(try clear hb2);(try clear hk);(try clear hi);refine hK.out _ _ ⟨((HB.out.cell (World.block_lt_of_cell? w _ hw312_0)).trans hw312_0), ((HB.out.cell (World.block_lt_of_cell? w _ hw312_1)).trans hw312_1), ((HB.out.cell (World.block_lt_of_cell? w _ hw312_2)).trans hw312_2), ((HB.out.cell (World.block_lt_of_cell? w _ hw313_0)).trans hw313_0)⟩ (fun hHeld => ?_);clear hK K;refine zca (a' := ?_) ?_ ?_;rotate_left
            ·show Act.put _ (some 31) _ = _
             simp only [Act.put, Zs1, Zs2, Zs3, zh, zi];rfl
            refine zn (i := 9) (N := some 32) (v := ?_) (a' := ?_) #[true, true, true, true, true, true, true, true, true, true, true, false, false, false, false, false, false, false, false, false, false, false, false, false, false, false, false, false, false] rfl rfl (zg HT_.out (by kernel_rfl)) (fun _ _ _ h => h) (Or.inl ⟨by rfl, ?_⟩) ?_ ?_;rotate_left
            ·intro w'
             go_simp;with_reducible rfl
            rotate_left
            ·simp only [Act.put, Zs1, Zs2, Zs3, zh, zi]
             rfl
            refine zn (i := 11) (N := some 34) (v := ?_) (a' := ?_) #[true, true, true, true, true, true, true, true, true, true, true, true, false, false, false, false, false, false, false, false, false, false, false, false, false, false, false, false, false] rfl rfl (zg HT_.out (by kernel_rfl)) (fun _ _ _ h => h) (Or.inl ⟨by rfl, ?_⟩) ?_ ?_;rotate_left
            ·intro w'
             go_simp;with_reducible rfl
            rotate_left
            ·simp only [Act.put, Zs1, Zs2, Zs3, zh, zi]
             rfl
            refine zn (i := 12) (N := some 35) (v := ?_) (a' := ?_) #[true, true, true, true, true, true, true, true, true, true, true, true, true, false, false, false, false, false, false, false, false, false, false, false, false, false, false, false, false] rfl rfl (zg HT_.out (by kernel_rfl)) (fun _ _ _ h => h) (Or.inl ⟨by rfl, ?_⟩) ?_ ?_;rotate_left
            ·intro w'
             go_simp;with_reducible rfl
            rotate_left
            ·simp only [Act.put, Zs1, Zs2, Zs3, zh, zi]
             rfl
            refine zn (i := 13) (N := some 36) (v := ?_) (a' := ?_) #[true, true, true, true, true, true, true, true, true, true, true, true, true, true, false, false, false, false, false, false, false, false, false, false, false, false, false, false, false] rfl rfl (zg HT_.out (by kernel_rfl)) (fun _ _ _ h => h) (Or.inl ⟨by rfl, ?_⟩) ?_ ?_;rotate_left
            ·intro w'
             go_simp;with_reducible rfl
            rotate_left
            ·simp only [Act.put, Zs1, Zs2, Zs3, zh, zi]
             rfl
            refine zn (i := 14) (N := some 37) (v := ?_) (a' := ?_) #[true, true, true, true, true, true, true, true, true, true, true, true, true, true, true, false, false, false, false, false, false, false, false, false, false, false, false, false, false] rfl rfl (zg HT_.out (by kernel_rfl)) (fun _ _ _ h => h) (Or.inl ⟨by rfl, ?_⟩) ?_ ?_;rotate_left
            ·intro w'
             go_simp;with_reducible rfl
            rotate_left
            ·simp only [Act.put, Zs1, Zs2, Zs3, zh, zi]
             rfl
            refine one_ (i := 15) (N := some 38) #[true, true, true, true, true, true, true, true, true, true, true, true, true, true, true, true, false, false, false, false, false, false, false, false, false, false, false, false, false] rfl rfl (zb0 HT_.out (by kernel_rfl)) (by decide) (fun K hK => ?_);refine zco Try.func65 (by kernel_rfl) rfl #[.slice Ao8 x9_1.length co8, .int .i64 x11_2] (by rfl) rfl rfl Zmt ?_;with_reducible refine (zb9.calls k2 _ _ x9_1 x11_2 t316 _ ?side1 ?side2 A14.out).mono ?_
            (case side1 => exact Zq18 ((Kd.zbq HO_9.out).2.2));(case side2 => exact (Kd.zbq HO_9.out).2.1);rintro e w' ⟨rfl, ⟨nd, rfl⟩⟩;refine ⟨_, rfl, ?_⟩;refine hK.out _ _ ⟨((HB.out.cell (World.block_lt_of_cell? w _ hw312_0)).trans hw312_0), ((HB.out.cell (World.block_lt_of_cell? w _ hw312_1)).trans hw312_1), ((HB.out.cell (World.block_lt_of_cell? w _ hw312_2)).trans hw312_2), ((HB.out.cell (World.block_lt_of_cell? w _ hw313_0)).trans hw313_0)⟩ (fun hHeld => ?_);clear hK K;refine zca (a' := ?_) ?_ ?_;rotate_left
            ·show Act.put _ (some 38) _ = _
             simp only [Act.put, Zs1, Zs2, Zs3, zh, zi];rfl
            refine zn (i := 16) (N := some 39) (v := ?_) (a' := ?_) #[true, true, true, true, true, true, true, true, true, true, true, true, true, true, true, true, true, false, false, false, false, false, false, false, false, false, false, false, false] rfl rfl (zg HT_.out (by kernel_rfl)) (fun _ _ _ h => h) (Or.inl ⟨by rfl, ?_⟩) ?_ ?_;rotate_left
            ·intro w'
             go_simp;with_reducible rfl
            rotate_left
            ·simp only [Act.put, Zs1, Zs2, Zs3, zh, zi]
             rfl
            refine zn (i := 17) (N := some 40) (v := ?_) (a' := ?_) #[true, true, true, true, true, true, true, true, true, true, true, true, true, true, true, true, true, true, false, false, false, false, false, false, false, false, false, false, false] rfl rfl (zg HT_.out (by kernel_rfl)) (fun _ _ _ h => h) (Or.inl ⟨by rfl, ?_⟩) ?_ ?_;rotate_left
            ·intro w'
             go_simp;with_reducible rfl
            rotate_left
            ·simp only [Act.put, Zs1, Zs2, Zs3, zh, zi]
             rfl
            refine zn (i := 18) (N := some 41) (v := ?_) (a' := ?_) #[true, true, true, true, true, true, true, true, true, true, true, true, true, true, true, true, true, true, true, false, false, false, false, false, false, false, false, false, false] rfl rfl (zg HT_.out (by kernel_rfl)) (fun _ _ _ h => h) (Or.inl ⟨by rfl, ?_⟩) ?_ ?_;rotate_left
            ·intro w'
             go_simp;with_reducible rfl
            rotate_left
            ·simp only [Act.put, Zs1, Zs2, Zs3, zh, zi]
             rfl
            refine zn (i := 19) (N := some 42) (v := ?_) (a' := ?_) #[true, true, true, true, true, true, true, true, true, true, true, true, true, true, true, true, true, true, true, true, false, false, false, false, false, false, false, false, false] rfl rfl (zg HT_.out (by kernel_rfl)) (fun _ _ _ h => h) (Or.inl ⟨by rfl, ?_⟩) ?_ ?_;rotate_left
            ·intro w'
             go_simp;with_reducible rfl
            rotate_left
            ·simp only [Act.put, Zs1, Zs2, Zs3, zh, zi]
             rfl
            refine zn (i := 20) (N := some 43) (v := ?_) (a' := ?_) #[true, true, true, true, true, true, true, true, true, true, true, true, true, true, true, true, true, true, true, true, true, false, false, false, false, false, false, false, false] rfl rfl (zg HT_.out (by kernel_rfl)) (fun _ _ _ h => h) (Or.inl ⟨by rfl, ?_⟩) ?_ ?_;rotate_left
            ·intro w'
             go_simp;with_reducible rfl
            rotate_left
            ·simp only [Act.put, Zs1, Zs2, Zs3, zh, zi]
             rfl
            refine zn (i := 21) (N := some 44) (v := ?_) (a' := ?_) #[true, true, true, true, true, true, true, true, true, true, true, true, true, true, true, true, true, true, true, true, true, true, false, false, false, false, false, false, false] rfl rfl (zg HT_.out (by kernel_rfl)) (fun _ _ _ h => h) (Or.inl ⟨by rfl, ?_⟩) ?_ ?_;rotate_left
            ·intro w'
             go_simp;with_reducible rfl
            rotate_left
            ·simp only [Act.put, Zs1, Zs2, Zs3, zh, zi]
             rfl
            refine zn (i := 22) (N := some 45) (v := undef) (a' := ?_) #[true, true, true, true, true, true, true, true, true, true, true, true, true, true, true, true, true, true, true, true, true, true, true, false, false, false, false, false, false] rfl rfl (zg HT_.out (by kernel_rfl)) (fun _ _ _ h => h) (Or.inr ⟨by rfl, rfl⟩) ?_ ?_;rotate_left
            ·simp only [Act.put, Zs1, Zs2, Zs3, zh, zi]
             rfl
            refine zn (i := 23) (N := some 46) (v := undef) (a' := ?_) #[true, true, true, true, true, true, true, true, true, true, true, true, true, true, true, true, true, true, true, true, true, true, true, true, false, false, false, false, false] rfl rfl (zg HT_.out (by kernel_rfl)) (fun _ _ _ h => h) (Or.inr ⟨by rfl, rfl⟩) ?_ ?_;rotate_left
            ·simp only [Act.put, Zs1, Zs2, Zs3, zh, zi]
             rfl
            refine zn (i := 24) (N := some 47) (v := undef) (a' := ?_) #[true, true, true, true, true, true, true, true, true, true, true, true, true, true, true, true, true, true, true, true, true, true, true, true, true, false, false, false, false] rfl rfl (zg HT_.out (by kernel_rfl)) (fun _ _ _ h => h) (Or.inr ⟨by rfl, rfl⟩) ?_ ?_;rotate_left
            ·simp only [Act.put, Zs1, Zs2, Zs3, zh, zi]
             rfl
            refine zn (i := 25) (N := some 48) (v := undef) (a' := ?_) #[true, true, true, true, true, true, true, true, true, true, true, true, true, true, true, true, true, true, true, true, true, true, true, true, true, true, false, false, false] rfl rfl (zg HT_.out (by kernel_rfl)) (fun _ _ _ h => h) (Or.inr ⟨by rfl, rfl⟩) ?_ ?_;rotate_left
            ·simp only [Act.put, Zs1, Zs2, Zs3, zh, zi]
             rfl
            refine zn (i := 26) (N := some 49) (v := undef) (a' := ?_) #[true, true, true, true, true, true, true, true, true, true, true, true, true, true, true, true, true, true, true, true, true, true, true, true, true, true, true, false, false] rfl rfl (zg HT_.out (by kernel_rfl)) (fun _ _ _ h => h) (Or.inr ⟨by rfl, rfl⟩) ?_ ?_;rotate_left
            ·simp only [Act.put, Zs1, Zs2, Zs3, zh, zi]
             rfl
            refine zn (i := 27) (N := some 50) (v := ?_) (a' := ?_) #[true, true, true, true, true, true, true, true, true, true, true, true, true, true, true, true, true, true, true, true, true, true, true, true, true, true, true, true, false] rfl rfl (zg HT_.out (by kernel_rfl)) (fun _ _ _ h => h) (Or.inl ⟨by rfl, ?_⟩) ?_ ?_;rotate_left
            ·intro w'
             go_simp;with_reducible rfl
            rotate_left
            ·simp only [Act.put, Zs1, Zs2, Zs3, zh, zi]
             rfl
            refine zn (i := 28) (N := some 51) (v := ?_) (a' := ?_) #[true, true, true, true, true, true, true, true, true, true, true, true, true, true, true, true, true, true, true, true, true, true, true, true, true, true, true, true, true] rfl rfl (zg HT_.out (by kernel_rfl)) (fun _ _ _ h => h) (Or.inl ⟨by rfl, ?_⟩) ?_ ?_;rotate_left
            ·intro w'
             go_simp;with_reducible rfl
            rotate_left
            ·simp only [Act.put, Zs1, Zs2, Zs3, zh, zi]
             rfl
            refine zcz (zb5 HT_.out (by kernel_rfl)) ?_
            try go_wp2
            go_roundg k2
            case measure => have := HK1.out; have := HK2.out; omega
            case rel => exact ⟨(x11_2), (wrap64 (x11_2 + 1)), Zrs, Zrs, H', ⟨by have := HK1.out; have := HK2.out; omega⟩, ⟨Zq12 HO_9⟩, ⟨Zq1 HB⟩⟩
           ·rw [if_neg c16] at H
            have c16b0 : decide (x10_2 < 0) = false := decide_eq_false c16;clear c16;replace H := Option.bind_eq_some_iff.mp H;obtain ⟨t317, A190, H⟩ := H;replace H : (if t317 = true then (zz.l1 k2 l0 l1 a2 a3 x9_1 x11_2 (wrap64 (x11_2 + 1))) else (zz.l1 k2 l0 l1 a2 a3 x9_1 x10_2 (wrap64 (x11_2 + 1)))) = some r := H;have A19 := za.mk A190;clear A190;by_cases c20 : t317 = true
            ·subst c20
             have H1 : (zz.l1 k2 l0 l1 a2 a3 x9_1 x11_2 (wrap64 (x11_2 + 1))) = some r := by rw [if_pos rfl] at H; exact H
             clear H;have H := H1;clear H1;have H' := za.mk H;clear H
             try go_wp2
             have n0_ := za.mk (Kd.zb7 HO_9.out);have n1_ := za.mk (zbf HB.out);clear HO_9;clear HB;have HO_9 := n0_;have HB := n1_;clear n0_ n1_;have p312 : 0 ≤ (x11_2 : Int) := of_decide_eq_true Zas;have q312 : x11_2 < (l0.length : Int) := of_decide_eq_true Zas;obtain ⟨ad312, e312, hx312_0, hx312_1, hx312_2⟩ := zcm HR0.out x11_2 p312 q312;have hw312_2 := hx312_2;have hw312_1 := hx312_1;have hw312_0 := hx312_0
             cases e312
             replace hx312_0 := (HB.out.cell (World.block_lt_of_cell? w _ hx312_0)).trans hx312_0;replace hx312_1 := (HB.out.cell (World.block_lt_of_cell? w _ hx312_1)).trans hx312_1;replace hx312_2 := (HB.out.cell (World.block_lt_of_cell? w _ hx312_2)).trans hx312_2;replace p312 := eq_true p312;replace q312 := eq_true q312;have p313 : 0 ≤ (x11_2 : Int) := of_decide_eq_true Zas;have q313 : x11_2 < (l1.length : Int) := of_decide_eq_true Zas;obtain ⟨ad313, e313, hx313_0⟩ := Kd.zb6 HR1.out x11_2 p313 q313;have hw313_0 := hx313_0
             cases e313
             replace hx313_0 := (HB.out.cell (World.block_lt_of_cell? w _ hx313_0)).trans hx313_0;replace p313 := eq_true p313;replace q313 := eq_true q313;refine zcj (n := 29) (S := fun w' => w'.cell? (ad312.add ((x11_2).toNat * 3)) = some (.int .i64 ((zf l0 x11_2).f0)) ∧ w'.cell? ⟨(ad312.add ((x11_2).toNat * 3)).block, (ad312.add ((x11_2).toNat * 3)).off + 1, none⟩ = some (.int .i64 ((zf l0 x11_2).f1)) ∧ w'.cell? ⟨(ad312.add ((x11_2).toNat * 3)).block, (ad312.add ((x11_2).toNat * 3)).off + 2, none⟩ = some (.int .i64 ((zf l0 x11_2).f2)) ∧ w'.cell? (ad313.add (x11_2).toNat) = some (.int .i64 (rd l1 x11_2))) (ds := []) #[false, false, false, false, false, false, false, false, false, false, false, false, false, false, false, false, false, false, false, false, false, false, false, false, false, false, false, false, false] (by kernel_rfl) rfl rfl ⟨((HB.out.cell (World.block_lt_of_cell? w _ hw312_0)).trans hw312_0), ((HB.out.cell (World.block_lt_of_cell? w _ hw312_1)).trans hw312_1), ((HB.out.cell (World.block_lt_of_cell? w _ hw312_2)).trans hw312_2), ((HB.out.cell (World.block_lt_of_cell? w _ hw313_0)).trans hw313_0)⟩ (fun hHeld => ?_); refine zbr zz.tab7 zz.zi6 (fun HT_ HW_ => ?_);generalize wr.drew = w21 at HO_9 HB hx312_0 hx312_1 hx312_2 hx313_0 hHeld ⊢;refine zn (i := 0) (N := some 23) (v := ?_) (a' := ?_) #[true, false, false, false, false, false, false, false, false, false, false, false, false, false, false, false, false, false, false, false, false, false, false, false, false, false, false, false, false] rfl rfl (zg HT_.out (by kernel_rfl)) (fun _ _ _ h => h) (Or.inl ⟨by rfl, ?_⟩) ?_ ?_;rotate_left
             ·intro w'
              go_simp;with_reducible rfl
             rotate_left
             ·simp only [Act.put, Zs1, Zs2, Zs3, zh, zi]
              rfl
             refine zn (i := 1) (N := some 24) (v := ?_) (a' := ?_) #[true, true, false, false, false, false, false, false, false, false, false, false, false, false, false, false, false, false, false, false, false, false, false, false, false, false, false, false, false] rfl rfl (zg HT_.out (by kernel_rfl)) (fun _ _ _ h => h) (Or.inl ⟨by rfl, ?_⟩) ?_ ?_;rotate_left
             ·intro w'
              go_simp;with_reducible rfl
             rotate_left
             ·simp only [Act.put, Zs1, Zs2, Zs3, zh, zi]
              rfl
             refine zn (i := 2) (N := some 25) (v := ?_) (a' := ?_) #[true, true, true, false, false, false, false, false, false, false, false, false, false, false, false, false, false, false, false, false, false, false, false, false, false, false, false, false, false] rfl rfl (zg HT_.out (by kernel_rfl)) (fun _ _ _ h => h) (Or.inl ⟨by rfl, ?_⟩) ?_ ?_;rotate_left
             ·intro w'
              go_simp;with_reducible rfl
             rotate_left
             ·simp only [Act.put, Zs1, Zs2, Zs3, zh, zi]
              rfl
             refine zn (i := 4) (N := some 27) (v := ?_) (a' := ?_) #[true, true, true, false, true, false, false, false, false, false, false, false, false, false, false, false, false, false, false, false, false, false, false, false, false, false, false, false, false] rfl rfl (zg HT_.out (by kernel_rfl)) (fun _ _ _ h => h) (Or.inl ⟨by rfl, ?_⟩) ?_ ?_;rotate_left
             ·intro w'
              go_simp;with_reducible rfl
             rotate_left
             ·simp only [Act.put, Zs1, Zs2, Zs3, zh, zi]
              rfl
             refine zn (i := 5) (N := some 28) (v := ?_) (a' := ?_) #[true, true, true, false, true, true, false, false, false, false, false, false, false, false, false, false, false, false, false, false, false, false, false, false, false, false, false, false, false] rfl rfl (zg HT_.out (by kernel_rfl)) (fun _ _ _ h => h) (Or.inl ⟨by rfl, ?_⟩) ?_ ?_;rotate_left
             ·intro w'
              go_simp;with_reducible rfl
             rotate_left
             ·simp only [Act.put, Zs1, Zs2, Zs3, zh, zi]
              rfl
             refine zn (i := 6) (N := some 29) (v := ?_) (a' := ?_) #[true, true, true, false, true, true, true, false, false, false, false, false, false, false, false, false, false, false, false, false, false, false, false, false, false, false, false, false, false] rfl rfl (zg HT_.out (by kernel_rfl)) (fun _ _ _ h => h) (Or.inl ⟨by rfl, ?_⟩) ?_ ?_;rotate_left
             ·intro w'
              go_simp;with_reducible rfl
             rotate_left
             ·simp only [Act.put, Zs1, Zs2, Zs3, zh, zi]
              rfl
             refine zn (i := 10) (N := some 33) (v := ?_) (a' := ?_) #[true, true, true, false, true, true, true, false, false, false, true, false, false, false, false, false, false, false, false, false, false, false, false, false, false, false, false, false, false] rfl rfl (zg HT_.out (by kernel_rfl)) (fun _ _ _ h => h) (Or.inl ⟨by rfl, ?_⟩) ?_ ?_;rotate_left
             ·intro w'
              go_simp;with_reducible rfl
             rotate_left
             ·simp only [Act.put, Zs1, Zs2, Zs3, zh, zi]
              rfl
             refine zbx (i := 3) (N := some 26) (v := ?_) (a' := ?_) #[true, true, true, true, true, true, true, false, false, false, true, false, false, false, false, false, false, false, false, false, false, false, false, false, false, false, false, false, false] rfl rfl (z8 HT_.out HW_.out (by kernel_rfl)) (fun _ _ _ h => h) (Or.inl ⟨by rfl, ?_⟩) hHeld ?_ ?_;rotate_left
             ·rintro w' ⟨s0, s1, s2, s3⟩
              go_simp;with_reducible rfl
             rotate_left
             ·simp only [Act.put, Zs1, Zs2, Zs3, zh, zi]
              rfl
             refine zbx (i := 7) (N := some 30) (v := ?_) (a' := ?_) #[true, true, true, true, true, true, true, true, false, false, true, false, false, false, false, false, false, false, false, false, false, false, false, false, false, false, false, false, false] rfl rfl (z8 HT_.out HW_.out (by kernel_rfl)) (fun _ _ _ h => h) (Or.inl ⟨by rfl, ?_⟩) hHeld ?_ ?_;rotate_left
             ·rintro w' ⟨s0, s1, s2, s3⟩
              go_simp;with_reducible rfl
             rotate_left
             ·simp only [Act.put, Zs1, Zs2, Zs3, zh, zi]
              rfl
             refine one_ (i := 8) (N := some 31) #[true, true, true, true, true, true, true, true, true, false, true, false, false, false, false, false, false, false, false, false, false, false, false, false, false, false, false, false, false] rfl rfl (zb0 HT_.out (by kernel_rfl)) (by decide) (fun K hK => ?_);refine zco Try.func64 (by kernel_rfl) rfl #[.agg #[.int .i64 ((zf l0 x11_2).f0), .int .i64 ((zf l0 x11_2).f1), .int .i64 ((zf l0 x11_2).f2)], .int .i64 (rd l1 x11_2)] (by rfl) rfl rfl Zmt ?_;with_reducible refine (zbc.calls ((zf l0 x11_2).f0) ((zf l0 x11_2).f1) ((zf l0 x11_2).f2) (rd l1 x11_2) t314 t315 _ A12.out).mono ?_
             rintro e w22 ⟨rfl, hb⟩;refine ⟨_, rfl, ?_⟩;have n0_ := za.mk (Kd.zcy (Zq12 HO_9) hb);have n1_ := za.mk (zm (Zq1 HB) hb);clear HO_9;clear HB;have HO_9 := n0_;have HB := n1_;clear n0_ n1_;(try clear hb);(try clear hb2);(try clear hk);(try clear hi);refine hK.out _ _ ⟨((HB.out.cell (World.block_lt_of_cell? w _ hw312_0)).trans hw312_0), ((HB.out.cell (World.block_lt_of_cell? w _ hw312_1)).trans hw312_1), ((HB.out.cell (World.block_lt_of_cell? w _ hw312_2)).trans hw312_2), ((HB.out.cell (World.block_lt_of_cell? w _ hw313_0)).trans hw313_0)⟩ (fun hHeld => ?_);clear hK K;refine zca (a' := ?_) ?_ ?_;rotate_left
             ·show Act.put _ (some 31) _ = _
              simp only [Act.put, Zs1, Zs2, Zs3, zh, zi];rfl
             refine zn (i := 9) (N := some 32) (v := ?_) (a' := ?_) #[true, true, true, true, true, true, true, true, true, true, true, false, false, false, false, false, false, false, false, false, false, false, false, false, false, false, false, false, false] rfl rfl (zg HT_.out (by kernel_rfl)) (fun _ _ _ h => h) (Or.inl ⟨by rfl, ?_⟩) ?_ ?_;rotate_left
             ·intro w'
              go_simp;with_reducible rfl
             rotate_left
             ·simp only [Act.put, Zs1, Zs2, Zs3, zh, zi]
              rfl
             refine zn (i := 11) (N := some 34) (v := ?_) (a' := ?_) #[true, true, true, true, true, true, true, true, true, true, true, true, false, false, false, false, false, false, false, false, false, false, false, false, false, false, false, false, false] rfl rfl (zg HT_.out (by kernel_rfl)) (fun _ _ _ h => h) (Or.inl ⟨by rfl, ?_⟩) ?_ ?_;rotate_left
             ·intro w'
              go_simp;with_reducible rfl
             rotate_left
             ·simp only [Act.put, Zs1, Zs2, Zs3, zh, zi]
              rfl
             refine zn (i := 12) (N := some 35) (v := ?_) (a' := ?_) #[true, true, true, true, true, true, true, true, true, true, true, true, true, false, false, false, false, false, false, false, false, false, false, false, false, false, false, false, false] rfl rfl (zg HT_.out (by kernel_rfl)) (fun _ _ _ h => h) (Or.inl ⟨by rfl, ?_⟩) ?_ ?_;rotate_left
             ·intro w'
              go_simp;with_reducible rfl
             rotate_left
             ·simp only [Act.put, Zs1, Zs2, Zs3, zh, zi]
              rfl
             refine zn (i := 13) (N := some 36) (v := ?_) (a' := ?_) #[true, true, true, true, true, true, true, true, true, true, true, true, true, true, false, false, false, false, false, false, false, false, false, false, false, false, false, false, false] rfl rfl (zg HT_.out (by kernel_rfl)) (fun _ _ _ h => h) (Or.inl ⟨by rfl, ?_⟩) ?_ ?_;rotate_left
             ·intro w'
              go_simp;with_reducible rfl
             rotate_left
             ·simp only [Act.put, Zs1, Zs2, Zs3, zh, zi]
              rfl
             refine zn (i := 14) (N := some 37) (v := ?_) (a' := ?_) #[true, true, true, true, true, true, true, true, true, true, true, true, true, true, true, false, false, false, false, false, false, false, false, false, false, false, false, false, false] rfl rfl (zg HT_.out (by kernel_rfl)) (fun _ _ _ h => h) (Or.inl ⟨by rfl, ?_⟩) ?_ ?_;rotate_left
             ·intro w'
              go_simp;with_reducible rfl
             rotate_left
             ·simp only [Act.put, Zs1, Zs2, Zs3, zh, zi]
              rfl
             refine one_ (i := 15) (N := some 38) #[true, true, true, true, true, true, true, true, true, true, true, true, true, true, true, true, false, false, false, false, false, false, false, false, false, false, false, false, false] rfl rfl (zb0 HT_.out (by kernel_rfl)) (by decide) (fun K hK => ?_);refine zco Try.func65 (by kernel_rfl) rfl #[.slice Ao8 x9_1.length co8, .int .i64 x11_2] (by rfl) rfl rfl Zmt ?_;with_reducible refine (zb9.calls k2 _ _ x9_1 x11_2 t316 _ ?side1 ?side2 A14.out).mono ?_
             (case side1 => exact Zq18 ((Kd.zbq HO_9.out).2.2));(case side2 => exact (Kd.zbq HO_9.out).2.1);rintro e w' ⟨rfl, ⟨nd, rfl⟩⟩;refine ⟨_, rfl, ?_⟩;refine hK.out _ _ ⟨((HB.out.cell (World.block_lt_of_cell? w _ hw312_0)).trans hw312_0), ((HB.out.cell (World.block_lt_of_cell? w _ hw312_1)).trans hw312_1), ((HB.out.cell (World.block_lt_of_cell? w _ hw312_2)).trans hw312_2), ((HB.out.cell (World.block_lt_of_cell? w _ hw313_0)).trans hw313_0)⟩ (fun hHeld => ?_);clear hK K;refine zca (a' := ?_) ?_ ?_;rotate_left
             ·show Act.put _ (some 38) _ = _
              simp only [Act.put, Zs1, Zs2, Zs3, zh, zi];rfl
             refine zn (i := 16) (N := some 39) (v := ?_) (a' := ?_) #[true, true, true, true, true, true, true, true, true, true, true, true, true, true, true, true, true, false, false, false, false, false, false, false, false, false, false, false, false] rfl rfl (zg HT_.out (by kernel_rfl)) (fun _ _ _ h => h) (Or.inl ⟨by rfl, ?_⟩) ?_ ?_;rotate_left
             ·intro w'
              go_simp;with_reducible rfl
             rotate_left
             ·simp only [Act.put, Zs1, Zs2, Zs3, zh, zi]
              rfl
             refine zn (i := 17) (N := some 40) (v := ?_) (a' := ?_) #[true, true, true, true, true, true, true, true, true, true, true, true, true, true, true, true, true, true, false, false, false, false, false, false, false, false, false, false, false] rfl rfl (zg HT_.out (by kernel_rfl)) (fun _ _ _ h => h) (Or.inl ⟨by rfl, ?_⟩) ?_ ?_;rotate_left
             ·intro w'
              go_simp;with_reducible rfl
             rotate_left
             ·simp only [Act.put, Zs1, Zs2, Zs3, zh, zi]
              rfl
             refine zn (i := 18) (N := some 41) (v := ?_) (a' := ?_) #[true, true, true, true, true, true, true, true, true, true, true, true, true, true, true, true, true, true, true, false, false, false, false, false, false, false, false, false, false] rfl rfl (zg HT_.out (by kernel_rfl)) (fun _ _ _ h => h) (Or.inl ⟨by rfl, ?_⟩) ?_ ?_;rotate_left
             ·intro w'
              go_simp;with_reducible rfl
             rotate_left
             ·simp only [Act.put, Zs1, Zs2, Zs3, zh, zi]
              rfl
             refine zn (i := 19) (N := some 42) (v := ?_) (a' := ?_) #[true, true, true, true, true, true, true, true, true, true, true, true, true, true, true, true, true, true, true, true, false, false, false, false, false, false, false, false, false] rfl rfl (zg HT_.out (by kernel_rfl)) (fun _ _ _ h => h) (Or.inl ⟨by rfl, ?_⟩) ?_ ?_;rotate_left
             ·intro w'
              go_simp;with_reducible rfl
             rotate_left
             ·simp only [Act.put, Zs1, Zs2, Zs3, zh, zi]
              rfl
             refine zn (i := 20) (N := some 43) (v := ?_) (a' := ?_) #[true, true, true, true, true, true, true, true, true, true, true, true, true, true, true, true, true, true, true, true, true, false, false, false, false, false, false, false, false] rfl rfl (zg HT_.out (by kernel_rfl)) (fun _ _ _ h => h) (Or.inl ⟨by rfl, ?_⟩) ?_ ?_;rotate_left
             ·intro w'
              go_simp;with_reducible rfl
             rotate_left
             ·simp only [Act.put, Zs1, Zs2, Zs3, zh, zi]
              rfl
             refine zn (i := 21) (N := some 44) (v := ?_) (a' := ?_) #[true, true, true, true, true, true, true, true, true, true, true, true, true, true, true, true, true, true, true, true, true, true, false, false, false, false, false, false, false] rfl rfl (zg HT_.out (by kernel_rfl)) (fun _ _ _ h => h) (Or.inl ⟨by rfl, ?_⟩) ?_ ?_;rotate_left
             ·intro w'
              go_simp;with_reducible rfl
             rotate_left
             ·simp only [Act.put, Zs1, Zs2, Zs3, zh, zi]
              rfl
             refine zn (i := 22) (N := some 45) (v := ?_) (a' := ?_) #[true, true, true, true, true, true, true, true, true, true, true, true, true, true, true, true, true, true, true, true, true, true, true, false, false, false, false, false, false] rfl rfl (zg HT_.out (by kernel_rfl)) (fun _ _ _ h => h) (Or.inl ⟨by rfl, ?_⟩) ?_ ?_;rotate_left
             ·intro w'
              go_simp;with_reducible rfl
             rotate_left
             ·simp only [Act.put, Zs1, Zs2, Zs3, zh, zi]
              rfl
             refine zn (i := 23) (N := some 46) (v := ?_) (a' := ?_) #[true, true, true, true, true, true, true, true, true, true, true, true, true, true, true, true, true, true, true, true, true, true, true, true, false, false, false, false, false] rfl rfl (zg HT_.out (by kernel_rfl)) (fun _ _ _ h => h) (Or.inl ⟨by rfl, ?_⟩) ?_ ?_;rotate_left
             ·intro w'
              go_simp;with_reducible rfl
             rotate_left
             ·simp only [Act.put, Zs1, Zs2, Zs3, zh, zi]
              rfl
             refine zn (i := 24) (N := some 47) (v := ?_) (a' := ?_) #[true, true, true, true, true, true, true, true, true, true, true, true, true, true, true, true, true, true, true, true, true, true, true, true, true, false, false, false, false] rfl rfl (zg HT_.out (by kernel_rfl)) (fun _ _ _ h => h) (Or.inl ⟨by rfl, ?_⟩) ?_ ?_;rotate_left
             ·intro w'
              go_simp;with_reducible rfl
             rotate_left
             ·simp only [Act.put, Zs1, Zs2, Zs3, zh, zi]
              rfl
             refine zn (i := 25) (N := some 48) (v := ?_) (a' := ?_) #[true, true, true, true, true, true, true, true, true, true, true, true, true, true, true, true, true, true, true, true, true, true, true, true, true, true, false, false, false] rfl rfl (zg HT_.out (by kernel_rfl)) (fun _ _ _ h => h) (Or.inl ⟨by rfl, ?_⟩) ?_ ?_;rotate_left
             ·intro w'
              go_simp;with_reducible rfl
             rotate_left
             ·simp only [Act.put, Zs1, Zs2, Zs3, zh, zi]
              rfl
             refine one_ (i := 26) (N := some 49) #[true, true, true, true, true, true, true, true, true, true, true, true, true, true, true, true, true, true, true, true, true, true, true, true, true, true, true, false, false] rfl rfl (zb0 HT_.out (by kernel_rfl)) (by decide) (fun K hK => ?_);refine zco Try.func66 (by kernel_rfl) rfl #[.slice (some ad312) l0.length c0, .slice (some ad313) l1.length c1, .int .i64 x11_2, .int .i64 x10_2] (by rfl) rfl rfl Zmt ?_;with_reducible refine (zl.calls k2 _ _ l0 _ _ l1 x11_2 x10_2 true _ ?side1 ?side2 ?side3 ?side4 A19.out).mono ?_
             (case side1 => repeat (first | exact (Kd.zc3 HR0.out (Zq1 HB)) | (with_reducible refine Kd.zdv ?_ _) | (with_reducible refine Kd.zee ?_ _) | (with_reducible refine Kd.zeh ?_)));(case side2 => exact HC0.out);(case side3 => repeat (first | exact (Kd.zc3 HR1.out (Zq1 HB)) | (with_reducible refine Kd.zdv ?_ _) | (with_reducible refine Kd.zee ?_ _) | (with_reducible refine Kd.zeh ?_)));(case side4 => exact HC1.out);rintro e w23 ⟨rfl, hb⟩;refine ⟨_, rfl, ?_⟩;have n0_ := za.mk (Kd.zcy (Zq12 HO_9) hb);have n1_ := za.mk (zm (Zq1 HB) hb);clear HO_9;clear HB;have HO_9 := n0_;have HB := n1_;clear n0_ n1_;(try clear hb);(try clear hb2);(try clear hk);(try clear hi);refine hK.out _ _ ⟨((HB.out.cell (World.block_lt_of_cell? w _ hw312_0)).trans hw312_0), ((HB.out.cell (World.block_lt_of_cell? w _ hw312_1)).trans hw312_1), ((HB.out.cell (World.block_lt_of_cell? w _ hw312_2)).trans hw312_2), ((HB.out.cell (World.block_lt_of_cell? w _ hw313_0)).trans hw313_0)⟩ (fun hHeld => ?_);clear hK K;refine zca (a' := ?_) ?_ ?_;rotate_left
             ·show Act.put _ (some 49) _ = _
              simp only [Act.put, Zs1, Zs2, Zs3, zh, zi];rfl
             refine zn (i := 27) (N := some 50) (v := ?_) (a' := ?_) #[true, true, true, true, true, true, true, true, true, true, true, true, true, true, true, true, true, true, true, true, true, true, true, true, true, true, true, true, false] rfl rfl (zg HT_.out (by kernel_rfl)) (fun _ _ _ h => h) (Or.inl ⟨by rfl, ?_⟩) ?_ ?_;rotate_left
             ·intro w'
              go_simp;with_reducible rfl
             rotate_left
             ·simp only [Act.put, Zs1, Zs2, Zs3, zh, zi]
              rfl
             refine zn (i := 28) (N := some 51) (v := ?_) (a' := ?_) #[true, true, true, true, true, true, true, true, true, true, true, true, true, true, true, true, true, true, true, true, true, true, true, true, true, true, true, true, true] rfl rfl (zg HT_.out (by kernel_rfl)) (fun _ _ _ h => h) (Or.inl ⟨by rfl, ?_⟩) ?_ ?_;rotate_left
             ·intro w'
              go_simp;with_reducible rfl
             rotate_left
             ·simp only [Act.put, Zs1, Zs2, Zs3, zh, zi]
              rfl
             refine zcz (zb5 HT_.out (by kernel_rfl)) ?_
             try go_wp2
             go_roundg k2
             case measure => have := HK1.out; have := HK2.out; omega
             case rel => exact ⟨(x11_2), (wrap64 (x11_2 + 1)), Zrs, Zrs, H', ⟨by have := HK1.out; have := HK2.out; omega⟩, ⟨Zq12 HO_9⟩, ⟨Zq1 HB⟩⟩
            ·replace c20 := Bool.eq_false_iff.mpr c20
             subst c20;have H1 : (zz.l1 k2 l0 l1 a2 a3 x9_1 x10_2 (wrap64 (x11_2 + 1))) = some r := by rw [if_neg (show ¬ (false = true) by decide)] at H; exact H
             clear H;have H := H1;clear H1;have H' := za.mk H;clear H
             try go_wp2
             have n0_ := za.mk (Kd.zb7 HO_9.out);have n1_ := za.mk (zbf HB.out);clear HO_9;clear HB;have HO_9 := n0_;have HB := n1_;clear n0_ n1_;have p312 : 0 ≤ (x11_2 : Int) := of_decide_eq_true Zas;have q312 : x11_2 < (l0.length : Int) := of_decide_eq_true Zas;obtain ⟨ad312, e312, hx312_0, hx312_1, hx312_2⟩ := zcm HR0.out x11_2 p312 q312;have hw312_2 := hx312_2;have hw312_1 := hx312_1;have hw312_0 := hx312_0
             cases e312
             replace hx312_0 := (HB.out.cell (World.block_lt_of_cell? w _ hx312_0)).trans hx312_0;replace hx312_1 := (HB.out.cell (World.block_lt_of_cell? w _ hx312_1)).trans hx312_1;replace hx312_2 := (HB.out.cell (World.block_lt_of_cell? w _ hx312_2)).trans hx312_2;replace p312 := eq_true p312;replace q312 := eq_true q312;have p313 : 0 ≤ (x11_2 : Int) := of_decide_eq_true Zas;have q313 : x11_2 < (l1.length : Int) := of_decide_eq_true Zas;obtain ⟨ad313, e313, hx313_0⟩ := Kd.zb6 HR1.out x11_2 p313 q313;have hw313_0 := hx313_0
             cases e313
             replace hx313_0 := (HB.out.cell (World.block_lt_of_cell? w _ hx313_0)).trans hx313_0;replace p313 := eq_true p313;replace q313 := eq_true q313;refine zcj (n := 29) (S := fun w' => w'.cell? (ad312.add ((x11_2).toNat * 3)) = some (.int .i64 ((zf l0 x11_2).f0)) ∧ w'.cell? ⟨(ad312.add ((x11_2).toNat * 3)).block, (ad312.add ((x11_2).toNat * 3)).off + 1, none⟩ = some (.int .i64 ((zf l0 x11_2).f1)) ∧ w'.cell? ⟨(ad312.add ((x11_2).toNat * 3)).block, (ad312.add ((x11_2).toNat * 3)).off + 2, none⟩ = some (.int .i64 ((zf l0 x11_2).f2)) ∧ w'.cell? (ad313.add (x11_2).toNat) = some (.int .i64 (rd l1 x11_2))) (ds := []) #[false, false, false, false, false, false, false, false, false, false, false, false, false, false, false, false, false, false, false, false, false, false, false, false, false, false, false, false, false] (by kernel_rfl) rfl rfl ⟨((HB.out.cell (World.block_lt_of_cell? w _ hw312_0)).trans hw312_0), ((HB.out.cell (World.block_lt_of_cell? w _ hw312_1)).trans hw312_1), ((HB.out.cell (World.block_lt_of_cell? w _ hw312_2)).trans hw312_2), ((HB.out.cell (World.block_lt_of_cell? w _ hw313_0)).trans hw313_0)⟩ (fun hHeld => ?_); refine zbr zz.tab7 zz.zi6 (fun HT_ HW_ => ?_);generalize wr.drew = w24 at HO_9 HB hx312_0 hx312_1 hx312_2 hx313_0 hHeld ⊢;refine zn (i := 0) (N := some 23) (v := ?_) (a' := ?_) #[true, false, false, false, false, false, false, false, false, false, false, false, false, false, false, false, false, false, false, false, false, false, false, false, false, false, false, false, false] rfl rfl (zg HT_.out (by kernel_rfl)) (fun _ _ _ h => h) (Or.inl ⟨by rfl, ?_⟩) ?_ ?_;rotate_left
             ·intro w'
              go_simp;with_reducible rfl
             rotate_left
             ·simp only [Act.put, Zs1, Zs2, Zs3, zh, zi]
              rfl
             refine zn (i := 1) (N := some 24) (v := ?_) (a' := ?_) #[true, true, false, false, false, false, false, false, false, false, false, false, false, false, false, false, false, false, false, false, false, false, false, false, false, false, false, false, false] rfl rfl (zg HT_.out (by kernel_rfl)) (fun _ _ _ h => h) (Or.inl ⟨by rfl, ?_⟩) ?_ ?_;rotate_left
             ·intro w'
              go_simp;with_reducible rfl
             rotate_left
             ·simp only [Act.put, Zs1, Zs2, Zs3, zh, zi]
              rfl
             refine zn (i := 2) (N := some 25) (v := ?_) (a' := ?_) #[true, true, true, false, false, false, false, false, false, false, false, false, false, false, false, false, false, false, false, false, false, false, false, false, false, false, false, false, false] rfl rfl (zg HT_.out (by kernel_rfl)) (fun _ _ _ h => h) (Or.inl ⟨by rfl, ?_⟩) ?_ ?_;rotate_left
             ·intro w'
              go_simp;with_reducible rfl
             rotate_left
             ·simp only [Act.put, Zs1, Zs2, Zs3, zh, zi]
              rfl
             refine zn (i := 4) (N := some 27) (v := ?_) (a' := ?_) #[true, true, true, false, true, false, false, false, false, false, false, false, false, false, false, false, false, false, false, false, false, false, false, false, false, false, false, false, false] rfl rfl (zg HT_.out (by kernel_rfl)) (fun _ _ _ h => h) (Or.inl ⟨by rfl, ?_⟩) ?_ ?_;rotate_left
             ·intro w'
              go_simp;with_reducible rfl
             rotate_left
             ·simp only [Act.put, Zs1, Zs2, Zs3, zh, zi]
              rfl
             refine zn (i := 5) (N := some 28) (v := ?_) (a' := ?_) #[true, true, true, false, true, true, false, false, false, false, false, false, false, false, false, false, false, false, false, false, false, false, false, false, false, false, false, false, false] rfl rfl (zg HT_.out (by kernel_rfl)) (fun _ _ _ h => h) (Or.inl ⟨by rfl, ?_⟩) ?_ ?_;rotate_left
             ·intro w'
              go_simp;with_reducible rfl
             rotate_left
             ·simp only [Act.put, Zs1, Zs2, Zs3, zh, zi]
              rfl
             refine zn (i := 6) (N := some 29) (v := ?_) (a' := ?_) #[true, true, true, false, true, true, true, false, false, false, false, false, false, false, false, false, false, false, false, false, false, false, false, false, false, false, false, false, false] rfl rfl (zg HT_.out (by kernel_rfl)) (fun _ _ _ h => h) (Or.inl ⟨by rfl, ?_⟩) ?_ ?_;rotate_left
             ·intro w'
              go_simp;with_reducible rfl
             rotate_left
             ·simp only [Act.put, Zs1, Zs2, Zs3, zh, zi]
              rfl
             refine zn (i := 10) (N := some 33) (v := ?_) (a' := ?_) #[true, true, true, false, true, true, true, false, false, false, true, false, false, false, false, false, false, false, false, false, false, false, false, false, false, false, false, false, false] rfl rfl (zg HT_.out (by kernel_rfl)) (fun _ _ _ h => h) (Or.inl ⟨by rfl, ?_⟩) ?_ ?_;rotate_left
             ·intro w'
              go_simp;with_reducible rfl
             rotate_left
             ·simp only [Act.put, Zs1, Zs2, Zs3, zh, zi]
              rfl
             refine zbx (i := 3) (N := some 26) (v := ?_) (a' := ?_) #[true, true, true, true, true, true, true, false, false, false, true, false, false, false, false, false, false, false, false, false, false, false, false, false, false, false, false, false, false] rfl rfl (z8 HT_.out HW_.out (by kernel_rfl)) (fun _ _ _ h => h) (Or.inl ⟨by rfl, ?_⟩) hHeld ?_ ?_;rotate_left
             ·rintro w' ⟨s0, s1, s2, s3⟩
              go_simp;with_reducible rfl
             rotate_left
             ·simp only [Act.put, Zs1, Zs2, Zs3, zh, zi]
              rfl
             refine zbx (i := 7) (N := some 30) (v := ?_) (a' := ?_) #[true, true, true, true, true, true, true, true, false, false, true, false, false, false, false, false, false, false, false, false, false, false, false, false, false, false, false, false, false] rfl rfl (z8 HT_.out HW_.out (by kernel_rfl)) (fun _ _ _ h => h) (Or.inl ⟨by rfl, ?_⟩) hHeld ?_ ?_;rotate_left
             ·rintro w' ⟨s0, s1, s2, s3⟩
              go_simp;with_reducible rfl
             rotate_left
             ·simp only [Act.put, Zs1, Zs2, Zs3, zh, zi]
              rfl
             refine one_ (i := 8) (N := some 31) #[true, true, true, true, true, true, true, true, true, false, true, false, false, false, false, false, false, false, false, false, false, false, false, false, false, false, false, false, false] rfl rfl (zb0 HT_.out (by kernel_rfl)) (by decide) (fun K hK => ?_);refine zco Try.func64 (by kernel_rfl) rfl #[.agg #[.int .i64 ((zf l0 x11_2).f0), .int .i64 ((zf l0 x11_2).f1), .int .i64 ((zf l0 x11_2).f2)], .int .i64 (rd l1 x11_2)] (by rfl) rfl rfl Zmt ?_;with_reducible refine (zbc.calls ((zf l0 x11_2).f0) ((zf l0 x11_2).f1) ((zf l0 x11_2).f2) (rd l1 x11_2) t314 t315 _ A12.out).mono ?_
             rintro e w25 ⟨rfl, hb⟩;refine ⟨_, rfl, ?_⟩;have n0_ := za.mk (Kd.zcy (Zq12 HO_9) hb);have n1_ := za.mk (zm (Zq1 HB) hb);clear HO_9;clear HB;have HO_9 := n0_;have HB := n1_;clear n0_ n1_;(try clear hb);(try clear hb2);(try clear hk);(try clear hi);refine hK.out _ _ ⟨((HB.out.cell (World.block_lt_of_cell? w _ hw312_0)).trans hw312_0), ((HB.out.cell (World.block_lt_of_cell? w _ hw312_1)).trans hw312_1), ((HB.out.cell (World.block_lt_of_cell? w _ hw312_2)).trans hw312_2), ((HB.out.cell (World.block_lt_of_cell? w _ hw313_0)).trans hw313_0)⟩ (fun hHeld => ?_);clear hK K;refine zca (a' := ?_) ?_ ?_;rotate_left
             ·show Act.put _ (some 31) _ = _
              simp only [Act.put, Zs1, Zs2, Zs3, zh, zi];rfl
             refine zn (i := 9) (N := some 32) (v := ?_) (a' := ?_) #[true, true, true, true, true, true, true, true, true, true, true, false, false, false, false, false, false, false, false, false, false, false, false, false, false, false, false, false, false] rfl rfl (zg HT_.out (by kernel_rfl)) (fun _ _ _ h => h) (Or.inl ⟨by rfl, ?_⟩) ?_ ?_;rotate_left
             ·intro w'
              go_simp;with_reducible rfl
             rotate_left
             ·simp only [Act.put, Zs1, Zs2, Zs3, zh, zi]
              rfl
             refine zn (i := 11) (N := some 34) (v := ?_) (a' := ?_) #[true, true, true, true, true, true, true, true, true, true, true, true, false, false, false, false, false, false, false, false, false, false, false, false, false, false, false, false, false] rfl rfl (zg HT_.out (by kernel_rfl)) (fun _ _ _ h => h) (Or.inl ⟨by rfl, ?_⟩) ?_ ?_;rotate_left
             ·intro w'
              go_simp;with_reducible rfl
             rotate_left
             ·simp only [Act.put, Zs1, Zs2, Zs3, zh, zi]
              rfl
             refine zn (i := 12) (N := some 35) (v := ?_) (a' := ?_) #[true, true, true, true, true, true, true, true, true, true, true, true, true, false, false, false, false, false, false, false, false, false, false, false, false, false, false, false, false] rfl rfl (zg HT_.out (by kernel_rfl)) (fun _ _ _ h => h) (Or.inl ⟨by rfl, ?_⟩) ?_ ?_;rotate_left
             ·intro w'
              go_simp;with_reducible rfl
             rotate_left
             ·simp only [Act.put, Zs1, Zs2, Zs3, zh, zi]
              rfl
             refine zn (i := 13) (N := some 36) (v := ?_) (a' := ?_) #[true, true, true, true, true, true, true, true, true, true, true, true, true, true, false, false, false, false, false, false, false, false, false, false, false, false, false, false, false] rfl rfl (zg HT_.out (by kernel_rfl)) (fun _ _ _ h => h) (Or.inl ⟨by rfl, ?_⟩) ?_ ?_;rotate_left
             ·intro w'
              go_simp;with_reducible rfl
             rotate_left
             ·simp only [Act.put, Zs1, Zs2, Zs3, zh, zi]
              rfl
             refine zn (i := 14) (N := some 37) (v := ?_) (a' := ?_) #[true, true, true, true, true, true, true, true, true, true, true, true, true, true, true, false, false, false, false, false, false, false, false, false, false, false, false, false, false] rfl rfl (zg HT_.out (by kernel_rfl)) (fun _ _ _ h => h) (Or.inl ⟨by rfl, ?_⟩) ?_ ?_;rotate_left
             ·intro w'
              go_simp;with_reducible rfl
             rotate_left
             ·simp only [Act.put, Zs1, Zs2, Zs3, zh, zi]
              rfl
             refine one_ (i := 15) (N := some 38) #[true, true, true, true, true, true, true, true, true, true, true, true, true, true, true, true, false, false, false, false, false, false, false, false, false, false, false, false, false] rfl rfl (zb0 HT_.out (by kernel_rfl)) (by decide) (fun K hK => ?_);refine zco Try.func65 (by kernel_rfl) rfl #[.slice Ao8 x9_1.length co8, .int .i64 x11_2] (by rfl) rfl rfl Zmt ?_;with_reducible refine (zb9.calls k2 _ _ x9_1 x11_2 t316 _ ?side1 ?side2 A14.out).mono ?_
             (case side1 => exact Zq18 ((Kd.zbq HO_9.out).2.2));(case side2 => exact (Kd.zbq HO_9.out).2.1);rintro e w' ⟨rfl, ⟨nd, rfl⟩⟩;refine ⟨_, rfl, ?_⟩;refine hK.out _ _ ⟨((HB.out.cell (World.block_lt_of_cell? w _ hw312_0)).trans hw312_0), ((HB.out.cell (World.block_lt_of_cell? w _ hw312_1)).trans hw312_1), ((HB.out.cell (World.block_lt_of_cell? w _ hw312_2)).trans hw312_2), ((HB.out.cell (World.block_lt_of_cell? w _ hw313_0)).trans hw313_0)⟩ (fun hHeld => ?_);clear hK K;refine zca (a' := ?_) ?_ ?_;rotate_left
             ·show Act.put _ (some 38) _ = _
              simp only [Act.put, Zs1, Zs2, Zs3, zh, zi];rfl
             refine zn (i := 16) (N := some 39) (v := ?_) (a' := ?_) #[true, true, true, true, true, true, true, true, true, true, true, true, true, true, true, true, true, false, false, false, false, false, false, false, false, false, false, false, false] rfl rfl (zg HT_.out (by kernel_rfl)) (fun _ _ _ h => h) (Or.inl ⟨by rfl, ?_⟩) ?_ ?_;rotate_left
             ·intro w'
              go_simp;with_reducible rfl
             rotate_left
             ·simp only [Act.put, Zs1, Zs2, Zs3, zh, zi]
              rfl
             refine zn (i := 17) (N := some 40) (v := ?_) (a' := ?_) #[true, true, true, true, true, true, true, true, true, true, true, true, true, true, true, true, true, true, false, false, false, false, false, false, false, false, false, false, false] rfl rfl (zg HT_.out (by kernel_rfl)) (fun _ _ _ h => h) (Or.inl ⟨by rfl, ?_⟩) ?_ ?_;rotate_left
             ·intro w'
              go_simp;with_reducible rfl
             rotate_left
             ·simp only [Act.put, Zs1, Zs2, Zs3, zh, zi]
              rfl
             refine zn (i := 18) (N := some 41) (v := ?_) (a' := ?_) #[true, true, true, true, true, true, true, true, true, true, true, true, true, true, true, true, true, true, true, false, false, false, false, false, false, false, false, false, false] rfl rfl (zg HT_.out (by kernel_rfl)) (fun _ _ _ h => h) (Or.inl ⟨by rfl, ?_⟩) ?_ ?_;rotate_left
             ·intro w'
              go_simp;with_reducible rfl
             rotate_left
             ·simp only [Act.put, Zs1, Zs2, Zs3, zh, zi]
              rfl
             refine zn (i := 19) (N := some 42) (v := ?_) (a' := ?_) #[true, true, true, true, true, true, true, true, true, true, true, true, true, true, true, true, true, true, true, true, false, false, false, false, false, false, false, false, false] rfl rfl (zg HT_.out (by kernel_rfl)) (fun _ _ _ h => h) (Or.inl ⟨by rfl, ?_⟩) ?_ ?_;rotate_left
             ·intro w'
              go_simp;with_reducible rfl
             rotate_left
             ·simp only [Act.put, Zs1, Zs2, Zs3, zh, zi]
              rfl
             refine zn (i := 20) (N := some 43) (v := ?_) (a' := ?_) #[true, true, true, true, true, true, true, true, true, true, true, true, true, true, true, true, true, true, true, true, true, false, false, false, false, false, false, false, false] rfl rfl (zg HT_.out (by kernel_rfl)) (fun _ _ _ h => h) (Or.inl ⟨by rfl, ?_⟩) ?_ ?_;rotate_left
             ·intro w'
              go_simp;with_reducible rfl
             rotate_left
             ·simp only [Act.put, Zs1, Zs2, Zs3, zh, zi]
              rfl
             refine zn (i := 21) (N := some 44) (v := ?_) (a' := ?_) #[true, true, true, true, true, true, true, true, true, true, true, true, true, true, true, true, true, true, true, true, true, true, false, false, false, false, false, false, false] rfl rfl (zg HT_.out (by kernel_rfl)) (fun _ _ _ h => h) (Or.inl ⟨by rfl, ?_⟩) ?_ ?_;rotate_left
             ·intro w'
              go_simp;with_reducible rfl
             rotate_left
             ·simp only [Act.put, Zs1, Zs2, Zs3, zh, zi]
              rfl
             refine zn (i := 22) (N := some 45) (v := ?_) (a' := ?_) #[true, true, true, true, true, true, true, true, true, true, true, true, true, true, true, true, true, true, true, true, true, true, true, false, false, false, false, false, false] rfl rfl (zg HT_.out (by kernel_rfl)) (fun _ _ _ h => h) (Or.inl ⟨by rfl, ?_⟩) ?_ ?_;rotate_left
             ·intro w'
              go_simp;with_reducible rfl
             rotate_left
             ·simp only [Act.put, Zs1, Zs2, Zs3, zh, zi]
              rfl
             refine zn (i := 23) (N := some 46) (v := ?_) (a' := ?_) #[true, true, true, true, true, true, true, true, true, true, true, true, true, true, true, true, true, true, true, true, true, true, true, true, false, false, false, false, false] rfl rfl (zg HT_.out (by kernel_rfl)) (fun _ _ _ h => h) (Or.inl ⟨by rfl, ?_⟩) ?_ ?_;rotate_left
             ·intro w'
              go_simp;with_reducible rfl
             rotate_left
             ·simp only [Act.put, Zs1, Zs2, Zs3, zh, zi]
              rfl
             refine zn (i := 24) (N := some 47) (v := ?_) (a' := ?_) #[true, true, true, true, true, true, true, true, true, true, true, true, true, true, true, true, true, true, true, true, true, true, true, true, true, false, false, false, false] rfl rfl (zg HT_.out (by kernel_rfl)) (fun _ _ _ h => h) (Or.inl ⟨by rfl, ?_⟩) ?_ ?_;rotate_left
             ·intro w'
              go_simp;with_reducible rfl
             rotate_left
             ·simp only [Act.put, Zs1, Zs2, Zs3, zh, zi]
              rfl
             refine zn (i := 25) (N := some 48) (v := ?_) (a' := ?_) #[true, true, true, true, true, true, true, true, true, true, true, true, true, true, true, true, true, true, true, true, true, true, true, true, true, true, false, false, false] rfl rfl (zg HT_.out (by kernel_rfl)) (fun _ _ _ h => h) (Or.inl ⟨by rfl, ?_⟩) ?_ ?_;rotate_left
             ·intro w'
              go_simp;with_reducible rfl
             rotate_left
             ·simp only [Act.put, Zs1, Zs2, Zs3, zh, zi]
              rfl
             refine one_ (i := 26) (N := some 49) #[true, true, true, true, true, true, true, true, true, true, true, true, true, true, true, true, true, true, true, true, true, true, true, true, true, true, true, false, false] rfl rfl (zb0 HT_.out (by kernel_rfl)) (by decide) (fun K hK => ?_);refine zco Try.func66 (by kernel_rfl) rfl #[.slice (some ad312) l0.length c0, .slice (some ad313) l1.length c1, .int .i64 x11_2, .int .i64 x10_2] (by rfl) rfl rfl Zmt ?_;with_reducible refine (zl.calls k2 _ _ l0 _ _ l1 x11_2 x10_2 false _ ?side1 ?side2 ?side3 ?side4 A19.out).mono ?_
             (case side1 => repeat (first | exact (Kd.zc3 HR0.out (Zq1 HB)) | (with_reducible refine Kd.zdv ?_ _) | (with_reducible refine Kd.zee ?_ _) | (with_reducible refine Kd.zeh ?_)));(case side2 => exact HC0.out);(case side3 => repeat (first | exact (Kd.zc3 HR1.out (Zq1 HB)) | (with_reducible refine Kd.zdv ?_ _) | (with_reducible refine Kd.zee ?_ _) | (with_reducible refine Kd.zeh ?_)));(case side4 => exact HC1.out);rintro e w26 ⟨rfl, hb⟩;refine ⟨_, rfl, ?_⟩;have n0_ := za.mk (Kd.zcy (Zq12 HO_9) hb);have n1_ := za.mk (zm (Zq1 HB) hb);clear HO_9;clear HB;have HO_9 := n0_;have HB := n1_;clear n0_ n1_;(try clear hb);(try clear hb2);(try clear hk);(try clear hi);refine hK.out _ _ ⟨((HB.out.cell (World.block_lt_of_cell? w _ hw312_0)).trans hw312_0), ((HB.out.cell (World.block_lt_of_cell? w _ hw312_1)).trans hw312_1), ((HB.out.cell (World.block_lt_of_cell? w _ hw312_2)).trans hw312_2), ((HB.out.cell (World.block_lt_of_cell? w _ hw313_0)).trans hw313_0)⟩ (fun hHeld => ?_);clear hK K;refine zca (a' := ?_) ?_ ?_;rotate_left
             ·show Act.put _ (some 49) _ = _
              simp only [Act.put, Zs1, Zs2, Zs3, zh, zi];rfl
             refine zn (i := 27) (N := some 50) (v := ?_) (a' := ?_) #[true, true, true, true, true, true, true, true, true, true, true, true, true, true, true, true, true, true, true, true, true, true, true, true, true, true, true, true, false] rfl rfl (zg HT_.out (by kernel_rfl)) (fun _ _ _ h => h) (Or.inl ⟨by rfl, ?_⟩) ?_ ?_;rotate_left
             ·intro w'
              go_simp;with_reducible rfl
             rotate_left
             ·simp only [Act.put, Zs1, Zs2, Zs3, zh, zi]
              rfl
             refine zn (i := 28) (N := some 51) (v := ?_) (a' := ?_) #[true, true, true, true, true, true, true, true, true, true, true, true, true, true, true, true, true, true, true, true, true, true, true, true, true, true, true, true, true] rfl rfl (zg HT_.out (by kernel_rfl)) (fun _ _ _ h => h) (Or.inl ⟨by rfl, ?_⟩) ?_ ?_;rotate_left
             ·intro w'
              go_simp;with_reducible rfl
             rotate_left
             ·simp only [Act.put, Zs1, Zs2, Zs3, zh, zi]
              rfl
             refine zcz (zb5 HT_.out (by kernel_rfl)) ?_
             try go_wp2
             go_roundg k2
             case measure => have := HK1.out; have := HK2.out; omega
             case rel => exact ⟨(x10_2), (wrap64 (x11_2 + 1)), Zrs, Zrs, H', ⟨by have := HK1.out; have := HK2.out; omega⟩, ⟨Zq12 HO_9⟩, ⟨Zq1 HB⟩⟩
          ·rw [if_neg c15] at H
           have c15b0 : decide (t316 < 0) = false := decide_eq_false c15;clear c15;have H' := za.mk H;clear H
           try go_wp2
           have n0_ := za.mk (Kd.zb7 HO_9.out);have n1_ := za.mk (zbf HB.out);clear HO_9;clear HB;have HO_9 := n0_;have HB := n1_;clear n0_ n1_;have p312 : 0 ≤ (x11_2 : Int) := of_decide_eq_true Zas;have q312 : x11_2 < (l0.length : Int) := of_decide_eq_true Zas;obtain ⟨ad312, e312, hx312_0, hx312_1, hx312_2⟩ := zcm HR0.out x11_2 p312 q312;have hw312_2 := hx312_2;have hw312_1 := hx312_1;have hw312_0 := hx312_0
           cases e312
           replace hx312_0 := (HB.out.cell (World.block_lt_of_cell? w _ hx312_0)).trans hx312_0;replace hx312_1 := (HB.out.cell (World.block_lt_of_cell? w _ hx312_1)).trans hx312_1;replace hx312_2 := (HB.out.cell (World.block_lt_of_cell? w _ hx312_2)).trans hx312_2;replace p312 := eq_true p312;replace q312 := eq_true q312;have p313 : 0 ≤ (x11_2 : Int) := of_decide_eq_true Zas;have q313 : x11_2 < (l1.length : Int) := of_decide_eq_true Zas;obtain ⟨ad313, e313, hx313_0⟩ := Kd.zb6 HR1.out x11_2 p313 q313;have hw313_0 := hx313_0
           cases e313
           replace hx313_0 := (HB.out.cell (World.block_lt_of_cell? w _ hx313_0)).trans hx313_0;replace p313 := eq_true p313;replace q313 := eq_true q313;refine zcj (n := 29) (S := fun w' => w'.cell? (ad312.add ((x11_2).toNat * 3)) = some (.int .i64 ((zf l0 x11_2).f0)) ∧ w'.cell? ⟨(ad312.add ((x11_2).toNat * 3)).block, (ad312.add ((x11_2).toNat * 3)).off + 1, none⟩ = some (.int .i64 ((zf l0 x11_2).f1)) ∧ w'.cell? ⟨(ad312.add ((x11_2).toNat * 3)).block, (ad312.add ((x11_2).toNat * 3)).off + 2, none⟩ = some (.int .i64 ((zf l0 x11_2).f2)) ∧ w'.cell? (ad313.add (x11_2).toNat) = some (.int .i64 (rd l1 x11_2))) (ds := []) #[false, false, false, false, false, false, false, false, false, false, false, false, false, false, false, false, false, false, false, false, false, false, false, false, false, false, false, false, false] (by kernel_rfl) rfl rfl ⟨((HB.out.cell (World.block_lt_of_cell? w _ hw312_0)).trans hw312_0), ((HB.out.cell (World.block_lt_of_cell? w _ hw312_1)).trans hw312_1), ((HB.out.cell (World.block_lt_of_cell? w _ hw312_2)).trans hw312_2), ((HB.out.cell (World.block_lt_of_cell? w _ hw313_0)).trans hw313_0)⟩ (fun hHeld => ?_); refine zbr zz.tab7 zz.zi6 (fun HT_ HW_ => ?_);generalize wr.drew = w27 at HO_9 HB hx312_0 hx312_1 hx312_2 hx313_0 hHeld ⊢;refine zn (i := 0) (N := some 23) (v := ?_) (a' := ?_) #[true, false, false, false, false, false, false, false, false, false, false, false, false, false, false, false, false, false, false, false, false, false, false, false, false, false, false, false, false] rfl rfl (zg HT_.out (by kernel_rfl)) (fun _ _ _ h => h) (Or.inl ⟨by rfl, ?_⟩) ?_ ?_;rotate_left
           ·intro w'
            go_simp;with_reducible rfl
           rotate_left
           ·simp only [Act.put, Zs1, Zs2, Zs3, zh, zi]
            rfl
           refine zn (i := 1) (N := some 24) (v := ?_) (a' := ?_) #[true, true, false, false, false, false, false, false, false, false, false, false, false, false, false, false, false, false, false, false, false, false, false, false, false, false, false, false, false] rfl rfl (zg HT_.out (by kernel_rfl)) (fun _ _ _ h => h) (Or.inl ⟨by rfl, ?_⟩) ?_ ?_;rotate_left
           ·intro w'
            go_simp;with_reducible rfl
           rotate_left
           ·simp only [Act.put, Zs1, Zs2, Zs3, zh, zi]
            rfl
           refine zn (i := 2) (N := some 25) (v := ?_) (a' := ?_) #[true, true, true, false, false, false, false, false, false, false, false, false, false, false, false, false, false, false, false, false, false, false, false, false, false, false, false, false, false] rfl rfl (zg HT_.out (by kernel_rfl)) (fun _ _ _ h => h) (Or.inl ⟨by rfl, ?_⟩) ?_ ?_;rotate_left
           ·intro w'
            go_simp;with_reducible rfl
           rotate_left
           ·simp only [Act.put, Zs1, Zs2, Zs3, zh, zi]
            rfl
           refine zn (i := 4) (N := some 27) (v := ?_) (a' := ?_) #[true, true, true, false, true, false, false, false, false, false, false, false, false, false, false, false, false, false, false, false, false, false, false, false, false, false, false, false, false] rfl rfl (zg HT_.out (by kernel_rfl)) (fun _ _ _ h => h) (Or.inl ⟨by rfl, ?_⟩) ?_ ?_;rotate_left
           ·intro w'
            go_simp;with_reducible rfl
           rotate_left
           ·simp only [Act.put, Zs1, Zs2, Zs3, zh, zi]
            rfl
           refine zn (i := 5) (N := some 28) (v := ?_) (a' := ?_) #[true, true, true, false, true, true, false, false, false, false, false, false, false, false, false, false, false, false, false, false, false, false, false, false, false, false, false, false, false] rfl rfl (zg HT_.out (by kernel_rfl)) (fun _ _ _ h => h) (Or.inl ⟨by rfl, ?_⟩) ?_ ?_;rotate_left
           ·intro w'
            go_simp;with_reducible rfl
           rotate_left
           ·simp only [Act.put, Zs1, Zs2, Zs3, zh, zi]
            rfl
           refine zn (i := 6) (N := some 29) (v := ?_) (a' := ?_) #[true, true, true, false, true, true, true, false, false, false, false, false, false, false, false, false, false, false, false, false, false, false, false, false, false, false, false, false, false] rfl rfl (zg HT_.out (by kernel_rfl)) (fun _ _ _ h => h) (Or.inl ⟨by rfl, ?_⟩) ?_ ?_;rotate_left
           ·intro w'
            go_simp;with_reducible rfl
           rotate_left
           ·simp only [Act.put, Zs1, Zs2, Zs3, zh, zi]
            rfl
           refine zn (i := 10) (N := some 33) (v := ?_) (a' := ?_) #[true, true, true, false, true, true, true, false, false, false, true, false, false, false, false, false, false, false, false, false, false, false, false, false, false, false, false, false, false] rfl rfl (zg HT_.out (by kernel_rfl)) (fun _ _ _ h => h) (Or.inl ⟨by rfl, ?_⟩) ?_ ?_;rotate_left
           ·intro w'
            go_simp;with_reducible rfl
           rotate_left
           ·simp only [Act.put, Zs1, Zs2, Zs3, zh, zi]
            rfl
           refine zbx (i := 3) (N := some 26) (v := ?_) (a' := ?_) #[true, true, true, true, true, true, true, false, false, false, true, false, false, false, false, false, false, false, false, false, false, false, false, false, false, false, false, false, false] rfl rfl (z8 HT_.out HW_.out (by kernel_rfl)) (fun _ _ _ h => h) (Or.inl ⟨by rfl, ?_⟩) hHeld ?_ ?_;rotate_left
           ·rintro w' ⟨s0, s1, s2, s3⟩
            go_simp;with_reducible rfl
           rotate_left
           ·simp only [Act.put, Zs1, Zs2, Zs3, zh, zi]
            rfl
           refine zbx (i := 7) (N := some 30) (v := ?_) (a' := ?_) #[true, true, true, true, true, true, true, true, false, false, true, false, false, false, false, false, false, false, false, false, false, false, false, false, false, false, false, false, false] rfl rfl (z8 HT_.out HW_.out (by kernel_rfl)) (fun _ _ _ h => h) (Or.inl ⟨by rfl, ?_⟩) hHeld ?_ ?_;rotate_left
           ·rintro w' ⟨s0, s1, s2, s3⟩
            go_simp;with_reducible rfl
           rotate_left
           ·simp only [Act.put, Zs1, Zs2, Zs3, zh, zi]
            rfl
           refine one_ (i := 8) (N := some 31) #[true, true, true, true, true, true, true, true, true, false, true, false, false, false, false, false, false, false, false, false, false, false, false, false, false, false, false, false, false] rfl rfl (zb0 HT_.out (by kernel_rfl)) (by decide) (fun K hK => ?_);refine zco Try.func64 (by kernel_rfl) rfl #[.agg #[.int .i64 ((zf l0 x11_2).f0), .int .i64 ((zf l0 x11_2).f1), .int .i64 ((zf l0 x11_2).f2)], .int .i64 (rd l1 x11_2)] (by rfl) rfl rfl Zmt ?_;with_reducible refine (zbc.calls ((zf l0 x11_2).f0) ((zf l0 x11_2).f1) ((zf l0 x11_2).f2) (rd l1 x11_2) t314 t315 _ A12.out).mono ?_
           rintro e w28 ⟨rfl, hb⟩;refine ⟨_, rfl, ?_⟩;have n0_ := za.mk (Kd.zcy (Zq12 HO_9) hb);have n1_ := za.mk (zm (Zq1 HB) hb);clear HO_9;clear HB;have HO_9 := n0_;have HB := n1_;clear n0_ n1_;(try clear hb);(try clear hb2);(try clear hk);(try clear hi);refine hK.out _ _ ⟨((HB.out.cell (World.block_lt_of_cell? w _ hw312_0)).trans hw312_0), ((HB.out.cell (World.block_lt_of_cell? w _ hw312_1)).trans hw312_1), ((HB.out.cell (World.block_lt_of_cell? w _ hw312_2)).trans hw312_2), ((HB.out.cell (World.block_lt_of_cell? w _ hw313_0)).trans hw313_0)⟩ (fun hHeld => ?_);clear hK K;refine zca (a' := ?_) ?_ ?_;rotate_left
           ·show Act.put _ (some 31) _ = _
            simp only [Act.put, Zs1, Zs2, Zs3, zh, zi];rfl
           refine zn (i := 9) (N := some 32) (v := ?_) (a' := ?_) #[true, true, true, true, true, true, true, true, true, true, true, false, false, false, false, false, false, false, false, false, false, false, false, false, false, false, false, false, false] rfl rfl (zg HT_.out (by kernel_rfl)) (fun _ _ _ h => h) (Or.inl ⟨by rfl, ?_⟩) ?_ ?_;rotate_left
           ·intro w'
            go_simp;with_reducible rfl
           rotate_left
           ·simp only [Act.put, Zs1, Zs2, Zs3, zh, zi]
            rfl
           refine zn (i := 11) (N := some 34) (v := ?_) (a' := ?_) #[true, true, true, true, true, true, true, true, true, true, true, true, false, false, false, false, false, false, false, false, false, false, false, false, false, false, false, false, false] rfl rfl (zg HT_.out (by kernel_rfl)) (fun _ _ _ h => h) (Or.inl ⟨by rfl, ?_⟩) ?_ ?_;rotate_left
           ·intro w'
            go_simp;with_reducible rfl
           rotate_left
           ·simp only [Act.put, Zs1, Zs2, Zs3, zh, zi]
            rfl
           refine zn (i := 12) (N := some 35) (v := ?_) (a' := ?_) #[true, true, true, true, true, true, true, true, true, true, true, true, true, false, false, false, false, false, false, false, false, false, false, false, false, false, false, false, false] rfl rfl (zg HT_.out (by kernel_rfl)) (fun _ _ _ h => h) (Or.inl ⟨by rfl, ?_⟩) ?_ ?_;rotate_left
           ·intro w'
            go_simp;with_reducible rfl
           rotate_left
           ·simp only [Act.put, Zs1, Zs2, Zs3, zh, zi]
            rfl
           refine zn (i := 13) (N := some 36) (v := ?_) (a' := ?_) #[true, true, true, true, true, true, true, true, true, true, true, true, true, true, false, false, false, false, false, false, false, false, false, false, false, false, false, false, false] rfl rfl (zg HT_.out (by kernel_rfl)) (fun _ _ _ h => h) (Or.inl ⟨by rfl, ?_⟩) ?_ ?_;rotate_left
           ·intro w'
            go_simp;with_reducible rfl
           rotate_left
           ·simp only [Act.put, Zs1, Zs2, Zs3, zh, zi]
            rfl
           refine zn (i := 14) (N := some 37) (v := ?_) (a' := ?_) #[true, true, true, true, true, true, true, true, true, true, true, true, true, true, true, false, false, false, false, false, false, false, false, false, false, false, false, false, false] rfl rfl (zg HT_.out (by kernel_rfl)) (fun _ _ _ h => h) (Or.inl ⟨by rfl, ?_⟩) ?_ ?_;rotate_left
           ·intro w'
            go_simp;with_reducible rfl
           rotate_left
           ·simp only [Act.put, Zs1, Zs2, Zs3, zh, zi]
            rfl
           refine one_ (i := 15) (N := some 38) #[true, true, true, true, true, true, true, true, true, true, true, true, true, true, true, true, false, false, false, false, false, false, false, false, false, false, false, false, false] rfl rfl (zb0 HT_.out (by kernel_rfl)) (by decide) (fun K hK => ?_);refine zco Try.func65 (by kernel_rfl) rfl #[.slice Ao8 x9_1.length co8, .int .i64 x11_2] (by rfl) rfl rfl Zmt ?_;with_reducible refine (zb9.calls k2 _ _ x9_1 x11_2 t316 _ ?side1 ?side2 A14.out).mono ?_
           (case side1 => exact Zq18 ((Kd.zbq HO_9.out).2.2));(case side2 => exact (Kd.zbq HO_9.out).2.1);rintro e w' ⟨rfl, ⟨nd, rfl⟩⟩;refine ⟨_, rfl, ?_⟩;refine hK.out _ _ ⟨((HB.out.cell (World.block_lt_of_cell? w _ hw312_0)).trans hw312_0), ((HB.out.cell (World.block_lt_of_cell? w _ hw312_1)).trans hw312_1), ((HB.out.cell (World.block_lt_of_cell? w _ hw312_2)).trans hw312_2), ((HB.out.cell (World.block_lt_of_cell? w _ hw313_0)).trans hw313_0)⟩ (fun hHeld => ?_);clear hK K;refine zca (a' := ?_) ?_ ?_;rotate_left
           ·show Act.put _ (some 38) _ = _
            simp only [Act.put, Zs1, Zs2, Zs3, zh, zi];rfl
           refine zn (i := 16) (N := some 39) (v := ?_) (a' := ?_) #[true, true, true, true, true, true, true, true, true, true, true, true, true, true, true, true, true, false, false, false, false, false, false, false, false, false, false, false, false] rfl rfl (zg HT_.out (by kernel_rfl)) (fun _ _ _ h => h) (Or.inl ⟨by rfl, ?_⟩) ?_ ?_;rotate_left
           ·intro w'
            go_simp;with_reducible rfl
           rotate_left
           ·simp only [Act.put, Zs1, Zs2, Zs3, zh, zi]
            rfl
           refine zn (i := 17) (N := some 40) (v := ?_) (a' := ?_) #[true, true, true, true, true, true, true, true, true, true, true, true, true, true, true, true, true, true, false, false, false, false, false, false, false, false, false, false, false] rfl rfl (zg HT_.out (by kernel_rfl)) (fun _ _ _ h => h) (Or.inl ⟨by rfl, ?_⟩) ?_ ?_;rotate_left
           ·intro w'
            go_simp;with_reducible rfl
           rotate_left
           ·simp only [Act.put, Zs1, Zs2, Zs3, zh, zi]
            rfl
           refine zn (i := 18) (N := some 41) (v := ?_) (a' := ?_) #[true, true, true, true, true, true, true, true, true, true, true, true, true, true, true, true, true, true, true, false, false, false, false, false, false, false, false, false, false] rfl rfl (zg HT_.out (by kernel_rfl)) (fun _ _ _ h => h) (Or.inl ⟨by rfl, ?_⟩) ?_ ?_;rotate_left
           ·intro w'
            go_simp;with_reducible rfl
           rotate_left
           ·simp only [Act.put, Zs1, Zs2, Zs3, zh, zi]
            rfl
           refine zn (i := 19) (N := some 42) (v := undef) (a' := ?_) #[true, true, true, true, true, true, true, true, true, true, true, true, true, true, true, true, true, true, true, true, false, false, false, false, false, false, false, false, false] rfl rfl (zg HT_.out (by kernel_rfl)) (fun _ _ _ h => h) (Or.inr ⟨by rfl, rfl⟩) ?_ ?_;rotate_left
           ·simp only [Act.put, Zs1, Zs2, Zs3, zh, zi]
            rfl
           refine zn (i := 20) (N := some 43) (v := undef) (a' := ?_) #[true, true, true, true, true, true, true, true, true, true, true, true, true, true, true, true, true, true, true, true, true, false, false, false, false, false, false, false, false] rfl rfl (zg HT_.out (by kernel_rfl)) (fun _ _ _ h => h) (Or.inr ⟨by rfl, rfl⟩) ?_ ?_;rotate_left
           ·simp only [Act.put, Zs1, Zs2, Zs3, zh, zi]
            rfl
           refine zn (i := 21) (N := some 44) (v := undef) (a' := ?_) #[true, true, true, true, true, true, true, true, true, true, true, true, true, true, true, true, true, true, true, true, true, true, false, false, false, false, false, false, false] rfl rfl (zg HT_.out (by kernel_rfl)) (fun _ _ _ h => h) (Or.inr ⟨by rfl, rfl⟩) ?_ ?_;rotate_left
           ·simp only [Act.put, Zs1, Zs2, Zs3, zh, zi]
            rfl
           refine zn (i := 22) (N := some 45) (v := undef) (a' := ?_) #[true, true, true, true, true, true, true, true, true, true, true, true, true, true, true, true, true, true, true, true, true, true, true, false, false, false, false, false, false] rfl rfl (zg HT_.out (by kernel_rfl)) (fun _ _ _ h => h) (Or.inr ⟨by rfl, rfl⟩) ?_ ?_;rotate_left
           ·simp only [Act.put, Zs1, Zs2, Zs3, zh, zi]
            rfl
           refine zn (i := 23) (N := some 46) (v := undef) (a' := ?_) #[true, true, true, true, true, true, true, true, true, true, true, true, true, true, true, true, true, true, true, true, true, true, true, true, false, false, false, false, false] rfl rfl (zg HT_.out (by kernel_rfl)) (fun _ _ _ h => h) (Or.inr ⟨by rfl, rfl⟩) ?_ ?_;rotate_left
           ·simp only [Act.put, Zs1, Zs2, Zs3, zh, zi]
            rfl
           refine zn (i := 24) (N := some 47) (v := undef) (a' := ?_) #[true, true, true, true, true, true, true, true, true, true, true, true, true, true, true, true, true, true, true, true, true, true, true, true, true, false, false, false, false] rfl rfl (zg HT_.out (by kernel_rfl)) (fun _ _ _ h => h) (Or.inr ⟨by rfl, rfl⟩) ?_ ?_;rotate_left
           ·simp only [Act.put, Zs1, Zs2, Zs3, zh, zi]
            rfl
           refine zn (i := 25) (N := some 48) (v := undef) (a' := ?_) #[true, true, true, true, true, true, true, true, true, true, true, true, true, true, true, true, true, true, true, true, true, true, true, true, true, true, false, false, false] rfl rfl (zg HT_.out (by kernel_rfl)) (fun _ _ _ h => h) (Or.inr ⟨by rfl, rfl⟩) ?_ ?_;rotate_left
           ·simp only [Act.put, Zs1, Zs2, Zs3, zh, zi]
            rfl
           refine zn (i := 26) (N := some 49) (v := undef) (a' := ?_) #[true, true, true, true, true, true, true, true, true, true, true, true, true, true, true, true, true, true, true, true, true, true, true, true, true, true, true, false, false] rfl rfl (zg HT_.out (by kernel_rfl)) (fun _ _ _ h => h) (Or.inr ⟨by rfl, rfl⟩) ?_ ?_;rotate_left
           ·simp only [Act.put, Zs1, Zs2, Zs3, zh, zi]
            rfl
           refine zn (i := 27) (N := some 50) (v := undef) (a' := ?_) #[true, true, true, true, true, true, true, true, true, true, true, true, true, true, true, true, true, true, true, true, true, true, true, true, true, true, true, true, false] rfl rfl (zg HT_.out (by kernel_rfl)) (fun _ _ _ h => h) (Or.inr ⟨by rfl, rfl⟩) ?_ ?_;rotate_left
           ·simp only [Act.put, Zs1, Zs2, Zs3, zh, zi]
            rfl
           refine zn (i := 28) (N := some 51) (v := ?_) (a' := ?_) #[true, true, true, true, true, true, true, true, true, true, true, true, true, true, true, true, true, true, true, true, true, true, true, true, true, true, true, true, true] rfl rfl (zg HT_.out (by kernel_rfl)) (fun _ _ _ h => h) (Or.inl ⟨by rfl, ?_⟩) ?_ ?_;rotate_left
           ·intro w'
            go_simp;with_reducible rfl
           rotate_left
           ·simp only [Act.put, Zs1, Zs2, Zs3, zh, zi]
            rfl
           refine zcz (zb5 HT_.out (by kernel_rfl)) ?_
           try go_wp2
           go_roundg k2
           case measure => have := HK1.out; have := HK2.out; omega
           case rel => exact ⟨(x10_2), (wrap64 (x11_2 + 1)), Zrs, Zrs, H', ⟨by have := HK1.out; have := HK2.out; omega⟩, ⟨Zq12 HO_9⟩, ⟨Zq1 HB⟩⟩
         ·rw [if_neg c13] at H
          have c13b0 : decide (t314 ≤ a2) = false := decide_eq_false c13;clear c13;have H' := za.mk H;clear H
          try go_wp2
          have n0_ := za.mk (Kd.zb7 HO_9.out);have n1_ := za.mk (zbf HB.out);clear HO_9;clear HB;have HO_9 := n0_;have HB := n1_;clear n0_ n1_;have p312 : 0 ≤ (x11_2 : Int) := of_decide_eq_true Zas;have q312 : x11_2 < (l0.length : Int) := of_decide_eq_true Zas;obtain ⟨ad312, e312, hx312_0, hx312_1, hx312_2⟩ := zcm HR0.out x11_2 p312 q312;have hw312_2 := hx312_2;have hw312_1 := hx312_1;have hw312_0 := hx312_0
          cases e312
          replace hx312_0 := (HB.out.cell (World.block_lt_of_cell? w _ hx312_0)).trans hx312_0;replace hx312_1 := (HB.out.cell (World.block_lt_of_cell? w _ hx312_1)).trans hx312_1;replace hx312_2 := (HB.out.cell (World.block_lt_of_cell? w _ hx312_2)).trans hx312_2;replace p312 := eq_true p312;replace q312 := eq_true q312;have p313 : 0 ≤ (x11_2 : Int) := of_decide_eq_true Zas;have q313 : x11_2 < (l1.length : Int) := of_decide_eq_true Zas;obtain ⟨ad313, e313, hx313_0⟩ := Kd.zb6 HR1.out x11_2 p313 q313;have hw313_0 := hx313_0
          cases e313
          replace hx313_0 := (HB.out.cell (World.block_lt_of_cell? w _ hx313_0)).trans hx313_0;replace p313 := eq_true p313;replace q313 := eq_true q313;refine zcj (n := 29) (S := fun w' => w'.cell? (ad312.add ((x11_2).toNat * 3)) = some (.int .i64 ((zf l0 x11_2).f0)) ∧ w'.cell? ⟨(ad312.add ((x11_2).toNat * 3)).block, (ad312.add ((x11_2).toNat * 3)).off + 1, none⟩ = some (.int .i64 ((zf l0 x11_2).f1)) ∧ w'.cell? ⟨(ad312.add ((x11_2).toNat * 3)).block, (ad312.add ((x11_2).toNat * 3)).off + 2, none⟩ = some (.int .i64 ((zf l0 x11_2).f2)) ∧ w'.cell? (ad313.add (x11_2).toNat) = some (.int .i64 (rd l1 x11_2))) (ds := []) #[false, false, false, false, false, false, false, false, false, false, false, false, false, false, false, false, false, false, false, false, false, false, false, false, false, false, false, false, false] (by kernel_rfl) rfl rfl ⟨((HB.out.cell (World.block_lt_of_cell? w _ hw312_0)).trans hw312_0), ((HB.out.cell (World.block_lt_of_cell? w _ hw312_1)).trans hw312_1), ((HB.out.cell (World.block_lt_of_cell? w _ hw312_2)).trans hw312_2), ((HB.out.cell (World.block_lt_of_cell? w _ hw313_0)).trans hw313_0)⟩ (fun hHeld => ?_); refine zbr zz.tab7 zz.zi6 (fun HT_ HW_ => ?_);generalize wr.drew = w29 at HO_9 HB hx312_0 hx312_1 hx312_2 hx313_0 hHeld ⊢;refine zn (i := 0) (N := some 23) (v := ?_) (a' := ?_) #[true, false, false, false, false, false, false, false, false, false, false, false, false, false, false, false, false, false, false, false, false, false, false, false, false, false, false, false, false] rfl rfl (zg HT_.out (by kernel_rfl)) (fun _ _ _ h => h) (Or.inl ⟨by rfl, ?_⟩) ?_ ?_;rotate_left
          ·intro w'
           go_simp;with_reducible rfl
          rotate_left
          ·simp only [Act.put, Zs1, Zs2, Zs3, zh, zi]
           rfl
          refine zn (i := 1) (N := some 24) (v := ?_) (a' := ?_) #[true, true, false, false, false, false, false, false, false, false, false, false, false, false, false, false, false, false, false, false, false, false, false, false, false, false, false, false, false] rfl rfl (zg HT_.out (by kernel_rfl)) (fun _ _ _ h => h) (Or.inl ⟨by rfl, ?_⟩) ?_ ?_;rotate_left
          ·intro w'
           go_simp;with_reducible rfl
          rotate_left
          ·simp only [Act.put, Zs1, Zs2, Zs3, zh, zi]
           rfl
          refine zn (i := 2) (N := some 25) (v := ?_) (a' := ?_) #[true, true, true, false, false, false, false, false, false, false, false, false, false, false, false, false, false, false, false, false, false, false, false, false, false, false, false, false, false] rfl rfl (zg HT_.out (by kernel_rfl)) (fun _ _ _ h => h) (Or.inl ⟨by rfl, ?_⟩) ?_ ?_;rotate_left
          ·intro w'
           go_simp;with_reducible rfl
          rotate_left
          ·simp only [Act.put, Zs1, Zs2, Zs3, zh, zi]
           rfl
          refine zn (i := 4) (N := some 27) (v := ?_) (a' := ?_) #[true, true, true, false, true, false, false, false, false, false, false, false, false, false, false, false, false, false, false, false, false, false, false, false, false, false, false, false, false] rfl rfl (zg HT_.out (by kernel_rfl)) (fun _ _ _ h => h) (Or.inl ⟨by rfl, ?_⟩) ?_ ?_;rotate_left
          ·intro w'
           go_simp;with_reducible rfl
          rotate_left
          ·simp only [Act.put, Zs1, Zs2, Zs3, zh, zi]
           rfl
          refine zn (i := 5) (N := some 28) (v := ?_) (a' := ?_) #[true, true, true, false, true, true, false, false, false, false, false, false, false, false, false, false, false, false, false, false, false, false, false, false, false, false, false, false, false] rfl rfl (zg HT_.out (by kernel_rfl)) (fun _ _ _ h => h) (Or.inl ⟨by rfl, ?_⟩) ?_ ?_;rotate_left
          ·intro w'
           go_simp;with_reducible rfl
          rotate_left
          ·simp only [Act.put, Zs1, Zs2, Zs3, zh, zi]
           rfl
          refine zn (i := 6) (N := some 29) (v := ?_) (a' := ?_) #[true, true, true, false, true, true, true, false, false, false, false, false, false, false, false, false, false, false, false, false, false, false, false, false, false, false, false, false, false] rfl rfl (zg HT_.out (by kernel_rfl)) (fun _ _ _ h => h) (Or.inl ⟨by rfl, ?_⟩) ?_ ?_;rotate_left
          ·intro w'
           go_simp;with_reducible rfl
          rotate_left
          ·simp only [Act.put, Zs1, Zs2, Zs3, zh, zi]
           rfl
          refine zn (i := 10) (N := some 33) (v := ?_) (a' := ?_) #[true, true, true, false, true, true, true, false, false, false, true, false, false, false, false, false, false, false, false, false, false, false, false, false, false, false, false, false, false] rfl rfl (zg HT_.out (by kernel_rfl)) (fun _ _ _ h => h) (Or.inl ⟨by rfl, ?_⟩) ?_ ?_;rotate_left
          ·intro w'
           go_simp;with_reducible rfl
          rotate_left
          ·simp only [Act.put, Zs1, Zs2, Zs3, zh, zi]
           rfl
          refine zbx (i := 3) (N := some 26) (v := ?_) (a' := ?_) #[true, true, true, true, true, true, true, false, false, false, true, false, false, false, false, false, false, false, false, false, false, false, false, false, false, false, false, false, false] rfl rfl (z8 HT_.out HW_.out (by kernel_rfl)) (fun _ _ _ h => h) (Or.inl ⟨by rfl, ?_⟩) hHeld ?_ ?_;rotate_left
          ·rintro w' ⟨s0, s1, s2, s3⟩
           go_simp;with_reducible rfl
          rotate_left
          ·simp only [Act.put, Zs1, Zs2, Zs3, zh, zi]
           rfl
          refine zbx (i := 7) (N := some 30) (v := ?_) (a' := ?_) #[true, true, true, true, true, true, true, true, false, false, true, false, false, false, false, false, false, false, false, false, false, false, false, false, false, false, false, false, false] rfl rfl (z8 HT_.out HW_.out (by kernel_rfl)) (fun _ _ _ h => h) (Or.inl ⟨by rfl, ?_⟩) hHeld ?_ ?_;rotate_left
          ·rintro w' ⟨s0, s1, s2, s3⟩
           go_simp;with_reducible rfl
          rotate_left
          ·simp only [Act.put, Zs1, Zs2, Zs3, zh, zi]
           rfl
          refine one_ (i := 8) (N := some 31) #[true, true, true, true, true, true, true, true, true, false, true, false, false, false, false, false, false, false, false, false, false, false, false, false, false, false, false, false, false] rfl rfl (zb0 HT_.out (by kernel_rfl)) (by decide) (fun K hK => ?_);refine zco Try.func64 (by kernel_rfl) rfl #[.agg #[.int .i64 ((zf l0 x11_2).f0), .int .i64 ((zf l0 x11_2).f1), .int .i64 ((zf l0 x11_2).f2)], .int .i64 (rd l1 x11_2)] (by rfl) rfl rfl Zmt ?_;with_reducible refine (zbc.calls ((zf l0 x11_2).f0) ((zf l0 x11_2).f1) ((zf l0 x11_2).f2) (rd l1 x11_2) t314 t315 _ A12.out).mono ?_
          rintro e w30 ⟨rfl, hb⟩;refine ⟨_, rfl, ?_⟩;have n0_ := za.mk (Kd.zcy (Zq12 HO_9) hb);have n1_ := za.mk (zm (Zq1 HB) hb);clear HO_9;clear HB;have HO_9 := n0_;have HB := n1_;clear n0_ n1_;(try clear hb);(try clear hb2);(try clear hk);(try clear hi);refine hK.out _ _ ⟨((HB.out.cell (World.block_lt_of_cell? w _ hw312_0)).trans hw312_0), ((HB.out.cell (World.block_lt_of_cell? w _ hw312_1)).trans hw312_1), ((HB.out.cell (World.block_lt_of_cell? w _ hw312_2)).trans hw312_2), ((HB.out.cell (World.block_lt_of_cell? w _ hw313_0)).trans hw313_0)⟩ (fun hHeld => ?_);clear hK K;refine zca (a' := ?_) ?_ ?_;rotate_left
          ·show Act.put _ (some 31) _ = _
           simp only [Act.put, Zs1, Zs2, Zs3, zh, zi];rfl
          refine zn (i := 9) (N := some 32) (v := ?_) (a' := ?_) #[true, true, true, true, true, true, true, true, true, true, true, false, false, false, false, false, false, false, false, false, false, false, false, false, false, false, false, false, false] rfl rfl (zg HT_.out (by kernel_rfl)) (fun _ _ _ h => h) (Or.inl ⟨by rfl, ?_⟩) ?_ ?_;rotate_left
          ·intro w'
           go_simp;with_reducible rfl
          rotate_left
          ·simp only [Act.put, Zs1, Zs2, Zs3, zh, zi]
           rfl
          refine zn (i := 11) (N := some 34) (v := ?_) (a' := ?_) #[true, true, true, true, true, true, true, true, true, true, true, true, false, false, false, false, false, false, false, false, false, false, false, false, false, false, false, false, false] rfl rfl (zg HT_.out (by kernel_rfl)) (fun _ _ _ h => h) (Or.inl ⟨by rfl, ?_⟩) ?_ ?_;rotate_left
          ·intro w'
           go_simp;with_reducible rfl
          rotate_left
          ·simp only [Act.put, Zs1, Zs2, Zs3, zh, zi]
           rfl
          refine zn (i := 12) (N := some 35) (v := ?_) (a' := ?_) #[true, true, true, true, true, true, true, true, true, true, true, true, true, false, false, false, false, false, false, false, false, false, false, false, false, false, false, false, false] rfl rfl (zg HT_.out (by kernel_rfl)) (fun _ _ _ h => h) (Or.inl ⟨by rfl, ?_⟩) ?_ ?_;rotate_left
          ·intro w'
           go_simp;with_reducible rfl
          rotate_left
          ·simp only [Act.put, Zs1, Zs2, Zs3, zh, zi]
           rfl
          refine zn (i := 13) (N := some 36) (v := undef) (a' := ?_) #[true, true, true, true, true, true, true, true, true, true, true, true, true, true, false, false, false, false, false, false, false, false, false, false, false, false, false, false, false] rfl rfl (zg HT_.out (by kernel_rfl)) (fun _ _ _ h => h) (Or.inr ⟨by rfl, rfl⟩) ?_ ?_;rotate_left
          ·simp only [Act.put, Zs1, Zs2, Zs3, zh, zi]
           rfl
          refine zn (i := 14) (N := some 37) (v := undef) (a' := ?_) #[true, true, true, true, true, true, true, true, true, true, true, true, true, true, true, false, false, false, false, false, false, false, false, false, false, false, false, false, false] rfl rfl (zg HT_.out (by kernel_rfl)) (fun _ _ _ h => h) (Or.inr ⟨by rfl, rfl⟩) ?_ ?_;rotate_left
          ·simp only [Act.put, Zs1, Zs2, Zs3, zh, zi]
           rfl
          refine zn (i := 15) (N := some 38) (v := undef) (a' := ?_) #[true, true, true, true, true, true, true, true, true, true, true, true, true, true, true, true, false, false, false, false, false, false, false, false, false, false, false, false, false] rfl rfl (zg HT_.out (by kernel_rfl)) (fun _ _ _ h => h) (Or.inr ⟨by rfl, rfl⟩) ?_ ?_;rotate_left
          ·simp only [Act.put, Zs1, Zs2, Zs3, zh, zi]
           rfl
          refine zn (i := 16) (N := some 39) (v := undef) (a' := ?_) #[true, true, true, true, true, true, true, true, true, true, true, true, true, true, true, true, true, false, false, false, false, false, false, false, false, false, false, false, false] rfl rfl (zg HT_.out (by kernel_rfl)) (fun _ _ _ h => h) (Or.inr ⟨by rfl, rfl⟩) ?_ ?_;rotate_left
          ·simp only [Act.put, Zs1, Zs2, Zs3, zh, zi]
           rfl
          refine zn (i := 17) (N := some 40) (v := ?_) (a' := ?_) #[true, true, true, true, true, true, true, true, true, true, true, true, true, true, true, true, true, true, false, false, false, false, false, false, false, false, false, false, false] rfl rfl (zg HT_.out (by kernel_rfl)) (fun _ _ _ h => h) (Or.inl ⟨by rfl, ?_⟩) ?_ ?_;rotate_left
          ·intro w'
           go_simp;with_reducible rfl
          rotate_left
          ·simp only [Act.put, Zs1, Zs2, Zs3, zh, zi]
           rfl
          refine zn (i := 18) (N := some 41) (v := ?_) (a' := ?_) #[true, true, true, true, true, true, true, true, true, true, true, true, true, true, true, true, true, true, true, false, false, false, false, false, false, false, false, false, false] rfl rfl (zg HT_.out (by kernel_rfl)) (fun _ _ _ h => h) (Or.inl ⟨by rfl, ?_⟩) ?_ ?_;rotate_left
          ·intro w'
           go_simp;with_reducible rfl
          rotate_left
          ·simp only [Act.put, Zs1, Zs2, Zs3, zh, zi]
           rfl
          refine zn (i := 19) (N := some 42) (v := undef) (a' := ?_) #[true, true, true, true, true, true, true, true, true, true, true, true, true, true, true, true, true, true, true, true, false, false, false, false, false, false, false, false, false] rfl rfl (zg HT_.out (by kernel_rfl)) (fun _ _ _ h => h) (Or.inr ⟨by rfl, rfl⟩) ?_ ?_;rotate_left
          ·simp only [Act.put, Zs1, Zs2, Zs3, zh, zi]
           rfl
          refine zn (i := 20) (N := some 43) (v := undef) (a' := ?_) #[true, true, true, true, true, true, true, true, true, true, true, true, true, true, true, true, true, true, true, true, true, false, false, false, false, false, false, false, false] rfl rfl (zg HT_.out (by kernel_rfl)) (fun _ _ _ h => h) (Or.inr ⟨by rfl, rfl⟩) ?_ ?_;rotate_left
          ·simp only [Act.put, Zs1, Zs2, Zs3, zh, zi]
           rfl
          refine zn (i := 21) (N := some 44) (v := undef) (a' := ?_) #[true, true, true, true, true, true, true, true, true, true, true, true, true, true, true, true, true, true, true, true, true, true, false, false, false, false, false, false, false] rfl rfl (zg HT_.out (by kernel_rfl)) (fun _ _ _ h => h) (Or.inr ⟨by rfl, rfl⟩) ?_ ?_;rotate_left
          ·simp only [Act.put, Zs1, Zs2, Zs3, zh, zi]
           rfl
          refine zn (i := 22) (N := some 45) (v := undef) (a' := ?_) #[true, true, true, true, true, true, true, true, true, true, true, true, true, true, true, true, true, true, true, true, true, true, true, false, false, false, false, false, false] rfl rfl (zg HT_.out (by kernel_rfl)) (fun _ _ _ h => h) (Or.inr ⟨by rfl, rfl⟩) ?_ ?_;rotate_left
          ·simp only [Act.put, Zs1, Zs2, Zs3, zh, zi]
           rfl
          refine zn (i := 23) (N := some 46) (v := undef) (a' := ?_) #[true, true, true, true, true, true, true, true, true, true, true, true, true, true, true, true, true, true, true, true, true, true, true, true, false, false, false, false, false] rfl rfl (zg HT_.out (by kernel_rfl)) (fun _ _ _ h => h) (Or.inr ⟨by rfl, rfl⟩) ?_ ?_;rotate_left
          ·simp only [Act.put, Zs1, Zs2, Zs3, zh, zi]
           rfl
          refine zn (i := 24) (N := some 47) (v := undef) (a' := ?_) #[true, true, true, true, true, true, true, true, true, true, true, true, true, true, true, true, true, true, true, true, true, true, true, true, true, false, false, false, false] rfl rfl (zg HT_.out (by kernel_rfl)) (fun _ _ _ h => h) (Or.inr ⟨by rfl, rfl⟩) ?_ ?_;rotate_left
          ·simp only [Act.put, Zs1, Zs2, Zs3, zh, zi]
           rfl
          refine zn (i := 25) (N := some 48) (v := undef) (a' := ?_) #[true, true, true, true, true, true, true, true, true, true, true, true, true, true, true, true, true, true, true, true, true, true, true, true, true, true, false, false, false] rfl rfl (zg HT_.out (by kernel_rfl)) (fun _ _ _ h => h) (Or.inr ⟨by rfl, rfl⟩) ?_ ?_;rotate_left
          ·simp only [Act.put, Zs1, Zs2, Zs3, zh, zi]
           rfl
          refine zn (i := 26) (N := some 49) (v := undef) (a' := ?_) #[true, true, true, true, true, true, true, true, true, true, true, true, true, true, true, true, true, true, true, true, true, true, true, true, true, true, true, false, false] rfl rfl (zg HT_.out (by kernel_rfl)) (fun _ _ _ h => h) (Or.inr ⟨by rfl, rfl⟩) ?_ ?_;rotate_left
          ·simp only [Act.put, Zs1, Zs2, Zs3, zh, zi]
           rfl
          refine zn (i := 27) (N := some 50) (v := undef) (a' := ?_) #[true, true, true, true, true, true, true, true, true, true, true, true, true, true, true, true, true, true, true, true, true, true, true, true, true, true, true, true, false] rfl rfl (zg HT_.out (by kernel_rfl)) (fun _ _ _ h => h) (Or.inr ⟨by rfl, rfl⟩) ?_ ?_;rotate_left
          ·simp only [Act.put, Zs1, Zs2, Zs3, zh, zi]
           rfl
          refine zn (i := 28) (N := some 51) (v := ?_) (a' := ?_) #[true, true, true, true, true, true, true, true, true, true, true, true, true, true, true, true, true, true, true, true, true, true, true, true, true, true, true, true, true] rfl rfl (zg HT_.out (by kernel_rfl)) (fun _ _ _ h => h) (Or.inl ⟨by rfl, ?_⟩) ?_ ?_;rotate_left
          ·intro w'
           go_simp;with_reducible rfl
          rotate_left
          ·simp only [Act.put, Zs1, Zs2, Zs3, zh, zi]
           rfl
          refine zcz (zb5 HT_.out (by kernel_rfl)) ?_
          try go_wp2
          go_roundg k2
          case measure => have := HK1.out; have := HK2.out; omega
          case rel => exact ⟨(x10_2), (wrap64 (x11_2 + 1)), Zrs, Zrs, H', ⟨by have := HK1.out; have := HK2.out; omega⟩, ⟨Zq12 HO_9⟩, ⟨Zq1 HB⟩⟩
        ·rw [if_neg c11] at H
         exact absurd H (by simp)
       ·rw [if_neg c10] at H
        exact absurd H (by simp)
      ·rw [if_neg c9] at H
       have c9b0 : decide (x11_2 < (l0.length : Int)) = false := decide_eq_false c9;clear c9;by_cases c31 : x10_2 < 0
       ·rw [if_pos c31] at H
        have c31b0 : decide (x10_2 < 0) = true := decide_eq_true c31;clear c31;obtain rfl := Option.some.inj H;go_wp2;go_ret;exact ⟨_, by first | rfl | (simp [zq, zt] <;> rfl) | (simp [*, zq, zt] <;> rfl), Zq12 HO_9, Zq1 HB⟩
       ·rw [if_neg c31] at H
        have c31b0 : decide (x10_2 < 0) = false := decide_eq_false c31;clear c31;by_cases c32 : x9_1.length < 17592186044416
        ·rw [if_pos c32] at H
         have LMc32 := za.mk c32;clear c32;obtain ⟨y309, hy309⟩ : ∃ y_ : List Int, y_ = (x9_1 ++ [x10_2]) := ⟨_, rfl⟩;replace H : (zz.l0 k2 l0 l1 a2 a3 y309) = some r := by first | (rw [hy309]; with_reducible exact H) | (have H2_ := (Option.bind_some _ _).symm.trans H; rw [hy309]; with_reducible exact H2_) | (have H2_ := (Option.bind_some _ _).symm.trans H; with_reducible exact H2_) | with_reducible exact H | (rw [hy309]; exact H) | exact H
         have Ny309 := za.mk hy309;clear hy309;have H' := za.mk H;clear H;go_wp2_with (first | ((with_reducible refine zdb (b := .append) (xs := #[.tmp 56, .tmp 58]) rfl ?_); at_builtin; refine Kd.zen (Kd.int .i64) (w0 := w) w.heap.size rfl (.tmp 56) (.tmp 58) 33 3 (.int .i64 0) 8 rfl Try.underlying33 info3 rfl (by decide) (by omega) (.slice Ao8 x9_1.length co8) x9_1 x10_2 [.int .i64 x10_2] (fun _ => True) (fun _ => False) rfl rfl ?aP (fun _ hk => hk.elim) ?aF ?aO ?aB ?aS ?aL ?_; (case aP => exact rfl); (case aB => exact (Zq1 HB)); (case aF => exact (fun _ _ => trivial)); (case aO => exact (Zq12 HO_9)); (case aS => exact (zbb (Zq1 HB))); (case aL => have := LMc32.out; omega); intro v310 w33 ho hb hg hat; rw [← Ny309.out] at ho; have n0_ := za.mk (hb); have n1_ := za.mk (ho); clear HB; clear HO_9; have HB := n0_; have HO311 := n1_; clear n0_ n1_; clear ho hb hg hat));go_roundg k2
         case measure => have := HK1.out; have := HK2.out; omega
         case rel => exact ⟨(y309), H', ⟨by have := HK1.out; have := HK2.out; omega⟩, ⟨Zq12 HO311⟩, ⟨Zq1 HB⟩⟩
        ·rw [if_neg c32] at H
         exact absurd H (by simp)
   ·rw [if_neg c7] at H
    have c7b0 : decide ((x9_1.length : Int) < a3) = false := decide_eq_false c7;clear c7;obtain rfl := Option.some.inj H;obtain ⟨Ao34, co34, eo34⟩ := Kd.zcr HO_9.out;subst eo34;go_wp2;go_ret;exact ⟨_, by first | rfl | (simp [zq, zt] <;> rfl) | (simp [*, zq, zt] <;> rfl), Zq12 HO_9, Zq1 HB⟩
theorem Zq20 {X0 P : Prop} (x0 : za X0) (h : X0 → P := by intro x0; (with_reducible repeat (first | apply Kd.zf2 | apply Kd.zf3 | apply Kd.zff)); exact x0) : P := h x0.out
mutual
def zu.j0 : Nat → List (S35) → Int → List (List Int) → Bool → Option ((List (List Int)))
 | 0, _, _, _, _ => none
 | k + 1, x0, x1, x5, x19 => if x19 = true then (some x5) else (zu.l0 k x0 x1 x5 0)
def zu.l0 : Nat → List (S35) → Int → List (List Int) → Int → Option ((List (List Int)))
 | 0, _, _, _, _ => none
 | k + 1, x0, x1, x5, x6 => if x6 < (x0.length : Int) then (if 0 ≤ x6 then (if ((zf x0 x6).f1) = ((zf x0 x6).f2) then (zu.l0 k x0 x1 x5 (wrap64 (x6 + 1))) else (some x5)) else (none)) else (if 0 ≤ (x0.length : Int) then (if ((x0.length : Int) : Int).toNat ≤ 35184372088832 then (zu.l1 k x0 x1 x5 (List.replicate ((x0.length : Int) : Int).toNat 0) 0) else (none)) else (none))
def zu.l1 : Nat → List (S35) → Int → List (List Int) → List Int → Int → Option ((List (List Int)))
 | 0, _, _, _, _, _ => none
 | k + 1, x0, x1, x5, x7, x8 => if x8 < 120 then ((zz.f k x0 x7 x8 x1).bind fun t328 => (zu.l2 k x0 x1 x5 x7 x8 t328 0)) else (some x5)
def zu.l2 : Nat → List (S35) → Int → List (List Int) → List Int → Int → List Int → Int → Option ((List (List Int)))
 | 0, _, _, _, _, _, _, _ => none
 | k + 1, x0, x1, x5, x7, x8, x9, x10 => if x10 < (x9.length : Int) then (if 0 ≤ x10 then (if 0 ≤ (rd x9 x10) then (if (rd x9 x10) < (x7.length : Int) then (zu.l2 k x0 x1 x5 (x7.set ((rd x9 x10) : Int).toNat (wrap64 ((rd x7 (rd x9 x10)) + 1))) x8 x9 (wrap64 (x10 + 1))) else (none)) else (none)) else (none)) else (if x5.length < 5864062014805 then (zu.l1 k x0 x1 (x5 ++ [x9]) x7 (wrap64 (x8 + 1))) else (none))
end
def zu.f (k : Nat) (l0 : List (S35)) (a1 : Int) : Option ((List (List Int))) := (some (([] : List (List Int)) : List (List Int))).bind fun y318 => ((zb4.f k l0).bind fun t321 => (if t321 = true then ((zcc.f a1 1 5).bind fun t322 => (zu.j0 k l0 a1 y318 (!t322))) else (zu.j0 k l0 a1 y318 true)))
def zu.T7 : Bool × List (List Nat × List Nat) := (true, [([], []), ([], []), ([0, 1], [0, 1]), ([2], [2]), ([3], [3]), ([], []), ([], []), ([5, 6], [5, 6]), ([7], [7]), ([8], [8]), ([4, 9], [4, 9])])
def zu.B7 : List Nat := [0, 0, 3, 7, 15, 0, 0, 96, 224, 480, 1023]
theorem zu.tab7 : rtab .any (opsOf Try.f12 7) = zu.T7 := by kernel_rfl
theorem zu.zi6 : zcs zu.T7.2 zu.B7 = true := by kernel_rfl
def zu.T17 : Bool × List (List Nat × List Nat) := (true, [([], []), ([], []), ([], []), ([1, 2], [1, 2]), ([3], [3]), ([], []), ([], []), ([], []), ([6, 7], [6, 7]), ([8], [8]), ([5, 9], [5, 9]), ([10], [10]), ([11], [11]), ([0, 4, 0, 1, 2, 3, 4, 5, 6, 7, 8, 9, 10, 11, 12], [0, 4]), ([13, 12, 0, 1, 2, 3, 4, 5, 6, 7, 8, 9, 10, 11, 12], [12, 13])])
def zu.B17 : List Nat := [0, 0, 0, 6, 14, 0, 0, 0, 192, 448, 992, 2016, 4064, 8191, 16383]
theorem zu.tab17 : rtab .any (opsOf Try.f12 17) = zu.T17 := by kernel_rfl
theorem zu.bits17 : zcs zu.T17.2 zu.B17 = true := by kernel_rfl
set_option maxHeartbeats 8000000 in
theorem zu.calls (k : Nat) (A0 : Option Addr) (c0 : Nat) (l0 : List (S35)) (a1 : Int) (r : List (List Int)) (w : World) (hr0 : Kd.C k35 w A0 l0.length l0) (hc0 : l0.length ≤ c0) (h : zu.f k l0 a1 = some r) :
  Calls Try.prog 12 #[.slice A0 l0.length c0, .int .i64 a1] w fun e w' => ∃ v0_ : Value, e = .returned (v0_) ∧ Kd.S (Kd.slice 3 (Kd.int .i64)) 33 w' w.heap.size (fun _ => True) v0_ r ∧ Below w.heap.size w w' := by
 have HR0 := za.mk hr0
 have HC0 := za.mk hc0
 clear hr0 hc0
 have HB := za.mk (Below.refl w.heap.size w)
 have H : ((some (([] : List (List Int)) : List (List Int))).bind fun y318 => ((zb4.f k l0).bind fun t321 => (if t321 = true then ((zcc.f a1 1 5).bind fun t322 => (zu.j0 k l0 a1 y318 (!t322))) else (zu.j0 k l0 a1 y318 true)))) = some r := h
 clear h
 obtain ⟨y318, hy318⟩ : ∃ y_ : List (List Int), y_ = (([] : List (List Int))) := ⟨_, rfl⟩
 replace H : ((zb4.f k l0).bind fun t321 => (if t321 = true then ((zcc.f a1 1 5).bind fun t322 => (zu.j0 k l0 a1 y318 (!t322))) else (zu.j0 k l0 a1 y318 true))) = some r := by first | (rw [hy318]; with_reducible exact H) | (have H2_ := (Option.bind_some _ _).symm.trans H; rw [hy318]; with_reducible exact H2_) | (have H2_ := (Option.bind_some _ _).symm.trans H; with_reducible exact H2_) | with_reducible exact H | (rw [hy318]; exact H) | exact H
 have Ny318 := za.mk hy318
 clear hy318
 have HC3 := za.mk H
 clear H
 go_enter Try.func12, Try.ntmps12
 go_upto_region 2 with (first | ((with_reducible refine zby (N := 11) rfl ?_); refine Kd.S_lit (Kd.slice 3 (Kd.int .i64)) _ 33 ?hg (N := 11) ?hd (xs := ([] : List (List Int))) (inner := []) (ok := fun _ => True) (okp := fun _ => True) ?hr ?hp (fun _ hk => hk) trivial (Below.refl _ _) (Nat.le_refl _) (by simp) ?_; (case hd => rfl); (case hg => rfl); (case hr => first | (go_simp; done) | (go_simp; rfl)); (case hp => exact (Reps.none _ _)); intro v319 w4 ho5 hb hg_ hnew_; clear hg_ hnew_; (first | rw [← Ny318.out] at ho5 | (simp only [Int.reduceToNat] at ho5; rw [← Ny318.out] at ho5)); have n0_ := za.mk (Kd.S_lower ho5 (zbb (Zq1 HB))); have n1_ := za.mk (zm (Zq1 HB) hb); clear HB; have HO320 := n0_; have HB := n1_; clear n0_ n1_; clear hb ho5))
 (try simp only [Act.put, Zs1, Zs2, Zs3])
 go_cut [19] (fun v19 wc => ∃ (kq : Nat) (x19_2 : Bool), v19 = .bool x19_2 ∧ za (zu.j0 kq l0 a1 y318 x19_2 = some r) ∧ za (kq ≤ k) ∧ za (Kd.S (Kd.slice 3 (Kd.int .i64)) 33 wc w.heap.size (fun _ => True) v319 y318) ∧ za (Below w.heap.size w wc))
 case first =>
  have H := HC3.out;clear HC3;replace H := Option.bind_eq_some_iff.mp H;obtain ⟨t321, A60, H⟩ := H;replace H : (if t321 = true then ((zcc.f a1 1 5).bind fun t322 => (zu.j0 k l0 a1 y318 (!t322))) else (zu.j0 k l0 a1 y318 true)) = some r := H;have A6 := za.mk A60;clear A60;by_cases c7 : t321 = true
  ·subst c7
   have H1 : ((zcc.f a1 1 5).bind fun t322 => (zu.j0 k l0 a1 y318 (!t322))) = some r := by rw [if_pos rfl] at H; exact H
   clear H;have H := H1;clear H1;replace H := Option.bind_eq_some_iff.mp H;obtain ⟨t322, A80, H⟩ := H;replace H : (zu.j0 k l0 a1 y318 (!t322)) = some r := H;have A8 := za.mk A80;clear A80;have H' := za.mk H;clear H;go_wp2_with (first | ((with_reducible refine zw (f := 36) rfl ?_); refine zbw (some 13) rfl rfl Try.func36 (by kernel_rfl) rfl #[.slice A0 l0.length c0] rfl Zmt ?_; (with_reducible refine (zb4.calls k _ _ l0 true _ ?side1 ?side2 A6.out).mono ?_); (case side1 => exact Zq18 (Kd.zc3 HR0.out HB.out)); (case side2 => exact HC0.out); rintro e w9 ⟨rfl, hb⟩; refine ⟨_, rfl, ?_⟩; have n0_ := za.mk (Kd.zgq (Zq20 HO320) hb); have n1_ := za.mk (zm (Zq1 HB) hb); clear HO320; clear HB; have HO320 := n0_; have HB := n1_; clear n0_ n1_; (try clear hb); (try clear hb2); (try clear hk); (try clear hi)) | (go_at_call 37; (with_reducible refine (zcc.calls a1 1 5 t322 _ A8.out).mono ?_); rintro e w' ⟨rfl, ⟨nd, rfl⟩⟩));go_meet
   case rel => exact ⟨_, (!t322), Zrs, H', ⟨by first | omega | exact Nat.le_refl _⟩, ⟨Zq20 HO320⟩, ⟨Zq1 HB⟩⟩
  ·replace c7 := Bool.eq_false_iff.mpr c7
   subst c7;have H1 : (zu.j0 k l0 a1 y318 true) = some r := by rw [if_neg (show ¬ (false = true) by decide)] at H; exact H
   clear H;have H := H1;clear H1;have H' := za.mk H;clear H;go_wp2_with (first | ((with_reducible refine zw (f := 36) rfl ?_); refine zbw (some 13) rfl rfl Try.func36 (by kernel_rfl) rfl #[.slice A0 l0.length c0] rfl Zmt ?_; (with_reducible refine (zb4.calls k _ _ l0 false _ ?side1 ?side2 A6.out).mono ?_); (case side1 => exact Zq18 (Kd.zc3 HR0.out HB.out)); (case side2 => exact HC0.out); rintro e w10 ⟨rfl, hb⟩; refine ⟨_, rfl, ?_⟩; have n0_ := za.mk (Kd.zgq (Zq20 HO320) hb); have n1_ := za.mk (zm (Zq1 HB) hb); clear HO320; clear HB; have HO320 := n0_; have HB := n1_; clear n0_ n1_; (try clear hb); (try clear hb2); (try clear hk); (try clear hi)));go_meet
   case rel => exact ⟨_, (true), Zrs, H', ⟨by first | omega | exact Nat.le_refl _⟩, ⟨Zq20 HO320⟩, ⟨Zq1 HB⟩⟩
 case rest =>
  clear HC3
  (try clear c1);(try clear p2);(try clear c3);(try clear c7)
  obtain ⟨kq, x19_2, rfl, HA, HJ2, HO_5, HB⟩ := hcut
  cases kq with
  | zero => exact absurd HA.out (by simp [zu.j0])
  | succ kj2 =>
   have H := HA.out;clear HA;simp only [zu.j0] at H;by_cases c11 : x19_2 = true
   ·subst c11
    have H1 : (some y318) = some r := by rw [if_pos rfl] at H; exact H
    clear H;have H := H1;clear H1;obtain rfl := Option.some.inj H;go_wp2;go_ret;exact ⟨_, by first | rfl | (simp [zq, zt] <;> rfl) | (simp [*, zq, zt] <;> rfl), Zq20 HO_5, Zq1 HB⟩
   ·replace c11 := Bool.eq_false_iff.mpr c11
    subst c11;have H1 : (zu.l0 kj2 l0 a1 y318 0) = some r := by rw [if_neg (show ¬ (false = true) by decide)] at H; exact H
    clear H;have H := H1;clear H1;have H' := za.mk H;clear H;go_wp2
    go_loopg [6] kj2 (fun kq v6 w' => ∃ (x6_2 : Int), v6 = .int .i64 x6_2 ∧ za (zu.l0 kq l0 a1 y318 x6_2 = some r) ∧ za (kq ≤ kj2) ∧ za (Kd.S (Kd.slice 3 (Kd.int .i64)) 33 w' w.heap.size (fun _ => True) v319 y318) ∧ za (Below w.heap.size w w'))
    case atStart => exact ⟨(0), Zrs, H', ⟨Nat.le_refl _⟩, ⟨Zq20 HO_5⟩, ⟨Zq1 HB⟩⟩
    case round =>
     clear H'
     (try clear c1);(try clear p2);(try clear c3);(try clear c7);(try clear c11);(try clear p2)
     obtain ⟨x6_2, rfl, HA, HK2, HO_5, HB⟩ := hrel
     cases gk with
     | zero => exact absurd HA.out (by simp [zu.l0])
     | succ k2 =>
      have H := HA.out;clear HA;simp only [zu.l0] at H;by_cases c12 : x6_2 < (l0.length : Int)
      ·rw [if_pos c12] at H
       have c12b0 : decide (x6_2 < (l0.length : Int)) = true := decide_eq_true c12;clear c12;by_cases c13 : 0 ≤ x6_2
       ·rw [if_pos c13] at H
        have c13b0 : decide (0 ≤ x6_2) = true := decide_eq_true c13;clear c13;by_cases c14 : ((zf l0 x6_2).f1) = ((zf l0 x6_2).f2)
        ·rw [if_pos c14] at H
         have c14b0 : (((zf l0 x6_2).f1) == ((zf l0 x6_2).f2)) = true := beq_iff_eq.mpr c14;have c14b1 : (((zf l0 x6_2).f1) != ((zf l0 x6_2).f2)) = false := bne_eq_false_iff_eq.mpr c14;clear c14;have H' := za.mk H;clear H
         try go_wp2
         have n0_ := za.mk (Kd.zff HO_5.out);have n1_ := za.mk (zbf HB.out);clear HO_5;clear HB;have HO_5 := n0_;have HB := n1_;clear n0_ n1_;have p323 : 0 ≤ (x6_2 : Int) := of_decide_eq_true Zas;have q323 : x6_2 < (l0.length : Int) := of_decide_eq_true Zas;obtain ⟨ad323, e323, hx323_0, hx323_1, hx323_2⟩ := zcm HR0.out x6_2 p323 q323;have hw323_2 := hx323_2;have hw323_1 := hx323_1;have hw323_0 := hx323_0
         cases e323
         replace hx323_0 := (HB.out.cell (World.block_lt_of_cell? w _ hx323_0)).trans hx323_0;replace hx323_1 := (HB.out.cell (World.block_lt_of_cell? w _ hx323_1)).trans hx323_1;replace hx323_2 := (HB.out.cell (World.block_lt_of_cell? w _ hx323_2)).trans hx323_2;replace p323 := eq_true p323;replace q323 := eq_true q323;have p324 : 0 ≤ (x6_2 : Int) := of_decide_eq_true Zas;have q324 : x6_2 < (l0.length : Int) := of_decide_eq_true Zas;obtain ⟨ad324, e324, hx324_0, hx324_1, hx324_2⟩ := zcm HR0.out x6_2 p324 q324;have hw324_2 := hx324_2;have hw324_1 := hx324_1;have hw324_0 := hx324_0;obtain rfl : ad323 = ad324 := (by injection e324);replace hx324_0 := (HB.out.cell (World.block_lt_of_cell? w _ hx324_0)).trans hx324_0;replace hx324_1 := (HB.out.cell (World.block_lt_of_cell? w _ hx324_1)).trans hx324_1;replace hx324_2 := (HB.out.cell (World.block_lt_of_cell? w _ hx324_2)).trans hx324_2;replace p324 := eq_true p324;replace q324 := eq_true q324;refine zcj (n := 11) (S := fun w' => w'.cell? (ad323.add ((x6_2).toNat * 3)) = some (.int .i64 ((zf l0 x6_2).f0)) ∧ w'.cell? ⟨(ad323.add ((x6_2).toNat * 3)).block, (ad323.add ((x6_2).toNat * 3)).off + 1, none⟩ = some (.int .i64 ((zf l0 x6_2).f1)) ∧ w'.cell? ⟨(ad323.add ((x6_2).toNat * 3)).block, (ad323.add ((x6_2).toNat * 3)).off + 2, none⟩ = some (.int .i64 ((zf l0 x6_2).f2)) ∧ w'.cell? (ad323.add ((x6_2).toNat * 3)) = some (.int .i64 ((zf l0 x6_2).f0)) ∧ w'.cell? ⟨(ad323.add ((x6_2).toNat * 3)).block, (ad323.add ((x6_2).toNat * 3)).off + 1, none⟩ = some (.int .i64 ((zf l0 x6_2).f1)) ∧ w'.cell? ⟨(ad323.add ((x6_2).toNat * 3)).block, (ad323.add ((x6_2).toNat * 3)).off + 2, none⟩ = some (.int .i64 ((zf l0 x6_2).f2))) (ds := []) #[false, false, false, false, false, false, false, false, false, false, false] (by kernel_rfl) rfl rfl ⟨((HB.out.cell (World.block_lt_of_cell? w _ hw323_0)).trans hw323_0), ((HB.out.cell (World.block_lt_of_cell? w _ hw323_1)).trans hw323_1), ((HB.out.cell (World.block_lt_of_cell? w _ hw323_2)).trans hw323_2), ((HB.out.cell (World.block_lt_of_cell? w _ hw324_0)).trans hw324_0), ((HB.out.cell (World.block_lt_of_cell? w _ hw324_1)).trans hw324_1), ((HB.out.cell (World.block_lt_of_cell? w _ hw324_2)).trans hw324_2)⟩ (fun hHeld => ?_); refine zbr zu.tab7 zu.zi6 (fun HT_ HW_ => ?_);generalize wr.drew = w15 at HO_5 HB hx323_0 hx323_1 hx323_2 hx324_0 hx324_1 hx324_2 hHeld ⊢;refine zn (i := 0) (N := some 27) (v := ?_) (a' := ?_) #[true, false, false, false, false, false, false, false, false, false, false] rfl rfl (zg HT_.out (by kernel_rfl)) (fun _ _ _ h => h) (Or.inl ⟨by rfl, ?_⟩) ?_ ?_;rotate_left
         ·intro w'
          go_simp;with_reducible rfl
         rotate_left
         ·simp only [Act.put, Zs1, Zs2, Zs3, zh, zi]
          rfl
         refine zn (i := 1) (N := some 28) (v := ?_) (a' := ?_) #[true, true, false, false, false, false, false, false, false, false, false] rfl rfl (zg HT_.out (by kernel_rfl)) (fun _ _ _ h => h) (Or.inl ⟨by rfl, ?_⟩) ?_ ?_;rotate_left
         ·intro w'
          go_simp;with_reducible rfl
         rotate_left
         ·simp only [Act.put, Zs1, Zs2, Zs3, zh, zi]
          rfl
         refine zn (i := 2) (N := some 29) (v := ?_) (a' := ?_) #[true, true, true, false, false, false, false, false, false, false, false] rfl rfl (zg HT_.out (by kernel_rfl)) (fun _ _ _ h => h) (Or.inl ⟨by rfl, ?_⟩) ?_ ?_;rotate_left
         ·intro w'
          go_simp;with_reducible rfl
         rotate_left
         ·simp only [Act.put, Zs1, Zs2, Zs3, zh, zi]
          rfl
         refine zn (i := 3) (N := some 30) (v := ?_) (a' := ?_) #[true, true, true, true, false, false, false, false, false, false, false] rfl rfl (zg HT_.out (by kernel_rfl)) (fun _ _ _ h => h) (Or.inl ⟨by rfl, ?_⟩) ?_ ?_;rotate_left
         ·intro w'
          go_simp;with_reducible rfl
         rotate_left
         ·simp only [Act.put, Zs1, Zs2, Zs3, zh, zi]
          rfl
         refine zn (i := 5) (N := some 32) (v := ?_) (a' := ?_) #[true, true, true, true, false, true, false, false, false, false, false] rfl rfl (zg HT_.out (by kernel_rfl)) (fun _ _ _ h => h) (Or.inl ⟨by rfl, ?_⟩) ?_ ?_;rotate_left
         ·intro w'
          go_simp;with_reducible rfl
         rotate_left
         ·simp only [Act.put, Zs1, Zs2, Zs3, zh, zi]
          rfl
         refine zn (i := 6) (N := some 33) (v := ?_) (a' := ?_) #[true, true, true, true, false, true, true, false, false, false, false] rfl rfl (zg HT_.out (by kernel_rfl)) (fun _ _ _ h => h) (Or.inl ⟨by rfl, ?_⟩) ?_ ?_;rotate_left
         ·intro w'
          go_simp;with_reducible rfl
         rotate_left
         ·simp only [Act.put, Zs1, Zs2, Zs3, zh, zi]
          rfl
         refine zn (i := 7) (N := some 34) (v := ?_) (a' := ?_) #[true, true, true, true, false, true, true, true, false, false, false] rfl rfl (zg HT_.out (by kernel_rfl)) (fun _ _ _ h => h) (Or.inl ⟨by rfl, ?_⟩) ?_ ?_;rotate_left
         ·intro w'
          go_simp;with_reducible rfl
         rotate_left
         ·simp only [Act.put, Zs1, Zs2, Zs3, zh, zi]
          rfl
         refine zn (i := 8) (N := some 35) (v := ?_) (a' := ?_) #[true, true, true, true, false, true, true, true, true, false, false] rfl rfl (zg HT_.out (by kernel_rfl)) (fun _ _ _ h => h) (Or.inl ⟨by rfl, ?_⟩) ?_ ?_;rotate_left
         ·intro w'
          go_simp;with_reducible rfl
         rotate_left
         ·simp only [Act.put, Zs1, Zs2, Zs3, zh, zi]
          rfl
         refine zbx (i := 4) (N := some 31) (v := ?_) (a' := ?_) #[true, true, true, true, true, true, true, true, true, false, false] rfl rfl (z8 HT_.out HW_.out (by kernel_rfl)) (fun _ _ _ h => h) (Or.inl ⟨by rfl, ?_⟩) hHeld ?_ ?_;rotate_left
         ·rintro w' ⟨s0, s1, s2, s3, s4, s5⟩
          go_simp;with_reducible rfl
         rotate_left
         ·simp only [Act.put, Zs1, Zs2, Zs3, zh, zi]
          rfl
         refine zbx (i := 9) (N := some 36) (v := ?_) (a' := ?_) #[true, true, true, true, true, true, true, true, true, true, false] rfl rfl (z8 HT_.out HW_.out (by kernel_rfl)) (fun _ _ _ h => h) (Or.inl ⟨by rfl, ?_⟩) hHeld ?_ ?_;rotate_left
         ·rintro w' ⟨s0, s1, s2, s3, s4, s5⟩
          go_simp;with_reducible rfl
         rotate_left
         ·simp only [Act.put, Zs1, Zs2, Zs3, zh, zi]
          rfl
         refine zn (i := 10) (N := some 37) (v := ?_) (a' := ?_) #[true, true, true, true, true, true, true, true, true, true, true] rfl rfl (zg HT_.out (by kernel_rfl)) (fun _ _ _ h => h) (Or.inl ⟨by rfl, ?_⟩) ?_ ?_;rotate_left
         ·intro w'
          go_simp;with_reducible rfl
         rotate_left
         ·simp only [Act.put, Zs1, Zs2, Zs3, zh, zi]
          rfl
         refine zcz (zb5 HT_.out (by kernel_rfl)) ?_
         try go_wp2
         go_roundg k2
         case measure => have := HJ2.out; have := HK2.out; omega
         case rel => exact ⟨(wrap64 (x6_2 + 1)), Zrs, H', ⟨by have := HJ2.out; have := HK2.out; omega⟩, ⟨Zq20 HO_5⟩, ⟨Zq1 HB⟩⟩
        ·rw [if_neg c14] at H
         have c14b0 : (((zf l0 x6_2).f1) == ((zf l0 x6_2).f2)) = false := beq_eq_false_iff_ne.mpr c14;have c14b1 : (((zf l0 x6_2).f1) != ((zf l0 x6_2).f2)) = true := bne_iff_ne.mpr c14;obtain rfl := Option.some.inj H
         try go_wp2
         have n0_ := za.mk (Kd.zff HO_5.out);have n1_ := za.mk (zbf HB.out);clear HO_5;clear HB;have HO_5 := n0_;have HB := n1_;clear n0_ n1_;have p323 : 0 ≤ (x6_2 : Int) := of_decide_eq_true Zas;have q323 : x6_2 < (l0.length : Int) := of_decide_eq_true Zas;obtain ⟨ad323, e323, hx323_0, hx323_1, hx323_2⟩ := zcm HR0.out x6_2 p323 q323;have hw323_2 := hx323_2;have hw323_1 := hx323_1;have hw323_0 := hx323_0
         cases e323
         replace hx323_0 := (HB.out.cell (World.block_lt_of_cell? w _ hx323_0)).trans hx323_0;replace hx323_1 := (HB.out.cell (World.block_lt_of_cell? w _ hx323_1)).trans hx323_1;replace hx323_2 := (HB.out.cell (World.block_lt_of_cell? w _ hx323_2)).trans hx323_2;replace p323 := eq_true p323;replace q323 := eq_true q323;have p324 : 0 ≤ (x6_2 : Int) := of_decide_eq_true Zas;have q324 : x6_2 < (l0.length : Int) := of_decide_eq_true Zas;obtain ⟨ad324, e324, hx324_0, hx324_1, hx324_2⟩ := zcm HR0.out x6_2 p324 q324;have hw324_2 := hx324_2;have hw324_1 := hx324_1;have hw324_0 := hx324_0;obtain rfl : ad323 = ad324 := (by injection e324);replace hx324_0 := (HB.out.cell (World.block_lt_of_cell? w _ hx324_0)).trans hx324_0;replace hx324_1 := (HB.out.cell (World.block_lt_of_cell? w _ hx324_1)).trans hx324_1;replace hx324_2 := (HB.out.cell (World.block_lt_of_cell? w _ hx324_2)).trans hx324_2;replace p324 := eq_true p324;replace q324 := eq_true q324;refine zcj (n := 11) (S := fun w' => w'.cell? (ad323.add ((x6_2).toNat * 3)) = some (.int .i64 ((zf l0 x6_2).f0)) ∧ w'.cell? ⟨(ad323.add ((x6_2).toNat * 3)).block, (ad323.add ((x6_2).toNat * 3)).off + 1, none⟩ = some (.int .i64 ((zf l0 x6_2).f1)) ∧ w'.cell? ⟨(ad323.add ((x6_2).toNat * 3)).block, (ad323.add ((x6_2).toNat * 3)).off + 2, none⟩ = some (.int .i64 ((zf l0 x6_2).f2)) ∧ w'.cell? (ad323.add ((x6_2).toNat * 3)) = some (.int .i64 ((zf l0 x6_2).f0)) ∧ w'.cell? ⟨(ad323.add ((x6_2).toNat * 3)).block, (ad323.add ((x6_2).toNat * 3)).off + 1, none⟩ = some (.int .i64 ((zf l0 x6_2).f1)) ∧ w'.cell? ⟨(ad323.add ((x6_2).toNat * 3)).block, (ad323.add ((x6_2).toNat * 3)).off + 2, none⟩ = some (.int .i64 ((zf l0 x6_2).f2))) (ds := []) #[false, false, false, false, false, false, false, false, false, false, false] (by kernel_rfl) rfl rfl ⟨((HB.out.cell (World.block_lt_of_cell? w _ hw323_0)).trans hw323_0), ((HB.out.cell (World.block_lt_of_cell? w _ hw323_1)).trans hw323_1), ((HB.out.cell (World.block_lt_of_cell? w _ hw323_2)).trans hw323_2), ((HB.out.cell (World.block_lt_of_cell? w _ hw324_0)).trans hw324_0), ((HB.out.cell (World.block_lt_of_cell? w _ hw324_1)).trans hw324_1), ((HB.out.cell (World.block_lt_of_cell? w _ hw324_2)).trans hw324_2)⟩ (fun hHeld => ?_); refine zbr zu.tab7 zu.zi6 (fun HT_ HW_ => ?_);generalize wr.drew = w16 at HO_5 HB hx323_0 hx323_1 hx323_2 hx324_0 hx324_1 hx324_2 hHeld ⊢;refine zn (i := 0) (N := some 27) (v := ?_) (a' := ?_) #[true, false, false, false, false, false, false, false, false, false, false] rfl rfl (zg HT_.out (by kernel_rfl)) (fun _ _ _ h => h) (Or.inl ⟨by rfl, ?_⟩) ?_ ?_;rotate_left
         ·intro w'
          go_simp;with_reducible rfl
         rotate_left
         ·simp only [Act.put, Zs1, Zs2, Zs3, zh, zi]
          rfl
         refine zn (i := 1) (N := some 28) (v := ?_) (a' := ?_) #[true, true, false, false, false, false, false, false, false, false, false] rfl rfl (zg HT_.out (by kernel_rfl)) (fun _ _ _ h => h) (Or.inl ⟨by rfl, ?_⟩) ?_ ?_;rotate_left
         ·intro w'
          go_simp;with_reducible rfl
         rotate_left
         ·simp only [Act.put, Zs1, Zs2, Zs3, zh, zi]
          rfl
         refine zn (i := 2) (N := some 29) (v := ?_) (a' := ?_) #[true, true, true, false, false, false, false, false, false, false, false] rfl rfl (zg HT_.out (by kernel_rfl)) (fun _ _ _ h => h) (Or.inl ⟨by rfl, ?_⟩) ?_ ?_;rotate_left
         ·intro w'
          go_simp;with_reducible rfl
         rotate_left
         ·simp only [Act.put, Zs1, Zs2, Zs3, zh, zi]
          rfl
         refine zn (i := 3) (N := some 30) (v := ?_) (a' := ?_) #[true, true, true, true, false, false, false, false, false, false, false] rfl rfl (zg HT_.out (by kernel_rfl)) (fun _ _ _ h => h) (Or.inl ⟨by rfl, ?_⟩) ?_ ?_;rotate_left
         ·intro w'
          go_simp;with_reducible rfl
         rotate_left
         ·simp only [Act.put, Zs1, Zs2, Zs3, zh, zi]
          rfl
         refine zn (i := 5) (N := some 32) (v := ?_) (a' := ?_) #[true, true, true, true, false, true, false, false, false, false, false] rfl rfl (zg HT_.out (by kernel_rfl)) (fun _ _ _ h => h) (Or.inl ⟨by rfl, ?_⟩) ?_ ?_;rotate_left
         ·intro w'
          go_simp;with_reducible rfl
         rotate_left
         ·simp only [Act.put, Zs1, Zs2, Zs3, zh, zi]
          rfl
         refine zn (i := 6) (N := some 33) (v := ?_) (a' := ?_) #[true, true, true, true, false, true, true, false, false, false, false] rfl rfl (zg HT_.out (by kernel_rfl)) (fun _ _ _ h => h) (Or.inl ⟨by rfl, ?_⟩) ?_ ?_;rotate_left
         ·intro w'
          go_simp;with_reducible rfl
         rotate_left
         ·simp only [Act.put, Zs1, Zs2, Zs3, zh, zi]
          rfl
         refine zn (i := 7) (N := some 34) (v := ?_) (a' := ?_) #[true, true, true, true, false, true, true, true, false, false, false] rfl rfl (zg HT_.out (by kernel_rfl)) (fun _ _ _ h => h) (Or.inl ⟨by rfl, ?_⟩) ?_ ?_;rotate_left
         ·intro w'
          go_simp;with_reducible rfl
         rotate_left
         ·simp only [Act.put, Zs1, Zs2, Zs3, zh, zi]
          rfl
         refine zn (i := 8) (N := some 35) (v := ?_) (a' := ?_) #[true, true, true, true, false, true, true, true, true, false, false] rfl rfl (zg HT_.out (by kernel_rfl)) (fun _ _ _ h => h) (Or.inl ⟨by rfl, ?_⟩) ?_ ?_;rotate_left
         ·intro w'
          go_simp;with_reducible rfl
         rotate_left
         ·simp only [Act.put, Zs1, Zs2, Zs3, zh, zi]
          rfl
         refine zbx (i := 4) (N := some 31) (v := ?_) (a' := ?_) #[true, true, true, true, true, true, true, true, true, false, false] rfl rfl (z8 HT_.out HW_.out (by kernel_rfl)) (fun _ _ _ h => h) (Or.inl ⟨by rfl, ?_⟩) hHeld ?_ ?_;rotate_left
         ·rintro w' ⟨s0, s1, s2, s3, s4, s5⟩
          go_simp;with_reducible rfl
         rotate_left
         ·simp only [Act.put, Zs1, Zs2, Zs3, zh, zi]
          rfl
         refine zbx (i := 9) (N := some 36) (v := ?_) (a' := ?_) #[true, true, true, true, true, true, true, true, true, true, false] rfl rfl (z8 HT_.out HW_.out (by kernel_rfl)) (fun _ _ _ h => h) (Or.inl ⟨by rfl, ?_⟩) hHeld ?_ ?_;rotate_left
         ·rintro w' ⟨s0, s1, s2, s3, s4, s5⟩
          go_simp;with_reducible rfl
         rotate_left
         ·simp only [Act.put, Zs1, Zs2, Zs3, zh, zi]
          rfl
         refine zn (i := 10) (N := some 37) (v := ?_) (a' := ?_) #[true, true, true, true, true, true, true, true, true, true, true] rfl rfl (zg HT_.out (by kernel_rfl)) (fun _ _ _ h => h) (Or.inl ⟨by rfl, ?_⟩) ?_ ?_;rotate_left
         ·intro w'
          go_simp;with_reducible rfl
         rotate_left
         ·simp only [Act.put, Zs1, Zs2, Zs3, zh, zi]
          rfl
         refine zcz (zb5 HT_.out (by kernel_rfl)) ?_
         try go_wp2
         go_ret;exact ⟨_, by first | rfl | (simp [zq, zt] <;> rfl) | (simp [*, zq, zt] <;> rfl), Zq20 HO_5, Zq1 HB⟩
       ·rw [if_neg c13] at H
        exact absurd H (by simp)
      ·rw [if_neg c12] at H
       have c12b0 : decide (x6_2 < (l0.length : Int)) = false := decide_eq_false c12;clear c12;by_cases c17 : 0 ≤ (l0.length : Int)
       ·rw [if_pos c17] at H
        have c17b0 := eq_true c17;have c17b1 : decide (0 ≤ (l0.length : Int)) = true := decide_eq_true c17;clear c17;by_cases c18 : ((l0.length : Int) : Int).toNat ≤ 35184372088832
        ·rw [if_pos c18] at H
         have c18b0 := eq_true c18;have c18b1 : decide (((l0.length : Int) : Int).toNat ≤ 35184372088832) = true := decide_eq_true c18;clear c18;obtain ⟨y325, hy325⟩ : ∃ y_ : List Int, y_ = (List.replicate ((l0.length : Int) : Int).toNat 0) := ⟨_, rfl⟩;replace H : (zu.l1 k2 l0 a1 y318 y325 0) = some r := by first | (rw [hy325]; with_reducible exact H) | (have H2_ := (Option.bind_some _ _).symm.trans H; rw [hy325]; with_reducible exact H2_) | (have H2_ := (Option.bind_some _ _).symm.trans H; with_reducible exact H2_) | with_reducible exact H | (rw [hy325]; exact H) | exact H
         have Ny325 := za.mk hy325;clear hy325;have H' := za.mk H;clear H;go_wp2_with (first | ((with_reducible refine zby (N := 41) rfl ?_); refine Kd.R_make (Kd.int .i64) _ 3 rfl (N := 41) rfl 33 _ _ rfl (l0.length : Int) rfl rfl Try.underlying33 (.int .i64 0) 8 info3 rfl (by decide) (by omega) 0 (ok := fun _ => True) (okp := fun _ => True) rfl (fun _ hk => hk) trivial (of_decide_eq_true Zas) (Nat.le_trans (Nat.mul_le_mul_right _ (of_decide_eq_true Zas : (l0.length : Int).toNat ≤ 35184372088832)) (by omega)) (Below.refl _ _) (Nat.le_refl _) ?_; intro v326 w19 ho20 hb hg_ hnew_; clear hg_ hnew_; (first | rw [← Ny325.out] at ho20 | (simp only [Int.reduceToNat] at ho20; rw [← Ny325.out] at ho20)); have n0_ := za.mk (Kd.S_elder' (Zq20 HO_5) (Kd.zda ho20) hb); have n1_ := za.mk (Kd.zcv ho20 (zbb (Zq1 HB))); have n2_ := za.mk (zm (Zq1 HB) hb); clear HO_5; clear HB; have HO_5 := n0_; have HO327 := n1_; have HB := n2_; clear n0_ n1_ n2_; clear hb ho20))
         go_loopg [5, 8] k2 (fun kq v5 v8 w' => ∃ (x5_3 : List (List Int)) (x7_3 : List Int) (x8_3 : Int), v8 = .int .i64 x8_3 ∧ za (zu.l1 kq l0 a1 x5_3 x7_3 x8_3 = some r) ∧ za (kq ≤ k2) ∧ za (Kd.S (Kd.slice 3 (Kd.int .i64)) 33 w' w.heap.size (fun k_ => some k_ ≠ (v326 : Value).ownBlock) v5 x5_3) ∧ za (Kd.R (Kd.int .i64) 3 w' w.heap.size (fun _ => True) v326 x7_3) ∧ za (Below w.heap.size w w'))
         case atStart => exact ⟨(y318), (y325), (0), Zrs, H', ⟨Nat.le_refl _⟩, ⟨by (with_reducible repeat (first | apply Kd.zf2 | apply Kd.zf3 | apply Kd.zff)); exact Kd.zhn HO_5.out (fun _ hk => hk.2)⟩, ⟨Zq12 HO327⟩, ⟨Zq1 HB⟩⟩
         case round =>
          clear H'
          (try clear c1);(try clear p2);(try clear c3);(try clear p3);(try clear q3);(try clear hx3);(try clear p6);(try clear c7);(try clear c11);(try clear c12);(try clear c12b0);(try clear c13);(try clear c13b0);(try clear c14);(try clear c14b0);(try clear c14b1);(try clear c17);(try clear c17b0);(try clear c17b1);(try clear c18);(try clear c18b0);(try clear c18b1);(try clear hx323_0);(try clear hx323_1);(try clear hx323_2);(try clear hx324_0);(try clear hx324_1);(try clear hx324_2);(try clear p2);(try clear p323);(try clear p324);(try clear q323);(try clear q324)
          obtain ⟨x5_3, x7_3, x8_3, rfl, HA, HK3, HO_5, HO_7, HB⟩ := hrel
          cases gk with
          | zero => exact absurd HA.out (by simp [zu.l1])
          | succ k3 =>
           have H := HA.out;clear HA;simp only [zu.l1] at H;by_cases c21 : x8_3 < 120
           ·rw [if_pos c21] at H
            have c21b0 : decide (x8_3 < 120) = true := decide_eq_true c21;clear c21;replace H := Option.bind_eq_some_iff.mp H;obtain ⟨t328, A220, H⟩ := H;replace H : (zu.l2 k3 l0 a1 x5_3 x7_3 x8_3 t328 0) = some r := H;have A22 := za.mk A220;clear A220;have H' := za.mk H;clear H;obtain ⟨Ao23, co23, eo23⟩ := Kd.zcr HO_7.out;subst eo23;go_wp2_with (first | ((with_reducible refine zw (f := 38) rfl ?_); refine zbw (some 50) rfl rfl Try.func38 (by kernel_rfl) rfl #[.slice A0 l0.length c0, .slice Ao23 x7_3.length co23, .int .i64 x8_3, .int .i64 a1] rfl Zmt ?_; (with_reducible refine (zz.calls k3 _ _ l0 _ _ x7_3 x8_3 a1 t328 _ ?side1 ?side2 ?side3 ?side4 A22.out).mono ?_); (case side1 => exact Zq18 (Kd.zc3 HR0.out HB.out)); (case side2 => exact HC0.out); (case side3 => exact Zq18 ((Kd.zbq HO_7.out).2.2)); (case side4 => exact (Kd.zbq HO_7.out).2.1); rintro e w24 ⟨v329, rfl, ho0, hb⟩; refine ⟨_, rfl, ?_⟩; have n0_ := za.mk (Kd.S_elder' (Zq20 HO_5) (Kd.zda ho0) hb); have n1_ := za.mk (Kd.zcp (Zq12 HO_7) (Kd.zda ho0) hb); have n2_ := za.mk (Kd.zcv (Kd.zdj ho0 (Kd.R_lt (Zq12 HO_7))) (zbb (Zq1 HB))); have n3_ := za.mk (zm (Zq1 HB) hb); clear HO_5; clear HO_7; clear HB; have HO_5 := n0_; have HO_7 := n1_; have HO330 := n2_; have HB := n3_; clear n0_ n1_ n2_ n3_; (try clear hb); (try clear hb2); (try clear hk); (try clear hi); (try clear ho0)))
            go_loopg [10] k3 (fun kq v10 w' => ∃ (x7_4 : List Int) (x10_4 : Int), v10 = .int .i64 x10_4 ∧ za (zu.l2 kq l0 a1 x5_3 x7_4 x8_3 t328 x10_4 = some r) ∧ za (kq ≤ k3) ∧ za (Kd.S (Kd.slice 3 (Kd.int .i64)) 33 w' w.heap.size (fun k_ => some k_ ≠ ((.slice Ao23 x7_3.length co23) : Value).ownBlock ∧ some k_ ≠ (v329 : Value).ownBlock) u5 x5_3) ∧ za (Kd.R (Kd.int .i64) 3 w' w.heap.size (fun k_ => some k_ ≠ (v329 : Value).ownBlock) (.slice Ao23 x7_3.length co23) x7_4) ∧ za (Kd.R (Kd.int .i64) 3 w' w.heap.size (fun k_ => some k_ ≠ ((.slice Ao23 x7_3.length co23) : Value).ownBlock) v329 t328) ∧ za (Below w.heap.size w w'))
            case atStart => exact ⟨(x7_3), (0), Zrs, H', ⟨Nat.le_refl _⟩, ⟨Zq20 HO_5⟩, ⟨by (with_reducible repeat (first | apply Kd.zcg | apply Kd.zch | apply Kd.zb7)); exact Kd.zbn HO_7.out (fun _ hk => hk.2)⟩, ⟨by (with_reducible repeat (first | apply Kd.zcg | apply Kd.zch | apply Kd.zb7)); exact Kd.zbn HO330.out (fun _ hk => hk.2)⟩, ⟨Zq1 HB⟩⟩
            case round =>
             clear H'
             (try clear c1);(try clear c2);(try clear p2);(try clear c3);(try clear p3);(try clear q3);(try clear hx3);(try clear p6);(try clear c7);(try clear c11);(try clear c12);(try clear c12b0);(try clear c13);(try clear c13b0);(try clear c14);(try clear c14b0);(try clear c14b1);(try clear c17);(try clear c17b0);(try clear c17b1);(try clear c18);(try clear c18b0);(try clear c18b1);(try clear c21);(try clear c21b0);(try clear hx323_0);(try clear hx323_1);(try clear hx323_2);(try clear hx324_0);(try clear hx324_1);(try clear hx324_2);(try clear p2);(try clear p3);(try clear p323);(try clear p324);(try clear p6);(try clear q3);(try clear q323);(try clear q324)
             obtain ⟨x7_4, x10_4, rfl, HA, HK4, HO_5, HO_7, HO_9, HB⟩ := hrel;have hl7_4 := (Kd.zbq HO_7.out).1;rw [hl7_4] at HO_7;(try simp only [hl7_4]);(try simp only [hl7_4] at HO_5);(try simp only [hl7_4] at HO_9)
             cases gk with
             | zero => exact absurd HA.out (by simp [zu.l2])
             | succ k4 =>
              have H := HA.out;clear HA;simp only [zu.l2] at H;by_cases c25 : x10_4 < (t328.length : Int)
              ·rw [if_pos c25] at H
               have c25b0 : decide (x10_4 < (t328.length : Int)) = true := decide_eq_true c25;clear c25;by_cases c26 : 0 ≤ x10_4
               ·rw [if_pos c26] at H
                have c26b0 : decide (0 ≤ x10_4) = true := decide_eq_true c26;clear c26;by_cases c27 : 0 ≤ (rd t328 x10_4)
                ·rw [if_pos c27] at H
                 have c27b0 : decide (0 ≤ (rd t328 x10_4)) = true := decide_eq_true c27;clear c27;by_cases c28 : (rd t328 x10_4) < (x7_4.length : Int)
                 ·rw [if_pos c28] at H
                  have c28b0 : decide ((rd t328 x10_4) < (x7_4.length : Int)) = true := decide_eq_true c28;clear c28;obtain ⟨y334, hy334⟩ : ∃ y_ : List Int, y_ = (x7_4.set ((rd t328 x10_4) : Int).toNat (wrap64 ((rd x7_4 (rd t328 x10_4)) + 1))) := ⟨_, rfl⟩;replace H : (zu.l2 k4 l0 a1 x5_3 y334 x8_3 t328 (wrap64 (x10_4 + 1))) = some r := by first | (rw [hy334]; with_reducible exact H) | (have H2_ := (Option.bind_some _ _).symm.trans H; rw [hy334]; with_reducible exact H2_) | (have H2_ := (Option.bind_some _ _).symm.trans H; with_reducible exact H2_) | with_reducible exact H | (rw [hy334]; exact H) | exact H
                  have Ny334 := za.mk hy334;clear hy334;have H' := za.mk H;clear H;obtain ⟨Ao30, co30, eo30⟩ := Kd.zcr HO_9.out;subst eo30
                  try go_wp2
                  have n0_ := za.mk (Kd.zff HO_5.out);have n1_ := za.mk (Kd.zb7 HO_7.out);have n2_ := za.mk (Kd.zb7 HO_9.out);have n3_ := za.mk (zbf HB.out);clear HO_5;clear HO_7;clear HO_9;clear HB;have HO_5 := n0_;have HO_7 := n1_;have HO_9 := n2_;have HB := n3_;clear n0_ n1_ n2_ n3_;have p331 : 0 ≤ (x10_4 : Int) := of_decide_eq_true Zas;have q331 : x10_4 < (t328.length : Int) := of_decide_eq_true Zas;obtain ⟨ad331, e331, hx331_0⟩ := Kd.zb6 (Kd.zbq HO_9.out).2.2 x10_4 p331 q331
                  cases e331
                  replace p331 := eq_true p331;replace q331 := eq_true q331;have p332 : 0 ≤ (x10_4 : Int) := of_decide_eq_true Zas;have q332 : x10_4 < (t328.length : Int) := of_decide_eq_true Zas;obtain ⟨ad332, e332, hx332_0⟩ := Kd.zb6 (Kd.zbq HO_9.out).2.2 x10_4 p332 q332;obtain rfl : ad331 = ad332 := (by injection e332);replace p332 := eq_true p332;replace q332 := eq_true q332;have p333 : 0 ≤ ((rd t328 x10_4) : Int) := of_decide_eq_true Zas;have q333 : (rd t328 x10_4) < (x7_4.length : Int) := of_decide_eq_true Zas;obtain ⟨ad333, e333, hx333_0⟩ := Kd.zb6 (Kd.zbq HO_7.out).2.2 (rd t328 x10_4) p333 q333
                  cases e333
                  replace p333 := eq_true p333;replace q333 := eq_true q333;have p29 : 0 ≤ ((rd t328 x10_4) : Int) := of_decide_eq_true Zas;have q29 : ((rd t328 x10_4) : Int) < ((x7_4.length : Int) : Int) := of_decide_eq_true Zas;obtain ⟨go29, co29, eo29, gb29, gl29, cl29, HG29⟩ := Kd.zhj HO_7.out (by omega);(first | cases eo29 | (injection eo29 with ea_ en_ ec_; (first | subst ea_ | (injection ea_ with ea_; subst ea_)); subst ec_; clear en_));have GB29 := za.mk gb29;have GG29 := za.mk HG29;clear gb29 gl29 HG29;(first | simp only [add_plain] at hx333_0 | skip);obtain ⟨hx29_0, hf29_0⟩ := Kd.zgl 0 HO_7.out ((rd t328 x10_4) : Int) p29 q29;replace p29 := eq_true p29;replace q29 := eq_true q29;have HP32 := Kd.R_putn HO_7.out ((rd t328 x10_4) : Int) (wrap64 ((rd x7_4 (rd t328 x10_4)) + 1));rw [← Ny334.out] at HP32;have HQ32 := za.mk HP32;clear HP32;refine zcj (n := 15) (S := fun w' => w'.cell? (ad331.add (x10_4).toNat) = some (.int .i64 (rd t328 x10_4)) ∧ w'.cell? (ad331.add (x10_4).toNat) = some (.int .i64 (rd t328 x10_4)) ∧ w'.cell? ⟨go29, ((rd t328 x10_4)).toNat, none⟩ = some (.int .i64 (rd x7_4 (rd t328 x10_4)))) (ds := [14]) #[false, false, false, false, false, false, false, false, false, false, false, false, false, false, false] (by kernel_rfl) rfl rfl ⟨hx331_0, hx332_0, hx333_0⟩ (fun hHeld => ?_); refine zbr zu.tab17 zu.bits17 (fun HT_ HW_ => ?_);generalize wr.drew = w31 at HO_5 HO_7 HO_9 HB GG29 HQ32 hf29_0 hx29_0 hx331_0 hx332_0 hx333_0 hHeld ⊢;refine zn (i := 0) (N := some 57) (v := ?_) (a' := ?_) #[true, false, false, false, false, false, false, false, false, false, false, false, false, false, false] rfl rfl (zg HT_.out (by kernel_rfl)) (fun _ _ _ h => h) (Or.inl ⟨by rfl, ?_⟩) ?_ ?_;rotate_left
                  ·intro w'
                   go_simp;with_reducible rfl
                  rotate_left
                  ·simp only [Act.put, Zs1, Zs2, Zs3, zh, zi]
                   rfl
                  refine zn (i := 1) (N := some 58) (v := ?_) (a' := ?_) #[true, true, false, false, false, false, false, false, false, false, false, false, false, false, false] rfl rfl (zg HT_.out (by kernel_rfl)) (fun _ _ _ h => h) (Or.inl ⟨by rfl, ?_⟩) ?_ ?_;rotate_left
                  ·intro w'
                   go_simp;with_reducible rfl
                  rotate_left
                  ·simp only [Act.put, Zs1, Zs2, Zs3, zh, zi]
                   rfl
                  refine zn (i := 2) (N := some 59) (v := ?_) (a' := ?_) #[true, true, true, false, false, false, false, false, false, false, false, false, false, false, false] rfl rfl (zg HT_.out (by kernel_rfl)) (fun _ _ _ h => h) (Or.inl ⟨by rfl, ?_⟩) ?_ ?_;rotate_left
                  ·intro w'
                   go_simp;with_reducible rfl
                  rotate_left
                  ·simp only [Act.put, Zs1, Zs2, Zs3, zh, zi]
                   rfl
                  refine zn (i := 3) (N := some 60) (v := ?_) (a' := ?_) #[true, true, true, true, false, false, false, false, false, false, false, false, false, false, false] rfl rfl (zg HT_.out (by kernel_rfl)) (fun _ _ _ h => h) (Or.inl ⟨by rfl, ?_⟩) ?_ ?_;rotate_left
                  ·intro w'
                   go_simp;with_reducible rfl
                  rotate_left
                  ·simp only [Act.put, Zs1, Zs2, Zs3, zh, zi]
                   rfl
                  refine zn (i := 5) (N := some 62) (v := ?_) (a' := ?_) #[true, true, true, true, false, true, false, false, false, false, false, false, false, false, false] rfl rfl (zg HT_.out (by kernel_rfl)) (fun _ _ _ h => h) (Or.inl ⟨by rfl, ?_⟩) ?_ ?_;rotate_left
                  ·intro w'
                   go_simp;with_reducible rfl
                  rotate_left
                  ·simp only [Act.put, Zs1, Zs2, Zs3, zh, zi]
                   rfl
                  refine zn (i := 6) (N := some 63) (v := ?_) (a' := ?_) #[true, true, true, true, false, true, true, false, false, false, false, false, false, false, false] rfl rfl (zg HT_.out (by kernel_rfl)) (fun _ _ _ h => h) (Or.inl ⟨by rfl, ?_⟩) ?_ ?_;rotate_left
                  ·intro w'
                   go_simp;with_reducible rfl
                  rotate_left
                  ·simp only [Act.put, Zs1, Zs2, Zs3, zh, zi]
                   rfl
                  refine zn (i := 7) (N := some 64) (v := ?_) (a' := ?_) #[true, true, true, true, false, true, true, true, false, false, false, false, false, false, false] rfl rfl (zg HT_.out (by kernel_rfl)) (fun _ _ _ h => h) (Or.inl ⟨by rfl, ?_⟩) ?_ ?_;rotate_left
                  ·intro w'
                   go_simp;with_reducible rfl
                  rotate_left
                  ·simp only [Act.put, Zs1, Zs2, Zs3, zh, zi]
                   rfl
                  refine zn (i := 8) (N := some 65) (v := ?_) (a' := ?_) #[true, true, true, true, false, true, true, true, true, false, false, false, false, false, false] rfl rfl (zg HT_.out (by kernel_rfl)) (fun _ _ _ h => h) (Or.inl ⟨by rfl, ?_⟩) ?_ ?_;rotate_left
                  ·intro w'
                   go_simp;with_reducible rfl
                  rotate_left
                  ·simp only [Act.put, Zs1, Zs2, Zs3, zh, zi]
                   rfl
                  refine zbx (i := 4) (N := some 61) (v := ?_) (a' := ?_) #[true, true, true, true, true, true, true, true, true, false, false, false, false, false, false] rfl rfl (z8 HT_.out HW_.out (by kernel_rfl)) (fun _ _ _ h => h) (Or.inl ⟨by rfl, ?_⟩) hHeld ?_ ?_;rotate_left
                  ·rintro w' ⟨s0, s1, s2⟩
                   go_simp;with_reducible rfl
                  rotate_left
                  ·simp only [Act.put, Zs1, Zs2, Zs3, zh, zi]
                   rfl
                  refine zbx (i := 9) (N := some 66) (v := ?_) (a' := ?_) #[true, true, true, true, true, true, true, true, true, true, false, false, false, false, false] rfl rfl (z8 HT_.out HW_.out (by kernel_rfl)) (fun _ _ _ h => h) (Or.inl ⟨by rfl, ?_⟩) hHeld ?_ ?_;rotate_left
                  ·rintro w' ⟨s0, s1, s2⟩
                   go_simp;with_reducible rfl
                  rotate_left
                  ·simp only [Act.put, Zs1, Zs2, Zs3, zh, zi]
                   rfl
                  refine zn (i := 10) (N := some 67) (v := ?_) (a' := ?_) #[true, true, true, true, true, true, true, true, true, true, true, false, false, false, false] rfl rfl (zg HT_.out (by kernel_rfl)) (fun _ _ _ h => h) (Or.inl ⟨by rfl, ?_⟩) ?_ ?_;rotate_left
                  ·intro w'
                   go_simp;with_reducible rfl
                  rotate_left
                  ·simp only [Act.put, Zs1, Zs2, Zs3, zh, zi]
                   rfl
                  refine zbx (i := 11) (N := some 68) (v := ?_) (a' := ?_) #[true, true, true, true, true, true, true, true, true, true, true, true, false, false, false] rfl rfl (z8 HT_.out HW_.out (by kernel_rfl)) (fun _ _ _ h => h) (Or.inl ⟨by rfl, ?_⟩) hHeld ?_ ?_;rotate_left
                  ·rintro w' ⟨s0, s1, s2⟩
                   go_simp;with_reducible rfl
                  rotate_left
                  ·simp only [Act.put, Zs1, Zs2, Zs3, zh, zi]
                   rfl
                  refine zn (i := 12) (N := some 69) (v := ?_) (a' := ?_) #[true, true, true, true, true, true, true, true, true, true, true, true, true, false, false] rfl rfl (zg HT_.out (by kernel_rfl)) (fun _ _ _ h => h) (Or.inl ⟨by rfl, ?_⟩) ?_ ?_;rotate_left
                  ·intro w'
                   go_simp;with_reducible rfl
                  rotate_left
                  ·simp only [Act.put, Zs1, Zs2, Zs3, zh, zi]
                   rfl
                  refine zn (i := 13) (N := some 70) (v := ?_) (a' := ?_) #[true, true, true, true, true, true, true, true, true, true, true, true, true, true, false] rfl rfl (zg HT_.out (by kernel_rfl)) (fun _ _ _ h => h) (Or.inl ⟨by rfl, ?_⟩) ?_ ?_;rotate_left
                  ·intro w'
                   go_simp;with_reducible rfl
                  rotate_left
                  ·simp only [Act.put, Zs1, Zs2, Zs3, zh, zi]
                   rfl
                  refine last_ (i := 14) (N := none) #[true, true, true, true, true, true, true, true, true, true, true, true, true, true, true] rfl rfl (zb0 HT_.out (by kernel_rfl)) (by decide) (fun K hK => ?_);refine ziv (w1 := ?_) (by rfl) rfl ?_ ?_;rotate_left
                  ·go_simp
                   rfl
                  refine hK.out _ _ ?_;clear hK K;refine zcz (zb5 HT_.out (by kernel_rfl)) ?_
                  try go_wp2
                  (try simp only [← hl7_4]);go_roundg k4
                  case measure => have := HJ2.out; have := HK2.out; have := HK3.out; have := HK4.out; omega
                  case rel => exact ⟨(y334), (wrap64 (x10_4 + 1)), Zrs, H', ⟨by have := HJ2.out; have := HK2.out; have := HK3.out; have := HK4.out; omega⟩, ⟨by (try simp only [hl7_4]); (with_reducible repeat (first | apply Kd.zf2 | apply Kd.zf3 | apply Kd.zff)); exact Kd.zhn (Kd.S_far (p := ⟨go29, ((rd t328 x10_4) : Int).toNat, none⟩) (Kd.zhn HO_5.out (fun k_ hk => (⟨hk, fun e_ => hk.1 (by rw [e_]; rfl)⟩ : _ ∧ k_ ≠ go29))) (fun _ hk => hk.2) (.int .i64 (wrap64 ((rd x7_4 (rd t328 x10_4)) + 1)))) (fun _ hk => ⟨hk.1.1, hk.1.2⟩)⟩, ⟨by (try simp only [hl7_4]); (with_reducible repeat (first | apply Kd.zcg | apply Kd.zch | apply Kd.zb7)); exact HQ32.out⟩, ⟨by (try simp only [hl7_4]); (with_reducible repeat (first | apply Kd.zcg | apply Kd.zch | apply Kd.zb7)); exact Kd.zbn (Kd.zfy (p := ⟨go29, ((rd t328 x10_4) : Int).toNat, none⟩) (Kd.zbn HO_9.out (fun k_ hk => (⟨hk, fun e_ => hk (by rw [e_]; rfl)⟩ : _ ∧ k_ ≠ go29))) (fun _ hk => hk.2) (.int .i64 (wrap64 ((rd x7_4 (rd t328 x10_4)) + 1)))) (fun _ hk => hk.1)⟩, ⟨Zq3 HB GB29⟩⟩
                 ·rw [if_neg c28] at H
                  exact absurd H (by simp)
                ·rw [if_neg c27] at H
                 exact absurd H (by simp)
               ·rw [if_neg c26] at H
                exact absurd H (by simp)
              ·rw [if_neg c25] at H
               have c25b0 : decide (x10_4 < (t328.length : Int)) = false := decide_eq_false c25;clear c25;by_cases c33 : x5_3.length < 5864062014805
               ·rw [if_pos c33] at H
                have LMc33 := za.mk c33;clear c33;obtain ⟨y335, hy335⟩ : ∃ y_ : List (List Int), y_ = (x5_3 ++ [t328]) := ⟨_, rfl⟩;replace H : (zu.l1 k4 l0 a1 y335 x7_4 (wrap64 (x8_3 + 1))) = some r := by first | (rw [hy335]; with_reducible exact H) | (have H2_ := (Option.bind_some _ _).symm.trans H; rw [hy335]; with_reducible exact H2_) | (have H2_ := (Option.bind_some _ _).symm.trans H; with_reducible exact H2_) | with_reducible exact H | (rw [hy335]; exact H) | exact H
                have Ny335 := za.mk hy335;clear hy335;have H' := za.mk H;clear H;obtain ⟨Ao34, co34, eo34⟩ := Kd.zcr HO_9.out;subst eo34;go_wp2_with (first | ((with_reducible refine zdb (b := .append) (xs := #[.tmp 71, .tmp 73]) rfl ?_); at_builtin; refine Kd.S_append (Kd.slice 3 (Kd.int .i64)) (w0 := w) w.heap.size rfl (.tmp 71) (.tmp 73) 26 33 (.slice none 0 0) 24 rfl Try.underlying26 info33 rfl (by decide) (by omega) u5 x5_3 t328 [.slice Ao34 t328.length co34] (fun k_ => some k_ ≠ (.slice Ao23 x7_4.length co23 : Value).ownBlock) (fun k_ => some k_ = (.slice Ao34 t328.length co34 : Value).ownBlock) rfl rfl ?aP (fun k_ hk_ => ((Kd.zbn (ok' := fun k_ => ((fun k_ => some k_ ≠ (.slice Ao23 x7_4.length co23 : Value).ownBlock)) k_ ∧ some k_ ≠ (u5 : Value).ownBlock) (Kd.R_apart' (HO_9.out) (Kd.zjo HO_5.out) (by decide)) (fun k_ hk => ⟨hk.1, hk.2⟩))).1 k_ hk_.symm) ?aF ?aO ?aB ?aS ?aL ?_; (case aP => exact Kd.M_row (Kd.zbn (Kd.R_tight rfl (Kd.zbn (ok' := fun k_ => ((fun k_ => some k_ ≠ (.slice Ao23 x7_4.length co23 : Value).ownBlock)) k_ ∧ some k_ ≠ (u5 : Value).ownBlock) (Kd.R_apart' (HO_9.out) (Kd.zjo HO_5.out) (by decide)) (fun k_ hk => ⟨hk.1, hk.2⟩))) (fun _ h_ => h_))); (case aB => exact (Zq1 HB)); (case aF => exact (fun k_ hk => Kd.fresh' (Kd.R_lt (Zq12 HO_7)) k_ hk)); (case aO => exact (by (with_reducible repeat (first | apply Kd.zf2 | apply Kd.zf3 | apply Kd.zff)); exact Kd.zhn HO_5.out (fun k_ hk => ⟨hk.1, fun e_ => hk.2 e_⟩))); (case aS => exact (zbb (Zq1 HB))); (case aL => have := LMc33.out; omega); intro v336 w35 ho hb hg hat; rw [← Ny335.out] at ho; have n0_ := za.mk (Kd.R_over' (Zq12 HO_7) (Kd.zjo (Zq20 HO_5)) (by decide) hg); have n1_ := za.mk (hb); have n2_ := za.mk (ho); clear HO_7; clear HB; clear HO_5; clear HO_9; have HO_7 := n0_; have HB := n1_; have HO337 := n2_; clear n0_ n1_ n2_; clear ho hb hg hat));(try simp only [← hl7_4]);go_roundg k4
                case measure => have := HJ2.out; have := HK2.out; have := HK3.out; have := HK4.out; omega
                case rel => exact ⟨(y335), (x7_4), (wrap64 (x8_3 + 1)), Zrs, H', ⟨by have := HJ2.out; have := HK2.out; have := HK3.out; have := HK4.out; omega⟩, ⟨by (try simp only [hl7_4]); (with_reducible repeat (first | apply Kd.zf2 | apply Kd.zf3 | apply Kd.zff)); exact HO337.out⟩, ⟨by (try simp only [hl7_4]); (with_reducible repeat (first | apply Kd.zcg | apply Kd.zch | apply Kd.zb7)); exact Kd.zbn HO_7.out (fun _ hk => trivial)⟩, ⟨Zq1 HB⟩⟩
               ·rw [if_neg c33] at H
                exact absurd H (by simp)
           ·rw [if_neg c21] at H
            have c21b0 : decide (x8_3 < 120) = false := decide_eq_false c21;clear c21;obtain rfl := Option.some.inj H;go_wp2;go_ret;exact ⟨_, by first | rfl | (simp [zq, zt] <;> rfl) | (simp [*, zq, zt] <;> rfl), by (with_reducible repeat (first | apply Kd.zf2 | apply Kd.zf3 | apply Kd.zff)); exact Kd.zhn HO_5.out (fun _ hk => trivial), Zq1 HB⟩
        ·rw [if_neg c18] at H
         exact absurd H (by simp)
       ·rw [if_neg c17] at H
        exact absurd H (by simp)
def zdw.f  : Option (Bool) := (zcn.f 1 1 1).bind fun t353 => (some t353)
set_option maxHeartbeats 8000000 in
theorem zdw.calls  (r : Bool) (w : World) (h : zdw.f  = some r) :
  Calls Try.prog 14 #[] w fun e w' => e = .returned (.bool r) ∧ Below w.heap.size w w' := by
 have hu35 := Try.underlying35
 have HB := za.mk (Below.refl w.heap.size w)
 have H : ((zcn.f 1 1 1).bind fun t353 => (some t353)) = some r := h
 clear h
 replace H := Option.bind_eq_some_iff.mp H
 obtain ⟨t353, A10, H⟩ := H
 replace H : (some t353) = some r := H
 have A1 := za.mk A10
 clear A10
 obtain rfl := Option.some.inj H
 go_enter Try.func14, Try.ntmps14
 go_wp2_with (first | ((with_reducible refine zw (f := 43) rfl ?_); refine zbw (some 2) rfl rfl Try.func43 (by kernel_rfl) rfl #[.agg #[.int .i64 1, .int .i64 1, .int .i64 1]] rfl Zmt ?_; (with_reducible refine (zcn.calls 1 1 1 t353 _ A1.out).mono ?_); rintro e w2 ⟨rfl, hb⟩; refine ⟨_, rfl, ?_⟩; have n0_ := za.mk (zm (Zq1 HB) hb); clear HB; have HB := n0_; clear n0_; (try clear hb); (try clear hb2); (try clear hk); (try clear hi)))
 go_ret
 exact ⟨by first | rfl | (simp [zq, zt] <;> rfl) | (simp [*, zq, zt] <;> rfl), Zq1 HB⟩
def zc6.l0 : Nat → Int → Int → Option (Int)
 | 0, _, _ => none
 | k + 1, x0, x1 => if x1 = 0 then (some x0) else (zc6.l0 k x1 (Int.tmod x0 x1))
def zc6.f (k : Nat) (a0 : Int) (a1 : Int) : Option (Int) := zc6.l0 k a0 a1
set_option maxHeartbeats 8000000 in
theorem zc6.calls (k : Nat) (a0 : Int) (a1 : Int) (r : Int) (w : World) (h : zc6.f k a0 a1 = some r) :
  Calls Try.prog 68 #[.int .i64 a0, .int .i64 a1] w fun e w' => e = .returned (.int .i64 r) ∧ zbu w w' := by
 have H : (zc6.l0 k a0 a1) = some r := h
 clear h
 have H' := za.mk H
 clear H
 go_enter Try.func68, Try.ntmps68
 go_wp2
 repeat (go_quiet (fail); try go_wp2)
 go_loopg [0, 1] k (fun kq v0 v1 w' => ∃ (x0_1 : Int) (x1_1 : Int), v0 = .int .i64 x0_1 ∧ v1 = .int .i64 x1_1 ∧ za (zc6.l0 kq x0_1 x1_1 = some r) ∧ za (kq ≤ k) ∧ zbu w w')
 case atStart => exact ⟨(a0), (a1), Zrs, Zrs, H', ⟨Nat.le_refl _⟩, by repeat (first | exact zbu.refl _ | apply zbu.step)⟩
 case round =>
  clear H'
  try clear p2
  obtain ⟨x0_1, x1_1, rfl, rfl, HA, HK1, ⟨m1, rfl⟩⟩ := hrel
  cases gk with
  | zero => exact absurd HA.out (by simp [zc6.l0])
  | succ k1 =>
   have H := HA.out;clear HA;simp only [zc6.l0] at H;by_cases c3 : x1_1 = 0
   ·rw [if_pos c3] at H
    have c3b0 : (x1_1 == 0) = true := beq_iff_eq.mpr c3;have c3b1 : (x1_1 != 0) = false := bne_eq_false_iff_eq.mpr c3;clear c3;obtain rfl := Option.some.inj H;go_wp2
    repeat (go_quiet (fail); try go_wp2)
    go_ret;exact ⟨by first | rfl | (simp; done) | (simp [*]; done), by repeat (first | exact zbu.refl _ | apply zbu.step)⟩
   ·rw [if_neg c3] at H
    have c3b0 : (x1_1 == 0) = false := beq_eq_false_iff_ne.mpr c3;have c3b1 : (x1_1 != 0) = true := bne_iff_ne.mpr c3;have H' := za.mk H;clear H;go_wp2
    repeat (go_quiet (fail); try go_wp2)
    go_roundg k1
    case measure => have := HK1.out; omega
    case rel => exact ⟨(x1_1), (Int.tmod x0_1 x1_1), Zrs, Zrs, H', ⟨by have := HK1.out; omega⟩, by repeat (first | exact zbu.refl _ | apply zbu.step)⟩
def zer.f (k : Nat) (a0 : Int) (a1 : Int) : Option (Int) := (zc6.f k a0 a1).bind fun t340 => (if t340 = 0 then (none) else (some (wrap64 ((wrap64 (Int.tdiv a0 t340)) * a1))))
set_option maxHeartbeats 8000000 in
theorem zer.calls (k : Nat) (a0 : Int) (a1 : Int) (r : Int) (w : World) (h : zer.f k a0 a1 = some r) :
  Calls Try.prog 69 #[.int .i64 a0, .int .i64 a1] w fun e w' => e = .returned (.int .i64 r) ∧ zbu w w' := by
 have H : ((zc6.f k a0 a1).bind fun t340 => (if t340 = 0 then (none) else (some (wrap64 ((wrap64 (Int.tdiv a0 t340)) * a1))))) = some r := h
 clear h
 replace H := Option.bind_eq_some_iff.mp H
 obtain ⟨t340, A30, H⟩ := H
 replace H : (if t340 = 0 then (none) else (some (wrap64 ((wrap64 (Int.tdiv a0 t340)) * a1)))) = some r := H
 have A3 := za.mk A30
 clear A30
 by_cases c4 : t340 = 0
 ·rw [if_pos c4] at H
  exact absurd H (by simp)
 ·rw [if_neg c4] at H
  have c4b0 : (t340 == 0) = false := beq_eq_false_iff_ne.mpr c4;have c4b1 : (t340 != 0) = true := bne_iff_ne.mpr c4;obtain rfl := Option.some.inj H;go_enter Try.func69, Try.ntmps69;go_wp2_with (first | ((with_reducible refine zw (f := 68) rfl ?_); refine zbw (some 8) rfl rfl Try.func68 (by kernel_rfl) rfl #[.int .i64 a0, .int .i64 a1] rfl Zmt ?_; (with_reducible refine (zc6.calls k a0 a1 t340 _ A3.out).mono ?_); rintro e w' ⟨rfl, ⟨nd, rfl⟩⟩; refine ⟨_, rfl, ?_⟩));go_ret;exact ⟨by first | rfl | (simp; done) | (simp [*]; done), by repeat (first | exact zbu.refl _ | apply zbu.step)⟩
def zck.l0 : Nat → Int → List (S35) → Int → Int → Option (Int)
 | 0, _, _, _, _ => none
 | k + 1, x3, x6, x7, x8 => if x8 < x7 then (if 0 ≤ x8 then (if x8 < (x6.length : Int) then ((zer.f k x3 ((zf x6 x8).f2)).bind fun t343 => (zck.l0 k t343 x6 x7 (wrap64 (x8 + 1)))) else (none)) else (none)) else (some x3)
def zck.f (k : Nat) (l0 : List (S35)) : Option (Int) := zck.l0 k 1 l0 (l0.length : Int) 0
set_option maxHeartbeats 8000000 in
theorem zck.calls (k : Nat) (A0 : Option Addr) (c0 : Nat) (l0 : List (S35)) (r : Int) (w : World) (hr0 : Kd.C k35 w A0 l0.length l0) (hc0 : l0.length ≤ c0) (h : zck.f k l0 = some r) :
  Calls Try.prog 42 #[.slice A0 l0.length c0] w fun e w' => e = .returned (.int .i64 r) ∧ Below w.heap.size w w' := by
 have hu35 := Try.underlying35
 have HR0 := za.mk hr0
 have HC0 := za.mk hc0
 clear hr0 hc0
 have HB := za.mk (Below.refl w.heap.size w)
 have H : (zck.l0 k 1 l0 (l0.length : Int) 0) = some r := h
 clear h
 have H' := za.mk H
 clear H
 go_enter Try.func42, Try.ntmps42
 go_wp2
 go_loopg [3, 8] k (fun kq v3 v8 w' => ∃ (x3_1 : Int) (x8_1 : Int), v3 = .int .i64 x3_1 ∧ v8 = .int .i64 x8_1 ∧ za (zck.l0 kq x3_1 l0 (l0.length : Int) x8_1 = some r) ∧ za (kq ≤ k) ∧ za (Below w.heap.size w w'))
 case atStart => exact ⟨(1), (0), Zrs, Zrs, H', ⟨Nat.le_refl _⟩, ⟨Zq1 HB⟩⟩
 case round =>
  clear H';obtain ⟨x3_1, x8_1, rfl, rfl, HA, HK1, HB⟩ := hrel
  cases gk with
  | zero => exact absurd HA.out (by simp [zck.l0])
  | succ k1 =>
   have H := HA.out;clear HA;simp only [zck.l0] at H;by_cases c2 : x8_1 < (l0.length : Int)
   ·rw [if_pos c2] at H
    have c2b0 : decide (x8_1 < (l0.length : Int)) = true := decide_eq_true c2;clear c2;by_cases c3 : 0 ≤ x8_1
    ·rw [if_pos c3] at H
     have c3b0 : decide (0 ≤ x8_1) = true := decide_eq_true c3;clear c3;by_cases c4 : x8_1 < (l0.length : Int)
     ·rw [if_pos c4] at H
      have c4b0 : decide (x8_1 < (l0.length : Int)) = true := decide_eq_true c4;clear c4;replace H := Option.bind_eq_some_iff.mp H;obtain ⟨t343, A50, H⟩ := H;replace H : (zck.l0 k1 t343 l0 (l0.length : Int) (wrap64 (x8_1 + 1))) = some r := H;have A5 := za.mk A50;clear A50;have H' := za.mk H;clear H;have p341 : 0 ≤ (x8_1 : Int) := of_decide_eq_true Zas;have q341 : x8_1 < (l0.length : Int) := of_decide_eq_true Zas;obtain ⟨ad341, e341, hx341_0, hx341_1, hx341_2⟩ := zcm HR0.out x8_1 p341 q341
      cases e341
      replace hx341_0 := (HB.out.cell (World.block_lt_of_cell? w _ hx341_0)).trans hx341_0;replace hx341_1 := (HB.out.cell (World.block_lt_of_cell? w _ hx341_1)).trans hx341_1;replace hx341_2 := (HB.out.cell (World.block_lt_of_cell? w _ hx341_2)).trans hx341_2;replace p341 := eq_true p341;replace q341 := eq_true q341;go_wp2_with (first | ((with_reducible refine zby (N := 5) rfl ?_); refine zb2 ?hg (N := 5) ?hd (cs := #[.int .i64 0, .int .i64 0, .int .i64 0]) (t := 35) ?hr ?_; (case hd => rfl); (case hg => rfl); (case hr => first | (go_simp; done) | (go_simp; rfl)); intro gb342 hg w6 hbox hb; have n0_ := za.mk (zm (Zq1 HB) hb); have n1_ := za.mk (hbox); have n2_ := za.mk ((by rw [hg]; exact (zbb (Zq1 HB)) : w.heap.size ≤ gb342)); have n3_ := za.mk ((by rw [hg]; exact (zbb (Zq1 HB)) : w.heap.size ≤ gb342)); clear HB; have HB := n0_; have BK342 := n1_; have GW342 := n2_; have GE342 := n3_; clear n0_ n1_ n2_ n3_; clear hb hbox hg; have hcz7_0 : w6.cell? ⟨gb342, 0, none⟩ = some (.int .i64 0) := (ze BK342.out 0).trans rfl; have hcz7_1 : w6.cell? ⟨gb342, 1, none⟩ = some (.int .i64 0) := (ze BK342.out 1).trans rfl; have hcz7_2 : w6.cell? ⟨gb342, 2, none⟩ = some (.int .i64 0) := (ze BK342.out 2).trans rfl; have hfz7_0 := zo BK342.out 0; have hfz7_1 := zo BK342.out 1; have hfz7_2 := zo BK342.out 2) | ((with_reducible refine zw (f := 69) rfl ?_); refine zbw (some 15) rfl rfl Try.func69 (by kernel_rfl) rfl #[.int .i64 x3_1, .int .i64 ((zf l0 x8_1).f2)] rfl Zmt ?_; (with_reducible refine (zer.calls k1 x3_1 ((zf l0 x8_1).f2) t343 _ A5.out).mono ?_); rintro e w' ⟨rfl, ⟨nd, rfl⟩⟩; refine ⟨_, rfl, ?_⟩));go_roundg k1
      case measure => have := HK1.out; omega
      case rel => exact ⟨(t343), (wrap64 (x8_1 + 1)), Zrs, Zrs, H', ⟨by have := HK1.out; omega⟩, ⟨Zq3 HB GE342⟩⟩
     ·rw [if_neg c4] at H
      exact absurd H (by simp)
    ·rw [if_neg c3] at H
     exact absurd H (by simp)
   ·rw [if_neg c2] at H
    have c2b0 : decide (x8_1 < (l0.length : Int)) = false := decide_eq_false c2;clear c2;obtain rfl := Option.some.inj H;go_wp2;go_ret;exact ⟨by first | rfl | (simp [zq, zt] <;> rfl) | (simp [*, zq, zt] <;> rfl), Zq1 HB⟩
def zci.l0 : Nat → Int → Int → List (S35) → Int → Int → Option (Int)
 | 0, _, _, _, _, _ => none
 | k + 1, x1, x5, x8, x9, x10 => if x10 < x9 then (if 0 ≤ x10 then (if x10 < (x8.length : Int) then (if x1 ≥ ((zf x8 x10).f1) then (if ((zf x8 x10).f2) = 0 then (none) else (zci.l0 k x1 (wrap64 (x5 + (wrap64 ((wrap64 ((wrap64 (Int.tdiv (wrap64 (x1 - ((zf x8 x10).f1))) ((zf x8 x10).f2))) + 1)) * ((zf x8 x10).f0))))) x8 x9 (wrap64 (x10 + 1)))) else (zci.l0 k x1 x5 x8 x9 (wrap64 (x10 + 1)))) else (none)) else (none)) else (some x5)
def zci.f (k : Nat) (l0 : List (S35)) (a1 : Int) : Option (Int) := zci.l0 k a1 0 l0 (l0.length : Int) 0
set_option maxHeartbeats 8000000 in
theorem zci.calls (k : Nat) (A0 : Option Addr) (c0 : Nat) (l0 : List (S35)) (a1 : Int) (r : Int) (w : World) (hr0 : Kd.C k35 w A0 l0.length l0) (hc0 : l0.length ≤ c0) (h : zci.f k l0 a1 = some r) :
  Calls Try.prog 78 #[.slice A0 l0.length c0, .int .i64 a1] w fun e w' => e = .returned (.int .i64 r) ∧ Below w.heap.size w w' := by
 have hu35 := Try.underlying35
 have HR0 := za.mk hr0
 have HC0 := za.mk hc0
 clear hr0 hc0
 have HB := za.mk (Below.refl w.heap.size w)
 have H : (zci.l0 k a1 0 l0 (l0.length : Int) 0) = some r := h
 clear h
 have H' := za.mk H
 clear H
 go_enter Try.func78, Try.ntmps78
 go_wp2
 repeat (go_quiet (fail); try go_wp2)
 go_loopg [5, 10] k (fun kq v5 v10 w' => ∃ (x5_1 : Int) (x10_1 : Int), v5 = .int .i64 x5_1 ∧ v10 = .int .i64 x10_1 ∧ za (zci.l0 kq a1 x5_1 l0 (l0.length : Int) x10_1 = some r) ∧ za (kq ≤ k) ∧ za (Below w.heap.size w w'))
 case atStart => exact ⟨(0), (0), Zrs, Zrs, H', ⟨Nat.le_refl _⟩, ⟨Zq1 HB⟩⟩
 case round =>
  clear H'
  try clear p2
  obtain ⟨x5_1, x10_1, rfl, rfl, HA, HK1, HB⟩ := hrel
  cases gk with
  | zero => exact absurd HA.out (by simp [zci.l0])
  | succ k1 =>
   have H := HA.out;clear HA;simp only [zci.l0] at H;by_cases c3 : x10_1 < (l0.length : Int)
   ·rw [if_pos c3] at H
    have c3b0 : decide (x10_1 < (l0.length : Int)) = true := decide_eq_true c3;clear c3;by_cases c4 : 0 ≤ x10_1
    ·rw [if_pos c4] at H
     have c4b0 : decide (0 ≤ x10_1) = true := decide_eq_true c4;clear c4;by_cases c5 : x10_1 < (l0.length : Int)
     ·rw [if_pos c5] at H
      have c5b0 : decide (x10_1 < (l0.length : Int)) = true := decide_eq_true c5;clear c5;by_cases c6 : a1 ≥ ((zf l0 x10_1).f1)
      ·rw [if_pos c6] at H
       have c6b0 : decide (((zf l0 x10_1).f1) ≤ a1) = true := decide_eq_true c6;clear c6;by_cases c7 : ((zf l0 x10_1).f2) = 0
       ·rw [if_pos c7] at H
        exact absurd H (by simp)
       ·rw [if_neg c7] at H
        have c7b0 : (((zf l0 x10_1).f2) == 0) = false := beq_eq_false_iff_ne.mpr c7;have c7b1 : (((zf l0 x10_1).f2) != 0) = true := bne_iff_ne.mpr c7;have H' := za.mk H;clear H;have p358 : 0 ≤ (x10_1 : Int) := of_decide_eq_true Zas;have q358 : x10_1 < (l0.length : Int) := of_decide_eq_true Zas;obtain ⟨ad358, e358, hx358_0, hx358_1, hx358_2⟩ := zcm HR0.out x10_1 p358 q358
        cases e358
        replace hx358_0 := (HB.out.cell (World.block_lt_of_cell? w _ hx358_0)).trans hx358_0;replace hx358_1 := (HB.out.cell (World.block_lt_of_cell? w _ hx358_1)).trans hx358_1;replace hx358_2 := (HB.out.cell (World.block_lt_of_cell? w _ hx358_2)).trans hx358_2;replace p358 := eq_true p358;replace q358 := eq_true q358;go_wp2_with (first | ((with_reducible refine zby (N := 7) rfl ?_); refine zb2 ?hg (N := 7) ?hd (cs := #[.int .i64 0, .int .i64 0, .int .i64 0]) (t := 35) ?hr ?_; (case hd => rfl); (case hg => rfl); (case hr => first | (go_simp; done) | (go_simp; rfl)); intro gb359 hg w8 hbox hb; have n0_ := za.mk (zm (Zq1 HB) hb); have n1_ := za.mk (hbox); have n2_ := za.mk ((by rw [hg]; exact (zbb (Zq1 HB)) : w.heap.size ≤ gb359)); have n3_ := za.mk ((by rw [hg]; exact (zbb (Zq1 HB)) : w.heap.size ≤ gb359)); clear HB; have HB := n0_; have BK359 := n1_; have GW359 := n2_; have GE359 := n3_; clear n0_ n1_ n2_ n3_; clear hb hbox hg; have hcz9_0 : w8.cell? ⟨gb359, 0, none⟩ = some (.int .i64 0) := (ze BK359.out 0).trans rfl; have hcz9_1 : w8.cell? ⟨gb359, 1, none⟩ = some (.int .i64 0) := (ze BK359.out 1).trans rfl; have hcz9_2 : w8.cell? ⟨gb359, 2, none⟩ = some (.int .i64 0) := (ze BK359.out 2).trans rfl; have hfz9_0 := zo BK359.out 0; have hfz9_1 := zo BK359.out 1; have hfz9_2 := zo BK359.out 2))
        repeat (go_quiet (first | ((with_reducible refine zby (N := 7) rfl ?_); refine zb2 ?hg (N := 7) ?hd (cs := #[.int .i64 0, .int .i64 0, .int .i64 0]) (t := 35) ?hr ?_; (case hd => rfl); (case hg => rfl); (case hr => first | (go_simp; done) | (go_simp; rfl)); intro gb359 hg w8 hbox hb; have n0_ := za.mk (zm (Zq1 HB) hb); have n1_ := za.mk (hbox); have n2_ := za.mk ((by rw [hg]; exact (zbb (Zq1 HB)) : w.heap.size ≤ gb359)); have n3_ := za.mk ((by rw [hg]; exact (zbb (Zq1 HB)) : w.heap.size ≤ gb359)); clear HB; have HB := n0_; have BK359 := n1_; have GW359 := n2_; have GE359 := n3_; clear n0_ n1_ n2_ n3_; clear hb hbox hg; have hcz9_0 : w8.cell? ⟨gb359, 0, none⟩ = some (.int .i64 0) := (ze BK359.out 0).trans rfl; have hcz9_1 : w8.cell? ⟨gb359, 1, none⟩ = some (.int .i64 0) := (ze BK359.out 1).trans rfl; have hcz9_2 : w8.cell? ⟨gb359, 2, none⟩ = some (.int .i64 0) := (ze BK359.out 2).trans rfl; have hfz9_0 := zo BK359.out 0; have hfz9_1 := zo BK359.out 1; have hfz9_2 := zo BK359.out 2)); try go_wp2_with (first | ((with_reducible refine zby (N := 7) rfl ?_); refine zb2 ?hg (N := 7) ?hd (cs := #[.int .i64 0, .int .i64 0, .int .i64 0]) (t := 35) ?hr ?_; (case hd => rfl); (case hg => rfl); (case hr => first | (go_simp; done) | (go_simp; rfl)); intro gb359 hg w8 hbox hb; have n0_ := za.mk (zm (Zq1 HB) hb); have n1_ := za.mk (hbox); have n2_ := za.mk ((by rw [hg]; exact (zbb (Zq1 HB)) : w.heap.size ≤ gb359)); have n3_ := za.mk ((by rw [hg]; exact (zbb (Zq1 HB)) : w.heap.size ≤ gb359)); clear HB; have HB := n0_; have BK359 := n1_; have GW359 := n2_; have GE359 := n3_; clear n0_ n1_ n2_ n3_; clear hb hbox hg; have hcz9_0 : w8.cell? ⟨gb359, 0, none⟩ = some (.int .i64 0) := (ze BK359.out 0).trans rfl; have hcz9_1 : w8.cell? ⟨gb359, 1, none⟩ = some (.int .i64 0) := (ze BK359.out 1).trans rfl; have hcz9_2 : w8.cell? ⟨gb359, 2, none⟩ = some (.int .i64 0) := (ze BK359.out 2).trans rfl; have hfz9_0 := zo BK359.out 0; have hfz9_1 := zo BK359.out 1; have hfz9_2 := zo BK359.out 2)))
        go_roundg k1
        case measure => have := HK1.out; omega
        case rel => exact ⟨(wrap64 (x5_1 + (wrap64 ((wrap64 ((wrap64 (Int.tdiv (wrap64 (a1 - ((zf l0 x10_1).f1))) ((zf l0 x10_1).f2))) + 1)) * ((zf l0 x10_1).f0))))), (wrap64 (x10_1 + 1)), Zrs, Zrs, H', ⟨by have := HK1.out; omega⟩, ⟨Zq3 HB GE359⟩⟩
      ·rw [if_neg c6] at H
       have c6b0 : decide (((zf l0 x10_1).f1) ≤ a1) = false := decide_eq_false c6;clear c6;have H' := za.mk H;clear H;have p358 : 0 ≤ (x10_1 : Int) := of_decide_eq_true Zas;have q358 : x10_1 < (l0.length : Int) := of_decide_eq_true Zas;obtain ⟨ad358, e358, hx358_0, hx358_1, hx358_2⟩ := zcm HR0.out x10_1 p358 q358
       cases e358
       replace hx358_0 := (HB.out.cell (World.block_lt_of_cell? w _ hx358_0)).trans hx358_0;replace hx358_1 := (HB.out.cell (World.block_lt_of_cell? w _ hx358_1)).trans hx358_1;replace hx358_2 := (HB.out.cell (World.block_lt_of_cell? w _ hx358_2)).trans hx358_2;replace p358 := eq_true p358;replace q358 := eq_true q358;go_wp2_with (first | ((with_reducible refine zby (N := 7) rfl ?_); refine zb2 ?hg (N := 7) ?hd (cs := #[.int .i64 0, .int .i64 0, .int .i64 0]) (t := 35) ?hr ?_; (case hd => rfl); (case hg => rfl); (case hr => first | (go_simp; done) | (go_simp; rfl)); intro gb359 hg w10 hbox hb; have n0_ := za.mk (zm (Zq1 HB) hb); have n1_ := za.mk (hbox); have n2_ := za.mk ((by rw [hg]; exact (zbb (Zq1 HB)) : w.heap.size ≤ gb359)); have n3_ := za.mk ((by rw [hg]; exact (zbb (Zq1 HB)) : w.heap.size ≤ gb359)); clear HB; have HB := n0_; have BK359 := n1_; have GW359 := n2_; have GE359 := n3_; clear n0_ n1_ n2_ n3_; clear hb hbox hg; have hcz11_0 : w10.cell? ⟨gb359, 0, none⟩ = some (.int .i64 0) := (ze BK359.out 0).trans rfl; have hcz11_1 : w10.cell? ⟨gb359, 1, none⟩ = some (.int .i64 0) := (ze BK359.out 1).trans rfl; have hcz11_2 : w10.cell? ⟨gb359, 2, none⟩ = some (.int .i64 0) := (ze BK359.out 2).trans rfl; have hfz11_0 := zo BK359.out 0; have hfz11_1 := zo BK359.out 1; have hfz11_2 := zo BK359.out 2))
       repeat (go_quiet (first | ((with_reducible refine zby (N := 7) rfl ?_); refine zb2 ?hg (N := 7) ?hd (cs := #[.int .i64 0, .int .i64 0, .int .i64 0]) (t := 35) ?hr ?_; (case hd => rfl); (case hg => rfl); (case hr => first | (go_simp; done) | (go_simp; rfl)); intro gb359 hg w10 hbox hb; have n0_ := za.mk (zm (Zq1 HB) hb); have n1_ := za.mk (hbox); have n2_ := za.mk ((by rw [hg]; exact (zbb (Zq1 HB)) : w.heap.size ≤ gb359)); have n3_ := za.mk ((by rw [hg]; exact (zbb (Zq1 HB)) : w.heap.size ≤ gb359)); clear HB; have HB := n0_; have BK359 := n1_; have GW359 := n2_; have GE359 := n3_; clear n0_ n1_ n2_ n3_; clear hb hbox hg; have hcz11_0 : w10.cell? ⟨gb359, 0, none⟩ = some (.int .i64 0) := (ze BK359.out 0).trans rfl; have hcz11_1 : w10.cell? ⟨gb359, 1, none⟩ = some (.int .i64 0) := (ze BK359.out 1).trans rfl; have hcz11_2 : w10.cell? ⟨gb359, 2, none⟩ = some (.int .i64 0) := (ze BK359.out 2).trans rfl; have hfz11_0 := zo BK359.out 0; have hfz11_1 := zo BK359.out 1; have hfz11_2 := zo BK359.out 2)); try go_wp2_with (first | ((with_reducible refine zby (N := 7) rfl ?_); refine zb2 ?hg (N := 7) ?hd (cs := #[.int .i64 0, .int .i64 0, .int .i64 0]) (t := 35) ?hr ?_; (case hd => rfl); (case hg => rfl); (case hr => first | (go_simp; done) | (go_simp; rfl)); intro gb359 hg w10 hbox hb; have n0_ := za.mk (zm (Zq1 HB) hb); have n1_ := za.mk (hbox); have n2_ := za.mk ((by rw [hg]; exact (zbb (Zq1 HB)) : w.heap.size ≤ gb359)); have n3_ := za.mk ((by rw [hg]; exact (zbb (Zq1 HB)) : w.heap.size ≤ gb359)); clear HB; have HB := n0_; have BK359 := n1_; have GW359 := n2_; have GE359 := n3_; clear n0_ n1_ n2_ n3_; clear hb hbox hg; have hcz11_0 : w10.cell? ⟨gb359, 0, none⟩ = some (.int .i64 0) := (ze BK359.out 0).trans rfl; have hcz11_1 : w10.cell? ⟨gb359, 1, none⟩ = some (.int .i64 0) := (ze BK359.out 1).trans rfl; have hcz11_2 : w10.cell? ⟨gb359, 2, none⟩ = some (.int .i64 0) := (ze BK359.out 2).trans rfl; have hfz11_0 := zo BK359.out 0; have hfz11_1 := zo BK359.out 1; have hfz11_2 := zo BK359.out 2)))
       go_roundg k1
       case measure => have := HK1.out; omega
       case rel => exact ⟨(x5_1), (wrap64 (x10_1 + 1)), Zrs, Zrs, H', ⟨by have := HK1.out; omega⟩, ⟨Zq3 HB GE359⟩⟩
     ·rw [if_neg c5] at H
      exact absurd H (by simp)
    ·rw [if_neg c4] at H
     exact absurd H (by simp)
   ·rw [if_neg c3] at H
    have c3b0 : decide (x10_1 < (l0.length : Int)) = false := decide_eq_false c3;clear c3;obtain rfl := Option.some.inj H;go_wp2
    repeat (go_quiet (fail); try go_wp2)
    go_ret;exact ⟨by first | rfl | (simp [zq, zt] <;> rfl) | (simp [*, zq, zt] <;> rfl), Zq1 HB⟩
def zbo.l0 : Nat → List (S35) → Int → Option (Int)
 | 0, _, _ => none
 | k + 1, x0, x3 => (zck.f k x0).bind fun t361 => (if x3 ≤ t361 then ((zci.f k x0 x3).bind fun t362 => (if t362 > x3 then (some x3) else (zbo.l0 k x0 (wrap64 (x3 + 1))))) else (some (-1)))
def zbo.f (k : Nat) (l0 : List (S35)) : Option (Int) := (zcd.f l0).bind fun t360 => (if t360 = true then (zbo.l0 k l0 1) else (some (-1)))
set_option maxHeartbeats 8000000 in
theorem zbo.calls (k : Nat) (A0 : Option Addr) (c0 : Nat) (l0 : List (S35)) (r : Int) (w : World) (hr0 : Kd.C k35 w A0 l0.length l0) (hc0 : l0.length ≤ c0) (h : zbo.f k l0 = some r) :
  Calls Try.prog 70 #[.slice A0 l0.length c0] w fun e w' => e = .returned (.int .i64 r) ∧ Below w.heap.size w w' := by
 have HR0 := za.mk hr0
 have HC0 := za.mk hc0
 clear hr0 hc0
 have HB := za.mk (Below.refl w.heap.size w)
 have H : ((zcd.f l0).bind fun t360 => (if t360 = true then (zbo.l0 k l0 1) else (some (-1)))) = some r := h
 clear h
 replace H := Option.bind_eq_some_iff.mp H
 obtain ⟨t360, A20, H⟩ := H
 replace H : (if t360 = true then (zbo.l0 k l0 1) else (some (-1))) = some r := H
 have A2 := za.mk A20
 clear A20
 by_cases c3 : t360 = true
 ·subst c3
  have H1 : (zbo.l0 k l0 1) = some r := by rw [if_pos rfl] at H; exact H
  clear H;have H := H1;clear H1;have H' := za.mk H;clear H;go_enter Try.func70, Try.ntmps70;go_wp2_with (first | ((with_reducible refine zw (f := 39) rfl ?_); refine zbw (some 5) rfl rfl Try.func39 (by kernel_rfl) rfl #[.slice A0 l0.length c0] rfl Zmt ?_; (with_reducible refine (zcd.calls _ _ l0 true _ ?side1 ?side2 A2.out).mono ?_); (case side1 => exact Zq17 HR0); (case side2 => exact HC0.out); rintro e w4 ⟨rfl, hb⟩; refine ⟨_, rfl, ?_⟩; have n0_ := za.mk (zm (Zq1 HB) hb); clear HB; have HB := n0_; clear n0_; (try clear hb); (try clear hb2); (try clear hk); (try clear hi)))
  go_loopg [3] k (fun kq v3 w' => ∃ (x3_1 : Int), v3 = .int .i64 x3_1 ∧ za (zbo.l0 kq l0 x3_1 = some r) ∧ za (kq ≤ k) ∧ za (Below w.heap.size w w'))
  case atStart => exact ⟨(1), Zrs, H', ⟨Nat.le_refl _⟩, ⟨Zq1 HB⟩⟩
  case round =>
   clear H'
   (try clear p2);(try clear c3)
   obtain ⟨x3_1, rfl, HA, HK1, HB⟩ := hrel
   cases gk with
   | zero => exact absurd HA.out (by simp [zbo.l0])
   | succ k1 =>
    have H := HA.out;clear HA;simp only [zbo.l0] at H;replace H := Option.bind_eq_some_iff.mp H;obtain ⟨t361, A50, H⟩ := H;replace H : (if x3_1 ≤ t361 then ((zci.f k1 l0 x3_1).bind fun t362 => (if t362 > x3_1 then (some x3_1) else (zbo.l0 k1 l0 (wrap64 (x3_1 + 1))))) else (some (-1))) = some r := H;have A5 := za.mk A50;clear A50;by_cases c6 : x3_1 ≤ t361
    ·rw [if_pos c6] at H
     have c6b0 : decide (x3_1 ≤ t361) = true := decide_eq_true c6;clear c6;replace H := Option.bind_eq_some_iff.mp H;obtain ⟨t362, A70, H⟩ := H;replace H : (if t362 > x3_1 then (some x3_1) else (zbo.l0 k1 l0 (wrap64 (x3_1 + 1)))) = some r := H;have A7 := za.mk A70;clear A70;by_cases c8 : t362 > x3_1
     ·rw [if_pos c8] at H
      have c8b0 : decide (x3_1 < t362) = true := decide_eq_true c8;clear c8;obtain rfl := Option.some.inj H;go_wp2_with (first | ((with_reducible refine zw (f := 42) rfl ?_); refine zbw (some 9) rfl rfl Try.func42 (by kernel_rfl) rfl #[.slice A0 l0.length c0] rfl Zmt ?_; (with_reducible refine (zck.calls k1 _ _ l0 t361 _ ?side1 ?side2 A5.out).mono ?_); (case side1 => exact Zq18 (Kd.zc3 HR0.out HB.out)); (case side2 => exact HC0.out); rintro e w9 ⟨rfl, hb⟩; refine ⟨_, rfl, ?_⟩; have n0_ := za.mk (zm (Zq1 HB) hb); clear HB; have HB := n0_; clear n0_; (try clear hb); (try clear hb2); (try clear hk); (try clear hi)) | ((with_reducible refine zw (f := 78) rfl ?_); refine zbw (some 15) rfl rfl Try.func78 (by kernel_rfl) rfl #[.slice A0 l0.length c0, .int .i64 x3_1] rfl Zmt ?_; (with_reducible refine (zci.calls k1 _ _ l0 x3_1 t362 _ ?side1 ?side2 A7.out).mono ?_); (case side1 => exact Zq18 (Kd.zc3 HR0.out HB.out)); (case side2 => exact HC0.out); rintro e w10 ⟨rfl, hb⟩; refine ⟨_, rfl, ?_⟩; have n0_ := za.mk (zm (Zq1 HB) hb); clear HB; have HB := n0_; clear n0_; (try clear hb); (try clear hb2); (try clear hk); (try clear hi)));go_ret;exact ⟨by first | rfl | (simp [zq, zt] <;> rfl) | (simp [*, zq, zt] <;> rfl), Zq1 HB⟩
     ·rw [if_neg c8] at H
      have c8b0 : decide (x3_1 < t362) = false := decide_eq_false c8;clear c8;have H' := za.mk H;clear H;go_wp2_with (first | ((with_reducible refine zw (f := 42) rfl ?_); refine zbw (some 9) rfl rfl Try.func42 (by kernel_rfl) rfl #[.slice A0 l0.length c0] rfl Zmt ?_; (with_reducible refine (zck.calls k1 _ _ l0 t361 _ ?side1 ?side2 A5.out).mono ?_); (case side1 => exact Zq18 (Kd.zc3 HR0.out HB.out)); (case side2 => exact HC0.out); rintro e w11 ⟨rfl, hb⟩; refine ⟨_, rfl, ?_⟩; have n0_ := za.mk (zm (Zq1 HB) hb); clear HB; have HB := n0_; clear n0_; (try clear hb); (try clear hb2); (try clear hk); (try clear hi)) | ((with_reducible refine zw (f := 78) rfl ?_); refine zbw (some 15) rfl rfl Try.func78 (by kernel_rfl) rfl #[.slice A0 l0.length c0, .int .i64 x3_1] rfl Zmt ?_; (with_reducible refine (zci.calls k1 _ _ l0 x3_1 t362 _ ?side1 ?side2 A7.out).mono ?_); (case side1 => exact Zq18 (Kd.zc3 HR0.out HB.out)); (case side2 => exact HC0.out); rintro e w12 ⟨rfl, hb⟩; refine ⟨_, rfl, ?_⟩; have n0_ := za.mk (zm (Zq1 HB) hb); clear HB; have HB := n0_; clear n0_; (try clear hb); (try clear hb2); (try clear hk); (try clear hi)));go_roundg k1
      case measure => have := HK1.out; omega
      case rel => exact ⟨(wrap64 (x3_1 + 1)), Zrs, H', ⟨by have := HK1.out; omega⟩, ⟨Zq1 HB⟩⟩
    ·rw [if_neg c6] at H
     have c6b0 : decide (x3_1 ≤ t361) = false := decide_eq_false c6;clear c6;obtain rfl := Option.some.inj H;go_wp2_with (first | ((with_reducible refine zw (f := 42) rfl ?_); refine zbw (some 9) rfl rfl Try.func42 (by kernel_rfl) rfl #[.slice A0 l0.length c0] rfl Zmt ?_; (with_reducible refine (zck.calls k1 _ _ l0 t361 _ ?side1 ?side2 A5.out).mono ?_); (case side1 => exact Zq18 (Kd.zc3 HR0.out HB.out)); (case side2 => exact HC0.out); rintro e w13 ⟨rfl, hb⟩; refine ⟨_, rfl, ?_⟩; have n0_ := za.mk (zm (Zq1 HB) hb); clear HB; have HB := n0_; clear n0_; (try clear hb); (try clear hb2); (try clear hk); (try clear hi)));go_ret;exact ⟨by first | rfl | (simp [zq, zt] <;> rfl) | (simp [*, zq, zt] <;> rfl), Zq1 HB⟩
 ·replace c3 := Bool.eq_false_iff.mpr c3
  subst c3;have H1 : (some (-1)) = some r := by rw [if_neg (show ¬ (false = true) by decide)] at H; exact H
  clear H;have H := H1;clear H1;obtain rfl := Option.some.inj H;go_enter Try.func70, Try.ntmps70;go_wp2_with (first | ((with_reducible refine zw (f := 39) rfl ?_); refine zbw (some 5) rfl rfl Try.func39 (by kernel_rfl) rfl #[.slice A0 l0.length c0] rfl Zmt ?_; (with_reducible refine (zcd.calls _ _ l0 false _ ?side1 ?side2 A2.out).mono ?_); (case side1 => exact Zq17 HR0); (case side2 => exact HC0.out); rintro e w14 ⟨rfl, hb⟩; refine ⟨_, rfl, ?_⟩; have n0_ := za.mk (zm (Zq1 HB) hb); clear HB; have HB := n0_; clear n0_; (try clear hb); (try clear hb2); (try clear hk); (try clear hi)));go_ret;exact ⟨by first | rfl | (simp [zq, zt] <;> rfl) | (simp [*, zq, zt] <;> rfl), Zq1 HB⟩
def zc7.f (k : Nat) (l0 : List (S35)) : Option (Bool) := (zbo.f k l0).bind fun t363 => (some (decide (t363 < 0)))
set_option maxHeartbeats 8000000 in
theorem zc7.calls (k : Nat) (A0 : Option Addr) (c0 : Nat) (l0 : List (S35)) (r : Bool) (w : World) (hr0 : Kd.C k35 w A0 l0.length l0) (hc0 : l0.length ≤ c0) (h : zc7.f k l0 = some r) :
  Calls Try.prog 44 #[.slice A0 l0.length c0] w fun e w' => e = .returned (.bool r) ∧ Below w.heap.size w w' := by
 have HR0 := za.mk hr0
 have HC0 := za.mk hc0
 clear hr0 hc0
 have HB := za.mk (Below.refl w.heap.size w)
 have H : ((zbo.f k l0).bind fun t363 => (some (decide (t363 < 0)))) = some r := h
 clear h
 replace H := Option.bind_eq_some_iff.mp H
 obtain ⟨t363, A20, H⟩ := H
 replace H : (some (decide (t363 < 0))) = some r := H
 have A2 := za.mk A20
 clear A20
 obtain rfl := Option.some.inj H
 go_enter Try.func44, Try.ntmps44
 go_wp2_with (first | ((with_reducible refine zw (f := 70) rfl ?_); refine zbw (some 4) rfl rfl Try.func70 (by kernel_rfl) rfl #[.slice A0 l0.length c0] rfl Zmt ?_; (with_reducible refine (zbo.calls k _ _ l0 t363 _ ?side1 ?side2 A2.out).mono ?_); (case side1 => exact Zq17 HR0); (case side2 => exact HC0.out); rintro e w3 ⟨rfl, hb⟩; refine ⟨_, rfl, ?_⟩; have n0_ := za.mk (zm (Zq1 HB) hb); clear HB; have HB := n0_; clear n0_; (try clear hb); (try clear hb2); (try clear hk); (try clear hi)))
 go_ret
 exact ⟨by first | rfl | (simp [zq, zt] <;> rfl) | (simp [*, zq, zt] <;> rfl), Zq1 HB⟩
def zce.f (k : Nat) (l0 : List (S35)) : Option (Bool) := (zcd.f l0).bind fun t364 => (if t364 = true then ((zc7.f k l0).bind fun t365 => (some t365)) else (some false))
set_option maxHeartbeats 8000000 in
theorem zce.calls (k : Nat) (A0 : Option Addr) (c0 : Nat) (l0 : List (S35)) (r : Bool) (w : World) (hr0 : Kd.C k35 w A0 l0.length l0) (hc0 : l0.length ≤ c0) (h : zce.f k l0 = some r) :
  Calls Try.prog 15 #[.slice A0 l0.length c0] w fun e w' => e = .returned (.bool r) ∧ Below w.heap.size w w' := by
 have HR0 := za.mk hr0
 have HC0 := za.mk hc0
 clear hr0 hc0
 have HB := za.mk (Below.refl w.heap.size w)
 have H : ((zcd.f l0).bind fun t364 => (if t364 = true then ((zc7.f k l0).bind fun t365 => (some t365)) else (some false))) = some r := h
 clear h
 replace H := Option.bind_eq_some_iff.mp H
 obtain ⟨t364, A20, H⟩ := H
 replace H : (if t364 = true then ((zc7.f k l0).bind fun t365 => (some t365)) else (some false)) = some r := H
 have A2 := za.mk A20
 clear A20
 by_cases c3 : t364 = true
 ·subst c3
  have H1 : ((zc7.f k l0).bind fun t365 => (some t365)) = some r := by rw [if_pos rfl] at H; exact H
  clear H;have H := H1;clear H1;replace H := Option.bind_eq_some_iff.mp H;obtain ⟨t365, A40, H⟩ := H;replace H : (some t365) = some r := H;have A4 := za.mk A40;clear A40;obtain rfl := Option.some.inj H;go_enter Try.func15, Try.ntmps15;go_wp2_with (first | ((with_reducible refine zw (f := 39) rfl ?_); refine zbw (some 4) rfl rfl Try.func39 (by kernel_rfl) rfl #[.slice A0 l0.length c0] rfl Zmt ?_; (with_reducible refine (zcd.calls _ _ l0 true _ ?side1 ?side2 A2.out).mono ?_); (case side1 => exact Zq17 HR0); (case side2 => exact HC0.out); rintro e w5 ⟨rfl, hb⟩; refine ⟨_, rfl, ?_⟩; have n0_ := za.mk (zm (Zq1 HB) hb); clear HB; have HB := n0_; clear n0_; (try clear hb); (try clear hb2); (try clear hk); (try clear hi)) | (go_at_call 44; (with_reducible refine (zc7.calls k _ _ l0 t365 _ ?side1 ?side2 A4.out).mono ?_); (case side1 => exact Zq18 (Kd.zc3 HR0.out HB.out)); (case side2 => exact HC0.out); rintro e w6 ⟨rfl, hb⟩; have n0_ := za.mk (zm (Zq1 HB) hb); clear HB; have HB := n0_; clear n0_; (try clear hb); (try clear hb2); (try clear hk); (try clear hi)));go_ret;exact ⟨by first | rfl | (simp [zq, zt] <;> rfl) | (simp [*, zq, zt] <;> rfl), Zq1 HB⟩
 ·replace c3 := Bool.eq_false_iff.mpr c3
  subst c3;have H1 : (some false) = some r := by rw [if_neg (show ¬ (false = true) by decide)] at H; exact H
  clear H;have H := H1;clear H1;obtain rfl := Option.some.inj H;go_enter Try.func15, Try.ntmps15;go_wp2_with (first | ((with_reducible refine zw (f := 39) rfl ?_); refine zbw (some 4) rfl rfl Try.func39 (by kernel_rfl) rfl #[.slice A0 l0.length c0] rfl Zmt ?_; (with_reducible refine (zcd.calls _ _ l0 false _ ?side1 ?side2 A2.out).mono ?_); (case side1 => exact Zq17 HR0); (case side2 => exact HC0.out); rintro e w7 ⟨rfl, hb⟩; refine ⟨_, rfl, ?_⟩; have n0_ := za.mk (zm (Zq1 HB) hb); clear HB; have HB := n0_; clear n0_; (try clear hb); (try clear hb2); (try clear hk); (try clear hi)));go_ret;exact ⟨by first | rfl | (simp [zq, zt] <;> rfl) | (simp [*, zq, zt] <;> rfl), Zq1 HB⟩
theorem Zq21 {X0 P : Prop} (x0 : za X0) (h : X0 → P := by intro x0; (with_reducible repeat (first | apply Kd.zfn | apply Kd.zfm | apply Kd.zep)); exact x0) : P := h x0.out
mutual
def laws_FnFairOne.j0 : Nat → List (S35) → List (List Int) → Bool → Option (Bool)
 | 0, _, _, _ => none
 | k + 1, x3, x5, x32 => if x32 = true then ((zdw.f).bind fun t404 => (some t404)) else (if 0 ≤ (x3.length : Int) then (if ((x3.length : Int) : Int).toNat ≤ 35184372088832 then (laws_FnFairOne.l0 k x3 x5 (List.replicate ((x3.length : Int) : Int).toNat 0) 0) else (none)) else (none))
def laws_FnFairOne.l0 : Nat → List (S35) → List (List Int) → List Int → Int → Option (Bool)
 | 0, _, _, _, _ => none
 | k + 1, x3, x5, x6, x7 => if x7 < 120 then (laws_FnFairOne.l1 k x3 x5 x6 x7 0) else (some true)
def laws_FnFairOne.l1 : Nat → List (S35) → List (List Int) → List Int → Int → Int → Option (Bool)
 | 0, _, _, _, _, _ => none
 | k + 1, x3, x5, x6, x7, x8 => if 0 ≤ x7 then (if x7 < (x5.length : Int) then (if x8 < ((zcq x5 x7).length : Int) then (if 0 ≤ x8 then (if 0 ≤ (rd (zcq x5 x7) x8) then (if (rd (zcq x5 x7) x8) < (x6.length : Int) then (laws_FnFairOne.l1 k x3 x5 (x6.set ((rd (zcq x5 x7) x8) : Int).toNat (wrap64 ((rd x6 (rd (zcq x5 x7) x8)) + 1))) x7 (wrap64 (x8 + 1))) else (none)) else (none)) else (none)) else (laws_FnFairOne.l2 k x3 x5 x6 x7 0)) else (none)) else (none)
def laws_FnFairOne.l2 : Nat → List (S35) → List (List Int) → List Int → Int → Int → Option (Bool)
 | 0, _, _, _, _, _ => none
 | k + 1, x3, x5, x6, x7, x9 => if x9 < (x3.length : Int) then (if 0 ≤ x9 then (if x9 < (x6.length : Int) then (if ((zf x3 x9).f2) = 0 then (none) else (if (rd x6 x9) < (wrap64 ((wrap64 (Int.tdiv (wrap64 (x7 + 1)) ((zf x3 x9).f2))) * ((zf x3 x9).f0))) then (some false) else (laws_FnFairOne.l2 k x3 x5 x6 x7 (wrap64 (x9 + 1))))) else (none)) else (none)) else (laws_FnFairOne.l0 k x3 x5 x6 (wrap64 (x7 + 1)))
end
def laws_FnFairOne.f (k : Nat) (l0 : List Int) : Option (Bool) := if (l0.length : Int) > 1048576 then (some true) else ((zct.f k l0).bind fun bt392 => ((zbv.f k bt392.1 1).bind fun t396 => ((zu.f k bt392.1 1).bind fun t399 => ((zbz.f k t396 t399).bind fun t402 => (if t402 = true then (if (t396.length : Int) = 120 then ((zce.f k bt392.1).bind fun t403 => (laws_FnFairOne.j0 k bt392.1 t396 (!t403))) else (laws_FnFairOne.j0 k bt392.1 t396 true)) else (some false))))))
def laws_FnFairOne.T16 : Bool × List (List Nat × List Nat) := (true, [([], []), ([], []), ([], []), ([1, 2], [1, 2]), ([3], [3]), ([], []), ([4, 5], [4, 5]), ([6], [6]), ([], []), ([], []), ([], []), ([9, 10], [9, 10]), ([11], [11]), ([], []), ([12, 13], [12, 13]), ([14], [14]), ([8, 15], [8, 15]), ([16], [16]), ([17], [17]), ([0, 7, 0, 1, 2, 3, 4, 5, 6, 7, 8, 9, 10, 11, 12, 13, 14, 15, 16, 17, 18], [0, 7]), ([19, 18, 0, 1, 2, 3, 4, 5, 6, 7, 8, 9, 10, 11, 12, 13, 14, 15, 16, 17, 18], [18, 19])])
def laws_FnFairOne.B16 : List Nat := [0, 0, 0, 6, 14, 0, 62, 126, 0, 0, 0, 1536, 3584, 0, 15872, 32256, 65280, 130816, 261888, 524287, 1048575]
theorem laws_FnFairOne.tab16 : rtab .any (opsOf Try.f4 16) = laws_FnFairOne.T16 := by kernel_rfl
theorem laws_FnFairOne.bits16 : zcs laws_FnFairOne.T16.2 laws_FnFairOne.B16 = true := by kernel_rfl
def laws_FnFairOne.T20 : Bool × List (List Nat × List Nat) := (true, [([], []), ([], []), ([0, 1], [0, 1]), ([2], [2]), ([], []), ([4], [4]), ([], []), ([], []), ([6, 7], [6, 7]), ([8], [8]), ([9], [9]), ([5, 10], [5, 10]), ([], []), ([], []), ([12, 13], [12, 13]), ([14], [14]), ([15], [15]), ([11, 16], [11, 16]), ([3, 17], [3, 17])])
def laws_FnFairOne.B20 : List Nat := [0, 0, 3, 7, 0, 16, 0, 0, 192, 448, 960, 2032, 0, 0, 12288, 28672, 61440, 131056, 262143]
theorem laws_FnFairOne.tab20 : rtab .any (opsOf Try.f4 20) = laws_FnFairOne.T20 := by kernel_rfl
theorem laws_FnFairOne.bits20 : zcs laws_FnFairOne.T20.2 laws_FnFairOne.B20 = true := by kernel_rfl
set_option maxHeartbeats 8000000 in
theorem laws_FnFairOne.calls (k : Nat) (A0 : Option Addr) (c0 : Nat) (l0 : List Int) (r : Bool) (w : World) (hr0 : Kd.C (Kd.int .u8) w A0 l0.length l0) (hc0 : l0.length ≤ c0) (h : laws_FnFairOne.f k l0 = some r) :
  Calls Try.prog 4 #[.slice A0 l0.length c0] w fun e w' => e = .returned (.bool r) ∧ Below w.heap.size w w' := by
 have HR0 := za.mk hr0
 have HC0 := za.mk hc0
 clear hr0 hc0
 have HB := za.mk (Below.refl w.heap.size w)
 have H : (if (l0.length : Int) > 1048576 then (some true) else ((zct.f k l0).bind fun bt392 => ((zbv.f k bt392.1 1).bind fun t396 => ((zu.f k bt392.1 1).bind fun t399 => ((zbz.f k t396 t399).bind fun t402 => (if t402 = true then (if (t396.length : Int) = 120 then ((zce.f k bt392.1).bind fun t403 => (laws_FnFairOne.j0 k bt392.1 t396 (!t403))) else (laws_FnFairOne.j0 k bt392.1 t396 true)) else (some false))))))) = some r := h
 clear h
 by_cases c2 : (l0.length : Int) > 1048576
 ·rw [if_pos c2] at H
  have c2b0 : decide (1048576 < (l0.length : Int)) = true := decide_eq_true c2;have c2b1 : decide (1048576 < l0.length) = true := decide_eq_true (by omega);clear c2;obtain rfl := Option.some.inj H;go_enter Try.func4, Try.ntmps4;go_wp2;go_ret;exact ⟨by first | rfl | (simp [zq, zt] <;> rfl) | (simp [*, zq, zt] <;> rfl), Zq1 HB⟩
 ·rw [if_neg c2] at H
  have c2b0 : decide (1048576 < (l0.length : Int)) = false := decide_eq_false c2;have c2b1 : decide (1048576 < l0.length) = false := decide_eq_false (by omega);clear c2;replace H := Option.bind_eq_some_iff.mp H;obtain ⟨⟨t392, t393⟩, A30, H⟩ := H;replace H : ((zbv.f k t392 1).bind fun t396 => ((zu.f k t392 1).bind fun t399 => ((zbz.f k t396 t399).bind fun t402 => (if t402 = true then (if (t396.length : Int) = 120 then ((zce.f k t392).bind fun t403 => (laws_FnFairOne.j0 k t392 t396 (!t403))) else (laws_FnFairOne.j0 k t392 t396 true)) else (some false))))) = some r := H;have A3 := za.mk A30;clear A30;replace H := Option.bind_eq_some_iff.mp H;obtain ⟨t396, A40, H⟩ := H;replace H : ((zu.f k t392 1).bind fun t399 => ((zbz.f k t396 t399).bind fun t402 => (if t402 = true then (if (t396.length : Int) = 120 then ((zce.f k t392).bind fun t403 => (laws_FnFairOne.j0 k t392 t396 (!t403))) else (laws_FnFairOne.j0 k t392 t396 true)) else (some false)))) = some r := H;have A4 := za.mk A40;clear A40;replace H := Option.bind_eq_some_iff.mp H;obtain ⟨t399, A50, H⟩ := H;replace H : ((zbz.f k t396 t399).bind fun t402 => (if t402 = true then (if (t396.length : Int) = 120 then ((zce.f k t392).bind fun t403 => (laws_FnFairOne.j0 k t392 t396 (!t403))) else (laws_FnFairOne.j0 k t392 t396 true)) else (some false))) = some r := H;have A5 := za.mk A50;clear A50;replace H := Option.bind_eq_some_iff.mp H;obtain ⟨t402, A60, H⟩ := H;replace H : (if t402 = true then (if (t396.length : Int) = 120 then ((zce.f k t392).bind fun t403 => (laws_FnFairOne.j0 k t392 t396 (!t403))) else (laws_FnFairOne.j0 k t392 t396 true)) else (some false)) = some r := H;have A6 := za.mk A60;clear A60;by_cases c7 : t402 = true
  ·subst c7
   have H1 : (if (t396.length : Int) = 120 then ((zce.f k t392).bind fun t403 => (laws_FnFairOne.j0 k t392 t396 (!t403))) else (laws_FnFairOne.j0 k t392 t396 true)) = some r := by rw [if_pos rfl] at H; exact H
   clear H;have H := H1;clear H1;have HC8 := za.mk H;clear H;go_enter Try.func4, Try.ntmps4
   go_upto_region 7 with (first | ((with_reducible refine zw (f := 9) rfl ?_); refine zbw (some 15) rfl rfl Try.func9 (by kernel_rfl) rfl #[.slice A0 l0.length c0] rfl Zmt ?_; (with_reducible refine (zct.calls k _ _ l0 t392 t393 _ ?side1 ?side2 A3.out).mono ?_); (case side1 => exact Zq17 HR0); (case side2 => exact HC0.out); rintro e w9 ⟨v394, rfl, ho0, hb⟩; refine ⟨_, rfl, ?_⟩; have n0_ := za.mk (Kd.zcv ho0 (zbb (Zq1 HB))); have n1_ := za.mk (zm (Zq1 HB) hb); clear HB; have HO395 := n0_; have HB := n1_; clear n0_ n1_; (try clear hb); (try clear hb2); (try clear hk); (try clear hi); (try clear ho0); obtain ⟨Ao10, co10, eo10⟩ := Kd.zcr HO395.out; subst eo10) | ((with_reducible refine zw (f := 10) rfl ?_); refine zbw (some 19) rfl rfl Try.func10 (by kernel_rfl) rfl #[.slice Ao10 t392.length co10, .int .i64 1] rfl Zmt ?_; (with_reducible refine (zbv.calls k _ _ t392 1 t396 _ ?side1 ?side2 A4.out).mono ?_); (case side1 => exact Zq18 ((Kd.zbq HO395.out).2.2)); (case side2 => exact (Kd.zbq HO395.out).2.1); rintro e w11 ⟨v397, rfl, ho0, hb⟩; refine ⟨_, rfl, ?_⟩; have n0_ := za.mk (Kd.zcy (Zq12 HO395) hb); have n1_ := za.mk (Kd.ze3 ho0 (zbb (Zq1 HB))); have n2_ := za.mk (zm (Zq1 HB) hb); clear HO395; clear HB; have HO395 := n0_; have HO398 := n1_; have HB := n2_; clear n0_ n1_ n2_; (try clear hb); (try clear hb2); (try clear hk); (try clear hi); (try clear ho0)) | ((with_reducible refine zw (f := 12) rfl ?_); refine zbw (some 22) rfl rfl Try.func12 (by kernel_rfl) rfl #[.slice Ao10 t392.length co10, .int .i64 1] rfl Zmt ?_; (with_reducible refine (zu.calls k _ _ t392 1 t399 _ ?side1 ?side2 A5.out).mono ?_); (case side1 => exact Zq18 ((Kd.zbq HO395.out).2.2)); (case side2 => exact (Kd.zbq HO395.out).2.1); rintro e w12 ⟨v400, rfl, ho0, hb⟩; replace ho0 := Kd.Qc_of_S ho0; refine ⟨_, rfl, ?_⟩; have n0_ := za.mk (Kd.zcy (Zq12 HO395) hb); have n1_ := za.mk (Kd.zgv (Zq21 HO398) (Kd.Qc_base ho0) hb); have n2_ := za.mk (Kd.ze3 (Kd.Qc_new' ho0 (Kd.Qc_lt (Zq21 HO398))) (zbb (Zq1 HB))); have n3_ := za.mk (zm (Zq1 HB) hb); clear HO395; clear HO398; clear HB; have HO395 := n0_; have HO398 := n1_; have HO401 := n2_; have HB := n3_; clear n0_ n1_ n2_ n3_; (try clear hb); (try clear hb2); (try clear hk); (try clear hi); (try clear ho0); obtain ⟨Ao13, co13, eo13⟩ := Kd.zfo HO398.out; subst eo13; obtain ⟨Ao14, co14, eo14⟩ := Kd.zfo HO401.out; subst eo14) | ((with_reducible refine zw (f := 11) rfl ?_); refine zbw (some 23) rfl rfl Try.func11 (by kernel_rfl) rfl #[.slice Ao13 t396.length co13, .slice Ao14 t399.length co14] rfl Zmt ?_; (with_reducible refine (zbz.calls k _ _ t396 _ _ t399 true _ ?side1 ?side2 ?side3 ?side4 A6.out).mono ?_); (case side1 => exact Zq18 ((Kd.zcw HO398.out).2.2)); (case side2 => exact (Kd.zcw HO398.out).2.1); (case side3 => exact Zq18 ((Kd.zcw HO401.out).2.2)); (case side4 => exact (Kd.zcw HO401.out).2.1); rintro e w' ⟨rfl, ⟨nd, rfl⟩⟩; refine ⟨_, rfl, ?_⟩))
   (try simp only [Act.put, Zs1, Zs2, Zs3])
   go_cut [32] (fun v32 wc => ∃ (kq : Nat) (x32_7 : Bool), v32 = .bool x32_7 ∧ za (laws_FnFairOne.j0 kq t392 t396 x32_7 = some r) ∧ za (kq ≤ k) ∧ za (Kd.R k35 35 wc w.heap.size (fun _ => True) (.slice Ao10 t392.length co10) t392) ∧ za (Kd.Qc (Kd.cut 3 (Kd.int .i64)) 33 wc w.heap.size (fun _ => True) (.slice Ao13 t396.length co13) t396) ∧ za (Below w.heap.size w wc))
   case first =>
    have H := HC8.out;clear HC8;by_cases c15 : (t396.length : Int) = 120
    ·rw [if_pos c15] at H
     have c15b0 : ((t396.length : Int) == 120) = true := beq_iff_eq.mpr c15;have c15b1 : ((t396.length : Int) != 120) = false := bne_eq_false_iff_eq.mpr c15;clear c15;(first | rw [c15b0] | (simp only [zh, zi]; rw [c15b0]) | skip);replace H := Option.bind_eq_some_iff.mp H;obtain ⟨t403, A160, H⟩ := H;replace H : (laws_FnFairOne.j0 k t392 t396 (!t403)) = some r := H;have A16 := za.mk A160;clear A160;have H' := za.mk H;clear H;go_wp2_with (first | (go_at_call 15; (with_reducible refine (zce.calls k _ _ t392 t403 _ ?side1 ?side2 A16.out).mono ?_); (case side1 => exact Zq18 ((Kd.zbq HO395.out).2.2)); (case side2 => exact (Kd.zbq HO395.out).2.1); rintro e w17 ⟨rfl, hb⟩; have n0_ := za.mk (Kd.zcy (Zq12 HO395) hb); have n1_ := za.mk (Kd.zh5 (Zq21 HO398) hb); have n2_ := za.mk (Kd.zh5 (Zq21 HO401) hb); have n3_ := za.mk (zm (Zq1 HB) hb); clear HO395; clear HO398; clear HO401; clear HB; have HO395 := n0_; have HO398 := n1_; have HO401 := n2_; have HB := n3_; clear n0_ n1_ n2_ n3_; (try clear hb); (try clear hb2); (try clear hk); (try clear hi)));go_meet
     case rel => exact ⟨_, (!t403), Zrs, H', ⟨by first | omega | exact Nat.le_refl _⟩, ⟨Zq12 HO395⟩, ⟨by (with_reducible repeat (first | apply Kd.zfn | apply Kd.zfm | apply Kd.zep)); exact Kd.ze7 HO398.out (fun _ hk => trivial)⟩, ⟨Zq1 HB⟩⟩
    ·rw [if_neg c15] at H
     have c15b0 : ((t396.length : Int) == 120) = false := beq_eq_false_iff_ne.mpr c15;have c15b1 : ((t396.length : Int) != 120) = true := bne_iff_ne.mpr c15;(first | rw [c15b0] | (simp only [zh, zi]; rw [c15b0]) | skip);have H' := za.mk H;clear H;go_wp2;go_meet
     case rel => exact ⟨_, (true), Zrs, H', ⟨by first | omega | exact Nat.le_refl _⟩, ⟨Zq12 HO395⟩, ⟨by (with_reducible repeat (first | apply Kd.zfn | apply Kd.zfm | apply Kd.zep)); exact Kd.ze7 HO398.out (fun _ hk => trivial)⟩, ⟨Zq1 HB⟩⟩
   case rest =>
    clear HC8
    (try clear c1);(try clear c2);(try clear c2b0);(try clear c2b1);(try clear p2);(try clear c4);(try clear c7);(try clear c9);(try clear c10);(try clear c11);(try clear c12);(try clear c15);(try clear c15b0);(try clear c15b1)
    obtain ⟨kq, x32_7, rfl, HA, HJ7, HO_3, HO_5, HB⟩ := hcut
    cases kq with
    | zero => exact absurd HA.out (by simp [laws_FnFairOne.j0])
    | succ kj7 =>
     have H := HA.out;clear HA;simp only [laws_FnFairOne.j0] at H;by_cases c18 : x32_7 = true
     ·subst c18
      have H1 : ((zdw.f).bind fun t404 => (some t404)) = some r := by rw [if_pos rfl] at H; exact H
      clear H;have H := H1;clear H1;replace H := Option.bind_eq_some_iff.mp H;obtain ⟨t404, A190, H⟩ := H;replace H : (some t404) = some r := H;have A19 := za.mk A190;clear A190;obtain rfl := Option.some.inj H;go_wp2_with (first | ((with_reducible refine zw (f := 14) rfl ?_); refine zbw (some 33) rfl rfl Try.func14 (by kernel_rfl) rfl #[] rfl Zmt ?_; (with_reducible refine (zdw.calls  t404 _ A19.out).mono ?_); rintro e w20 ⟨rfl, hb⟩; refine ⟨_, rfl, ?_⟩; have n0_ := za.mk (Kd.zcy (Zq12 HO_3) hb); have n1_ := za.mk (Kd.zh5 (Zq21 HO_5) hb); have n2_ := za.mk (zm (Zq1 HB) hb); clear HO_3; clear HO_5; clear HB; have HO_3 := n0_; have HO_5 := n1_; have HB := n2_; clear n0_ n1_ n2_; (try clear hb); (try clear hb2); (try clear hk); (try clear hi)));go_ret;exact ⟨by first | rfl | (simp [zq, zt] <;> rfl) | (simp [*, zq, zt] <;> rfl), Zq1 HB⟩
     ·replace c18 := Bool.eq_false_iff.mpr c18
      subst c18;have H1 : (if 0 ≤ (t392.length : Int) then (if ((t392.length : Int) : Int).toNat ≤ 35184372088832 then (laws_FnFairOne.l0 kj7 t392 t396 (List.replicate ((t392.length : Int) : Int).toNat 0) 0) else (none)) else (none)) = some r := by rw [if_neg (show ¬ (false = true) by decide)] at H; exact H
      clear H;have H := H1;clear H1;by_cases c21 : 0 ≤ (t392.length : Int)
      ·rw [if_pos c21] at H
       have c21b0 := eq_true c21;have c21b1 : decide (0 ≤ (t392.length : Int)) = true := decide_eq_true c21;clear c21;by_cases c22 : ((t392.length : Int) : Int).toNat ≤ 35184372088832
       ·rw [if_pos c22] at H
        have c22b0 := eq_true c22;have c22b1 : decide (((t392.length : Int) : Int).toNat ≤ 35184372088832) = true := decide_eq_true c22;clear c22;obtain ⟨y405, hy405⟩ : ∃ y_ : List Int, y_ = (List.replicate ((t392.length : Int) : Int).toNat 0) := ⟨_, rfl⟩;replace H : (laws_FnFairOne.l0 kj7 t392 t396 y405 0) = some r := by first | (rw [hy405]; with_reducible exact H) | (have H2_ := (Option.bind_some _ _).symm.trans H; rw [hy405]; with_reducible exact H2_) | (have H2_ := (Option.bind_some _ _).symm.trans H; with_reducible exact H2_) | with_reducible exact H | (rw [hy405]; exact H) | exact H
        have Ny405 := za.mk hy405;clear hy405;have H' := za.mk H;clear H;go_wp2_with (first | ((with_reducible refine zby (N := 36) rfl ?_); refine Kd.R_make (Kd.int .i64) _ 3 rfl (N := 36) rfl 33 _ _ rfl (t392.length : Int) rfl rfl Try.underlying33 (.int .i64 0) 8 info3 rfl (by decide) (by omega) 0 (ok := fun _ => True) (okp := fun _ => True) rfl (fun _ hk => hk) trivial (of_decide_eq_true Zas) (Nat.le_trans (Nat.mul_le_mul_right _ (of_decide_eq_true Zas : (t392.length : Int).toNat ≤ 35184372088832)) (by omega)) (Below.refl _ _) (Nat.le_refl _) ?_; intro v406 w23 ho24 hb hg_ hnew_; clear hg_ hnew_; (first | rw [← Ny405.out] at ho24 | (simp only [Int.reduceToNat] at ho24; rw [← Ny405.out] at ho24)); have n0_ := za.mk (Kd.zcy (Zq12 HO_3) hb); have n1_ := za.mk (Kd.zgv (Zq21 HO_5) (Kd.zda ho24) hb); have n2_ := za.mk (Kd.zcv ho24 (zbb (Zq1 HB))); have n3_ := za.mk (zm (Zq1 HB) hb); clear HO_3; clear HO_5; clear HB; have HO_3 := n0_; have HO_5 := n1_; have HO407 := n2_; have HB := n3_; clear n0_ n1_ n2_ n3_; clear hb ho24))
        go_loopg [7] kj7 (fun kq v7 w' => ∃ (x6_2 : List Int) (x7_2 : Int), v7 = .int .i64 x7_2 ∧ za (laws_FnFairOne.l0 kq t392 t396 x6_2 x7_2 = some r) ∧ za (kq ≤ kj7) ∧ za (Kd.R k35 35 w' w.heap.size (fun _ => True) (.slice Ao10 t392.length co10) t392) ∧ za (Kd.Qc (Kd.cut 3 (Kd.int .i64)) 33 w' w.heap.size (fun k_ => some k_ ≠ (v406 : Value).ownBlock) (.slice Ao13 t396.length co13) t396) ∧ za (Kd.R (Kd.int .i64) 3 w' w.heap.size (fun _ => True) v406 x6_2) ∧ za (Below w.heap.size w w'))
        case atStart => exact ⟨(y405), (0), Zrs, H', ⟨Nat.le_refl _⟩, ⟨Zq12 HO_3⟩, ⟨by (with_reducible repeat (first | apply Kd.zfn | apply Kd.zfm | apply Kd.zep)); exact Kd.ze7 HO_5.out (fun _ hk => hk.2)⟩, ⟨Zq12 HO407⟩, ⟨Zq1 HB⟩⟩
        case round =>
         clear H'
         (try clear c1);(try clear c2);(try clear c2b0);(try clear c2b1);(try clear p2);(try clear c4);(try clear c7);(try clear c9);(try clear c10);(try clear c11);(try clear c12);(try clear c14);(try clear c15);(try clear c15b0);(try clear c15b1);(try clear c18);(try clear c21);(try clear c21b0);(try clear c21b1);(try clear c22);(try clear c22b0);(try clear c22b1);(try clear p2)
         obtain ⟨x6_2, x7_2, rfl, HA, HK2, HO_3, HO_5, HO_6, HB⟩ := hrel
         cases gk with
         | zero => exact absurd HA.out (by simp [laws_FnFairOne.l0])
         | succ k2 =>
          have H := HA.out;clear HA;simp only [laws_FnFairOne.l0] at H;by_cases c25 : x7_2 < 120
          ·rw [if_pos c25] at H
           have c25b0 : decide (x7_2 < 120) = true := decide_eq_true c25;clear c25;have H' := za.mk H;clear H;go_wp2
           go_loopg [8] k2 (fun kq v8 w' => ∃ (x6_3 : List Int) (x8_3 : Int), v8 = .int .i64 x8_3 ∧ za (laws_FnFairOne.l1 kq t392 t396 x6_3 x7_2 x8_3 = some r) ∧ za (kq ≤ k2) ∧ za (Kd.R k35 35 w' w.heap.size (fun _ => True) (.slice Ao10 t392.length co10) t392) ∧ za (Kd.Qc (Kd.cut 3 (Kd.int .i64)) 33 w' w.heap.size (fun k_ => some k_ ≠ (v406 : Value).ownBlock) (.slice Ao13 t396.length co13) t396) ∧ za (Kd.R (Kd.int .i64) 3 w' w.heap.size (fun _ => True) v406 x6_3) ∧ za (Below w.heap.size w w'))
           case atStart => exact ⟨(x6_2), (0), Zrs, H', ⟨Nat.le_refl _⟩, ⟨Zq12 HO_3⟩, ⟨Zq21 HO_5⟩, ⟨Zq12 HO_6⟩, ⟨Zq1 HB⟩⟩
           case round =>
            clear H'
            (try clear c1);(try clear c2);(try clear c2b0);(try clear c2b1);(try clear p2);(try clear c4);(try clear c7);(try clear c9);(try clear c10);(try clear c11);(try clear c12);(try clear c14);(try clear c15);(try clear c15b0);(try clear c15b1);(try clear c18);(try clear c21);(try clear c21b0);(try clear c21b1);(try clear c22);(try clear c22b0);(try clear c22b1);(try clear c25);(try clear c25b0);(try clear p2)
            obtain ⟨x6_3, x8_3, rfl, HA, HK3, HO_3, HO_5, HO_6, HB⟩ := hrel
            cases gk with
            | zero => exact absurd HA.out (by simp [laws_FnFairOne.l1])
            | succ k3 =>
             have H := HA.out;clear HA;simp only [laws_FnFairOne.l1] at H;by_cases c26 : 0 ≤ x7_2
             ·rw [if_pos c26] at H
              have c26b0 : decide (0 ≤ x7_2) = true := decide_eq_true c26;clear c26;by_cases c27 : x7_2 < (t396.length : Int)
              ·rw [if_pos c27] at H
               have c27b0 : decide (x7_2 < (t396.length : Int)) = true := decide_eq_true c27;clear c27;by_cases c28 : x8_3 < ((zcq t396 x7_2).length : Int)
               ·rw [if_pos c28] at H
                have c28b0 : decide (x8_3 < ((zcq t396 x7_2).length : Int)) = true := decide_eq_true c28;clear c28;by_cases c29 : 0 ≤ x8_3
                ·rw [if_pos c29] at H
                 have c29b0 : decide (0 ≤ x8_3) = true := decide_eq_true c29;clear c29;by_cases c30 : 0 ≤ (rd (zcq t396 x7_2) x8_3)
                 ·rw [if_pos c30] at H
                  have c30b0 : decide (0 ≤ (rd (zcq t396 x7_2) x8_3)) = true := decide_eq_true c30;clear c30;by_cases c31 : (rd (zcq t396 x7_2) x8_3) < (x6_3.length : Int)
                  ·rw [if_pos c31] at H
                   have c31b0 : decide ((rd (zcq t396 x7_2) x8_3) < (x6_3.length : Int)) = true := decide_eq_true c31;clear c31;obtain ⟨y414, hy414⟩ : ∃ y_ : List Int, y_ = (x6_3.set ((rd (zcq t396 x7_2) x8_3) : Int).toNat (wrap64 ((rd x6_3 (rd (zcq t396 x7_2) x8_3)) + 1))) := ⟨_, rfl⟩;replace H : (laws_FnFairOne.l1 k3 t392 t396 y414 x7_2 (wrap64 (x8_3 + 1))) = some r := by first | (rw [hy414]; with_reducible exact H) | (have H2_ := (Option.bind_some _ _).symm.trans H; rw [hy414]; with_reducible exact H2_) | (have H2_ := (Option.bind_some _ _).symm.trans H; with_reducible exact H2_) | with_reducible exact H | (rw [hy414]; exact H) | exact H
                   have Ny414 := za.mk hy414;clear hy414;have H' := za.mk H;clear H;have p408 : 0 ≤ (x7_2 : Int) := of_decide_eq_true Zas;have q408 : x7_2 < (t396.length : Int) := of_decide_eq_true Zas;obtain ⟨ad408, A408_0, c408_0, e408, hx408_0, hl408_0, hi408_0⟩ := zi0 (Kd.zcw HO_5.out).2.2 x7_2 p408 q408
                   cases e408
                   obtain ⟨ce408, hce408, hMe408, hcc408⟩ := Kd.Qc_get HO_5.out [] x7_2 p408 (by first | exact q408 | exact of_decide_eq_true Zas | (have e_ := (Kd.zcw HO_5.out).1; omega));obtain ⟨ve408_0, rfl, ge408_0⟩ := hMe408;have hv408_0 := hcc408 0 _ rfl;rw [Nat.add_zero, show ((Kd.cut 3 (Kd.int .i64))).sz = 1 from rfl, Nat.mul_one] at hv408_0;replace hv408_0 := Option.some.inj (hv408_0.symm.trans hx408_0);rw [hv408_0] at ge408_0;have HL408_0 := za.mk (show Kd.Qc (Kd.int .i64) 3 _ _ _ _ (zcq t396 x7_2) from ge408_0);clear hv408_0 ge408_0;clear hcc408 hce408;have HR408_0 := za.mk hi408_0;have HC408_0 := za.mk hl408_0;clear hi408_0 hl408_0;replace p408 := eq_true p408;replace q408 := eq_true q408
                   try go_wp2
                   have n0_ := za.mk (Kd.zb7 HO_3.out);have n1_ := za.mk (Kd.zep HO_5.out);have n2_ := za.mk (Kd.zb7 HO_6.out);have n3_ := za.mk (Kd.zep HL408_0.out);have n4_ := za.mk (Kd.zeh HR408_0.out);have n5_ := za.mk (zbf HB.out);clear HO_3;clear HO_5;clear HO_6;clear HL408_0;clear HR408_0;clear HB;have HO_3 := n0_;have HO_5 := n1_;have HO_6 := n2_;have HL408_0 := n3_;have HR408_0 := n4_;have HB := n5_;clear n0_ n1_ n2_ n3_ n4_ n5_;have p409 : 0 ≤ (x7_2 : Int) := of_decide_eq_true Zas;have q409 : x7_2 < (t396.length : Int) := of_decide_eq_true Zas;obtain ⟨ad409, A409_0, c409_0, e409, hx409_0, hl409_0, hi409_0⟩ := zi0 (Kd.zcw HO_5.out).2.2 x7_2 p409 q409;obtain rfl : ad408 = ad409 := (by injection e409);obtain ⟨ce409, hce409, hMe409, hcc409⟩ := Kd.Qc_get HO_5.out [] x7_2 p409 (by first | exact q409 | exact of_decide_eq_true Zas | (have e_ := (Kd.zcw HO_5.out).1; omega));obtain ⟨ve409_0, rfl, ge409_0⟩ := hMe409;have hv409_0 := hcc409 0 _ rfl;rw [Nat.add_zero, show ((Kd.cut 3 (Kd.int .i64))).sz = 1 from rfl, Nat.mul_one] at hv409_0;replace hv409_0 := Option.some.inj (hv409_0.symm.trans hx409_0);rw [hv409_0] at ge409_0;have HL409_0 := za.mk (show Kd.Qc (Kd.int .i64) 3 _ _ _ _ (zcq t396 x7_2) from ge409_0);clear hv409_0 ge409_0;clear hcc409 hce409;have HR409_0 := za.mk hi409_0;have HC409_0 := za.mk hl409_0;clear hi409_0 hl409_0;replace p409 := eq_true p409;replace q409 := eq_true q409;have p410 : 0 ≤ (x8_3 : Int) := of_decide_eq_true Zas;have q410 : x8_3 < ((zcq t396 x7_2).length : Int) := of_decide_eq_true Zas;obtain ⟨ad410, e410, hx410_0⟩ := Kd.zb6 (by repeat (first | (with_reducible exact HR409_0.out) | (with_reducible refine Kd.zdv ?_ _) | (with_reducible refine Kd.zee ?_ _) | (with_reducible refine Kd.zeh ?_) | exact HR409_0.out)) x8_3 p410 q410
                   cases e410
                   replace p410 := eq_true p410;replace q410 := eq_true q410;have p411 : 0 ≤ (x7_2 : Int) := of_decide_eq_true Zas;have q411 : x7_2 < (t396.length : Int) := of_decide_eq_true Zas;obtain ⟨ad411, A411_0, c411_0, e411, hx411_0, hl411_0, hi411_0⟩ := zi0 (Kd.zcw HO_5.out).2.2 x7_2 p411 q411;obtain rfl : ad408 = ad411 := (by injection e411);obtain ⟨ce411, hce411, hMe411, hcc411⟩ := Kd.Qc_get HO_5.out [] x7_2 p411 (by first | exact q411 | exact of_decide_eq_true Zas | (have e_ := (Kd.zcw HO_5.out).1; omega));obtain ⟨ve411_0, rfl, ge411_0⟩ := hMe411;have hv411_0 := hcc411 0 _ rfl;rw [Nat.add_zero, show ((Kd.cut 3 (Kd.int .i64))).sz = 1 from rfl, Nat.mul_one] at hv411_0;replace hv411_0 := Option.some.inj (hv411_0.symm.trans hx411_0);rw [hv411_0] at ge411_0;have HL411_0 := za.mk (show Kd.Qc (Kd.int .i64) 3 _ _ _ _ (zcq t396 x7_2) from ge411_0);clear hv411_0 ge411_0;clear hcc411 hce411;have HR411_0 := za.mk hi411_0;have HC411_0 := za.mk hl411_0;clear hi411_0 hl411_0;replace p411 := eq_true p411;replace q411 := eq_true q411;have ea_ := Option.some.inj (hx409_0.symm.trans hx411_0);injection ea_ with ea_ en_ ec_;subst ea_;subst ec_;clear en_;have p412 : 0 ≤ (x8_3 : Int) := of_decide_eq_true Zas;have q412 : x8_3 < ((zcq t396 x7_2).length : Int) := of_decide_eq_true Zas;obtain ⟨ad412, e412, hx412_0⟩ := Kd.zb6 (by repeat (first | (with_reducible exact HR411_0.out) | (with_reducible refine Kd.zdv ?_ _) | (with_reducible refine Kd.zee ?_ _) | (with_reducible refine Kd.zeh ?_) | exact HR411_0.out)) x8_3 p412 q412
                   cases e412
                   replace p412 := eq_true p412;replace q412 := eq_true q412;obtain ⟨Ao34, co34, eo34⟩ := Kd.zcr HO_6.out;(first | subst eo34 | (injection eo34 with f1_ f2_ f3_; have f4_ := f1_.symm; have f5_ := f3_.symm; clear f1_ f2_ f3_; subst f4_; subst f5_));have p413 : 0 ≤ ((rd (zcq t396 x7_2) x8_3) : Int) := of_decide_eq_true Zas;have q413 : (rd (zcq t396 x7_2) x8_3) < (x6_3.length : Int) := of_decide_eq_true Zas;obtain ⟨ad413, e413, hx413_0⟩ := Kd.zb6 (Kd.zbq HO_6.out).2.2 (rd (zcq t396 x7_2) x8_3) p413 q413
                   cases e413
                   replace p413 := eq_true p413;replace q413 := eq_true q413;have p32 : 0 ≤ ((rd (zcq t396 x7_2) x8_3) : Int) := of_decide_eq_true Zas;have q32 : ((rd (zcq t396 x7_2) x8_3) : Int) < ((x6_3.length : Int) : Int) := of_decide_eq_true Zas;obtain ⟨go32, co32, eo32, gb32, gl32, cl32, HG32⟩ := Kd.zhj HO_6.out (by omega);(first | cases eo32 | (injection eo32 with ea_ en_ ec_; (first | subst ea_ | (injection ea_ with ea_; subst ea_)); subst ec_; clear en_));have GB32 := za.mk gb32;have GG32 := za.mk HG32;clear gb32 gl32 HG32;(first | simp only [add_plain] at hx413_0 | skip);obtain ⟨hx32_0, hf32_0⟩ := Kd.zgl 0 HO_6.out ((rd (zcq t396 x7_2) x8_3) : Int) p32 q32;replace p32 := eq_true p32;replace q32 := eq_true q32;have HP35 := Kd.R_putn HO_6.out ((rd (zcq t396 x7_2) x8_3) : Int) (wrap64 ((rd x6_3 (rd (zcq t396 x7_2) x8_3)) + 1));rw [← Ny414.out] at HP35;have HQ35 := za.mk HP35;clear HP35;refine zcj (n := 21) (S := fun w' => w'.cell? (ad408.add (x7_2).toNat) = some (.slice (some ad410) (zcq t396 x7_2).length c409_0) ∧ w'.cell? (ad410.add (x8_3).toNat) = some (.int .i64 (rd (zcq t396 x7_2) x8_3)) ∧ w'.cell? (ad408.add (x7_2).toNat) = some (.slice (some ad410) (zcq t396 x7_2).length c409_0) ∧ w'.cell? (ad410.add (x8_3).toNat) = some (.int .i64 (rd (zcq t396 x7_2) x8_3)) ∧ w'.cell? ⟨go32, ((rd (zcq t396 x7_2) x8_3)).toNat, none⟩ = some (.int .i64 (rd x6_3 (rd (zcq t396 x7_2) x8_3)))) (ds := [20]) #[false, false, false, false, false, false, false, false, false, false, false, false, false, false, false, false, false, false, false, false, false] (by kernel_rfl) rfl rfl ⟨hx409_0, hx410_0, hx411_0, hx412_0, hx413_0⟩ (fun hHeld => ?_); refine zbr laws_FnFairOne.tab16 laws_FnFairOne.bits16 (fun HT_ HW_ => ?_);generalize wr.drew = w33 at HO_3 HO_5 HO_6 HL408_0 HR408_0 HB GG32 HL409_0 HL411_0 HQ35 HR409_0 HR411_0 hf32_0 hx32_0 hx409_0 hx410_0 hx411_0 hx412_0 hx413_0 hHeld ⊢;refine zn (i := 0) (N := some 50) (v := ?_) (a' := ?_) #[true, false, false, false, false, false, false, false, false, false, false, false, false, false, false, false, false, false, false, false, false] rfl rfl (zg HT_.out (by kernel_rfl)) (fun _ _ _ h => h) (Or.inl ⟨by rfl, ?_⟩) ?_ ?_;rotate_left
                   ·intro w'
                    go_simp;with_reducible rfl
                   rotate_left
                   ·simp only [Act.put, Zs1, Zs2, Zs3, zh, zi]
                    rfl
                   refine zn (i := 1) (N := some 51) (v := ?_) (a' := ?_) #[true, true, false, false, false, false, false, false, false, false, false, false, false, false, false, false, false, false, false, false, false] rfl rfl (zg HT_.out (by kernel_rfl)) (fun _ _ _ h => h) (Or.inl ⟨by rfl, ?_⟩) ?_ ?_;rotate_left
                   ·intro w'
                    go_simp;with_reducible rfl
                   rotate_left
                   ·simp only [Act.put, Zs1, Zs2, Zs3, zh, zi]
                    rfl
                   refine zn (i := 2) (N := some 52) (v := ?_) (a' := ?_) #[true, true, true, false, false, false, false, false, false, false, false, false, false, false, false, false, false, false, false, false, false] rfl rfl (zg HT_.out (by kernel_rfl)) (fun _ _ _ h => h) (Or.inl ⟨by rfl, ?_⟩) ?_ ?_;rotate_left
                   ·intro w'
                    go_simp;with_reducible rfl
                   rotate_left
                   ·simp only [Act.put, Zs1, Zs2, Zs3, zh, zi]
                    rfl
                   refine zn (i := 3) (N := some 53) (v := ?_) (a' := ?_) #[true, true, true, true, false, false, false, false, false, false, false, false, false, false, false, false, false, false, false, false, false] rfl rfl (zg HT_.out (by kernel_rfl)) (fun _ _ _ h => h) (Or.inl ⟨by rfl, ?_⟩) ?_ ?_;rotate_left
                   ·intro w'
                    go_simp;with_reducible rfl
                   rotate_left
                   ·simp only [Act.put, Zs1, Zs2, Zs3, zh, zi]
                    rfl
                   refine zn (i := 5) (N := some 55) (v := ?_) (a' := ?_) #[true, true, true, true, false, true, false, false, false, false, false, false, false, false, false, false, false, false, false, false, false] rfl rfl (zg HT_.out (by kernel_rfl)) (fun _ _ _ h => h) (Or.inl ⟨by rfl, ?_⟩) ?_ ?_;rotate_left
                   ·intro w'
                    go_simp;with_reducible rfl
                   rotate_left
                   ·simp only [Act.put, Zs1, Zs2, Zs3, zh, zi]
                    rfl
                   refine zn (i := 8) (N := some 58) (v := ?_) (a' := ?_) #[true, true, true, true, false, true, false, false, true, false, false, false, false, false, false, false, false, false, false, false, false] rfl rfl (zg HT_.out (by kernel_rfl)) (fun _ _ _ h => h) (Or.inl ⟨by rfl, ?_⟩) ?_ ?_;rotate_left
                   ·intro w'
                    go_simp;with_reducible rfl
                   rotate_left
                   ·simp only [Act.put, Zs1, Zs2, Zs3, zh, zi]
                    rfl
                   refine zn (i := 9) (N := some 59) (v := ?_) (a' := ?_) #[true, true, true, true, false, true, false, false, true, true, false, false, false, false, false, false, false, false, false, false, false] rfl rfl (zg HT_.out (by kernel_rfl)) (fun _ _ _ h => h) (Or.inl ⟨by rfl, ?_⟩) ?_ ?_;rotate_left
                   ·intro w'
                    go_simp;with_reducible rfl
                   rotate_left
                   ·simp only [Act.put, Zs1, Zs2, Zs3, zh, zi]
                    rfl
                   refine zn (i := 10) (N := some 60) (v := ?_) (a' := ?_) #[true, true, true, true, false, true, false, false, true, true, true, false, false, false, false, false, false, false, false, false, false] rfl rfl (zg HT_.out (by kernel_rfl)) (fun _ _ _ h => h) (Or.inl ⟨by rfl, ?_⟩) ?_ ?_;rotate_left
                   ·intro w'
                    go_simp;with_reducible rfl
                   rotate_left
                   ·simp only [Act.put, Zs1, Zs2, Zs3, zh, zi]
                    rfl
                   refine zn (i := 11) (N := some 61) (v := ?_) (a' := ?_) #[true, true, true, true, false, true, false, false, true, true, true, true, false, false, false, false, false, false, false, false, false] rfl rfl (zg HT_.out (by kernel_rfl)) (fun _ _ _ h => h) (Or.inl ⟨by rfl, ?_⟩) ?_ ?_;rotate_left
                   ·intro w'
                    go_simp;with_reducible rfl
                   rotate_left
                   ·simp only [Act.put, Zs1, Zs2, Zs3, zh, zi]
                    rfl
                   refine zn (i := 13) (N := some 63) (v := ?_) (a' := ?_) #[true, true, true, true, false, true, false, false, true, true, true, true, false, true, false, false, false, false, false, false, false] rfl rfl (zg HT_.out (by kernel_rfl)) (fun _ _ _ h => h) (Or.inl ⟨by rfl, ?_⟩) ?_ ?_;rotate_left
                   ·intro w'
                    go_simp;with_reducible rfl
                   rotate_left
                   ·simp only [Act.put, Zs1, Zs2, Zs3, zh, zi]
                    rfl
                   refine zbx (i := 4) (N := some 54) (v := ?_) (a' := ?_) #[true, true, true, true, true, true, false, false, true, true, true, true, false, true, false, false, false, false, false, false, false] rfl rfl (z8 HT_.out HW_.out (by kernel_rfl)) (fun _ _ _ h => h) (Or.inl ⟨by rfl, ?_⟩) hHeld ?_ ?_;rotate_left
                   ·rintro w' ⟨s0, s1, s2, s3, s4⟩
                    go_simp;with_reducible rfl
                   rotate_left
                   ·simp only [Act.put, Zs1, Zs2, Zs3, zh, zi]
                    rfl
                   refine zn (i := 6) (N := some 56) (v := ?_) (a' := ?_) #[true, true, true, true, true, true, true, false, true, true, true, true, false, true, false, false, false, false, false, false, false] rfl rfl (zg HT_.out (by kernel_rfl)) (fun _ _ _ h => h) (Or.inl ⟨by rfl, ?_⟩) ?_ ?_;rotate_left
                   ·intro w'
                    go_simp;with_reducible rfl
                   rotate_left
                   ·simp only [Act.put, Zs1, Zs2, Zs3, zh, zi]
                    rfl
                   refine zbx (i := 7) (N := some 57) (v := ?_) (a' := ?_) #[true, true, true, true, true, true, true, true, true, true, true, true, false, true, false, false, false, false, false, false, false] rfl rfl (z8 HT_.out HW_.out (by kernel_rfl)) (fun _ _ _ h => h) (Or.inl ⟨by rfl, ?_⟩) hHeld ?_ ?_;rotate_left
                   ·rintro w' ⟨s0, s1, s2, s3, s4⟩
                    go_simp;with_reducible rfl
                   rotate_left
                   ·simp only [Act.put, Zs1, Zs2, Zs3, zh, zi]
                    rfl
                   refine zbx (i := 12) (N := some 62) (v := ?_) (a' := ?_) #[true, true, true, true, true, true, true, true, true, true, true, true, true, true, false, false, false, false, false, false, false] rfl rfl (z8 HT_.out HW_.out (by kernel_rfl)) (fun _ _ _ h => h) (Or.inl ⟨by rfl, ?_⟩) hHeld ?_ ?_;rotate_left
                   ·rintro w' ⟨s0, s1, s2, s3, s4⟩
                    go_simp;with_reducible rfl
                   rotate_left
                   ·simp only [Act.put, Zs1, Zs2, Zs3, zh, zi]
                    rfl
                   refine zn (i := 14) (N := some 64) (v := ?_) (a' := ?_) #[true, true, true, true, true, true, true, true, true, true, true, true, true, true, true, false, false, false, false, false, false] rfl rfl (zg HT_.out (by kernel_rfl)) (fun _ _ _ h => h) (Or.inl ⟨by rfl, ?_⟩) ?_ ?_;rotate_left
                   ·intro w'
                    go_simp;with_reducible rfl
                   rotate_left
                   ·simp only [Act.put, Zs1, Zs2, Zs3, zh, zi]
                    rfl
                   refine zbx (i := 15) (N := some 65) (v := ?_) (a' := ?_) #[true, true, true, true, true, true, true, true, true, true, true, true, true, true, true, true, false, false, false, false, false] rfl rfl (z8 HT_.out HW_.out (by kernel_rfl)) (fun _ _ _ h => h) (Or.inl ⟨by rfl, ?_⟩) hHeld ?_ ?_;rotate_left
                   ·rintro w' ⟨s0, s1, s2, s3, s4⟩
                    go_simp;with_reducible rfl
                   rotate_left
                   ·simp only [Act.put, Zs1, Zs2, Zs3, zh, zi]
                    rfl
                   refine zn (i := 16) (N := some 66) (v := ?_) (a' := ?_) #[true, true, true, true, true, true, true, true, true, true, true, true, true, true, true, true, true, false, false, false, false] rfl rfl (zg HT_.out (by kernel_rfl)) (fun _ _ _ h => h) (Or.inl ⟨by rfl, ?_⟩) ?_ ?_;rotate_left
                   ·intro w'
                    go_simp;with_reducible rfl
                   rotate_left
                   ·simp only [Act.put, Zs1, Zs2, Zs3, zh, zi]
                    rfl
                   refine zbx (i := 17) (N := some 67) (v := ?_) (a' := ?_) #[true, true, true, true, true, true, true, true, true, true, true, true, true, true, true, true, true, true, false, false, false] rfl rfl (z8 HT_.out HW_.out (by kernel_rfl)) (fun _ _ _ h => h) (Or.inl ⟨by rfl, ?_⟩) hHeld ?_ ?_;rotate_left
                   ·rintro w' ⟨s0, s1, s2, s3, s4⟩
                    go_simp;with_reducible rfl
                   rotate_left
                   ·simp only [Act.put, Zs1, Zs2, Zs3, zh, zi]
                    rfl
                   refine zn (i := 18) (N := some 68) (v := ?_) (a' := ?_) #[true, true, true, true, true, true, true, true, true, true, true, true, true, true, true, true, true, true, true, false, false] rfl rfl (zg HT_.out (by kernel_rfl)) (fun _ _ _ h => h) (Or.inl ⟨by rfl, ?_⟩) ?_ ?_;rotate_left
                   ·intro w'
                    go_simp;with_reducible rfl
                   rotate_left
                   ·simp only [Act.put, Zs1, Zs2, Zs3, zh, zi]
                    rfl
                   refine zn (i := 19) (N := some 69) (v := ?_) (a' := ?_) #[true, true, true, true, true, true, true, true, true, true, true, true, true, true, true, true, true, true, true, true, false] rfl rfl (zg HT_.out (by kernel_rfl)) (fun _ _ _ h => h) (Or.inl ⟨by rfl, ?_⟩) ?_ ?_;rotate_left
                   ·intro w'
                    go_simp;with_reducible rfl
                   rotate_left
                   ·simp only [Act.put, Zs1, Zs2, Zs3, zh, zi]
                    rfl
                   refine last_ (i := 20) (N := none) #[true, true, true, true, true, true, true, true, true, true, true, true, true, true, true, true, true, true, true, true, true] rfl rfl (zb0 HT_.out (by kernel_rfl)) (by decide) (fun K hK => ?_);refine ziv (w1 := ?_) (by rfl) rfl ?_ ?_;rotate_left
                   ·go_simp
                    rfl
                   refine hK.out _ _ ?_;clear hK K;refine zcz (zb5 HT_.out (by kernel_rfl)) ?_
                   try go_wp2
                   go_roundg k3
                   case measure => have := HJ7.out; have := HK2.out; have := HK3.out; omega
                   case rel => exact ⟨(y414), (wrap64 (x8_3 + 1)), Zrs, H', ⟨by have := HJ7.out; have := HK2.out; have := HK3.out; omega⟩, ⟨by (with_reducible repeat (first | apply Kd.zcg | apply Kd.zch | apply Kd.zb7)); exact Kd.zbn (Kd.zfy (p := ⟨go32, ((rd (zcq t396 x7_2) x8_3) : Int).toNat, none⟩) (Kd.zev HO_3.out GG32.out (by decide)) (fun _ hk => hk.2) (.int .i64 (wrap64 ((rd x6_3 (rd (zcq t396 x7_2) x8_3)) + 1)))) (fun _ hk => trivial)⟩, ⟨by (with_reducible repeat (first | apply Kd.zfn | apply Kd.zfm | apply Kd.zep)); exact Kd.ze7 (Kd.Qc_far (p := ⟨go32, ((rd (zcq t396 x7_2) x8_3) : Int).toNat, none⟩) (Kd.ze7 HO_5.out (fun k_ hk => (⟨hk, fun e_ => hk (by rw [e_]; rfl)⟩ : _ ∧ k_ ≠ go32))) (fun _ hk => hk.2) (.int .i64 (wrap64 ((rd x6_3 (rd (zcq t396 x7_2) x8_3)) + 1)))) (fun _ hk => hk.1)⟩, ⟨Zq12 HQ35⟩, ⟨Zq3 HB GB32⟩⟩
                  ·rw [if_neg c31] at H
                   exact absurd H (by simp)
                 ·rw [if_neg c30] at H
                  exact absurd H (by simp)
                ·rw [if_neg c29] at H
                 exact absurd H (by simp)
               ·rw [if_neg c28] at H
                have c28b0 : decide (x8_3 < ((zcq t396 x7_2).length : Int)) = false := decide_eq_false c28;clear c28;have H' := za.mk H;clear H;have p408 : 0 ≤ (x7_2 : Int) := of_decide_eq_true Zas;have q408 : x7_2 < (t396.length : Int) := of_decide_eq_true Zas;obtain ⟨ad408, A408_0, c408_0, e408, hx408_0, hl408_0, hi408_0⟩ := zi0 (Kd.zcw HO_5.out).2.2 x7_2 p408 q408
                cases e408
                obtain ⟨ce408, hce408, hMe408, hcc408⟩ := Kd.Qc_get HO_5.out [] x7_2 p408 (by first | exact q408 | exact of_decide_eq_true Zas | (have e_ := (Kd.zcw HO_5.out).1; omega));obtain ⟨ve408_0, rfl, ge408_0⟩ := hMe408;have hv408_0 := hcc408 0 _ rfl;rw [Nat.add_zero, show ((Kd.cut 3 (Kd.int .i64))).sz = 1 from rfl, Nat.mul_one] at hv408_0;replace hv408_0 := Option.some.inj (hv408_0.symm.trans hx408_0);rw [hv408_0] at ge408_0;have HL408_0 := za.mk (show Kd.Qc (Kd.int .i64) 3 _ _ _ _ (zcq t396 x7_2) from ge408_0);clear hv408_0 ge408_0;clear hcc408 hce408;have HR408_0 := za.mk hi408_0;have HC408_0 := za.mk hl408_0;clear hi408_0 hl408_0;replace p408 := eq_true p408;replace q408 := eq_true q408;go_wp2
                go_loopg [9] k3 (fun kq v9 w' => ∃ (x9_4 : Int), v9 = .int .i64 x9_4 ∧ za (laws_FnFairOne.l2 kq t392 t396 x6_3 x7_2 x9_4 = some r) ∧ za (kq ≤ k3) ∧ za (Kd.R k35 35 w' w.heap.size (fun _ => True) (.slice Ao10 t392.length co10) t392) ∧ za (Kd.Qc (Kd.cut 3 (Kd.int .i64)) 33 w' w.heap.size (fun k_ => some k_ ≠ (v406 : Value).ownBlock) (.slice (some ad408) t396.length co13) t396) ∧ za (Kd.R (Kd.int .i64) 3 w' w.heap.size (fun _ => True) v406 x6_3) ∧ za (Kd.C (Kd.int .i64) w' A408_0 (zcq t396 x7_2).length (zcq t396 x7_2)) ∧ za (Below w.heap.size w w'))
                case atStart => exact ⟨(0), Zrs, H', ⟨Nat.le_refl _⟩, ⟨Zq12 HO_3⟩, ⟨Zq21 HO_5⟩, ⟨Zq12 HO_6⟩, ⟨by repeat (first | (with_reducible exact HR408_0.out) | (with_reducible refine Kd.zdv ?_ _) | (with_reducible refine Kd.zee ?_ _) | (with_reducible refine Kd.zeh ?_) | exact HR408_0.out)⟩, ⟨Zq1 HB⟩⟩
                case round =>
                 clear H'
                 (try clear c1);(try clear c2);(try clear c2b0);(try clear c2b1);(try clear p2);(try clear c3);(try clear p3);(try clear q3);(try clear hx3);(try clear hf3);(try clear c4);(try clear p4);(try clear q4);(try clear hx4);(try clear p6);(try clear c7);(try clear c9);(try clear c10);(try clear c11);(try clear c12);(try clear c14);(try clear c15);(try clear c15b0);(try clear c15b1);(try clear c18);(try clear c21);(try clear c21b0);(try clear c21b1);(try clear c22);(try clear c22b0);(try clear c22b1);(try clear c25);(try clear c25b0);(try clear c26);(try clear c26b0);(try clear c27);(try clear c27b0);(try clear c28);(try clear c28b0);(try clear c29);(try clear c29b0);(try clear c30);(try clear c30b0);(try clear c31);(try clear c31b0);(try clear p32);(try clear q32);(try clear hx32);(try clear hf32);(try clear hx32_0);(try clear hx408_0);(try clear hx409_0);(try clear hx410_0);(try clear hx411_0);(try clear hx412_0);(try clear hx413_0);(try clear p2);(try clear p32);(try clear p408);(try clear p409);(try clear p410);(try clear p411);(try clear p412);(try clear p413);(try clear q32);(try clear q408);(try clear q409);(try clear q410);(try clear q411);(try clear q412);(try clear q413)
                 obtain ⟨x9_4, rfl, HA, HK4, HO_3, HO_5, HO_6, HR408_0, HB⟩ := hrel
                 cases gk with
                 | zero => exact absurd HA.out (by simp [laws_FnFairOne.l2])
                 | succ k4 =>
                  have H := HA.out;clear HA;simp only [laws_FnFairOne.l2] at H;by_cases c36 : x9_4 < (t392.length : Int)
                  ·rw [if_pos c36] at H
                   have c36b0 : decide (x9_4 < (t392.length : Int)) = true := decide_eq_true c36;clear c36;by_cases c37 : 0 ≤ x9_4
                   ·rw [if_pos c37] at H
                    have c37b0 : decide (0 ≤ x9_4) = true := decide_eq_true c37;clear c37;by_cases c38 : x9_4 < (x6_3.length : Int)
                    ·rw [if_pos c38] at H
                     have c38b0 : decide (x9_4 < (x6_3.length : Int)) = true := decide_eq_true c38;clear c38;by_cases c39 : ((zf t392 x9_4).f2) = 0
                     ·rw [if_pos c39] at H
                      exact absurd H (by simp)
                     ·rw [if_neg c39] at H
                      have c39b0 : (((zf t392 x9_4).f2) == 0) = false := beq_eq_false_iff_ne.mpr c39;have c39b1 : (((zf t392 x9_4).f2) != 0) = true := bne_iff_ne.mpr c39;by_cases c40 : (rd x6_3 x9_4) < (wrap64 ((wrap64 (Int.tdiv (wrap64 (x7_2 + 1)) ((zf t392 x9_4).f2))) * ((zf t392 x9_4).f0)))
                      ·rw [if_pos c40] at H
                       have c40b0 : decide ((rd x6_3 x9_4) < (wrap64 ((wrap64 (Int.tdiv (wrap64 (x7_2 + 1)) ((zf t392 x9_4).f2))) * ((zf t392 x9_4).f0)))) = true := decide_eq_true c40;clear c40;obtain rfl := Option.some.inj H
                       try go_wp2
                       have n0_ := za.mk (Kd.zb7 HO_3.out);have n1_ := za.mk (Kd.zep HO_5.out);have n2_ := za.mk (Kd.zb7 HO_6.out);have n3_ := za.mk (Kd.zeh HR408_0.out);have n4_ := za.mk (zbf HB.out);clear HO_3;clear HO_5;clear HO_6;clear HR408_0;clear HB;have HO_3 := n0_;have HO_5 := n1_;have HO_6 := n2_;have HR408_0 := n3_;have HB := n4_;clear n0_ n1_ n2_ n3_ n4_;obtain ⟨Ao42, co42, eo42⟩ := Kd.zcr HO_6.out;(first | subst eo42 | (injection eo42 with f1_ f2_ f3_; have f4_ := f1_.symm; have f5_ := f3_.symm; clear f1_ f2_ f3_; subst f4_; subst f5_));have p415 : 0 ≤ (x9_4 : Int) := of_decide_eq_true Zas;have q415 : x9_4 < (x6_3.length : Int) := of_decide_eq_true Zas;obtain ⟨ad415, e415, hx415_0⟩ := Kd.zb6 (Kd.zbq HO_6.out).2.2 x9_4 p415 q415
                       cases e415
                       replace p415 := eq_true p415;replace q415 := eq_true q415;have p416 : 0 ≤ (x9_4 : Int) := of_decide_eq_true Zas;have q416 : x9_4 < (t392.length : Int) := of_decide_eq_true Zas;obtain ⟨ad416, e416, hx416_0, hx416_1, hx416_2⟩ := zcm (Kd.zbq HO_3.out).2.2 x9_4 p416 q416
                       cases e416
                       replace p416 := eq_true p416;replace q416 := eq_true q416;have p417 : 0 ≤ (x9_4 : Int) := of_decide_eq_true Zas;have q417 : x9_4 < (t392.length : Int) := of_decide_eq_true Zas;obtain ⟨ad417, e417, hx417_0, hx417_1, hx417_2⟩ := zcm (Kd.zbq HO_3.out).2.2 x9_4 p417 q417;obtain rfl : ad416 = ad417 := (by injection e417);replace p417 := eq_true p417;replace q417 := eq_true q417;refine zcj (n := 19) (S := fun w' => w'.cell? (ad415.add (x9_4).toNat) = some (.int .i64 (rd x6_3 x9_4)) ∧ w'.cell? (ad416.add ((x9_4).toNat * 3)) = some (.int .i64 ((zf t392 x9_4).f0)) ∧ w'.cell? ⟨(ad416.add ((x9_4).toNat * 3)).block, (ad416.add ((x9_4).toNat * 3)).off + 1, none⟩ = some (.int .i64 ((zf t392 x9_4).f1)) ∧ w'.cell? ⟨(ad416.add ((x9_4).toNat * 3)).block, (ad416.add ((x9_4).toNat * 3)).off + 2, none⟩ = some (.int .i64 ((zf t392 x9_4).f2)) ∧ w'.cell? (ad416.add ((x9_4).toNat * 3)) = some (.int .i64 ((zf t392 x9_4).f0)) ∧ w'.cell? ⟨(ad416.add ((x9_4).toNat * 3)).block, (ad416.add ((x9_4).toNat * 3)).off + 1, none⟩ = some (.int .i64 ((zf t392 x9_4).f1)) ∧ w'.cell? ⟨(ad416.add ((x9_4).toNat * 3)).block, (ad416.add ((x9_4).toNat * 3)).off + 2, none⟩ = some (.int .i64 ((zf t392 x9_4).f2))) (ds := []) #[false, false, false, false, false, false, false, false, false, false, false, false, false, false, false, false, false, false, false] (by kernel_rfl) rfl rfl ⟨hx415_0, hx416_0, hx416_1, hx416_2, hx417_0, hx417_1, hx417_2⟩ (fun hHeld => ?_); refine zbr laws_FnFairOne.tab20 laws_FnFairOne.bits20 (fun HT_ HW_ => ?_);generalize wr.drew = w41 at HO_3 HO_5 HO_6 HR408_0 HB hx415_0 hx416_0 hx416_1 hx416_2 hx417_0 hx417_1 hx417_2 hHeld ⊢;refine zn (i := 0) (N := some 76) (v := ?_) (a' := ?_) #[true, false, false, false, false, false, false, false, false, false, false, false, false, false, false, false, false, false, false] rfl rfl (zg HT_.out (by kernel_rfl)) (fun _ _ _ h => h) (Or.inl ⟨by rfl, ?_⟩) ?_ ?_;rotate_left
                       ·intro w'
                        go_simp;with_reducible rfl
                       rotate_left
                       ·simp only [Act.put, Zs1, Zs2, Zs3, zh, zi]
                        rfl
                       refine zn (i := 1) (N := some 77) (v := ?_) (a' := ?_) #[true, true, false, false, false, false, false, false, false, false, false, false, false, false, false, false, false, false, false] rfl rfl (zg HT_.out (by kernel_rfl)) (fun _ _ _ h => h) (Or.inl ⟨by rfl, ?_⟩) ?_ ?_;rotate_left
                       ·intro w'
                        go_simp;with_reducible rfl
                       rotate_left
                       ·simp only [Act.put, Zs1, Zs2, Zs3, zh, zi]
                        rfl
                       refine zn (i := 2) (N := some 78) (v := ?_) (a' := ?_) #[true, true, true, false, false, false, false, false, false, false, false, false, false, false, false, false, false, false, false] rfl rfl (zg HT_.out (by kernel_rfl)) (fun _ _ _ h => h) (Or.inl ⟨by rfl, ?_⟩) ?_ ?_;rotate_left
                       ·intro w'
                        go_simp;with_reducible rfl
                       rotate_left
                       ·simp only [Act.put, Zs1, Zs2, Zs3, zh, zi]
                        rfl
                       refine zn (i := 4) (N := some 80) (v := ?_) (a' := ?_) #[true, true, true, false, true, false, false, false, false, false, false, false, false, false, false, false, false, false, false] rfl rfl (zg HT_.out (by kernel_rfl)) (fun _ _ _ h => h) (Or.inl ⟨by rfl, ?_⟩) ?_ ?_;rotate_left
                       ·intro w'
                        go_simp;with_reducible rfl
                       rotate_left
                       ·simp only [Act.put, Zs1, Zs2, Zs3, zh, zi]
                        rfl
                       refine zn (i := 5) (N := some 81) (v := ?_) (a' := ?_) #[true, true, true, false, true, true, false, false, false, false, false, false, false, false, false, false, false, false, false] rfl rfl (zg HT_.out (by kernel_rfl)) (fun _ _ _ h => h) (Or.inl ⟨by rfl, ?_⟩) ?_ ?_;rotate_left
                       ·intro w'
                        go_simp;with_reducible rfl
                       rotate_left
                       ·simp only [Act.put, Zs1, Zs2, Zs3, zh, zi]
                        rfl
                       refine zn (i := 6) (N := some 82) (v := ?_) (a' := ?_) #[true, true, true, false, true, true, true, false, false, false, false, false, false, false, false, false, false, false, false] rfl rfl (zg HT_.out (by kernel_rfl)) (fun _ _ _ h => h) (Or.inl ⟨by rfl, ?_⟩) ?_ ?_;rotate_left
                       ·intro w'
                        go_simp;with_reducible rfl
                       rotate_left
                       ·simp only [Act.put, Zs1, Zs2, Zs3, zh, zi]
                        rfl
                       refine zn (i := 7) (N := some 83) (v := ?_) (a' := ?_) #[true, true, true, false, true, true, true, true, false, false, false, false, false, false, false, false, false, false, false] rfl rfl (zg HT_.out (by kernel_rfl)) (fun _ _ _ h => h) (Or.inl ⟨by rfl, ?_⟩) ?_ ?_;rotate_left
                       ·intro w'
                        go_simp;with_reducible rfl
                       rotate_left
                       ·simp only [Act.put, Zs1, Zs2, Zs3, zh, zi]
                        rfl
                       refine zn (i := 8) (N := some 84) (v := ?_) (a' := ?_) #[true, true, true, false, true, true, true, true, true, false, false, false, false, false, false, false, false, false, false] rfl rfl (zg HT_.out (by kernel_rfl)) (fun _ _ _ h => h) (Or.inl ⟨by rfl, ?_⟩) ?_ ?_;rotate_left
                       ·intro w'
                        go_simp;with_reducible rfl
                       rotate_left
                       ·simp only [Act.put, Zs1, Zs2, Zs3, zh, zi]
                        rfl
                       refine zn (i := 9) (N := some 85) (v := ?_) (a' := ?_) #[true, true, true, false, true, true, true, true, true, true, false, false, false, false, false, false, false, false, false] rfl rfl (zg HT_.out (by kernel_rfl)) (fun _ _ _ h => h) (Or.inl ⟨by rfl, ?_⟩) ?_ ?_;rotate_left
                       ·intro w'
                        go_simp;with_reducible rfl
                       rotate_left
                       ·simp only [Act.put, Zs1, Zs2, Zs3, zh, zi]
                        rfl
                       refine zn (i := 12) (N := some 88) (v := ?_) (a' := ?_) #[true, true, true, false, true, true, true, true, true, true, false, false, true, false, false, false, false, false, false] rfl rfl (zg HT_.out (by kernel_rfl)) (fun _ _ _ h => h) (Or.inl ⟨by rfl, ?_⟩) ?_ ?_;rotate_left
                       ·intro w'
                        go_simp;with_reducible rfl
                       rotate_left
                       ·simp only [Act.put, Zs1, Zs2, Zs3, zh, zi]
                        rfl
                       refine zn (i := 13) (N := some 89) (v := ?_) (a' := ?_) #[true, true, true, false, true, true, true, true, true, true, false, false, true, true, false, false, false, false, false] rfl rfl (zg HT_.out (by kernel_rfl)) (fun _ _ _ h => h) (Or.inl ⟨by rfl, ?_⟩) ?_ ?_;rotate_left
                       ·intro w'
                        go_simp;with_reducible rfl
                       rotate_left
                       ·simp only [Act.put, Zs1, Zs2, Zs3, zh, zi]
                        rfl
                       refine zn (i := 14) (N := some 90) (v := ?_) (a' := ?_) #[true, true, true, false, true, true, true, true, true, true, false, false, true, true, true, false, false, false, false] rfl rfl (zg HT_.out (by kernel_rfl)) (fun _ _ _ h => h) (Or.inl ⟨by rfl, ?_⟩) ?_ ?_;rotate_left
                       ·intro w'
                        go_simp;with_reducible rfl
                       rotate_left
                       ·simp only [Act.put, Zs1, Zs2, Zs3, zh, zi]
                        rfl
                       refine zn (i := 15) (N := some 91) (v := ?_) (a' := ?_) #[true, true, true, false, true, true, true, true, true, true, false, false, true, true, true, true, false, false, false] rfl rfl (zg HT_.out (by kernel_rfl)) (fun _ _ _ h => h) (Or.inl ⟨by rfl, ?_⟩) ?_ ?_;rotate_left
                       ·intro w'
                        go_simp;with_reducible rfl
                       rotate_left
                       ·simp only [Act.put, Zs1, Zs2, Zs3, zh, zi]
                        rfl
                       refine zbx (i := 3) (N := some 79) (v := ?_) (a' := ?_) #[true, true, true, true, true, true, true, true, true, true, false, false, true, true, true, true, false, false, false] rfl rfl (z8 HT_.out HW_.out (by kernel_rfl)) (fun _ _ _ h => h) (Or.inl ⟨by rfl, ?_⟩) hHeld ?_ ?_;rotate_left
                       ·rintro w' ⟨s0, s1, s2, s3, s4, s5, s6⟩
                        go_simp;with_reducible rfl
                       rotate_left
                       ·simp only [Act.put, Zs1, Zs2, Zs3, zh, zi]
                        rfl
                       refine zbx (i := 10) (N := some 86) (v := ?_) (a' := ?_) #[true, true, true, true, true, true, true, true, true, true, true, false, true, true, true, true, false, false, false] rfl rfl (z8 HT_.out HW_.out (by kernel_rfl)) (fun _ _ _ h => h) (Or.inl ⟨by rfl, ?_⟩) hHeld ?_ ?_;rotate_left
                       ·rintro w' ⟨s0, s1, s2, s3, s4, s5, s6⟩
                        go_simp;with_reducible rfl
                       rotate_left
                       ·simp only [Act.put, Zs1, Zs2, Zs3, zh, zi]
                        rfl
                       refine zn (i := 11) (N := some 87) (v := ?_) (a' := ?_) #[true, true, true, true, true, true, true, true, true, true, true, true, true, true, true, true, false, false, false] rfl rfl (zg HT_.out (by kernel_rfl)) (fun _ _ _ h => h) (Or.inl ⟨by rfl, ?_⟩) ?_ ?_;rotate_left
                       ·intro w'
                        go_simp;with_reducible rfl
                       rotate_left
                       ·simp only [Act.put, Zs1, Zs2, Zs3, zh, zi]
                        rfl
                       refine zbx (i := 16) (N := some 92) (v := ?_) (a' := ?_) #[true, true, true, true, true, true, true, true, true, true, true, true, true, true, true, true, true, false, false] rfl rfl (z8 HT_.out HW_.out (by kernel_rfl)) (fun _ _ _ h => h) (Or.inl ⟨by rfl, ?_⟩) hHeld ?_ ?_;rotate_left
                       ·rintro w' ⟨s0, s1, s2, s3, s4, s5, s6⟩
                        go_simp;with_reducible rfl
                       rotate_left
                       ·simp only [Act.put, Zs1, Zs2, Zs3, zh, zi]
                        rfl
                       refine zn (i := 17) (N := some 93) (v := ?_) (a' := ?_) #[true, true, true, true, true, true, true, true, true, true, true, true, true, true, true, true, true, true, false] rfl rfl (zg HT_.out (by kernel_rfl)) (fun _ _ _ h => h) (Or.inl ⟨by rfl, ?_⟩) ?_ ?_;rotate_left
                       ·intro w'
                        go_simp;with_reducible rfl
                       rotate_left
                       ·simp only [Act.put, Zs1, Zs2, Zs3, zh, zi]
                        rfl
                       refine zn (i := 18) (N := some 94) (v := ?_) (a' := ?_) #[true, true, true, true, true, true, true, true, true, true, true, true, true, true, true, true, true, true, true] rfl rfl (zg HT_.out (by kernel_rfl)) (fun _ _ _ h => h) (Or.inl ⟨by rfl, ?_⟩) ?_ ?_;rotate_left
                       ·intro w'
                        go_simp;with_reducible rfl
                       rotate_left
                       ·simp only [Act.put, Zs1, Zs2, Zs3, zh, zi]
                        rfl
                       refine zcz (zb5 HT_.out (by kernel_rfl)) ?_
                       try go_wp2
                       go_ret;exact ⟨by first | rfl | (simp [zq, zt] <;> rfl) | (simp [*, zq, zt] <;> rfl), Zq1 HB⟩
                      ·rw [if_neg c40] at H
                       have c40b0 : decide ((rd x6_3 x9_4) < (wrap64 ((wrap64 (Int.tdiv (wrap64 (x7_2 + 1)) ((zf t392 x9_4).f2))) * ((zf t392 x9_4).f0)))) = false := decide_eq_false c40;clear c40;have H' := za.mk H;clear H
                       try go_wp2
                       have n0_ := za.mk (Kd.zb7 HO_3.out);have n1_ := za.mk (Kd.zep HO_5.out);have n2_ := za.mk (Kd.zb7 HO_6.out);have n3_ := za.mk (Kd.zeh HR408_0.out);have n4_ := za.mk (zbf HB.out);clear HO_3;clear HO_5;clear HO_6;clear HR408_0;clear HB;have HO_3 := n0_;have HO_5 := n1_;have HO_6 := n2_;have HR408_0 := n3_;have HB := n4_;clear n0_ n1_ n2_ n3_ n4_;obtain ⟨Ao44, co44, eo44⟩ := Kd.zcr HO_6.out;(first | subst eo44 | (injection eo44 with f1_ f2_ f3_; have f4_ := f1_.symm; have f5_ := f3_.symm; clear f1_ f2_ f3_; subst f4_; subst f5_));have p415 : 0 ≤ (x9_4 : Int) := of_decide_eq_true Zas;have q415 : x9_4 < (x6_3.length : Int) := of_decide_eq_true Zas;obtain ⟨ad415, e415, hx415_0⟩ := Kd.zb6 (Kd.zbq HO_6.out).2.2 x9_4 p415 q415
                       cases e415
                       replace p415 := eq_true p415;replace q415 := eq_true q415;have p416 : 0 ≤ (x9_4 : Int) := of_decide_eq_true Zas;have q416 : x9_4 < (t392.length : Int) := of_decide_eq_true Zas;obtain ⟨ad416, e416, hx416_0, hx416_1, hx416_2⟩ := zcm (Kd.zbq HO_3.out).2.2 x9_4 p416 q416
                       cases e416
                       replace p416 := eq_true p416;replace q416 := eq_true q416;have p417 : 0 ≤ (x9_4 : Int) := of_decide_eq_true Zas;have q417 : x9_4 < (t392.length : Int) := of_decide_eq_true Zas;obtain ⟨ad417, e417, hx417_0, hx417_1, hx417_2⟩ := zcm (Kd.zbq HO_3.out).2.2 x9_4 p417 q417;obtain rfl : ad416 = ad417 := (by injection e417);replace p417 := eq_true p417;replace q417 := eq_true q417;refine zcj (n := 19) (S := fun w' => w'.cell? (ad415.add (x9_4).toNat) = some (.int .i64 (rd x6_3 x9_4)) ∧ w'.cell? (ad416.add ((x9_4).toNat * 3)) = some (.int .i64 ((zf t392 x9_4).f0)) ∧ w'.cell? ⟨(ad416.add ((x9_4).toNat * 3)).block, (ad416.add ((x9_4).toNat * 3)).off + 1, none⟩ = some (.int .i64 ((zf t392 x9_4).f1)) ∧ w'.cell? ⟨(ad416.add ((x9_4).toNat * 3)).block, (ad416.add ((x9_4).toNat * 3)).off + 2, none⟩ = some (.int .i64 ((zf t392 x9_4).f2)) ∧ w'.cell? (ad416.add ((x9_4).toNat * 3)) = some (.int .i64 ((zf t392 x9_4).f0)) ∧ w'.cell? ⟨(ad416.add ((x9_4).toNat * 3)).block, (ad416.add ((x9_4).toNat * 3)).off + 1, none⟩ = some (.int .i64 ((zf t392 x9_4).f1)) ∧ w'.cell? ⟨(ad416.add ((x9_4).toNat * 3)).block, (ad416.add ((x9_4).toNat * 3)).off + 2, none⟩ = some (.int .i64 ((zf t392 x9_4).f2))) (ds := []) #[false, false, false, false, false, false, false, false, false, false, false, false, false, false, false, false, false, false, false] (by kernel_rfl) rfl rfl ⟨hx415_0, hx416_0, hx416_1, hx416_2, hx417_0, hx417_1, hx417_2⟩ (fun hHeld => ?_); refine zbr laws_FnFairOne.tab20 laws_FnFairOne.bits20 (fun HT_ HW_ => ?_);generalize wr.drew = w43 at HO_3 HO_5 HO_6 HR408_0 HB hx415_0 hx416_0 hx416_1 hx416_2 hx417_0 hx417_1 hx417_2 hHeld ⊢;refine zn (i := 0) (N := some 76) (v := ?_) (a' := ?_) #[true, false, false, false, false, false, false, false, false, false, false, false, false, false, false, false, false, false, false] rfl rfl (zg HT_.out (by kernel_rfl)) (fun _ _ _ h => h) (Or.inl ⟨by rfl, ?_⟩) ?_ ?_;rotate_left
                       ·intro w'
                        go_simp;with_reducible rfl
                       rotate_left
                       ·simp only [Act.put, Zs1, Zs2, Zs3, zh, zi]
                        rfl
                       refine zn (i := 1) (N := some 77) (v := ?_) (a' := ?_) #[true, true, false, false, false, false, false, false, false, false, false, false, false, false, false, false, false, false, false] rfl rfl (zg HT_.out (by kernel_rfl)) (fun _ _ _ h => h) (Or.inl ⟨by rfl, ?_⟩) ?_ ?_;rotate_left
                       ·intro w'
                        go_simp;with_reducible rfl
                       rotate_left
                       ·simp only [Act.put, Zs1, Zs2, Zs3, zh, zi]
                        rfl
                       refine zn (i := 2) (N := some 78) (v := ?_) (a' := ?_) #[true, true, true, false, false, false, false, false, false, false, false, false, false, false, false, false, false, false, false] rfl rfl (zg HT_.out (by kernel_rfl)) (fun _ _ _ h => h) (Or.inl ⟨by rfl, ?_⟩) ?_ ?_;rotate_left
                       ·intro w'
                        go_simp;with_reducible rfl
                       rotate_left
                       ·simp only [Act.put, Zs1, Zs2, Zs3, zh, zi]
                        rfl
                       refine zn (i := 4) (N := some 80) (v := ?_) (a' := ?_) #[true, true, true, false, true, false, false, false, false, false, false, false, false, false, false, false, false, false, false] rfl rfl (zg HT_.out (by kernel_rfl)) (fun _ _ _ h => h) (Or.inl ⟨by rfl, ?_⟩) ?_ ?_;rotate_left
                       ·intro w'
                        go_simp;with_reducible rfl
                       rotate_left
                       ·simp only [Act.put, Zs1, Zs2, Zs3, zh, zi]
                        rfl
                       refine zn (i := 5) (N := some 81) (v := ?_) (a' := ?_) #[true, true, true, false, true, true, false, false, false, false, false, false, false, false, false, false, false, false, false] rfl rfl (zg HT_.out (by kernel_rfl)) (fun _ _ _ h => h) (Or.inl ⟨by rfl, ?_⟩) ?_ ?_;rotate_left
                       ·intro w'
                        go_simp;with_reducible rfl
                       rotate_left
                       ·simp only [Act.put, Zs1, Zs2, Zs3, zh, zi]
                        rfl
                       refine zn (i := 6) (N := some 82) (v := ?_) (a' := ?_) #[true, true, true, false, true, true, true, false, false, false, false, false, false, false, false, false, false, false, false] rfl rfl (zg HT_.out (by kernel_rfl)) (fun _ _ _ h => h) (Or.inl ⟨by rfl, ?_⟩) ?_ ?_;rotate_left
                       ·intro w'
                        go_simp;with_reducible rfl
                       rotate_left
                       ·simp only [Act.put, Zs1, Zs2, Zs3, zh, zi]
                        rfl
                       refine zn (i := 7) (N := some 83) (v := ?_) (a' := ?_) #[true, true, true, false, true, true, true, true, false, false, false, false, false, false, false, false, false, false, false] rfl rfl (zg HT_.out (by kernel_rfl)) (fun _ _ _ h => h) (Or.inl ⟨by rfl, ?_⟩) ?_ ?_;rotate_left
                       ·intro w'
                        go_simp;with_reducible rfl
                       rotate_left
                       ·simp only [Act.put, Zs1, Zs2, Zs3, zh, zi]
                        rfl
                       refine zn (i := 8) (N := some 84) (v := ?_) (a' := ?_) #[true, true, true, false, true, true, true, true, true, false, false, false, false, false, false, false, false, false, false] rfl rfl (zg HT_.out (by kernel_rfl)) (fun _ _ _ h => h) (Or.inl ⟨by rfl, ?_⟩) ?_ ?_;rotate_left
                       ·intro w'
                        go_simp;with_reducible rfl
                       rotate_left
                       ·simp only [Act.put, Zs1, Zs2, Zs3, zh, zi]
                        rfl
                       refine zn (i := 9) (N := some 85) (v := ?_) (a' := ?_) #[true, true, true, false, true, true, true, true, true, true, false, false, false, false, false, false, false, false, false] rfl rfl (zg HT_.out (by kernel_rfl)) (fun _ _ _ h => h) (Or.inl ⟨by rfl, ?_⟩) ?_ ?_;rotate_left
                       ·intro w'
                        go_simp;with_reducible rfl
                       rotate_left
                       ·simp only [Act.put, Zs1, Zs2, Zs3, zh, zi]
                        rfl
                       refine zn (i := 12) (N := some 88) (v := ?_) (a' := ?_) #[true, true, true, false, true, true, true, true, true, true, false, false, true, false, false, false, false, false, false] rfl rfl (zg HT_.out (by kernel_rfl)) (fun _ _ _ h => h) (Or.inl ⟨by rfl, ?_⟩) ?_ ?_;rotate_left
                       ·intro w'
                        go_simp;with_reducible rfl
                       rotate_left
                       ·simp only [Act.put, Zs1, Zs2, Zs3, zh, zi]
                        rfl
                       refine zn (i := 13) (N := some 89) (v := ?_) (a' := ?_) #[true, true, true, false, true, true, true, true, true, true, false, false, true, true, false, false, false, false, false] rfl rfl (zg HT_.out (by kernel_rfl)) (fun _ _ _ h => h) (Or.inl ⟨by rfl, ?_⟩) ?_ ?_;rotate_left
                       ·intro w'
                        go_simp;with_reducible rfl
                       rotate_left
                       ·simp only [Act.put, Zs1, Zs2, Zs3, zh, zi]
                        rfl
                       refine zn (i := 14) (N := some 90) (v := ?_) (a' := ?_) #[true, true, true, false, true, true, true, true, true, true, false, false, true, true, true, false, false, false, false] rfl rfl (zg HT_.out (by kernel_rfl)) (fun _ _ _ h => h) (Or.inl ⟨by rfl, ?_⟩) ?_ ?_;rotate_left
                       ·intro w'
                        go_simp;with_reducible rfl
                       rotate_left
                       ·simp only [Act.put, Zs1, Zs2, Zs3, zh, zi]
                        rfl
                       refine zn (i := 15) (N := some 91) (v := ?_) (a' := ?_) #[true, true, true, false, true, true, true, true, true, true, false, false, true, true, true, true, false, false, false] rfl rfl (zg HT_.out (by kernel_rfl)) (fun _ _ _ h => h) (Or.inl ⟨by rfl, ?_⟩) ?_ ?_;rotate_left
                       ·intro w'
                        go_simp;with_reducible rfl
                       rotate_left
                       ·simp only [Act.put, Zs1, Zs2, Zs3, zh, zi]
                        rfl
                       refine zbx (i := 3) (N := some 79) (v := ?_) (a' := ?_) #[true, true, true, true, true, true, true, true, true, true, false, false, true, true, true, true, false, false, false] rfl rfl (z8 HT_.out HW_.out (by kernel_rfl)) (fun _ _ _ h => h) (Or.inl ⟨by rfl, ?_⟩) hHeld ?_ ?_;rotate_left
                       ·rintro w' ⟨s0, s1, s2, s3, s4, s5, s6⟩
                        go_simp;with_reducible rfl
                       rotate_left
                       ·simp only [Act.put, Zs1, Zs2, Zs3, zh, zi]
                        rfl
                       refine zbx (i := 10) (N := some 86) (v := ?_) (a' := ?_) #[true, true, true, true, true, true, true, true, true, true, true, false, true, true, true, true, false, false, false] rfl rfl (z8 HT_.out HW_.out (by kernel_rfl)) (fun _ _ _ h => h) (Or.inl ⟨by rfl, ?_⟩) hHeld ?_ ?_;rotate_left
                       ·rintro w' ⟨s0, s1, s2, s3, s4, s5, s6⟩
                        go_simp;with_reducible rfl
                       rotate_left
                       ·simp only [Act.put, Zs1, Zs2, Zs3, zh, zi]
                        rfl
                       refine zn (i := 11) (N := some 87) (v := ?_) (a' := ?_) #[true, true, true, true, true, true, true, true, true, true, true, true, true, true, true, true, false, false, false] rfl rfl (zg HT_.out (by kernel_rfl)) (fun _ _ _ h => h) (Or.inl ⟨by rfl, ?_⟩) ?_ ?_;rotate_left
                       ·intro w'
                        go_simp;with_reducible rfl
                       rotate_left
                       ·simp only [Act.put, Zs1, Zs2, Zs3, zh, zi]
                        rfl
                       refine zbx (i := 16) (N := some 92) (v := ?_) (a' := ?_) #[true, true, true, true, true, true, true, true, true, true, true, true, true, true, true, true, true, false, false] rfl rfl (z8 HT_.out HW_.out (by kernel_rfl)) (fun _ _ _ h => h) (Or.inl ⟨by rfl, ?_⟩) hHeld ?_ ?_;rotate_left
                       ·rintro w' ⟨s0, s1, s2, s3, s4, s5, s6⟩
                        go_simp;with_reducible rfl
                       rotate_left
                       ·simp only [Act.put, Zs1, Zs2, Zs3, zh, zi]
                        rfl
                       refine zn (i := 17) (N := some 93) (v := ?_) (a' := ?_) #[true, true, true, true, true, true, true, true, true, true, true, true, true, true, true, true, true, true, false] rfl rfl (zg HT_.out (by kernel_rfl)) (fun _ _ _ h => h) (Or.inl ⟨by rfl, ?_⟩) ?_ ?_;rotate_left
                       ·intro w'
                        go_simp;with_reducible rfl
                       rotate_left
                       ·simp only [Act.put, Zs1, Zs2, Zs3, zh, zi]
                        rfl
                       refine zn (i := 18) (N := some 94) (v := ?_) (a' := ?_) #[true, true, true, true, true, true, true, true, true, true, true, true, true, true, true, true, true, true, true] rfl rfl (zg HT_.out (by kernel_rfl)) (fun _ _ _ h => h) (Or.inl ⟨by rfl, ?_⟩) ?_ ?_;rotate_left
                       ·intro w'
                        go_simp;with_reducible rfl
                       rotate_left
                       ·simp only [Act.put, Zs1, Zs2, Zs3, zh, zi]
                        rfl
                       refine zcz (zb5 HT_.out (by kernel_rfl)) ?_
                       try go_wp2
                       go_roundg k4
                       case measure => have := HJ7.out; have := HK2.out; have := HK3.out; have := HK4.out; omega
                       case rel => exact ⟨(wrap64 (x9_4 + 1)), Zrs, H', ⟨by have := HJ7.out; have := HK2.out; have := HK3.out; have := HK4.out; omega⟩, ⟨Zq12 HO_3⟩, ⟨Zq21 HO_5⟩, ⟨Zq12 HO_6⟩, ⟨by repeat (first | (with_reducible exact HR408_0.out) | (with_reducible refine Kd.zdv ?_ _) | (with_reducible refine Kd.zee ?_ _) | (with_reducible refine Kd.zeh ?_) | exact HR408_0.out)⟩, ⟨Zq1 HB⟩⟩
                    ·rw [if_neg c38] at H
                     exact absurd H (by simp)
                   ·rw [if_neg c37] at H
                    exact absurd H (by simp)
                  ·rw [if_neg c36] at H
                   have c36b0 : decide (x9_4 < (t392.length : Int)) = false := decide_eq_false c36;clear c36;have H' := za.mk H;clear H;go_wp2;go_roundg k4
                   case measure => have := HJ7.out; have := HK2.out; have := HK3.out; have := HK4.out; omega
                   case rel => exact ⟨(x6_3), (wrap64 (x7_2 + 1)), Zrs, H', ⟨by have := HJ7.out; have := HK2.out; have := HK3.out; have := HK4.out; omega⟩, ⟨Zq12 HO_3⟩, ⟨Zq21 HO_5⟩, ⟨Zq12 HO_6⟩, ⟨Zq1 HB⟩⟩
              ·rw [if_neg c27] at H
               exact absurd H (by simp)
             ·rw [if_neg c26] at H
              exact absurd H (by simp)
          ·rw [if_neg c25] at H
           have c25b0 : decide (x7_2 < 120) = false := decide_eq_false c25;clear c25;obtain rfl := Option.some.inj H;go_wp2;go_ret;exact ⟨by first | rfl | (simp [zq, zt] <;> rfl) | (simp [*, zq, zt] <;> rfl), Zq1 HB⟩
       ·rw [if_neg c22] at H
        exact absurd H (by simp)
      ·rw [if_neg c21] at H
       exact absurd H (by simp)
  ·replace c7 := Bool.eq_false_iff.mpr c7
   subst c7;have H1 : (some false) = some r := by rw [if_neg (show ¬ (false = true) by decide)] at H; exact H
   clear H;have H := H1;clear H1;obtain rfl := Option.some.inj H;go_enter Try.func4, Try.ntmps4;go_wp2_with (first | ((with_reducible refine zw (f := 9) rfl ?_); refine zbw (some 15) rfl rfl Try.func9 (by kernel_rfl) rfl #[.slice A0 l0.length c0] rfl Zmt ?_; (with_reducible refine (zct.calls k _ _ l0 t392 t393 _ ?side1 ?side2 A3.out).mono ?_); (case side1 => exact Zq17 HR0); (case side2 => exact HC0.out); rintro e w45 ⟨v394, rfl, ho0, hb⟩; refine ⟨_, rfl, ?_⟩; have n0_ := za.mk (Kd.zcv ho0 (zbb (Zq1 HB))); have n1_ := za.mk (zm (Zq1 HB) hb); clear HB; have HO395 := n0_; have HB := n1_; clear n0_ n1_; (try clear hb); (try clear hb2); (try clear hk); (try clear hi); (try clear ho0); obtain ⟨Ao46, co46, eo46⟩ := Kd.zcr HO395.out; subst eo46) | ((with_reducible refine zw (f := 10) rfl ?_); refine zbw (some 19) rfl rfl Try.func10 (by kernel_rfl) rfl #[.slice Ao46 t392.length co46, .int .i64 1] rfl Zmt ?_; (with_reducible refine (zbv.calls k _ _ t392 1 t396 _ ?side1 ?side2 A4.out).mono ?_); (case side1 => exact Zq18 ((Kd.zbq HO395.out).2.2)); (case side2 => exact (Kd.zbq HO395.out).2.1); rintro e w47 ⟨v397, rfl, ho0, hb⟩; refine ⟨_, rfl, ?_⟩; have n0_ := za.mk (Kd.zcy (Zq12 HO395) hb); have n1_ := za.mk (Kd.ze3 ho0 (zbb (Zq1 HB))); have n2_ := za.mk (zm (Zq1 HB) hb); clear HO395; clear HB; have HO395 := n0_; have HO398 := n1_; have HB := n2_; clear n0_ n1_ n2_; (try clear hb); (try clear hb2); (try clear hk); (try clear hi); (try clear ho0)) | ((with_reducible refine zw (f := 12) rfl ?_); refine zbw (some 22) rfl rfl Try.func12 (by kernel_rfl) rfl #[.slice Ao46 t392.length co46, .int .i64 1] rfl Zmt ?_; (with_reducible refine (zu.calls k _ _ t392 1 t399 _ ?side1 ?side2 A5.out).mono ?_); (case side1 => exact Zq18 ((Kd.zbq HO395.out).2.2)); (case side2 => exact (Kd.zbq HO395.out).2.1); rintro e w48 ⟨v400, rfl, ho0, hb⟩; replace ho0 := Kd.Qc_of_S ho0; refine ⟨_, rfl, ?_⟩; have n0_ := za.mk (Kd.zcy (Zq12 HO395) hb); have n1_ := za.mk (Kd.zgv (Zq21 HO398) (Kd.Qc_base ho0) hb); have n2_ := za.mk (Kd.ze3 (Kd.Qc_new' ho0 (Kd.Qc_lt (Zq21 HO398))) (zbb (Zq1 HB))); have n3_ := za.mk (zm (Zq1 HB) hb); clear HO395; clear HO398; clear HB; have HO395 := n0_; have HO398 := n1_; have HO401 := n2_; have HB := n3_; clear n0_ n1_ n2_ n3_; (try clear hb); (try clear hb2); (try clear hk); (try clear hi); (try clear ho0); obtain ⟨Ao49, co49, eo49⟩ := Kd.zfo HO398.out; subst eo49; obtain ⟨Ao50, co50, eo50⟩ := Kd.zfo HO401.out; subst eo50) | ((with_reducible refine zw (f := 11) rfl ?_); refine zbw (some 23) rfl rfl Try.func11 (by kernel_rfl) rfl #[.slice Ao49 t396.length co49, .slice Ao50 t399.length co50] rfl Zmt ?_; (with_reducible refine (zbz.calls k _ _ t396 _ _ t399 false _ ?side1 ?side2 ?side3 ?side4 A6.out).mono ?_); (case side1 => exact Zq18 ((Kd.zcw HO398.out).2.2)); (case side2 => exact (Kd.zcw HO398.out).2.1); (case side3 => exact Zq18 ((Kd.zcw HO401.out).2.2)); (case side4 => exact (Kd.zcw HO401.out).2.1); rintro e w' ⟨rfl, ⟨nd, rfl⟩⟩; refine ⟨_, rfl, ?_⟩));go_ret;exact ⟨by first | rfl | (simp [zq, zt] <;> rfl) | (simp [*, zq, zt] <;> rfl), Zq1 HB⟩
def laws_FnFairOne.Pure : Prop := ∀ (l0 : List Int), l0.length * 1 ≤ 140737488351232 → (l0.length ≤ maxLen ∧ ∀ y0 ∈ l0, (Lit.int .u8 y0).wf = true) → ∃ k, laws_FnFairOne.f k l0 = some true
end Go.Proofs.Ytnilnaabjpcfjaa.P
namespace Go.Proofs.Ytnilnaabjpcfjaa.Base
open Go.RowKit Go.Proofs.Ytnilnaabjpcfjaa.P Go.Proofs.YtnilnaabjpcfjaaW.PrintWords Go.Proofs.YtnilnaabjpcfjaaW.PrintLast Go.Proofs.YtnilnaabjpcfjaaW.PrintMore
theorem w64 {x : Int} (h0 : -9223372036854775808 ≤ x) (h1 : x < 9223372036854775808) : wrap64 x = x := by unfold wrap64; omega
theorem zhq {a b A B : Int} (ha : 0 ≤ a) (hA : a ≤ A) (hb : 0 ≤ b) (hB : b ≤ B) : 0 ≤ a * b ∧ a * b ≤ A * B :=
  ⟨Int.mul_nonneg ha hb, Int.mul_le_mul hA hB hb (by omega)⟩
theorem in_f (a b c : Int) : zde.f a b c = some (decide (b ≤ a ∧ a ≤ c)) := by
  unfold zde.f
  by_cases h : a ≥ b
  · rw [if_pos h]; simp [show b ≤ a from h]
  · rw [if_neg h]; simp [show ¬ b ≤ a from h]
theorem l1In_f (a b c : Int) : zcc.f a b c = some (decide (b ≤ a ∧ a ≤ c)) := by
  unfold zcc.f
  by_cases h : a ≥ b
  · rw [if_pos h]; simp [show b ≤ a from h]
  · rw [if_neg h]; simp [show ¬ b ≤ a from h]
theorem zfr {α : Type} (p : Prop) [Decidable p] (x y : Option α) : (some (decide p)).bind (fun t => if t = true then x else y) = if p then x else y := by
  by_cases hp : p <;> simp [hp]
theorem zes {a b : Int} (h : 0 ≤ a) : Int.tdiv a b = a / b := Int.tdiv_eq_ediv_of_nonneg h
theorem tmod_pos {a b : Int} (h : 0 ≤ a) : Int.tmod a b = a % b := Int.tmod_eq_emod_of_nonneg h
end Go.Proofs.Ytnilnaabjpcfjaa.Base
namespace Go.Proofs.Ytnilnaabjpcfjaa.Alive
open Go.RowKit Go.Proofs.Ytnilnaabjpcfjaa.P Go.Proofs.Ytnilnaabjpcfjaa.Base Go.Proofs.YtnilnaabjpcfjaaW.PrintWords Go.Proofs.YtnilnaabjpcfjaaW.PrintLast
def TV (c d p : Int) : Prop := 1 ≤ c ∧ c ≤ 8 ∧ c ≤ d ∧ d ≤ p ∧ p ≤ 12
instance (c d p : Int) : Decidable (TV c d p) := by unfold TV; infer_instance
theorem task_f (c d p : Int) : zcn.f c d p = some (decide (TV c d p)) := by
  unfold zcn.f
  rw [in_f, in_f, zfr, zfr]
  by_cases h1 : 1 ≤ c ∧ c ≤ 8
  · by_cases h2 : c ≤ d ∧ d ≤ p
    · rw [if_pos h1, if_pos h2]; congr 1; rw [decide_eq_decide]; unfold TV; omega
    · rw [if_pos h1, if_neg h2]; congr 1; symm; rw [decide_eq_false_iff_not]; unfold TV; omega
  · rw [if_neg h1]; congr 1; symm; rw [decide_eq_false_iff_not]; unfold TV; omega
theorem alive_f : zdw.f = some true := by
  unfold zdw.f
  rw [task_f]; rfl
end Go.Proofs.Ytnilnaabjpcfjaa.Alive
