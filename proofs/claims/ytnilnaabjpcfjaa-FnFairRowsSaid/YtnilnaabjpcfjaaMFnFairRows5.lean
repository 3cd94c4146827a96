/- The law FnFairRows for every input, part 5 of its proof: what the program's functions answer, and the plain law. No condition. -/
import Derived.Test.YtnilnaabjpcfjaaMFnFairRows1
import Derived.Test.YtnilnaabjpcfjaaMFnFairRows2
import Derived.Test.YtnilnaabjpcfjaaMFnFairRows3
import Derived.Test.YtnilnaabjpcfjaaMFnFairRows4
set_option maxRecDepth 100000
namespace Go.Proofs.Ytnilnaabjpcfjaa.P
open Go.RowKit Go.Proofs.YtnilnaabjpcfjaaW.PrintWords Go.Proofs.YtnilnaabjpcfjaaW.PrintLast Go.Proofs.YtnilnaabjpcfjaaW.PrintMore
attribute [local go_sem] zfh zfi zgq zgr zet zeu zfj zfk
set_option linter.unusedVariables false
set_option linter.unusedSimpArgs false
mutual
def z8.l0 : Nat → List (S35) → List Int → Int → Int → List Int → Option (List Int)
 | 0, _, _, _, _, _ => none
 | k + 1, x0, x1, x2, x3, x9 => if (x9.length : Int) < x3 then (z8.l1 k x0 x1 x2 x3 x9 (-1) 0) else (some x9)
def z8.l1 : Nat → List (S35) → List Int → Int → Int → List Int → Int → Int → Option (List Int)
 | 0, _, _, _, _, _, _, _ => none
 | k + 1, x0, x1, x2, x3, x9, x10, x11 => if x11 < (x0.length : Int) then (if 0 ≤ x11 then (if x11 < (x1.length : Int) then ((zbb.f ((zf x0 x11).f0) ((zf x0 x11).f1) ((zf x0 x11).f2) (rd x1 x11)).bind fun bt314 => (if bt314.1 ≤ x2 then ((zcc.f k x9 x11).bind fun t316 => (if t316 < 0 then (if x10 < 0 then (z8.l1 k x0 x1 x2 x3 x9 x11 (wrap64 (x11 + 1))) else ((zm.f k x0 x1 x11 x10).bind fun t317 => (if t317 = true then (z8.l1 k x0 x1 x2 x3 x9 x11 (wrap64 (x11 + 1))) else (z8.l1 k x0 x1 x2 x3 x9 x10 (wrap64 (x11 + 1)))))) else (z8.l1 k x0 x1 x2 x3 x9 x10 (wrap64 (x11 + 1))))) else (z8.l1 k x0 x1 x2 x3 x9 x10 (wrap64 (x11 + 1))))) else (none)) else (none)) else (if x10 < 0 then (some x9) else (if x9.length < 17592186044416 then (z8.l0 k x0 x1 x2 x3 (x9 ++ [x10])) else (none)))
end
def z8.f (k : Nat) (l0 : List (S35)) (l1 : List Int) (a2 : Int) (a3 : Int) : Option (List Int) := z8.l0 k l0 l1 a2 a3 (([] : List Int))
def z8.T7 : Bool × List (List Nat × List Nat) := (true, [([], []), ([], []), ([0, 1], [0, 1]), ([2], [2]), ([], []), ([], []), ([4, 5], [4, 5]), ([6], [6]), ([3, 7], [3, 7]), ([8], [8]), ([], []), ([9, 10], [9, 10]), ([11, 8], [11]), ([12], [12]), ([12], [12]), ([13, 14, 12, 12], [12, 13, 14]), ([15, 12], [12, 15]), ([12, 16], [12, 16]), ([17, 15], [17]), ([18], [18]), ([19, 18], [18, 19]), ([20, 18, 18], [18, 20]), ([21], [21]), ([21], [21]), ([21], [21]), ([21], [21]), ([22, 23, 24, 25, 21, 21], [21, 22, 23, 24, 25]), ([21, 26, 18], [18, 21, 26]), ([18, 27], [18, 27])])
def z8.B7 : List Nat := [0, 0, 3, 7, 0, 0, 48, 112, 255, 511, 0, 2047, 4095, 8191, 8191, 32767, 65535, 131071, 262143, 524287, 1048575, 2097151, 4194303, 4194303, 4194303, 4194303, 67108863, 134217727, 268435455]
theorem z8.tab7 : rtab .any (opsOf Try.f38 7) = z8.T7 := by kernel_rfl
theorem z8.zit : zcw z8.T7.2 z8.B7 = true := by kernel_rfl
set_option maxHeartbeats 8000000 in
theorem z8.calls (k : Nat) (A0 : Option Addr) (c0 : Nat) (l0 : List (S35)) (A1 : Option Addr) (c1 : Nat) (l1 : List Int) (a2 : Int) (a3 : Int) (r : List Int) (w : World) (hr0 : Kd.C k35 w A0 l0.length l0) (hc0 : l0.length ≤ c0) (hr1 : Kd.C (Kd.int .i64) w A1 l1.length l1) (hc1 : l1.length ≤ c1) (h : z8.f k l0 l1 a2 a3 = some r) :
  Calls Try.prog 38 #[.slice A0 l0.length c0, .slice A1 l1.length c1, .int .i64 a2, .int .i64 a3] w fun e w' => ∃ v0_ : Value, e = .returned (v0_) ∧ Kd.R (Kd.int .i64) 3 w' w.heap.size (fun _ => True) v0_ r ∧ Below w.heap.size w w' := by
 have hfld39_0 : ∀ (v0_ v1_ : Value) (W : World), (Instr.field 39 (.agg #[v0_, v1_]) 0).run Try.prog W = .ok v0_ W := fun _ _ _ => rfl
 have hfld39_1 : ∀ (v0_ v1_ : Value) (W : World), (Instr.field 39 (.agg #[v0_, v1_]) 1).run Try.prog W = .ok v1_ W := fun _ _ _ => rfl
 have hu35 := Try.underlying35
 have HR0 := za.mk hr0
 have HC0 := za.mk hc0
 clear hr0 hc0
 have HR1 := za.mk hr1
 have HC1 := za.mk hc1
 clear hr1 hc1
 have HB := za.mk (Below.refl w.heap.size w)
 have H : (z8.l0 k l0 l1 a2 a3 (([] : List Int))) = some r := h
 clear h
 obtain ⟨y306, hy306⟩ : ∃ y_ : List Int, y_ = (([] : List Int)) := ⟨_, rfl⟩
 replace H : (z8.l0 k l0 l1 a2 a3 y306) = some r := by first | (rw [hy306]; with_reducible exact H) | (have H2_ := (Option.bind_some _ _).symm.trans H; rw [hy306]; with_reducible exact H2_) | (have H2_ := (Option.bind_some _ _).symm.trans H; with_reducible exact H2_) | with_reducible exact H | (rw [hy306]; exact H) | exact H
 have Ny306 := za.mk hy306
 clear hy306
 have H' := za.mk H
 clear H
 go_enter Try.func38, Try.ntmps38
 go_wp2_with (first | ((with_reducible refine zb4 (N := 12) rfl ?_); refine Kd.zif (Kd.int .i64) _ 3 ?hg (N := 12) ?hd (xs := ([] : List Int)) (inner := []) (ok := fun _ => True) (okp := fun _ => True) ?hr ?hp (fun _ hk => hk) trivial (Below.refl _ _) (Nat.le_refl _) (by simp) ?_; (case hd => rfl); (case hg => rfl); (case hr => first | (go_simp; done) | (go_simp; rfl)); (case hp => exact (Reps.none _ _)); intro v307 w5 ho6 hb hg_ hnew_; clear hg_ hnew_; (first | rw [← Ny306.out] at ho6 | (simp only [Int.reduceToNat] at ho6; rw [← Ny306.out] at ho6)); have n0_ := za.mk (Kd.zcj ho6 (zu (Zq1 HB))); have n1_ := za.mk (zl (Zq1 HB) hb); clear HB; have HO308 := n0_; have HB := n1_; clear n0_ n1_; clear hb ho6))
 go_loopg [9] k (fun kq v9 w' => ∃ (x9_1 : List Int), za (z8.l0 kq l0 l1 a2 a3 x9_1 = some r) ∧ za (kq ≤ k) ∧ za (Kd.R (Kd.int .i64) 3 w' w.heap.size (fun _ => True) v9 x9_1) ∧ za (Below w.heap.size w w'))
 case atStart => exact ⟨(y306), H', ⟨Nat.le_refl _⟩, ⟨Zq12 HO308⟩, ⟨Zq1 HB⟩⟩
 case round =>
  clear H'
  (try clear c1);(try clear p2);(try clear c3)
  obtain ⟨x9_1, HA, HK1, HO_9, HB⟩ := hrel
  cases gk with
  | zero => exact absurd HA.out (by simp [z8.l0])
  | succ k1 =>
   have H := HA.out;clear HA;simp only [z8.l0] at H;by_cases c7 : (x9_1.length : Int) < a3
   ·rw [if_pos c7] at H
    have c7b0 : decide ((x9_1.length : Int) < a3) = true := decide_eq_true c7;clear c7;have H' := za.mk H;clear H;obtain ⟨Ao8, co8, eo8⟩ := Kd.zck HO_9.out;subst eo8;go_wp2
    go_loopg [10, 11] k1 (fun kq v10 v11 w' => ∃ (x10_2 : Int) (x11_2 : Int), v10 = .int .i64 x10_2 ∧ v11 = .int .i64 x11_2 ∧ za (z8.l1 kq l0 l1 a2 a3 x9_1 x10_2 x11_2 = some r) ∧ za (kq ≤ k1) ∧ za (Kd.R (Kd.int .i64) 3 w' w.heap.size (fun _ => True) (.slice Ao8 x9_1.length co8) x9_1) ∧ za (Below w.heap.size w w'))
    case atStart => exact ⟨((-1)), (0), Zrs, Zrs, H', ⟨Nat.le_refl _⟩, ⟨Zq12 HO_9⟩, ⟨Zq1 HB⟩⟩
    case round =>
     clear H'
     (try clear c1);(try clear p2);(try clear c3);(try clear c7);(try clear c7b0);(try clear p2)
     obtain ⟨x10_2, x11_2, rfl, rfl, HA, HK2, HO_9, HB⟩ := hrel
     cases gk with
     | zero => exact absurd HA.out (by simp [z8.l1])
     | succ k2 =>
      have H := HA.out;clear HA;simp only [z8.l1] at H;by_cases c9 : x11_2 < (l0.length : Int)
      ·rw [if_pos c9] at H
       have c9b0 : decide (x11_2 < (l0.length : Int)) = true := decide_eq_true c9;clear c9;by_cases c10 : 0 ≤ x11_2
       ·rw [if_pos c10] at H
        have c10b0 : decide (0 ≤ x11_2) = true := decide_eq_true c10;clear c10;by_cases c11 : x11_2 < (l1.length : Int)
        ·rw [if_pos c11] at H
         have c11b0 : decide (x11_2 < (l1.length : Int)) = true := decide_eq_true c11;clear c11;replace H := Option.bind_eq_some_iff.mp H;obtain ⟨⟨t314, t315⟩, A120, H⟩ := H;replace H : (if t314 ≤ a2 then ((zcc.f k2 x9_1 x11_2).bind fun t316 => (if t316 < 0 then (if x10_2 < 0 then (z8.l1 k2 l0 l1 a2 a3 x9_1 x11_2 (wrap64 (x11_2 + 1))) else ((zm.f k2 l0 l1 x11_2 x10_2).bind fun t317 => (if t317 = true then (z8.l1 k2 l0 l1 a2 a3 x9_1 x11_2 (wrap64 (x11_2 + 1))) else (z8.l1 k2 l0 l1 a2 a3 x9_1 x10_2 (wrap64 (x11_2 + 1)))))) else (z8.l1 k2 l0 l1 a2 a3 x9_1 x10_2 (wrap64 (x11_2 + 1))))) else (z8.l1 k2 l0 l1 a2 a3 x9_1 x10_2 (wrap64 (x11_2 + 1)))) = some r := H;have A12 := za.mk A120;clear A120;by_cases c13 : t314 ≤ a2
         ·rw [if_pos c13] at H
          have c13b0 : decide (t314 ≤ a2) = true := decide_eq_true c13;clear c13;replace H := Option.bind_eq_some_iff.mp H;obtain ⟨t316, A140, H⟩ := H;replace H : (if t316 < 0 then (if x10_2 < 0 then (z8.l1 k2 l0 l1 a2 a3 x9_1 x11_2 (wrap64 (x11_2 + 1))) else ((zm.f k2 l0 l1 x11_2 x10_2).bind fun t317 => (if t317 = true then (z8.l1 k2 l0 l1 a2 a3 x9_1 x11_2 (wrap64 (x11_2 + 1))) else (z8.l1 k2 l0 l1 a2 a3 x9_1 x10_2 (wrap64 (x11_2 + 1)))))) else (z8.l1 k2 l0 l1 a2 a3 x9_1 x10_2 (wrap64 (x11_2 + 1)))) = some r := H;have A14 := za.mk A140;clear A140;by_cases c15 : t316 < 0
          ·rw [if_pos c15] at H
           have c15b0 : decide (t316 < 0) = true := decide_eq_true c15;clear c15;by_cases c16 : x10_2 < 0
           ·rw [if_pos c16] at H
            have c16b0 : decide (x10_2 < 0) = true := decide_eq_true c16;clear c16;have H' := za.mk H;clear H
            try go_wp2
            have n0_ := za.mk (Kd.zci HO_9.out);have n1_ := za.mk (zbk HB.out);clear HO_9;clear HB;have HO_9 := n0_;have HB := n1_;clear n0_ n1_;have p312 : 0 ≤ (x11_2 : Int) := of_decide_eq_true Zas;have q312 : x11_2 < (l0.length : Int) := of_decide_eq_true Zas;obtain ⟨ad312, e312, hx312_0, hx312_1, hx312_2⟩ := zch HR0.out x11_2 p312 q312;have hw312_2 := hx312_2;have hw312_1 := hx312_1;have hw312_0 := hx312_0
            cases e312
            replace hx312_0 := (HB.out.cell (World.block_lt_of_cell? w _ hx312_0)).trans hx312_0;replace hx312_1 := (HB.out.cell (World.block_lt_of_cell? w _ hx312_1)).trans hx312_1;replace hx312_2 := (HB.out.cell (World.block_lt_of_cell? w _ hx312_2)).trans hx312_2;replace p312 := eq_true p312;replace q312 := eq_true q312;have p313 : 0 ≤ (x11_2 : Int) := of_decide_eq_true Zas;have q313 : x11_2 < (l1.length : Int) := of_decide_eq_true Zas;obtain ⟨ad313, e313, hx313_0⟩ := Kd.zb5 HR1.out x11_2 p313 q313;have hw313_0 := hx313_0
            cases e313
            replace hx313_0 := (HB.out.cell (World.block_lt_of_cell? w _ hx313_0)).trans hx313_0;replace p313 := eq_true p313;replace q313 := eq_true q313;refine zcn (n := 29) (S := fun w' => w'.cell? (ad312.add ((x11_2).toNat * 3)) = some (.int .i64 ((zf l0 x11_2).f0)) ∧ w'.cell? ⟨(ad312.add ((x11_2).toNat * 3)).block, (ad312.add ((x11_2).toNat * 3)).off + 1, none⟩ = some (.int .i64 ((zf l0 x11_2).f1)) ∧ w'.cell? ⟨(ad312.add ((x11_2).toNat * 3)).block, (ad312.add ((x11_2).toNat * 3)).off + 2, none⟩ = some (.int .i64 ((zf l0 x11_2).f2)) ∧ w'.cell? (ad313.add (x11_2).toNat) = some (.int .i64 (rd l1 x11_2))) (ds := []) #[false, false, false, false, false, false, false, false, false, false, false, false, false, false, false, false, false, false, false, false, false, false, false, false, false, false, false, false, false] (by kernel_rfl) rfl rfl ⟨((HB.out.cell (World.block_lt_of_cell? w _ hw312_0)).trans hw312_0), ((HB.out.cell (World.block_lt_of_cell? w _ hw312_1)).trans hw312_1), ((HB.out.cell (World.block_lt_of_cell? w _ hw312_2)).trans hw312_2), ((HB.out.cell (World.block_lt_of_cell? w _ hw313_0)).trans hw313_0)⟩ (fun hHeld => ?_); refine zbw z8.tab7 z8.zit (fun HT_ HW_ => ?_);generalize wr.drew = w17 at HO_9 HB hx312_0 hx312_1 hx312_2 hx313_0 hHeld ⊢;refine zn (i := 0) (N := some 23) (v := ?_) (a' := ?_) #[true, false, false, false, false, false, false, false, false, false, false, false, false, false, false, false, false, false, false, false, false, false, false, false, false, false, false, false, false] rfl rfl (zg HT_.out (by kernel_rfl)) (fun _ _ _ h => h) (Or.inl ⟨by rfl, ?_⟩) ?_ ?_;rotate_left
            ·intro w'
             go_simp;with_reducible rfl
            rotate_left
            ·simp only [Act.put, Zs1, Zs2, Zs3, zh, zi]
             rfl
            refine zn (i := 1) (N := some 24) (v := ?_) (a' := ?_) #[true, true, false, false, false, false, false, false, false, false, false, false, false, false, false, false, false, false, false, false, false, false, false, false, false, false, false, false, false] rfl rfl (zg HT_.out (by kernel_rfl)) (fun _ _ _ h => h) (Or.inl ⟨by rfl, ?_⟩) ?_ ?_;rotate_left
            ·intro w'
             go_simp;with_reducible rfl
            rotate_left
            ·simp only [Act.put, Zs1, Zs2, Zs3, zh, zi]
             rfl
            refine zn (i := 2) (N := some 25) (v := ?_) (a' := ?_) #[true, true, true, false, false, false, false, false, false, false, false, false, false, false, false, false, false, false, false, false, false, false, false, false, false, false, false, false, false] rfl rfl (zg HT_.out (by kernel_rfl)) (fun _ _ _ h => h) (Or.inl ⟨by rfl, ?_⟩) ?_ ?_;rotate_left
            ·intro w'
             go_simp;with_reducible rfl
            rotate_left
            ·simp only [Act.put, Zs1, Zs2, Zs3, zh, zi]
             rfl
            refine zn (i := 4) (N := some 27) (v := ?_) (a' := ?_) #[true, true, true, false, true, false, false, false, false, false, false, false, false, false, false, false, false, false, false, false, false, false, false, false, false, false, false, false, false] rfl rfl (zg HT_.out (by kernel_rfl)) (fun _ _ _ h => h) (Or.inl ⟨by rfl, ?_⟩) ?_ ?_;rotate_left
            ·intro w'
             go_simp;with_reducible rfl
            rotate_left
            ·simp only [Act.put, Zs1, Zs2, Zs3, zh, zi]
             rfl
            refine zn (i := 5) (N := some 28) (v := ?_) (a' := ?_) #[true, true, true, false, true, true, false, false, false, false, false, false, false, false, false, false, false, false, false, false, false, false, false, false, false, false, false, false, false] rfl rfl (zg HT_.out (by kernel_rfl)) (fun _ _ _ h => h) (Or.inl ⟨by rfl, ?_⟩) ?_ ?_;rotate_left
            ·intro w'
             go_simp;with_reducible rfl
            rotate_left
            ·simp only [Act.put, Zs1, Zs2, Zs3, zh, zi]
             rfl
            refine zn (i := 6) (N := some 29) (v := ?_) (a' := ?_) #[true, true, true, false, true, true, true, false, false, false, false, false, false, false, false, false, false, false, false, false, false, false, false, false, false, false, false, false, false] rfl rfl (zg HT_.out (by kernel_rfl)) (fun _ _ _ h => h) (Or.inl ⟨by rfl, ?_⟩) ?_ ?_;rotate_left
            ·intro w'
             go_simp;with_reducible rfl
            rotate_left
            ·simp only [Act.put, Zs1, Zs2, Zs3, zh, zi]
             rfl
            refine zn (i := 10) (N := some 33) (v := ?_) (a' := ?_) #[true, true, true, false, true, true, true, false, false, false, true, false, false, false, false, false, false, false, false, false, false, false, false, false, false, false, false, false, false] rfl rfl (zg HT_.out (by kernel_rfl)) (fun _ _ _ h => h) (Or.inl ⟨by rfl, ?_⟩) ?_ ?_;rotate_left
            ·intro w'
             go_simp;with_reducible rfl
            rotate_left
            ·simp only [Act.put, Zs1, Zs2, Zs3, zh, zi]
             rfl
            refine zb3 (i := 3) (N := some 26) (v := ?_) (a' := ?_) #[true, true, true, true, true, true, true, false, false, false, true, false, false, false, false, false, false, false, false, false, false, false, false, false, false, false, false, false, false] rfl rfl (zbc HT_.out HW_.out (by kernel_rfl)) (fun _ _ _ h => h) (Or.inl ⟨by rfl, ?_⟩) hHeld ?_ ?_;rotate_left
            ·rintro w' ⟨s0, s1, s2, s3⟩
             go_simp;with_reducible rfl
            rotate_left
            ·simp only [Act.put, Zs1, Zs2, Zs3, zh, zi]
             rfl
            refine zb3 (i := 7) (N := some 30) (v := ?_) (a' := ?_) #[true, true, true, true, true, true, true, true, false, false, true, false, false, false, false, false, false, false, false, false, false, false, false, false, false, false, false, false, false] rfl rfl (zbc HT_.out HW_.out (by kernel_rfl)) (fun _ _ _ h => h) (Or.inl ⟨by rfl, ?_⟩) hHeld ?_ ?_;rotate_left
            ·rintro w' ⟨s0, s1, s2, s3⟩
             go_simp;with_reducible rfl
            rotate_left
            ·simp only [Act.put, Zs1, Zs2, Zs3, zh, zi]
             rfl
            refine one_ (i := 8) (N := some 31) #[true, true, true, true, true, true, true, true, true, false, true, false, false, false, false, false, false, false, false, false, false, false, false, false, false, false, false, false, false] rfl rfl (zb0 HT_.out (by kernel_rfl)) (by decide) (fun K hK => ?_);refine zcs Try.func64 (by kernel_rfl) rfl #[.agg #[.int .i64 ((zf l0 x11_2).f0), .int .i64 ((zf l0 x11_2).f1), .int .i64 ((zf l0 x11_2).f2)], .int .i64 (rd l1 x11_2)] (by rfl) rfl rfl Zmt ?_;with_reducible refine (zbb.calls ((zf l0 x11_2).f0) ((zf l0 x11_2).f1) ((zf l0 x11_2).f2) (rd l1 x11_2) t314 t315 _ A12.out).mono ?_
            rintro e w18 ⟨rfl, hb⟩;refine ⟨_, rfl, ?_⟩;have n0_ := za.mk (Kd.zb7 (Zq12 HO_9) hb);have n1_ := za.mk (zl (Zq1 HB) hb);clear HO_9;clear HB;have HO_9 := n0_;have HB := n1_;clear n0_ n1_;(try clear hb);(try clear hb2);(try clear hk);(try clear hi);refine hK.out _ _ ⟨((HB.out.cell (World.block_lt_of_cell? w _ hw312_0)).trans hw312_0), ((HB.out.cell (World.block_lt_of_cell? w _ hw312_1)).trans hw312_1), ((HB.out.cell (World.block_lt_of_cell? w _ hw312_2)).trans hw312_2), ((HB.out.cell (World.block_lt_of_cell? w _ hw313_0)).trans hw313_0)⟩ (fun hHeld => ?_);clear hK K;refine zcd (a' := ?_) ?_ ?_;rotate_left
            ·show Act.put _ (some 31) _ = _
             simp only [Act.put, Zs1, Zs2, Zs3, zh, zi];rfl
            refine zn (i := 9) (N := some 32) (v := ?_) (a' := ?_) #[true, true, true, true, true, true, true, true, true, true, true, false, false, false, false, false, false, false, false, false, false, false, false, false, false, false, false, false, false] rfl rfl (zg HT_.out (by kernel_rfl)) (fun _ _ _ h => h) (Or.inl ⟨by rfl, ?_⟩) ?_ ?_;rotate_left
            ·intro w'
             go_simp;with_reducible rfl
            rotate_left
            ·simp only [Act.put, Zs1, Zs2, Zs3, zh, zi]
             rfl
            refine zn (i := 11) (N := some 34) (v := ?_) (a' := ?_) #[true, true, true, true, true, true, true, true, true, true, true, true, false, false, false, false, false, false, false, false, false, false, false, false, false, false, false, false, false] rfl rfl (zg HT_.out (by kernel_rfl)) (fun _ _ _ h => h) (Or.inl ⟨by rfl, ?_⟩) ?_ ?_;rotate_left
            ·intro w'
             go_simp;with_reducible rfl
            rotate_left
            ·simp only [Act.put, Zs1, Zs2, Zs3, zh, zi]
             rfl
            refine zn (i := 12) (N := some 35) (v := ?_) (a' := ?_) #[true, true, true, true, true, true, true, true, true, true, true, true, true, false, false, false, false, false, false, false, false, false, false, false, false, false, false, false, false] rfl rfl (zg HT_.out (by kernel_rfl)) (fun _ _ _ h => h) (Or.inl ⟨by rfl, ?_⟩) ?_ ?_;rotate_left
            ·intro w'
             go_simp;with_reducible rfl
            rotate_left
            ·simp only [Act.put, Zs1, Zs2, Zs3, zh, zi]
             rfl
            refine zn (i := 13) (N := some 36) (v := ?_) (a' := ?_) #[true, true, true, true, true, true, true, true, true, true, true, true, true, true, false, false, false, false, false, false, false, false, false, false, false, false, false, false, false] rfl rfl (zg HT_.out (by kernel_rfl)) (fun _ _ _ h => h) (Or.inl ⟨by rfl, ?_⟩) ?_ ?_;rotate_left
            ·intro w'
             go_simp;with_reducible rfl
            rotate_left
            ·simp only [Act.put, Zs1, Zs2, Zs3, zh, zi]
             rfl
            refine zn (i := 14) (N := some 37) (v := ?_) (a' := ?_) #[true, true, true, true, true, true, true, true, true, true, true, true, true, true, true, false, false, false, false, false, false, false, false, false, false, false, false, false, false] rfl rfl (zg HT_.out (by kernel_rfl)) (fun _ _ _ h => h) (Or.inl ⟨by rfl, ?_⟩) ?_ ?_;rotate_left
            ·intro w'
             go_simp;with_reducible rfl
            rotate_left
            ·simp only [Act.put, Zs1, Zs2, Zs3, zh, zi]
             rfl
            refine one_ (i := 15) (N := some 38) #[true, true, true, true, true, true, true, true, true, true, true, true, true, true, true, true, false, false, false, false, false, false, false, false, false, false, false, false, false] rfl rfl (zb0 HT_.out (by kernel_rfl)) (by decide) (fun K hK => ?_);refine zcs Try.func65 (by kernel_rfl) rfl #[.slice Ao8 x9_1.length co8, .int .i64 x11_2] (by rfl) rfl rfl Zmt ?_;with_reducible refine (zcc.calls k2 _ _ x9_1 x11_2 t316 _ ?side1 ?side2 A14.out).mono ?_
            (case side1 => exact Zq18 ((Kd.zz HO_9.out).2.2));(case side2 => exact (Kd.zz HO_9.out).2.1);rintro e w' ⟨rfl, ⟨nd, rfl⟩⟩;refine ⟨_, rfl, ?_⟩;refine hK.out _ _ ⟨((HB.out.cell (World.block_lt_of_cell? w _ hw312_0)).trans hw312_0), ((HB.out.cell (World.block_lt_of_cell? w _ hw312_1)).trans hw312_1), ((HB.out.cell (World.block_lt_of_cell? w _ hw312_2)).trans hw312_2), ((HB.out.cell (World.block_lt_of_cell? w _ hw313_0)).trans hw313_0)⟩ (fun hHeld => ?_);clear hK K;refine zcd (a' := ?_) ?_ ?_;rotate_left
            ·show Act.put _ (some 38) _ = _
             simp only [Act.put, Zs1, Zs2, Zs3, zh, zi];rfl
            refine zn (i := 16) (N := some 39) (v := ?_) (a' := ?_) #[true, true, true, true, true, true, true, true, true, true, true, true, true, true, true, true, true, false, false, false, false, false, false, false, false, false, false, false, false] rfl rfl (zg HT_.out (by kernel_rfl)) (fun _ _ _ h => h) (Or.inl ⟨by rfl, ?_⟩) ?_ ?_;rotate_left
            ·intro w'
             go_simp;with_reducible rfl
            rotate_left
            ·simp only [Act.put, Zs1, Zs2, Zs3, zh, zi]
             rfl
            refine zn (i := 17) (N := some 40) (v := ?_) (a' := ?_) #[true, true, true, true, true, true, true, true, true, true, true, true, true, true, true, true, true, true, false, false, false, false, false, false, false, false, false, false, false] rfl rfl (zg HT_.out (by kernel_rfl)) (fun _ _ _ h => h) (Or.inl ⟨by rfl, ?_⟩) ?_ ?_;rotate_left
            ·intro w'
             go_simp;with_reducible rfl
            rotate_left
            ·simp only [Act.put, Zs1, Zs2, Zs3, zh, zi]
             rfl
            refine zn (i := 18) (N := some 41) (v := ?_) (a' := ?_) #[true, true, true, true, true, true, true, true, true, true, true, true, true, true, true, true, true, true, true, false, false, false, false, false, false, false, false, false, false] rfl rfl (zg HT_.out (by kernel_rfl)) (fun _ _ _ h => h) (Or.inl ⟨by rfl, ?_⟩) ?_ ?_;rotate_left
            ·intro w'
             go_simp;with_reducible rfl
            rotate_left
            ·simp only [Act.put, Zs1, Zs2, Zs3, zh, zi]
             rfl
            refine zn (i := 19) (N := some 42) (v := ?_) (a' := ?_) #[true, true, true, true, true, true, true, true, true, true, true, true, true, true, true, true, true, true, true, true, false, false, false, false, false, false, false, false, false] rfl rfl (zg HT_.out (by kernel_rfl)) (fun _ _ _ h => h) (Or.inl ⟨by rfl, ?_⟩) ?_ ?_;rotate_left
            ·intro w'
             go_simp;with_reducible rfl
            rotate_left
            ·simp only [Act.put, Zs1, Zs2, Zs3, zh, zi]
             rfl
            refine zn (i := 20) (N := some 43) (v := ?_) (a' := ?_) #[true, true, true, true, true, true, true, true, true, true, true, true, true, true, true, true, true, true, true, true, true, false, false, false, false, false, false, false, false] rfl rfl (zg HT_.out (by kernel_rfl)) (fun _ _ _ h => h) (Or.inl ⟨by rfl, ?_⟩) ?_ ?_;rotate_left
            ·intro w'
             go_simp;with_reducible rfl
            rotate_left
            ·simp only [Act.put, Zs1, Zs2, Zs3, zh, zi]
             rfl
            refine zn (i := 21) (N := some 44) (v := ?_) (a' := ?_) #[true, true, true, true, true, true, true, true, true, true, true, true, true, true, true, true, true, true, true, true, true, true, false, false, false, false, false, false, false] rfl rfl (zg HT_.out (by kernel_rfl)) (fun _ _ _ h => h) (Or.inl ⟨by rfl, ?_⟩) ?_ ?_;rotate_left
            ·intro w'
             go_simp;with_reducible rfl
            rotate_left
            ·simp only [Act.put, Zs1, Zs2, Zs3, zh, zi]
             rfl
            refine zn (i := 22) (N := some 45) (v := undef) (a' := ?_) #[true, true, true, true, true, true, true, true, true, true, true, true, true, true, true, true, true, true, true, true, true, true, true, false, false, false, false, false, false] rfl rfl (zg HT_.out (by kernel_rfl)) (fun _ _ _ h => h) (Or.inr ⟨by rfl, rfl⟩) ?_ ?_;rotate_left
            ·simp only [Act.put, Zs1, Zs2, Zs3, zh, zi]
             rfl
            refine zn (i := 23) (N := some 46) (v := undef) (a' := ?_) #[true, true, true, true, true, true, true, true, true, true, true, true, true, true, true, true, true, true, true, true, true, true, true, true, false, false, false, false, false] rfl rfl (zg HT_.out (by kernel_rfl)) (fun _ _ _ h => h) (Or.inr ⟨by rfl, rfl⟩) ?_ ?_;rotate_left
            ·simp only [Act.put, Zs1, Zs2, Zs3, zh, zi]
             rfl
            refine zn (i := 24) (N := some 47) (v := undef) (a' := ?_) #[true, true, true, true, true, true, true, true, true, true, true, true, true, true, true, true, true, true, true, true, true, true, true, true, true, false, false, false, false] rfl rfl (zg HT_.out (by kernel_rfl)) (fun _ _ _ h => h) (Or.inr ⟨by rfl, rfl⟩) ?_ ?_;rotate_left
            ·simp only [Act.put, Zs1, Zs2, Zs3, zh, zi]
             rfl
            refine zn (i := 25) (N := some 48) (v := undef) (a' := ?_) #[true, true, true, true, true, true, true, true, true, true, true, true, true, true, true, true, true, true, true, true, true, true, true, true, true, true, false, false, false] rfl rfl (zg HT_.out (by kernel_rfl)) (fun _ _ _ h => h) (Or.inr ⟨by rfl, rfl⟩) ?_ ?_;rotate_left
            ·simp only [Act.put, Zs1, Zs2, Zs3, zh, zi]
             rfl
            refine zn (i := 26) (N := some 49) (v := undef) (a' := ?_) #[true, true, true, true, true, true, true, true, true, true, true, true, true, true, true, true, true, true, true, true, true, true, true, true, true, true, true, false, false] rfl rfl (zg HT_.out (by kernel_rfl)) (fun _ _ _ h => h) (Or.inr ⟨by rfl, rfl⟩) ?_ ?_;rotate_left
            ·simp only [Act.put, Zs1, Zs2, Zs3, zh, zi]
             rfl
            refine zn (i := 27) (N := some 50) (v := ?_) (a' := ?_) #[true, true, true, true, true, true, true, true, true, true, true, true, true, true, true, true, true, true, true, true, true, true, true, true, true, true, true, true, false] rfl rfl (zg HT_.out (by kernel_rfl)) (fun _ _ _ h => h) (Or.inl ⟨by rfl, ?_⟩) ?_ ?_;rotate_left
            ·intro w'
             go_simp;with_reducible rfl
            rotate_left
            ·simp only [Act.put, Zs1, Zs2, Zs3, zh, zi]
             rfl
            refine zn (i := 28) (N := some 51) (v := ?_) (a' := ?_) #[true, true, true, true, true, true, true, true, true, true, true, true, true, true, true, true, true, true, true, true, true, true, true, true, true, true, true, true, true] rfl rfl (zg HT_.out (by kernel_rfl)) (fun _ _ _ h => h) (Or.inl ⟨by rfl, ?_⟩) ?_ ?_;rotate_left
            ·intro w'
             go_simp;with_reducible rfl
            rotate_left
            ·simp only [Act.put, Zs1, Zs2, Zs3, zh, zi]
             rfl
            refine zc5 (zb9 HT_.out (by kernel_rfl)) ?_
            try go_wp2
            go_roundg k2
            case measure => have := HK1.out; have := HK2.out; omega
            case rel => exact ⟨(x11_2), (wrap64 (x11_2 + 1)), Zrs, Zrs, H', ⟨by have := HK1.out; have := HK2.out; omega⟩, ⟨Zq12 HO_9⟩, ⟨Zq1 HB⟩⟩
           ·rw [if_neg c16] at H
            have c16b0 : decide (x10_2 < 0) = false := decide_eq_false c16;clear c16;replace H := Option.bind_eq_some_iff.mp H;obtain ⟨t317, A190, H⟩ := H;replace H : (if t317 = true then (z8.l1 k2 l0 l1 a2 a3 x9_1 x11_2 (wrap64 (x11_2 + 1))) else (z8.l1 k2 l0 l1 a2 a3 x9_1 x10_2 (wrap64 (x11_2 + 1)))) = some r := H;have A19 := za.mk A190;clear A190;by_cases c20 : t317 = true
            ·subst c20
             have H1 : (z8.l1 k2 l0 l1 a2 a3 x9_1 x11_2 (wrap64 (x11_2 + 1))) = some r := by rw [if_pos rfl] at H; exact H
             clear H;have H := H1;clear H1;have H' := za.mk H;clear H
             try go_wp2
             have n0_ := za.mk (Kd.zci HO_9.out);have n1_ := za.mk (zbk HB.out);clear HO_9;clear HB;have HO_9 := n0_;have HB := n1_;clear n0_ n1_;have p312 : 0 ≤ (x11_2 : Int) := of_decide_eq_true Zas;have q312 : x11_2 < (l0.length : Int) := of_decide_eq_true Zas;obtain ⟨ad312, e312, hx312_0, hx312_1, hx312_2⟩ := zch HR0.out x11_2 p312 q312;have hw312_2 := hx312_2;have hw312_1 := hx312_1;have hw312_0 := hx312_0
             cases e312
             replace hx312_0 := (HB.out.cell (World.block_lt_of_cell? w _ hx312_0)).trans hx312_0;replace hx312_1 := (HB.out.cell (World.block_lt_of_cell? w _ hx312_1)).trans hx312_1;replace hx312_2 := (HB.out.cell (World.block_lt_of_cell? w _ hx312_2)).trans hx312_2;replace p312 := eq_true p312;replace q312 := eq_true q312;have p313 : 0 ≤ (x11_2 : Int) := of_decide_eq_true Zas;have q313 : x11_2 < (l1.length : Int) := of_decide_eq_true Zas;obtain ⟨ad313, e313, hx313_0⟩ := Kd.zb5 HR1.out x11_2 p313 q313;have hw313_0 := hx313_0
             cases e313
             replace hx313_0 := (HB.out.cell (World.block_lt_of_cell? w _ hx313_0)).trans hx313_0;replace p313 := eq_true p313;replace q313 := eq_true q313;refine zcn (n := 29) (S := fun w' => w'.cell? (ad312.add ((x11_2).toNat * 3)) = some (.int .i64 ((zf l0 x11_2).f0)) ∧ w'.cell? ⟨(ad312.add ((x11_2).toNat * 3)).block, (ad312.add ((x11_2).toNat * 3)).off + 1, none⟩ = some (.int .i64 ((zf l0 x11_2).f1)) ∧ w'.cell? ⟨(ad312.add ((x11_2).toNat * 3)).block, (ad312.add ((x11_2).toNat * 3)).off + 2, none⟩ = some (.int .i64 ((zf l0 x11_2).f2)) ∧ w'.cell? (ad313.add (x11_2).toNat) = some (.int .i64 (rd l1 x11_2))) (ds := []) #[false, false, false, false, false, false, false, false, false, false, false, false, false, false, false, false, false, false, false, false, false, false, false, false, false, false, false, false, false] (by kernel_rfl) rfl rfl ⟨((HB.out.cell (World.block_lt_of_cell? w _ hw312_0)).trans hw312_0), ((HB.out.cell (World.block_lt_of_cell? w _ hw312_1)).trans hw312_1), ((HB.out.cell (World.block_lt_of_cell? w _ hw312_2)).trans hw312_2), ((HB.out.cell (World.block_lt_of_cell? w _ hw313_0)).trans hw313_0)⟩ (fun hHeld => ?_); refine zbw z8.tab7 z8.zit (fun HT_ HW_ => ?_);generalize wr.drew = w21 at HO_9 HB hx312_0 hx312_1 hx312_2 hx313_0 hHeld ⊢;refine zn (i := 0) (N := some 23) (v := ?_) (a' := ?_) #[true, false, false, false, false, false, false, false, false, false, false, false, false, false, false, false, false, false, false, false, false, false, false, false, false, false, false, false, false] rfl rfl (zg HT_.out (by kernel_rfl)) (fun _ _ _ h => h) (Or.inl ⟨by rfl, ?_⟩) ?_ ?_;rotate_left
             ·intro w'
              go_simp;with_reducible rfl
             rotate_left
             ·simp only [Act.put, Zs1, Zs2, Zs3, zh, zi]
              rfl
             refine zn (i := 1) (N := some 24) (v := ?_) (a' := ?_) #[true, true, false, false, false, false, false, false, false, false, false, false, false, false, false, false, false, false, false, false, false, false, false, false, false, false, false, false, false] rfl rfl (zg HT_.out (by kernel_rfl)) (fun _ _ _ h => h) (Or.inl ⟨by rfl, ?_⟩) ?_ ?_;rotate_left
             ·intro w'
              go_simp;with_reducible rfl
             rotate_left
             ·simp only [Act.put, Zs1, Zs2, Zs3, zh, zi]
              rfl
             refine zn (i := 2) (N := some 25) (v := ?_) (a' := ?_) #[true, true, true, false, false, false, false, false, false, false, false, false, false, false, false, false, false, false, false, false, false, false, false, false, false, false, false, false, false] rfl rfl (zg HT_.out (by kernel_rfl)) (fun _ _ _ h => h) (Or.inl ⟨by rfl, ?_⟩) ?_ ?_;rotate_left
             ·intro w'
              go_simp;with_reducible rfl
             rotate_left
             ·simp only [Act.put, Zs1, Zs2, Zs3, zh, zi]
              rfl
             refine zn (i := 4) (N := some 27) (v := ?_) (a' := ?_) #[true, true, true, false, true, false, false, false, false, false, false, false, false, false, false, false, false, false, false, false, false, false, false, false, false, false, false, false, false] rfl rfl (zg HT_.out (by kernel_rfl)) (fun _ _ _ h => h) (Or.inl ⟨by rfl, ?_⟩) ?_ ?_;rotate_left
             ·intro w'
              go_simp;with_reducible rfl
             rotate_left
             ·simp only [Act.put, Zs1, Zs2, Zs3, zh, zi]
              rfl
             refine zn (i := 5) (N := some 28) (v := ?_) (a' := ?_) #[true, true, true, false, true, true, false, false, false, false, false, false, false, false, false, false, false, false, false, false, false, false, false, false, false, false, false, false, false] rfl rfl (zg HT_.out (by kernel_rfl)) (fun _ _ _ h => h) (Or.inl ⟨by rfl, ?_⟩) ?_ ?_;rotate_left
             ·intro w'
              go_simp;with_reducible rfl
             rotate_left
             ·simp only [Act.put, Zs1, Zs2, Zs3, zh, zi]
              rfl
             refine zn (i := 6) (N := some 29) (v := ?_) (a' := ?_) #[true, true, true, false, true, true, true, false, false, false, false, false, false, false, false, false, false, false, false, false, false, false, false, false, false, false, false, false, false] rfl rfl (zg HT_.out (by kernel_rfl)) (fun _ _ _ h => h) (Or.inl ⟨by rfl, ?_⟩) ?_ ?_;rotate_left
             ·intro w'
              go_simp;with_reducible rfl
             rotate_left
             ·simp only [Act.put, Zs1, Zs2, Zs3, zh, zi]
              rfl
             refine zn (i := 10) (N := some 33) (v := ?_) (a' := ?_) #[true, true, true, false, true, true, true, false, false, false, true, false, false, false, false, false, false, false, false, false, false, false, false, false, false, false, false, false, false] rfl rfl (zg HT_.out (by kernel_rfl)) (fun _ _ _ h => h) (Or.inl ⟨by rfl, ?_⟩) ?_ ?_;rotate_left
             ·intro w'
              go_simp;with_reducible rfl
             rotate_left
             ·simp only [Act.put, Zs1, Zs2, Zs3, zh, zi]
              rfl
             refine zb3 (i := 3) (N := some 26) (v := ?_) (a' := ?_) #[true, true, true, true, true, true, true, false, false, false, true, false, false, false, false, false, false, false, false, false, false, false, false, false, false, false, false, false, false] rfl rfl (zbc HT_.out HW_.out (by kernel_rfl)) (fun _ _ _ h => h) (Or.inl ⟨by rfl, ?_⟩) hHeld ?_ ?_;rotate_left
             ·rintro w' ⟨s0, s1, s2, s3⟩
              go_simp;with_reducible rfl
             rotate_left
             ·simp only [Act.put, Zs1, Zs2, Zs3, zh, zi]
              rfl
             refine zb3 (i := 7) (N := some 30) (v := ?_) (a' := ?_) #[true, true, true, true, true, true, true, true, false, false, true, false, false, false, false, false, false, false, false, false, false, false, false, false, false, false, false, false, false] rfl rfl (zbc HT_.out HW_.out (by kernel_rfl)) (fun _ _ _ h => h) (Or.inl ⟨by rfl, ?_⟩) hHeld ?_ ?_;rotate_left
             ·rintro w' ⟨s0, s1, s2, s3⟩
              go_simp;with_reducible rfl
             rotate_left
             ·simp only [Act.put, Zs1, Zs2, Zs3, zh, zi]
              rfl
             refine one_ (i := 8) (N := some 31) #[true, true, true, true, true, true, true, true, true, false, true, false, false, false, false, false, false, false, false, false, false, false, false, false, false, false, false, false, false] rfl rfl (zb0 HT_.out (by kernel_rfl)) (by decide) (fun K hK => ?_);refine zcs Try.func64 (by kernel_rfl) rfl #[.agg #[.int .i64 ((zf l0 x11_2).f0), .int .i64 ((zf l0 x11_2).f1), .int .i64 ((zf l0 x11_2).f2)], .int .i64 (rd l1 x11_2)] (by rfl) rfl rfl Zmt ?_;with_reducible refine (zbb.calls ((zf l0 x11_2).f0) ((zf l0 x11_2).f1) ((zf l0 x11_2).f2) (rd l1 x11_2) t314 t315 _ A12.out).mono ?_
             rintro e w22 ⟨rfl, hb⟩;refine ⟨_, rfl, ?_⟩;have n0_ := za.mk (Kd.zb7 (Zq12 HO_9) hb);have n1_ := za.mk (zl (Zq1 HB) hb);clear HO_9;clear HB;have HO_9 := n0_;have HB := n1_;clear n0_ n1_;(try clear hb);(try clear hb2);(try clear hk);(try clear hi);refine hK.out _ _ ⟨((HB.out.cell (World.block_lt_of_cell? w _ hw312_0)).trans hw312_0), ((HB.out.cell (World.block_lt_of_cell? w _ hw312_1)).trans hw312_1), ((HB.out.cell (World.block_lt_of_cell? w _ hw312_2)).trans hw312_2), ((HB.out.cell (World.block_lt_of_cell? w _ hw313_0)).trans hw313_0)⟩ (fun hHeld => ?_);clear hK K;refine zcd (a' := ?_) ?_ ?_;rotate_left
             ·show Act.put _ (some 31) _ = _
              simp only [Act.put, Zs1, Zs2, Zs3, zh, zi];rfl
             refine zn (i := 9) (N := some 32) (v := ?_) (a' := ?_) #[true, true, true, true, true, true, true, true, true, true, true, false, false, false, false, false, false, false, false, false, false, false, false, false, false, false, false, false, false] rfl rfl (zg HT_.out (by kernel_rfl)) (fun _ _ _ h => h) (Or.inl ⟨by rfl, ?_⟩) ?_ ?_;rotate_left
             ·intro w'
              go_simp;with_reducible rfl
             rotate_left
             ·simp only [Act.put, Zs1, Zs2, Zs3, zh, zi]
              rfl
             refine zn (i := 11) (N := some 34) (v := ?_) (a' := ?_) #[true, true, true, true, true, true, true, true, true, true, true, true, false, false, false, false, false, false, false, false, false, false, false, false, false, false, false, false, false] rfl rfl (zg HT_.out (by kernel_rfl)) (fun _ _ _ h => h) (Or.inl ⟨by rfl, ?_⟩) ?_ ?_;rotate_left
             ·intro w'
              go_simp;with_reducible rfl
             rotate_left
             ·simp only [Act.put, Zs1, Zs2, Zs3, zh, zi]
              rfl
             refine zn (i := 12) (N := some 35) (v := ?_) (a' := ?_) #[true, true, true, true, true, true, true, true, true, true, true, true, true, false, false, false, false, false, false, false, false, false, false, false, false, false, false, false, false] rfl rfl (zg HT_.out (by kernel_rfl)) (fun _ _ _ h => h) (Or.inl ⟨by rfl, ?_⟩) ?_ ?_;rotate_left
             ·intro w'
              go_simp;with_reducible rfl
             rotate_left
             ·simp only [Act.put, Zs1, Zs2, Zs3, zh, zi]
              rfl
             refine zn (i := 13) (N := some 36) (v := ?_) (a' := ?_) #[true, true, true, true, true, true, true, true, true, true, true, true, true, true, false, false, false, false, false, false, false, false, false, false, false, false, false, false, false] rfl rfl (zg HT_.out (by kernel_rfl)) (fun _ _ _ h => h) (Or.inl ⟨by rfl, ?_⟩) ?_ ?_;rotate_left
             ·intro w'
              go_simp;with_reducible rfl
             rotate_left
             ·simp only [Act.put, Zs1, Zs2, Zs3, zh, zi]
              rfl
             refine zn (i := 14) (N := some 37) (v := ?_) (a' := ?_) #[true, true, true, true, true, true, true, true, true, true, true, true, true, true, true, false, false, false, false, false, false, false, false, false, false, false, false, false, false] rfl rfl (zg HT_.out (by kernel_rfl)) (fun _ _ _ h => h) (Or.inl ⟨by rfl, ?_⟩) ?_ ?_;rotate_left
             ·intro w'
              go_simp;with_reducible rfl
             rotate_left
             ·simp only [Act.put, Zs1, Zs2, Zs3, zh, zi]
              rfl
             refine one_ (i := 15) (N := some 38) #[true, true, true, true, true, true, true, true, true, true, true, true, true, true, true, true, false, false, false, false, false, false, false, false, false, false, false, false, false] rfl rfl (zb0 HT_.out (by kernel_rfl)) (by decide) (fun K hK => ?_);refine zcs Try.func65 (by kernel_rfl) rfl #[.slice Ao8 x9_1.length co8, .int .i64 x11_2] (by rfl) rfl rfl Zmt ?_;with_reducible refine (zcc.calls k2 _ _ x9_1 x11_2 t316 _ ?side1 ?side2 A14.out).mono ?_
             (case side1 => exact Zq18 ((Kd.zz HO_9.out).2.2));(case side2 => exact (Kd.zz HO_9.out).2.1);rintro e w' ⟨rfl, ⟨nd, rfl⟩⟩;refine ⟨_, rfl, ?_⟩;refine hK.out _ _ ⟨((HB.out.cell (World.block_lt_of_cell? w _ hw312_0)).trans hw312_0), ((HB.out.cell (World.block_lt_of_cell? w _ hw312_1)).trans hw312_1), ((HB.out.cell (World.block_lt_of_cell? w _ hw312_2)).trans hw312_2), ((HB.out.cell (World.block_lt_of_cell? w _ hw313_0)).trans hw313_0)⟩ (fun hHeld => ?_);clear hK K;refine zcd (a' := ?_) ?_ ?_;rotate_left
             ·show Act.put _ (some 38) _ = _
              simp only [Act.put, Zs1, Zs2, Zs3, zh, zi];rfl
             refine zn (i := 16) (N := some 39) (v := ?_) (a' := ?_) #[true, true, true, true, true, true, true, true, true, true, true, true, true, true, true, true, true, false, false, false, false, false, false, false, false, false, false, false, false] rfl rfl (zg HT_.out (by kernel_rfl)) (fun _ _ _ h => h) (Or.inl ⟨by rfl, ?_⟩) ?_ ?_;rotate_left
             ·intro w'
              go_simp;with_reducible rfl
             rotate_left
             ·simp only [Act.put, Zs1, Zs2, Zs3, zh, zi]
              rfl
             refine zn (i := 17) (N := some 40) (v := ?_) (a' := ?_) #[true, true, true, true, true, true, true, true, true, true, true, true, true, true, true, true, true, true, false, false, false, false, false, false, false, false, false, false, false] rfl rfl (zg HT_.out (by kernel_rfl)) (fun _ _ _ h => h) (Or.inl ⟨by rfl, ?_⟩) ?_ ?_;rotate_left
             ·intro w'
              go_simp;with_reducible rfl
             rotate_left
             ·simp only [Act.put, Zs1, Zs2, Zs3, zh, zi]
              rfl
             refine zn (i := 18) (N := some 41) (v := ?_) (a' := ?_) #[true, true, true, true, true, true, true, true, true, true, true, true, true, true, true, true, true, true, true, false, false, false, false, false, false, false, false, false, false] rfl rfl (zg HT_.out (by kernel_rfl)) (fun _ _ _ h => h) (Or.inl ⟨by rfl, ?_⟩) ?_ ?_;rotate_left
             ·intro w'
              go_simp;with_reducible rfl
             rotate_left
             ·simp only [Act.put, Zs1, Zs2, Zs3, zh, zi]
              rfl
             refine zn (i := 19) (N := some 42) (v := ?_) (a' := ?_) #[true, true, true, true, true, true, true, true, true, true, true, true, true, true, true, true, true, true, true, true, false, false, false, false, false, false, false, false, false] rfl rfl (zg HT_.out (by kernel_rfl)) (fun _ _ _ h => h) (Or.inl ⟨by rfl, ?_⟩) ?_ ?_;rotate_left
             ·intro w'
              go_simp;with_reducible rfl
             rotate_left
             ·simp only [Act.put, Zs1, Zs2, Zs3, zh, zi]
              rfl
             refine zn (i := 20) (N := some 43) (v := ?_) (a' := ?_) #[true, true, true, true, true, true, true, true, true, true, true, true, true, true, true, true, true, true, true, true, true, false, false, false, false, false, false, false, false] rfl rfl (zg HT_.out (by kernel_rfl)) (fun _ _ _ h => h) (Or.inl ⟨by rfl, ?_⟩) ?_ ?_;rotate_left
             ·intro w'
              go_simp;with_reducible rfl
             rotate_left
             ·simp only [Act.put, Zs1, Zs2, Zs3, zh, zi]
              rfl
             refine zn (i := 21) (N := some 44) (v := ?_) (a' := ?_) #[true, true, true, true, true, true, true, true, true, true, true, true, true, true, true, true, true, true, true, true, true, true, false, false, false, false, false, false, false] rfl rfl (zg HT_.out (by kernel_rfl)) (fun _ _ _ h => h) (Or.inl ⟨by rfl, ?_⟩) ?_ ?_;rotate_left
             ·intro w'
              go_simp;with_reducible rfl
             rotate_left
             ·simp only [Act.put, Zs1, Zs2, Zs3, zh, zi]
              rfl
             refine zn (i := 22) (N := some 45) (v := ?_) (a' := ?_) #[true, true, true, true, true, true, true, true, true, true, true, true, true, true, true, true, true, true, true, true, true, true, true, false, false, false, false, false, false] rfl rfl (zg HT_.out (by kernel_rfl)) (fun _ _ _ h => h) (Or.inl ⟨by rfl, ?_⟩) ?_ ?_;rotate_left
             ·intro w'
              go_simp;with_reducible rfl
             rotate_left
             ·simp only [Act.put, Zs1, Zs2, Zs3, zh, zi]
              rfl
             refine zn (i := 23) (N := some 46) (v := ?_) (a' := ?_) #[true, true, true, true, true, true, true, true, true, true, true, true, true, true, true, true, true, true, true, true, true, true, true, true, false, false, false, false, false] rfl rfl (zg HT_.out (by kernel_rfl)) (fun _ _ _ h => h) (Or.inl ⟨by rfl, ?_⟩) ?_ ?_;rotate_left
             ·intro w'
              go_simp;with_reducible rfl
             rotate_left
             ·simp only [Act.put, Zs1, Zs2, Zs3, zh, zi]
              rfl
             refine zn (i := 24) (N := some 47) (v := ?_) (a' := ?_) #[true, true, true, true, true, true, true, true, true, true, true, true, true, true, true, true, true, true, true, true, true, true, true, true, true, false, false, false, false] rfl rfl (zg HT_.out (by kernel_rfl)) (fun _ _ _ h => h) (Or.inl ⟨by rfl, ?_⟩) ?_ ?_;rotate_left
             ·intro w'
              go_simp;with_reducible rfl
             rotate_left
             ·simp only [Act.put, Zs1, Zs2, Zs3, zh, zi]
              rfl
             refine zn (i := 25) (N := some 48) (v := ?_) (a' := ?_) #[true, true, true, true, true, true, true, true, true, true, true, true, true, true, true, true, true, true, true, true, true, true, true, true, true, true, false, false, false] rfl rfl (zg HT_.out (by kernel_rfl)) (fun _ _ _ h => h) (Or.inl ⟨by rfl, ?_⟩) ?_ ?_;rotate_left
             ·intro w'
              go_simp;with_reducible rfl
             rotate_left
             ·simp only [Act.put, Zs1, Zs2, Zs3, zh, zi]
              rfl
             refine one_ (i := 26) (N := some 49) #[true, true, true, true, true, true, true, true, true, true, true, true, true, true, true, true, true, true, true, true, true, true, true, true, true, true, true, false, false] rfl rfl (zb0 HT_.out (by kernel_rfl)) (by decide) (fun K hK => ?_);refine zcs Try.func66 (by kernel_rfl) rfl #[.slice (some ad312) l0.length c0, .slice (some ad313) l1.length c1, .int .i64 x11_2, .int .i64 x10_2] (by rfl) rfl rfl Zmt ?_;with_reducible refine (zm.calls k2 _ _ l0 _ _ l1 x11_2 x10_2 true _ ?side1 ?side2 ?side3 ?side4 A19.out).mono ?_
             (case side1 => repeat (first | exact (Kd.zdq HR0.out (Zq1 HB)) | (with_reducible refine Kd.zc3 ?_ _) | (with_reducible refine Kd.zdb ?_ _) | (with_reducible refine Kd.zdt ?_)));(case side2 => exact HC0.out);(case side3 => repeat (first | exact (Kd.zdq HR1.out (Zq1 HB)) | (with_reducible refine Kd.zc3 ?_ _) | (with_reducible refine Kd.zdb ?_ _) | (with_reducible refine Kd.zdt ?_)));(case side4 => exact HC1.out);rintro e w23 ⟨rfl, hb⟩;refine ⟨_, rfl, ?_⟩;have n0_ := za.mk (Kd.zb7 (Zq12 HO_9) hb);have n1_ := za.mk (zl (Zq1 HB) hb);clear HO_9;clear HB;have HO_9 := n0_;have HB := n1_;clear n0_ n1_;(try clear hb);(try clear hb2);(try clear hk);(try clear hi);refine hK.out _ _ ⟨((HB.out.cell (World.block_lt_of_cell? w _ hw312_0)).trans hw312_0), ((HB.out.cell (World.block_lt_of_cell? w _ hw312_1)).trans hw312_1), ((HB.out.cell (World.block_lt_of_cell? w _ hw312_2)).trans hw312_2), ((HB.out.cell (World.block_lt_of_cell? w _ hw313_0)).trans hw313_0)⟩ (fun hHeld => ?_);clear hK K;refine zcd (a' := ?_) ?_ ?_;rotate_left
             ·show Act.put _ (some 49) _ = _
              simp only [Act.put, Zs1, Zs2, Zs3, zh, zi];rfl
             refine zn (i := 27) (N := some 50) (v := ?_) (a' := ?_) #[true, true, true, true, true, true, true, true, true, true, true, true, true, true, true, true, true, true, true, true, true, true, true, true, true, true, true, true, false] rfl rfl (zg HT_.out (by kernel_rfl)) (fun _ _ _ h => h) (Or.inl ⟨by rfl, ?_⟩) ?_ ?_;rotate_left
             ·intro w'
              go_simp;with_reducible rfl
             rotate_left
             ·simp only [Act.put, Zs1, Zs2, Zs3, zh, zi]
              rfl
             refine zn (i := 28) (N := some 51) (v := ?_) (a' := ?_) #[true, true, true, true, true, true, true, true, true, true, true, true, true, true, true, true, true, true, true, true, true, true, true, true, true, true, true, true, true] rfl rfl (zg HT_.out (by kernel_rfl)) (fun _ _ _ h => h) (Or.inl ⟨by rfl, ?_⟩) ?_ ?_;rotate_left
             ·intro w'
              go_simp;with_reducible rfl
             rotate_left
             ·simp only [Act.put, Zs1, Zs2, Zs3, zh, zi]
              rfl
             refine zc5 (zb9 HT_.out (by kernel_rfl)) ?_
             try go_wp2
             go_roundg k2
             case measure => have := HK1.out; have := HK2.out; omega
             case rel => exact ⟨(x11_2), (wrap64 (x11_2 + 1)), Zrs, Zrs, H', ⟨by have := HK1.out; have := HK2.out; omega⟩, ⟨Zq12 HO_9⟩, ⟨Zq1 HB⟩⟩
            ·replace c20 := Bool.eq_false_iff.mpr c20
             subst c20;have H1 : (z8.l1 k2 l0 l1 a2 a3 x9_1 x10_2 (wrap64 (x11_2 + 1))) = some r := by rw [if_neg (show ¬ (false = true) by decide)] at H; exact H
             clear H;have H := H1;clear H1;have H' := za.mk H;clear H
             try go_wp2
             have n0_ := za.mk (Kd.zci HO_9.out);have n1_ := za.mk (zbk HB.out);clear HO_9;clear HB;have HO_9 := n0_;have HB := n1_;clear n0_ n1_;have p312 : 0 ≤ (x11_2 : Int) := of_decide_eq_true Zas;have q312 : x11_2 < (l0.length : Int) := of_decide_eq_true Zas;obtain ⟨ad312, e312, hx312_0, hx312_1, hx312_2⟩ := zch HR0.out x11_2 p312 q312;have hw312_2 := hx312_2;have hw312_1 := hx312_1;have hw312_0 := hx312_0
             cases e312
             replace hx312_0 := (HB.out.cell (World.block_lt_of_cell? w _ hx312_0)).trans hx312_0;replace hx312_1 := (HB.out.cell (World.block_lt_of_cell? w _ hx312_1)).trans hx312_1;replace hx312_2 := (HB.out.cell (World.block_lt_of_cell? w _ hx312_2)).trans hx312_2;replace p312 := eq_true p312;replace q312 := eq_true q312;have p313 : 0 ≤ (x11_2 : Int) := of_decide_eq_true Zas;have q313 : x11_2 < (l1.length : Int) := of_decide_eq_true Zas;obtain ⟨ad313, e313, hx313_0⟩ := Kd.zb5 HR1.out x11_2 p313 q313;have hw313_0 := hx313_0
             cases e313
             replace hx313_0 := (HB.out.cell (World.block_lt_of_cell? w _ hx313_0)).trans hx313_0;replace p313 := eq_true p313;replace q313 := eq_true q313;refine zcn (n := 29) (S := fun w' => w'.cell? (ad312.add ((x11_2).toNat * 3)) = some (.int .i64 ((zf l0 x11_2).f0)) ∧ w'.cell? ⟨(ad312.add ((x11_2).toNat * 3)).block, (ad312.add ((x11_2).toNat * 3)).off + 1, none⟩ = some (.int .i64 ((zf l0 x11_2).f1)) ∧ w'.cell? ⟨(ad312.add ((x11_2).toNat * 3)).block, (ad312.add ((x11_2).toNat * 3)).off + 2, none⟩ = some (.int .i64 ((zf l0 x11_2).f2)) ∧ w'.cell? (ad313.add (x11_2).toNat) = some (.int .i64 (rd l1 x11_2))) (ds := []) #[false, false, false, false, false, false, false, false, false, false, false, false, false, false, false, false, false, false, false, false, false, false, false, false, false, false, false, false, false] (by kernel_rfl) rfl rfl ⟨((HB.out.cell (World.block_lt_of_cell? w _ hw312_0)).trans hw312_0), ((HB.out.cell (World.block_lt_of_cell? w _ hw312_1)).trans hw312_1), ((HB.out.cell (World.block_lt_of_cell? w _ hw312_2)).trans hw312_2), ((HB.out.cell (World.block_lt_of_cell? w _ hw313_0)).trans hw313_0)⟩ (fun hHeld => ?_); refine zbw z8.tab7 z8.zit (fun HT_ HW_ => ?_);generalize wr.drew = w24 at HO_9 HB hx312_0 hx312_1 hx312_2 hx313_0 hHeld ⊢;refine zn (i := 0) (N := some 23) (v := ?_) (a' := ?_) #[true, false, false, false, false, false, false, false, false, false, false, false, false, false, false, false, false, false, false, false, false, false, false, false, false, false, false, false, false] rfl rfl (zg HT_.out (by kernel_rfl)) (fun _ _ _ h => h) (Or.inl ⟨by rfl, ?_⟩) ?_ ?_;rotate_left
             ·intro w'
              go_simp;with_reducible rfl
             rotate_left
             ·simp only [Act.put, Zs1, Zs2, Zs3, zh, zi]
              rfl
             refine zn (i := 1) (N := some 24) (v := ?_) (a' := ?_) #[true, true, false, false, false, false, false, false, false, false, false, false, false, false, false, false, false, false, false, false, false, false, false, false, false, false, false, false, false] rfl rfl (zg HT_.out (by kernel_rfl)) (fun _ _ _ h => h) (Or.inl ⟨by rfl, ?_⟩) ?_ ?_;rotate_left
             ·intro w'
              go_simp;with_reducible rfl
             rotate_left
             ·simp only [Act.put, Zs1, Zs2, Zs3, zh, zi]
              rfl
             refine zn (i := 2) (N := some 25) (v := ?_) (a' := ?_) #[true, true, true, false, false, false, false, false, false, false, false, false, false, false, false, false, false, false, false, false, false, false, false, false, false, false, false, false, false] rfl rfl (zg HT_.out (by kernel_rfl)) (fun _ _ _ h => h) (Or.inl ⟨by rfl, ?_⟩) ?_ ?_;rotate_left
             ·intro w'
              go_simp;with_reducible rfl
             rotate_left
             ·simp only [Act.put, Zs1, Zs2, Zs3, zh, zi]
              rfl
             refine zn (i := 4) (N := some 27) (v := ?_) (a' := ?_) #[true, true, true, false, true, false, false, false, false, false, false, false, false, false, false, false, false, false, false, false, false, false, false, false, false, false, false, false, false] rfl rfl (zg HT_.out (by kernel_rfl)) (fun _ _ _ h => h) (Or.inl ⟨by rfl, ?_⟩) ?_ ?_;rotate_left
             ·intro w'
              go_simp;with_reducible rfl
             rotate_left
             ·simp only [Act.put, Zs1, Zs2, Zs3, zh, zi]
              rfl
             refine zn (i := 5) (N := some 28) (v := ?_) (a' := ?_) #[true, true, true, false, true, true, false, false, false, false, false, false, false, false, false, false, false, false, false, false, false, false, false, false, false, false, false, false, false] rfl rfl (zg HT_.out (by kernel_rfl)) (fun _ _ _ h => h) (Or.inl ⟨by rfl, ?_⟩) ?_ ?_;rotate_left
             ·intro w'
              go_simp;with_reducible rfl
             rotate_left
             ·simp only [Act.put, Zs1, Zs2, Zs3, zh, zi]
              rfl
             refine zn (i := 6) (N := some 29) (v := ?_) (a' := ?_) #[true, true, true, false, true, true, true, false, false, false, false, false, false, false, false, false, false, false, false, false, false, false, false, false, false, false, false, false, false] rfl rfl (zg HT_.out (by kernel_rfl)) (fun _ _ _ h => h) (Or.inl ⟨by rfl, ?_⟩) ?_ ?_;rotate_left
             ·intro w'
              go_simp;with_reducible rfl
             rotate_left
             ·simp only [Act.put, Zs1, Zs2, Zs3, zh, zi]
              rfl
             refine zn (i := 10) (N := some 33) (v := ?_) (a' := ?_) #[true, true, true, false, true, true, true, false, false, false, true, false, false, false, false, false, false, false, false, false, false, false, false, false, false, false, false, false, false] rfl rfl (zg HT_.out (by kernel_rfl)) (fun _ _ _ h => h) (Or.inl ⟨by rfl, ?_⟩) ?_ ?_;rotate_left
             ·intro w'
              go_simp;with_reducible rfl
             rotate_left
             ·simp only [Act.put, Zs1, Zs2, Zs3, zh, zi]
              rfl
             refine zb3 (i := 3) (N := some 26) (v := ?_) (a' := ?_) #[true, true, true, true, true, true, true, false, false, false, true, false, false, false, false, false, false, false, false, false, false, false, false, false, false, false, false, false, false] rfl rfl (zbc HT_.out HW_.out (by kernel_rfl)) (fun _ _ _ h => h) (Or.inl ⟨by rfl, ?_⟩) hHeld ?_ ?_;rotate_left
             ·rintro w' ⟨s0, s1, s2, s3⟩
              go_simp;with_reducible rfl
             rotate_left
             ·simp only [Act.put, Zs1, Zs2, Zs3, zh, zi]
              rfl
             refine zb3 (i := 7) (N := some 30) (v := ?_) (a' := ?_) #[true, true, true, true, true, true, true, true, false, false, true, false, false, false, false, false, false, false, false, false, false, false, false, false, false, false, false, false, false] rfl rfl (zbc HT_.out HW_.out (by kernel_rfl)) (fun _ _ _ h => h) (Or.inl ⟨by rfl, ?_⟩) hHeld ?_ ?_;rotate_left
             ·rintro w' ⟨s0, s1, s2, s3⟩
              go_simp;with_reducible rfl
             rotate_left
             ·simp only [Act.put, Zs1, Zs2, Zs3, zh, zi]
              rfl
             refine one_ (i := 8) (N := some 31) #[true, true, true, true, true, true, true, true, true, false, true, false, false, false, false, false, false, false, false, false, false, false, false, false, false, false, false, false, false] rfl rfl (zb0 HT_.out (by kernel_rfl)) (by decide) (fun K hK => ?_);refine zcs Try.func64 (by kernel_rfl) rfl #[.agg #[.int .i64 ((zf l0 x11_2).f0), .int .i64 ((zf l0 x11_2).f1), .int .i64 ((zf l0 x11_2).f2)], .int .i64 (rd l1 x11_2)] (by rfl) rfl rfl Zmt ?_;with_reducible refine (zbb.calls ((zf l0 x11_2).f0) ((zf l0 x11_2).f1) ((zf l0 x11_2).f2) (rd l1 x11_2) t314 t315 _ A12.out).mono ?_
             rintro e w25 ⟨rfl, hb⟩;refine ⟨_, rfl, ?_⟩;have n0_ := za.mk (Kd.zb7 (Zq12 HO_9) hb);have n1_ := za.mk (zl (Zq1 HB) hb);clear HO_9;clear HB;have HO_9 := n0_;have HB := n1_;clear n0_ n1_;(try clear hb);(try clear hb2);(try clear hk);(try clear hi);refine hK.out _ _ ⟨((HB.out.cell (World.block_lt_of_cell? w _ hw312_0)).trans hw312_0), ((HB.out.cell (World.block_lt_of_cell? w _ hw312_1)).trans hw312_1), ((HB.out.cell (World.block_lt_of_cell? w _ hw312_2)).trans hw312_2), ((HB.out.cell (World.block_lt_of_cell? w _ hw313_0)).trans hw313_0)⟩ (fun hHeld => ?_);clear hK K;refine zcd (a' := ?_) ?_ ?_;rotate_left
             ·show Act.put _ (some 31) _ = _
              simp only [Act.put, Zs1, Zs2, Zs3, zh, zi];rfl
             refine zn (i := 9) (N := some 32) (v := ?_) (a' := ?_) #[true, true, true, true, true, true, true, true, true, true, true, false, false, false, false, false, false, false, false, false, false, false, false, false, false, false, false, false, false] rfl rfl (zg HT_.out (by kernel_rfl)) (fun _ _ _ h => h) (Or.inl ⟨by rfl, ?_⟩) ?_ ?_;rotate_left
             ·intro w'
              go_simp;with_reducible rfl
             rotate_left
             ·simp only [Act.put, Zs1, Zs2, Zs3, zh, zi]
              rfl
             refine zn (i := 11) (N := some 34) (v := ?_) (a' := ?_) #[true, true, true, true, true, true, true, true, true, true, true, true, false, false, false, false, false, false, false, false, false, false, false, false, false, false, false, false, false] rfl rfl (zg HT_.out (by kernel_rfl)) (fun _ _ _ h => h) (Or.inl ⟨by rfl, ?_⟩) ?_ ?_;rotate_left
             ·intro w'
              go_simp;with_reducible rfl
             rotate_left
             ·simp only [Act.put, Zs1, Zs2, Zs3, zh, zi]
              rfl
             refine zn (i := 12) (N := some 35) (v := ?_) (a' := ?_) #[true, true, true, true, true, true, true, true, true, true, true, true, true, false, false, false, false, false, false, false, false, false, false, false, false, false, false, false, false] rfl rfl (zg HT_.out (by kernel_rfl)) (fun _ _ _ h => h) (Or.inl ⟨by rfl, ?_⟩) ?_ ?_;rotate_left
             ·intro w'
              go_simp;with_reducible rfl
             rotate_left
             ·simp only [Act.put, Zs1, Zs2, Zs3, zh, zi]
              rfl
             refine zn (i := 13) (N := some 36) (v := ?_) (a' := ?_) #[true, true, true, true, true, true, true, true, true, true, true, true, true, true, false, false, false, false, false, false, false, false, false, false, false, false, false, false, false] rfl rfl (zg HT_.out (by kernel_rfl)) (fun _ _ _ h => h) (Or.inl ⟨by rfl, ?_⟩) ?_ ?_;rotate_left
             ·intro w'
              go_simp;with_reducible rfl
             rotate_left
             ·simp only [Act.put, Zs1, Zs2, Zs3, zh, zi]
              rfl
             refine zn (i := 14) (N := some 37) (v := ?_) (a' := ?_) #[true, true, true, true, true, true, true, true, true, true, true, true, true, true, true, false, false, false, false, false, false, false, false, false, false, false, false, false, false] rfl rfl (zg HT_.out (by kernel_rfl)) (fun _ _ _ h => h) (Or.inl ⟨by rfl, ?_⟩) ?_ ?_;rotate_left
             ·intro w'
              go_simp;with_reducible rfl
             rotate_left
             ·simp only [Act.put, Zs1, Zs2, Zs3, zh, zi]
              rfl
             refine one_ (i := 15) (N := some 38) #[true, true, true, true, true, true, true, true, true, true, true, true, true, true, true, true, false, false, false, false, false, false, false, false, false, false, false, false, false] rfl rfl (zb0 HT_.out (by kernel_rfl)) (by decide) (fun K hK => ?_);refine zcs Try.func65 (by kernel_rfl) rfl #[.slice Ao8 x9_1.length co8, .int .i64 x11_2] (by rfl) rfl rfl Zmt ?_;with_reducible refine (zcc.calls k2 _ _ x9_1 x11_2 t316 _ ?side1 ?side2 A14.out).mono ?_
             (case side1 => exact Zq18 ((Kd.zz HO_9.out).2.2));(case side2 => exact (Kd.zz HO_9.out).2.1);rintro e w' ⟨rfl, ⟨nd, rfl⟩⟩;refine ⟨_, rfl, ?_⟩;refine hK.out _ _ ⟨((HB.out.cell (World.block_lt_of_cell? w _ hw312_0)).trans hw312_0), ((HB.out.cell (World.block_lt_of_cell? w _ hw312_1)).trans hw312_1), ((HB.out.cell (World.block_lt_of_cell? w _ hw312_2)).trans hw312_2), ((HB.out.cell (World.block_lt_of_cell? w _ hw313_0)).trans hw313_0)⟩ (fun hHeld => ?_);clear hK K;refine zcd (a' := ?_) ?_ ?_;rotate_left
             ·show Act.put _ (some 38) _ = _
              simp only [Act.put, Zs1, Zs2, Zs3, zh, zi];rfl
             refine zn (i := 16) (N := some 39) (v := ?_) (a' := ?_) #[true, true, true, true, true, true, true, true, true, true, true, true, true, true, true, true, true, false, false, false, false, false, false, false, false, false, false, false, false] rfl rfl (zg HT_.out (by kernel_rfl)) (fun _ _ _ h => h) (Or.inl ⟨by rfl, ?_⟩) ?_ ?_;rotate_left
             ·intro w'
              go_simp;with_reducible rfl
             rotate_left
             ·simp only [Act.put, Zs1, Zs2, Zs3, zh, zi]
              rfl
             refine zn (i := 17) (N := some 40) (v := ?_) (a' := ?_) #[true, true, true, true, true, true, true, true, true, true, true, true, true, true, true, true, true, true, false, false, false, false, false, false, false, false, false, false, false] rfl rfl (zg HT_.out (by kernel_rfl)) (fun _ _ _ h => h) (Or.inl ⟨by rfl, ?_⟩) ?_ ?_;rotate_left
             ·intro w'
              go_simp;with_reducible rfl
             rotate_left
             ·simp only [Act.put, Zs1, Zs2, Zs3, zh, zi]
              rfl
             refine zn (i := 18) (N := some 41) (v := ?_) (a' := ?_) #[true, true, true, true, true, true, true, true, true, true, true, true, true, true, true, true, true, true, true, false, false, false, false, false, false, false, false, false, false] rfl rfl (zg HT_.out (by kernel_rfl)) (fun _ _ _ h => h) (Or.inl ⟨by rfl, ?_⟩) ?_ ?_;rotate_left
             ·intro w'
              go_simp;with_reducible rfl
             rotate_left
             ·simp only [Act.put, Zs1, Zs2, Zs3, zh, zi]
              rfl
             refine zn (i := 19) (N := some 42) (v := ?_) (a' := ?_) #[true, true, true, true, true, true, true, true, true, true, true, true, true, true, true, true, true, true, true, true, false, false, false, false, false, false, false, false, false] rfl rfl (zg HT_.out (by kernel_rfl)) (fun _ _ _ h => h) (Or.inl ⟨by rfl, ?_⟩) ?_ ?_;rotate_left
             ·intro w'
              go_simp;with_reducible rfl
             rotate_left
             ·simp only [Act.put, Zs1, Zs2, Zs3, zh, zi]
              rfl
             refine zn (i := 20) (N := some 43) (v := ?_) (a' := ?_) #[true, true, true, true, true, true, true, true, true, true, true, true, true, true, true, true, true, true, true, true, true, false, false, false, false, false, false, false, false] rfl rfl (zg HT_.out (by kernel_rfl)) (fun _ _ _ h => h) (Or.inl ⟨by rfl, ?_⟩) ?_ ?_;rotate_left
             ·intro w'
              go_simp;with_reducible rfl
             rotate_left
             ·simp only [Act.put, Zs1, Zs2, Zs3, zh, zi]
              rfl
             refine zn (i := 21) (N := some 44) (v := ?_) (a' := ?_) #[true, true, true, true, true, true, true, true, true, true, true, true, true, true, true, true, true, true, true, true, true, true, false, false, false, false, false, false, false] rfl rfl (zg HT_.out (by kernel_rfl)) (fun _ _ _ h => h) (Or.inl ⟨by rfl, ?_⟩) ?_ ?_;rotate_left
             ·intro w'
              go_simp;with_reducible rfl
             rotate_left
             ·simp only [Act.put, Zs1, Zs2, Zs3, zh, zi]
              rfl
             refine zn (i := 22) (N := some 45) (v := ?_) (a' := ?_) #[true, true, true, true, true, true, true, true, true, true, true, true, true, true, true, true, true, true, true, true, true, true, true, false, false, false, false, false, false] rfl rfl (zg HT_.out (by kernel_rfl)) (fun _ _ _ h => h) (Or.inl ⟨by rfl, ?_⟩) ?_ ?_;rotate_left
             ·intro w'
              go_simp;with_reducible rfl
             rotate_left
             ·simp only [Act.put, Zs1, Zs2, Zs3, zh, zi]
              rfl
             refine zn (i := 23) (N := some 46) (v := ?_) (a' := ?_) #[true, true, true, true, true, true, true, true, true, true, true, true, true, true, true, true, true, true, true, true, true, true, true, true, false, false, false, false, false] rfl rfl (zg HT_.out (by kernel_rfl)) (fun _ _ _ h => h) (Or.inl ⟨by rfl, ?_⟩) ?_ ?_;rotate_left
             ·intro w'
              go_simp;with_reducible rfl
             rotate_left
             ·simp only [Act.put, Zs1, Zs2, Zs3, zh, zi]
              rfl
             refine zn (i := 24) (N := some 47) (v := ?_) (a' := ?_) #[true, true, true, true, true, true, true, true, true, true, true, true, true, true, true, true, true, true, true, true, true, true, true, true, true, false, false, false, false] rfl rfl (zg HT_.out (by kernel_rfl)) (fun _ _ _ h => h) (Or.inl ⟨by rfl, ?_⟩) ?_ ?_;rotate_left
             ·intro w'
              go_simp;with_reducible rfl
             rotate_left
             ·simp only [Act.put, Zs1, Zs2, Zs3, zh, zi]
              rfl
             refine zn (i := 25) (N := some 48) (v := ?_) (a' := ?_) #[true, true, true, true, true, true, true, true, true, true, true, true, true, true, true, true, true, true, true, true, true, true, true, true, true, true, false, false, false] rfl rfl (zg HT_.out (by kernel_rfl)) (fun _ _ _ h => h) (Or.inl ⟨by rfl, ?_⟩) ?_ ?_;rotate_left
             ·intro w'
              go_simp;with_reducible rfl
             rotate_left
             ·simp only [Act.put, Zs1, Zs2, Zs3, zh, zi]
              rfl
             refine one_ (i := 26) (N := some 49) #[true, true, true, true, true, true, true, true, true, true, true, true, true, true, true, true, true, true, true, true, true, true, true, true, true, true, true, false, false] rfl rfl (zb0 HT_.out (by kernel_rfl)) (by decide) (fun K hK => ?_);refine zcs Try.func66 (by kernel_rfl) rfl #[.slice (some ad312) l0.length c0, .slice (some ad313) l1.length c1, .int .i64 x11_2, .int .i64 x10_2] (by rfl) rfl rfl Zmt ?_;with_reducible refine (zm.calls k2 _ _ l0 _ _ l1 x11_2 x10_2 false _ ?side1 ?side2 ?side3 ?side4 A19.out).mono ?_
             (case side1 => repeat (first | exact (Kd.zdq HR0.out (Zq1 HB)) | (with_reducible refine Kd.zc3 ?_ _) | (with_reducible refine Kd.zdb ?_ _) | (with_reducible refine Kd.zdt ?_)));(case side2 => exact HC0.out);(case side3 => repeat (first | exact (Kd.zdq HR1.out (Zq1 HB)) | (with_reducible refine Kd.zc3 ?_ _) | (with_reducible refine Kd.zdb ?_ _) | (with_reducible refine Kd.zdt ?_)));(case side4 => exact HC1.out);rintro e w26 ⟨rfl, hb⟩;refine ⟨_, rfl, ?_⟩;have n0_ := za.mk (Kd.zb7 (Zq12 HO_9) hb);have n1_ := za.mk (zl (Zq1 HB) hb);clear HO_9;clear HB;have HO_9 := n0_;have HB := n1_;clear n0_ n1_;(try clear hb);(try clear hb2);(try clear hk);(try clear hi);refine hK.out _ _ ⟨((HB.out.cell (World.block_lt_of_cell? w _ hw312_0)).trans hw312_0), ((HB.out.cell (World.block_lt_of_cell? w _ hw312_1)).trans hw312_1), ((HB.out.cell (World.block_lt_of_cell? w _ hw312_2)).trans hw312_2), ((HB.out.cell (World.block_lt_of_cell? w _ hw313_0)).trans hw313_0)⟩ (fun hHeld => ?_);clear hK K;refine zcd (a' := ?_) ?_ ?_;rotate_left
             ·show Act.put _ (some 49) _ = _
              simp only [Act.put, Zs1, Zs2, Zs3, zh, zi];rfl
             refine zn (i := 27) (N := some 50) (v := ?_) (a' := ?_) #[true, true, true, true, true, true, true, true, true, true, true, true, true, true, true, true, true, true, true, true, true, true, true, true, true, true, true, true, false] rfl rfl (zg HT_.out (by kernel_rfl)) (fun _ _ _ h => h) (Or.inl ⟨by rfl, ?_⟩) ?_ ?_;rotate_left
             ·intro w'
              go_simp;with_reducible rfl
             rotate_left
             ·simp only [Act.put, Zs1, Zs2, Zs3, zh, zi]
              rfl
             refine zn (i := 28) (N := some 51) (v := ?_) (a' := ?_) #[true, true, true, true, true, true, true, true, true, true, true, true, true, true, true, true, true, true, true, true, true, true, true, true, true, true, true, true, true] rfl rfl (zg HT_.out (by kernel_rfl)) (fun _ _ _ h => h) (Or.inl ⟨by rfl, ?_⟩) ?_ ?_;rotate_left
             ·intro w'
              go_simp;with_reducible rfl
             rotate_left
             ·simp only [Act.put, Zs1, Zs2, Zs3, zh, zi]
              rfl
             refine zc5 (zb9 HT_.out (by kernel_rfl)) ?_
             try go_wp2
             go_roundg k2
             case measure => have := HK1.out; have := HK2.out; omega
             case rel => exact ⟨(x10_2), (wrap64 (x11_2 + 1)), Zrs, Zrs, H', ⟨by have := HK1.out; have := HK2.out; omega⟩, ⟨Zq12 HO_9⟩, ⟨Zq1 HB⟩⟩
          ·rw [if_neg c15] at H
           have c15b0 : decide (t316 < 0) = false := decide_eq_false c15;clear c15;have H' := za.mk H;clear H
           try go_wp2
           have n0_ := za.mk (Kd.zci HO_9.out);have n1_ := za.mk (zbk HB.out);clear HO_9;clear HB;have HO_9 := n0_;have HB := n1_;clear n0_ n1_;have p312 : 0 ≤ (x11_2 : Int) := of_decide_eq_true Zas;have q312 : x11_2 < (l0.length : Int) := of_decide_eq_true Zas;obtain ⟨ad312, e312, hx312_0, hx312_1, hx312_2⟩ := zch HR0.out x11_2 p312 q312;have hw312_2 := hx312_2;have hw312_1 := hx312_1;have hw312_0 := hx312_0
           cases e312
           replace hx312_0 := (HB.out.cell (World.block_lt_of_cell? w _ hx312_0)).trans hx312_0;replace hx312_1 := (HB.out.cell (World.block_lt_of_cell? w _ hx312_1)).trans hx312_1;replace hx312_2 := (HB.out.cell (World.block_lt_of_cell? w _ hx312_2)).trans hx312_2;replace p312 := eq_true p312;replace q312 := eq_true q312;have p313 : 0 ≤ (x11_2 : Int) := of_decide_eq_true Zas;have q313 : x11_2 < (l1.length : Int) := of_decide_eq_true Zas;obtain ⟨ad313, e313, hx313_0⟩ := Kd.zb5 HR1.out x11_2 p313 q313;have hw313_0 := hx313_0
           cases e313
           replace hx313_0 := (HB.out.cell (World.block_lt_of_cell? w _ hx313_0)).trans hx313_0;replace p313 := eq_true p313;replace q313 := eq_true q313;refine zcn (n := 29) (S := fun w' => w'.cell? (ad312.add ((x11_2).toNat * 3)) = some (.int .i64 ((zf l0 x11_2).f0)) ∧ w'.cell? ⟨(ad312.add ((x11_2).toNat * 3)).block, (ad312.add ((x11_2).toNat * 3)).off + 1, none⟩ = some (.int .i64 ((zf l0 x11_2).f1)) ∧ w'.cell? ⟨(ad312.add ((x11_2).toNat * 3)).block, (ad312.add ((x11_2).toNat * 3)).off + 2, none⟩ = some (.int .i64 ((zf l0 x11_2).f2)) ∧ w'.cell? (ad313.add (x11_2).toNat) = some (.int .i64 (rd l1 x11_2))) (ds := []) #[false, false, false, false, false, false, false, false, false, false, false, false, false, false, false, false, false, false, false, false, false, false, false, false, false, false, false, false, false] (by kernel_rfl) rfl rfl ⟨((HB.out.cell (World.block_lt_of_cell? w _ hw312_0)).trans hw312_0), ((HB.out.cell (World.block_lt_of_cell? w _ hw312_1)).trans hw312_1), ((HB.out.cell (World.block_lt_of_cell? w _ hw312_2)).trans hw312_2), ((HB.out.cell (World.block_lt_of_cell? w _ hw313_0)).trans hw313_0)⟩ (fun hHeld => ?_); refine zbw z8.tab7 z8.zit (fun HT_ HW_ => ?_);generalize wr.drew = w27 at HO_9 HB hx312_0 hx312_1 hx312_2 hx313_0 hHeld ⊢;refine zn (i := 0) (N := some 23) (v := ?_) (a' := ?_) #[true, false, false, false, false, false, false, false, false, false, false, false, false, false, false, false, false, false, false, false, false, false, false, false, false, false, false, false, false] rfl rfl (zg HT_.out (by kernel_rfl)) (fun _ _ _ h => h) (Or.inl ⟨by rfl, ?_⟩) ?_ ?_;rotate_left
           ·intro w'
            go_simp;with_reducible rfl
           rotate_left
           ·simp only [Act.put, Zs1, Zs2, Zs3, zh, zi]
            rfl
           refine zn (i := 1) (N := some 24) (v := ?_) (a' := ?_) #[true, true, false, false, false, false, false, false, false, false, false, false, false, false, false, false, false, false, false, false, false, false, false, false, false, false, false, false, false] rfl rfl (zg HT_.out (by kernel_rfl)) (fun _ _ _ h => h) (Or.inl ⟨by rfl, ?_⟩) ?_ ?_;rotate_left
           ·intro w'
            go_simp;with_reducible rfl
           rotate_left
           ·simp only [Act.put, Zs1, Zs2, Zs3, zh, zi]
            rfl
           refine zn (i := 2) (N := some 25) (v := ?_) (a' := ?_) #[true, true, true, false, false, false, false, false, false, false, false, false, false, false, false, false, false, false, false, false, false, false, false, false, false, false, false, false, false] rfl rfl (zg HT_.out (by kernel_rfl)) (fun _ _ _ h => h) (Or.inl ⟨by rfl, ?_⟩) ?_ ?_;rotate_left
           ·intro w'
            go_simp;with_reducible rfl
           rotate_left
           ·simp only [Act.put, Zs1, Zs2, Zs3, zh, zi]
            rfl
           refine zn (i := 4) (N := some 27) (v := ?_) (a' := ?_) #[true, true, true, false, true, false, false, false, false, false, false, false, false, false, false, false, false, false, false, false, false, false, false, false, false, false, false, false, false] rfl rfl (zg HT_.out (by kernel_rfl)) (fun _ _ _ h => h) (Or.inl ⟨by rfl, ?_⟩) ?_ ?_;rotate_left
           ·intro w'
            go_simp;with_reducible rfl
           rotate_left
           ·simp only [Act.put, Zs1, Zs2, Zs3, zh, zi]
            rfl
           refine zn (i := 5) (N := some 28) (v := ?_) (a' := ?_) #[true, true, true, false, true, true, false, false, false, false, false, false, false, false, false, false, false, false, false, false, false, false, false, false, false, false, false, false, false] rfl rfl (zg HT_.out (by kernel_rfl)) (fun _ _ _ h => h) (Or.inl ⟨by rfl, ?_⟩) ?_ ?_;rotate_left
           ·intro w'
            go_simp;with_reducible rfl
           rotate_left
           ·simp only [Act.put, Zs1, Zs2, Zs3, zh, zi]
            rfl
           refine zn (i := 6) (N := some 29) (v := ?_) (a' := ?_) #[true, true, true, false, true, true, true, false, false, false, false, false, false, false, false, false, false, false, false, false, false, false, false, false, false, false, false, false, false] rfl rfl (zg HT_.out (by kernel_rfl)) (fun _ _ _ h => h) (Or.inl ⟨by rfl, ?_⟩) ?_ ?_;rotate_left
           ·intro w'
            go_simp;with_reducible rfl
           rotate_left
           ·simp only [Act.put, Zs1, Zs2, Zs3, zh, zi]
            rfl
           refine zn (i := 10) (N := some 33) (v := ?_) (a' := ?_) #[true, true, true, false, true, true, true, false, false, false, true, false, false, false, false, false, false, false, false, false, false, false, false, false, false, false, false, false, false] rfl rfl (zg HT_.out (by kernel_rfl)) (fun _ _ _ h => h) (Or.inl ⟨by rfl, ?_⟩) ?_ ?_;rotate_left
           ·intro w'
            go_simp;with_reducible rfl
           rotate_left
           ·simp only [Act.put, Zs1, Zs2, Zs3, zh, zi]
            rfl
           refine zb3 (i := 3) (N := some 26) (v := ?_) (a' := ?_) #[true, true, true, true, true, true, true, false, false, false, true, false, false, false, false, false, false, false, false, false, false, false, false, false, false, false, false, false, false] rfl rfl (zbc HT_.out HW_.out (by kernel_rfl)) (fun _ _ _ h => h) (Or.inl ⟨by rfl, ?_⟩) hHeld ?_ ?_;rotate_left
           ·rintro w' ⟨s0, s1, s2, s3⟩
            go_simp;with_reducible rfl
           rotate_left
           ·simp only [Act.put, Zs1, Zs2, Zs3, zh, zi]
            rfl
           refine zb3 (i := 7) (N := some 30) (v := ?_) (a' := ?_) #[true, true, true, true, true, true, true, true, false, false, true, false, false, false, false, false, false, false, false, false, false, false, false, false, false, false, false, false, false] rfl rfl (zbc HT_.out HW_.out (by kernel_rfl)) (fun _ _ _ h => h) (Or.inl ⟨by rfl, ?_⟩) hHeld ?_ ?_;rotate_left
           ·rintro w' ⟨s0, s1, s2, s3⟩
            go_simp;with_reducible rfl
           rotate_left
           ·simp only [Act.put, Zs1, Zs2, Zs3, zh, zi]
            rfl
           refine one_ (i := 8) (N := some 31) #[true, true, true, true, true, true, true, true, true, false, true, false, false, false, false, false, false, false, false, false, false, false, false, false, false, false, false, false, false] rfl rfl (zb0 HT_.out (by kernel_rfl)) (by decide) (fun K hK => ?_);refine zcs Try.func64 (by kernel_rfl) rfl #[.agg #[.int .i64 ((zf l0 x11_2).f0), .int .i64 ((zf l0 x11_2).f1), .int .i64 ((zf l0 x11_2).f2)], .int .i64 (rd l1 x11_2)] (by rfl) rfl rfl Zmt ?_;with_reducible refine (zbb.calls ((zf l0 x11_2).f0) ((zf l0 x11_2).f1) ((zf l0 x11_2).f2) (rd l1 x11_2) t314 t315 _ A12.out).mono ?_
           rintro e w28 ⟨rfl, hb⟩;refine ⟨_, rfl, ?_⟩;have n0_ := za.mk (Kd.zb7 (Zq12 HO_9) hb);have n1_ := za.mk (zl (Zq1 HB) hb);clear HO_9;clear HB;have HO_9 := n0_;have HB := n1_;clear n0_ n1_;(try clear hb);(try clear hb2);(try clear hk);(try clear hi);refine hK.out _ _ ⟨((HB.out.cell (World.block_lt_of_cell? w _ hw312_0)).trans hw312_0), ((HB.out.cell (World.block_lt_of_cell? w _ hw312_1)).trans hw312_1), ((HB.out.cell (World.block_lt_of_cell? w _ hw312_2)).trans hw312_2), ((HB.out.cell (World.block_lt_of_cell? w _ hw313_0)).trans hw313_0)⟩ (fun hHeld => ?_);clear hK K;refine zcd (a' := ?_) ?_ ?_;rotate_left
           ·show Act.put _ (some 31) _ = _
            simp only [Act.put, Zs1, Zs2, Zs3, zh, zi];rfl
           refine zn (i := 9) (N := some 32) (v := ?_) (a' := ?_) #[true, true, true, true, true, true, true, true, true, true, true, false, false, false, false, false, false, false, false, false, false, false, false, false, false, false, false, false, false] rfl rfl (zg HT_.out (by kernel_rfl)) (fun _ _ _ h => h) (Or.inl ⟨by rfl, ?_⟩) ?_ ?_;rotate_left
           ·intro w'
            go_simp;with_reducible rfl
           rotate_left
           ·simp only [Act.put, Zs1, Zs2, Zs3, zh, zi]
            rfl
           refine zn (i := 11) (N := some 34) (v := ?_) (a' := ?_) #[true, true, true, true, true, true, true, true, true, true, true, true, false, false, false, false, false, false, false, false, false, false, false, false, false, false, false, false, false] rfl rfl (zg HT_.out (by kernel_rfl)) (fun _ _ _ h => h) (Or.inl ⟨by rfl, ?_⟩) ?_ ?_;rotate_left
           ·intro w'
            go_simp;with_reducible rfl
           rotate_left
           ·simp only [Act.put, Zs1, Zs2, Zs3, zh, zi]
            rfl
           refine zn (i := 12) (N := some 35) (v := ?_) (a' := ?_) #[true, true, true, true, true, true, true, true, true, true, true, true, true, false, false, false, false, false, false, false, false, false, false, false, false, false, false, false, false] rfl rfl (zg HT_.out (by kernel_rfl)) (fun _ _ _ h => h) (Or.inl ⟨by rfl, ?_⟩) ?_ ?_;rotate_left
           ·intro w'
            go_simp;with_reducible rfl
           rotate_left
           ·simp only [Act.put, Zs1, Zs2, Zs3, zh, zi]
            rfl
           refine zn (i := 13) (N := some 36) (v := ?_) (a' := ?_) #[true, true, true, true, true, true, true, true, true, true, true, true, true, true, false, false, false, false, false, false, false, false, false, false, false, false, false, false, false] rfl rfl (zg HT_.out (by kernel_rfl)) (fun _ _ _ h => h) (Or.inl ⟨by rfl, ?_⟩) ?_ ?_;rotate_left
           ·intro w'
            go_simp;with_reducible rfl
           rotate_left
           ·simp only [Act.put, Zs1, Zs2, Zs3, zh, zi]
            rfl
           refine zn (i := 14) (N := some 37) (v := ?_) (a' := ?_) #[true, true, true, true, true, true, true, true, true, true, true, true, true, true, true, false, false, false, false, false, false, false, false, false, false, false, false, false, false] rfl rfl (zg HT_.out (by kernel_rfl)) (fun _ _ _ h => h) (Or.inl ⟨by rfl, ?_⟩) ?_ ?_;rotate_left
           ·intro w'
            go_simp;with_reducible rfl
           rotate_left
           ·simp only [Act.put, Zs1, Zs2, Zs3, zh, zi]
            rfl
           refine one_ (i := 15) (N := some 38) #[true, true, true, true, true, true, true, true, true, true, true, true, true, true, true, true, false, false, false, false, false, false, false, false, false, false, false, false, false] rfl rfl (zb0 HT_.out (by kernel_rfl)) (by decide) (fun K hK => ?_);refine zcs Try.func65 (by kernel_rfl) rfl #[.slice Ao8 x9_1.length co8, .int .i64 x11_2] (by rfl) rfl rfl Zmt ?_;with_reducible refine (zcc.calls k2 _ _ x9_1 x11_2 t316 _ ?side1 ?side2 A14.out).mono ?_
           (case side1 => exact Zq18 ((Kd.zz HO_9.out).2.2));(case side2 => exact (Kd.zz HO_9.out).2.1);rintro e w' ⟨rfl, ⟨nd, rfl⟩⟩;refine ⟨_, rfl, ?_⟩;refine hK.out _ _ ⟨((HB.out.cell (World.block_lt_of_cell? w _ hw312_0)).trans hw312_0), ((HB.out.cell (World.block_lt_of_cell? w _ hw312_1)).trans hw312_1), ((HB.out.cell (World.block_lt_of_cell? w _ hw312_2)).trans hw312_2), ((HB.out.cell (World.block_lt_of_cell? w _ hw313_0)).trans hw313_0)⟩ (fun hHeld => ?_);clear hK K;refine zcd (a' := ?_) ?_ ?_;rotate_left
           ·show Act.put _ (some 38) _ = _
            simp only [Act.put, Zs1, Zs2, Zs3, zh, zi];rfl
           refine zn (i := 16) (N := some 39) (v := ?_) (a' := ?_) #[true, true, true, true, true, true, true, true, true, true, true, true, true, true, true, true, true, false, false, false, false, false, false, false, false, false, false, false, false] rfl rfl (zg HT_.out (by kernel_rfl)) (fun _ _ _ h => h) (Or.inl ⟨by rfl, ?_⟩) ?_ ?_;rotate_left
           ·intro w'
            go_simp;with_reducible rfl
           rotate_left
           ·simp only [Act.put, Zs1, Zs2, Zs3, zh, zi]
            rfl
           refine zn (i := 17) (N := some 40) (v := ?_) (a' := ?_) #[true, true, true, true, true, true, true, true, true, true, true, true, true, true, true, true, true, true, false, false, false, false, false, false, false, false, false, false, false] rfl rfl (zg HT_.out (by kernel_rfl)) (fun _ _ _ h => h) (Or.inl ⟨by rfl, ?_⟩) ?_ ?_;rotate_left
           ·intro w'
            go_simp;with_reducible rfl
           rotate_left
           ·simp only [Act.put, Zs1, Zs2, Zs3, zh, zi]
            rfl
           refine zn (i := 18) (N := some 41) (v := ?_) (a' := ?_) #[true, true, true, true, true, true, true, true, true, true, true, true, true, true, true, true, true, true, true, false, false, false, false, false, false, false, false, false, false] rfl rfl (zg HT_.out (by kernel_rfl)) (fun _ _ _ h => h) (Or.inl ⟨by rfl, ?_⟩) ?_ ?_;rotate_left
           ·intro w'
            go_simp;with_reducible rfl
           rotate_left
           ·simp only [Act.put, Zs1, Zs2, Zs3, zh, zi]
            rfl
           refine zn (i := 19) (N := some 42) (v := undef) (a' := ?_) #[true, true, true, true, true, true, true, true, true, true, true, true, true, true, true, true, true, true, true, true, false, false, false, false, false, false, false, false, false] rfl rfl (zg HT_.out (by kernel_rfl)) (fun _ _ _ h => h) (Or.inr ⟨by rfl, rfl⟩) ?_ ?_;rotate_left
           ·simp only [Act.put, Zs1, Zs2, Zs3, zh, zi]
            rfl
           refine zn (i := 20) (N := some 43) (v := undef) (a' := ?_) #[true, true, true, true, true, true, true, true, true, true, true, true, true, true, true, true, true, true, true, true, true, false, false, false, false, false, false, false, false] rfl rfl (zg HT_.out (by kernel_rfl)) (fun _ _ _ h => h) (Or.inr ⟨by rfl, rfl⟩) ?_ ?_;rotate_left
           ·simp only [Act.put, Zs1, Zs2, Zs3, zh, zi]
            rfl
           refine zn (i := 21) (N := some 44) (v := undef) (a' := ?_) #[true, true, true, true, true, true, true, true, true, true, true, true, true, true, true, true, true, true, true, true, true, true, false, false, false, false, false, false, false] rfl rfl (zg HT_.out (by kernel_rfl)) (fun _ _ _ h => h) (Or.inr ⟨by rfl, rfl⟩) ?_ ?_;rotate_left
           ·simp only [Act.put, Zs1, Zs2, Zs3, zh, zi]
            rfl
           refine zn (i := 22) (N := some 45) (v := undef) (a' := ?_) #[true, true, true, true, true, true, true, true, true, true, true, true, true, true, true, true, true, true, true, true, true, true, true, false, false, false, false, false, false] rfl rfl (zg HT_.out (by kernel_rfl)) (fun _ _ _ h => h) (Or.inr ⟨by rfl, rfl⟩) ?_ ?_;rotate_left
           ·simp only [Act.put, Zs1, Zs2, Zs3, zh, zi]
            rfl
           refine zn (i := 23) (N := some 46) (v := undef) (a' := ?_) #[true, true, true, true, true, true, true, true, true, true, true, true, true, true, true, true, true, true, true, true, true, true, true, true, false, false, false, false, false] rfl rfl (zg HT_.out (by kernel_rfl)) (fun _ _ _ h => h) (Or.inr ⟨by rfl, rfl⟩) ?_ ?_;rotate_left
           ·simp only [Act.put, Zs1, Zs2, Zs3, zh, zi]
            rfl
           refine zn (i := 24) (N := some 47) (v := undef) (a' := ?_) #[true, true, true, true, true, true, true, true, true, true, true, true, true, true, true, true, true, true, true, true, true, true, true, true, true, false, false, false, false] rfl rfl (zg HT_.out (by kernel_rfl)) (fun _ _ _ h => h) (Or.inr ⟨by rfl, rfl⟩) ?_ ?_;rotate_left
           ·simp only [Act.put, Zs1, Zs2, Zs3, zh, zi]
            rfl
           refine zn (i := 25) (N := some 48) (v := undef) (a' := ?_) #[true, true, true, true, true, true, true, true, true, true, true, true, true, true, true, true, true, true, true, true, true, true, true, true, true, true, false, false, false] rfl rfl (zg HT_.out (by kernel_rfl)) (fun _ _ _ h => h) (Or.inr ⟨by rfl, rfl⟩) ?_ ?_;rotate_left
           ·simp only [Act.put, Zs1, Zs2, Zs3, zh, zi]
            rfl
           refine zn (i := 26) (N := some 49) (v := undef) (a' := ?_) #[true, true, true, true, true, true, true, true, true, true, true, true, true, true, true, true, true, true, true, true, true, true, true, true, true, true, true, false, false] rfl rfl (zg HT_.out (by kernel_rfl)) (fun _ _ _ h => h) (Or.inr ⟨by rfl, rfl⟩) ?_ ?_;rotate_left
           ·simp only [Act.put, Zs1, Zs2, Zs3, zh, zi]
            rfl
           refine zn (i := 27) (N := some 50) (v := undef) (a' := ?_) #[true, true, true, true, true, true, true, true, true, true, true, true, true, true, true, true, true, true, true, true, true, true, true, true, true, true, true, true, false] rfl rfl (zg HT_.out (by kernel_rfl)) (fun _ _ _ h => h) (Or.inr ⟨by rfl, rfl⟩) ?_ ?_;rotate_left
           ·simp only [Act.put, Zs1, Zs2, Zs3, zh, zi]
            rfl
           refine zn (i := 28) (N := some 51) (v := ?_) (a' := ?_) #[true, true, true, true, true, true, true, true, true, true, true, true, true, true, true, true, true, true, true, true, true, true, true, true, true, true, true, true, true] rfl rfl (zg HT_.out (by kernel_rfl)) (fun _ _ _ h => h) (Or.inl ⟨by rfl, ?_⟩) ?_ ?_;rotate_left
           ·intro w'
            go_simp;with_reducible rfl
           rotate_left
           ·simp only [Act.put, Zs1, Zs2, Zs3, zh, zi]
            rfl
           refine zc5 (zb9 HT_.out (by kernel_rfl)) ?_
           try go_wp2
           go_roundg k2
           case measure => have := HK1.out; have := HK2.out; omega
           case rel => exact ⟨(x10_2), (wrap64 (x11_2 + 1)), Zrs, Zrs, H', ⟨by have := HK1.out; have := HK2.out; omega⟩, ⟨Zq12 HO_9⟩, ⟨Zq1 HB⟩⟩
         ·rw [if_neg c13] at H
          have c13b0 : decide (t314 ≤ a2) = false := decide_eq_false c13;clear c13;have H' := za.mk H;clear H
          try go_wp2
          have n0_ := za.mk (Kd.zci HO_9.out);have n1_ := za.mk (zbk HB.out);clear HO_9;clear HB;have HO_9 := n0_;have HB := n1_;clear n0_ n1_;have p312 : 0 ≤ (x11_2 : Int) := of_decide_eq_true Zas;have q312 : x11_2 < (l0.length : Int) := of_decide_eq_true Zas;obtain ⟨ad312, e312, hx312_0, hx312_1, hx312_2⟩ := zch HR0.out x11_2 p312 q312;have hw312_2 := hx312_2;have hw312_1 := hx312_1;have hw312_0 := hx312_0
          cases e312
          replace hx312_0 := (HB.out.cell (World.block_lt_of_cell? w _ hx312_0)).trans hx312_0;replace hx312_1 := (HB.out.cell (World.block_lt_of_cell? w _ hx312_1)).trans hx312_1;replace hx312_2 := (HB.out.cell (World.block_lt_of_cell? w _ hx312_2)).trans hx312_2;replace p312 := eq_true p312;replace q312 := eq_true q312;have p313 : 0 ≤ (x11_2 : Int) := of_decide_eq_true Zas;have q313 : x11_2 < (l1.length : Int) := of_decide_eq_true Zas;obtain ⟨ad313, e313, hx313_0⟩ := Kd.zb5 HR1.out x11_2 p313 q313;have hw313_0 := hx313_0
          cases e313
          replace hx313_0 := (HB.out.cell (World.block_lt_of_cell? w _ hx313_0)).trans hx313_0;replace p313 := eq_true p313;replace q313 := eq_true q313;refine zcn (n := 29) (S := fun w' => w'.cell? (ad312.add ((x11_2).toNat * 3)) = some (.int .i64 ((zf l0 x11_2).f0)) ∧ w'.cell? ⟨(ad312.add ((x11_2).toNat * 3)).block, (ad312.add ((x11_2).toNat * 3)).off + 1, none⟩ = some (.int .i64 ((zf l0 x11_2).f1)) ∧ w'.cell? ⟨(ad312.add ((x11_2).toNat * 3)).block, (ad312.add ((x11_2).toNat * 3)).off + 2, none⟩ = some (.int .i64 ((zf l0 x11_2).f2)) ∧ w'.cell? (ad313.add (x11_2).toNat) = some (.int .i64 (rd l1 x11_2))) (ds := []) #[false, false, false, false, false, false, false, false, false, false, false, false, false, false, false, false, false, false, false, false, false, false, false, false, false, false, false, false, false] (by kernel_rfl) rfl rfl ⟨((HB.out.cell (World.block_lt_of_cell? w _ hw312_0)).trans hw312_0), ((HB.out.cell (World.block_lt_of_cell? w _ hw312_1)).trans hw312_1), ((HB.out.cell (World.block_lt_of_cell? w _ hw312_2)).trans hw312_2), ((HB.out.cell (World.block_lt_of_cell? w _ hw313_0)).trans hw313_0)⟩ (fun hHeld => ?_); refine zbw z8.tab7 z8.zit (fun HT_ HW_ => ?_);generalize wr.drew = w29 at HO_9 HB hx312_0 hx312_1 hx312_2 hx313_0 hHeld ⊢;refine zn (i := 0) (N := some 23) (v := ?_) (a' := ?_) #[true, false, false, false, false, false, false, false, false, false, false, false, false, false, false, false, false, false, false, false, false, false, false, false, false, false, false, false, false] rfl rfl (zg HT_.out (by kernel_rfl)) (fun _ _ _ h => h) (Or.inl ⟨by rfl, ?_⟩) ?_ ?_;rotate_left
          ·intro w'
           go_simp;with_reducible rfl
          rotate_left
          ·simp only [Act.put, Zs1, Zs2, Zs3, zh, zi]
           rfl
          refine zn (i := 1) (N := some 24) (v := ?_) (a' := ?_) #[true, true, false, false, false, false, false, false, false, false, false, false, false, false, false, false, false, false, false, false, false, false, false, false, false, false, false, false, false] rfl rfl (zg HT_.out (by kernel_rfl)) (fun _ _ _ h => h) (Or.inl ⟨by rfl, ?_⟩) ?_ ?_;rotate_left
          ·intro w'
           go_simp;with_reducible rfl
          rotate_left
          ·simp only [Act.put, Zs1, Zs2, Zs3, zh, zi]
           rfl
          refine zn (i := 2) (N := some 25) (v := ?_) (a' := ?_) #[true, true, true, false, false, false, false, false, false, false, false, false, false, false, false, false, false, false, false, false, false, false, false, false, false, false, false, false, false] rfl rfl (zg HT_.out (by kernel_rfl)) (fun _ _ _ h => h) (Or.inl ⟨by rfl, ?_⟩) ?_ ?_;rotate_left
          ·intro w'
           go_simp;with_reducible rfl
          rotate_left
          ·simp only [Act.put, Zs1, Zs2, Zs3, zh, zi]
           rfl
          refine zn (i := 4) (N := some 27) (v := ?_) (a' := ?_) #[true, true, true, false, true, false, false, false, false, false, false, false, false, false, false, false, false, false, false, false, false, false, false, false, false, false, false, false, false] rfl rfl (zg HT_.out (by kernel_rfl)) (fun _ _ _ h => h) (Or.inl ⟨by rfl, ?_⟩) ?_ ?_;rotate_left
          ·intro w'
           go_simp;with_reducible rfl
          rotate_left
          ·simp only [Act.put, Zs1, Zs2, Zs3, zh, zi]
           rfl
          refine zn (i := 5) (N := some 28) (v := ?_) (a' := ?_) #[true, true, true, false, true, true, false, false, false, false, false, false, false, false, false, false, false, false, false, false, false, false, false, false, false, false, false, false, false] rfl rfl (zg HT_.out (by kernel_rfl)) (fun _ _ _ h => h) (Or.inl ⟨by rfl, ?_⟩) ?_ ?_;rotate_left
          ·intro w'
           go_simp;with_reducible rfl
          rotate_left
          ·simp only [Act.put, Zs1, Zs2, Zs3, zh, zi]
           rfl
          refine zn (i := 6) (N := some 29) (v := ?_) (a' := ?_) #[true, true, true, false, true, true, true, false, false, false, false, false, false, false, false, false, false, false, false, false, false, false, false, false, false, false, false, false, false] rfl rfl (zg HT_.out (by kernel_rfl)) (fun _ _ _ h => h) (Or.inl ⟨by rfl, ?_⟩) ?_ ?_;rotate_left
          ·intro w'
           go_simp;with_reducible rfl
          rotate_left
          ·simp only [Act.put, Zs1, Zs2, Zs3, zh, zi]
           rfl
          refine zn (i := 10) (N := some 33) (v := ?_) (a' := ?_) #[true, true, true, false, true, true, true, false, false, false, true, false, false, false, false, false, false, false, false, false, false, false, false, false, false, false, false, false, false] rfl rfl (zg HT_.out (by kernel_rfl)) (fun _ _ _ h => h) (Or.inl ⟨by rfl, ?_⟩) ?_ ?_;rotate_left
          ·intro w'
           go_simp;with_reducible rfl
          rotate_left
          ·simp only [Act.put, Zs1, Zs2, Zs3, zh, zi]
           rfl
          refine zb3 (i := 3) (N := some 26) (v := ?_) (a' := ?_) #[true, true, true, true, true, true, true, false, false, false, true, false, false, false, false, false, false, false, false, false, false, false, false, false, false, false, false, false, false] rfl rfl (zbc HT_.out HW_.out (by kernel_rfl)) (fun _ _ _ h => h) (Or.inl ⟨by rfl, ?_⟩) hHeld ?_ ?_;rotate_left
          ·rintro w' ⟨s0, s1, s2, s3⟩
           go_simp;with_reducible rfl
          rotate_left
          ·simp only [Act.put, Zs1, Zs2, Zs3, zh, zi]
           rfl
          refine zb3 (i := 7) (N := some 30) (v := ?_) (a' := ?_) #[true, true, true, true, true, true, true, true, false, false, true, false, false, false, false, false, false, false, false, false, false, false, false, false, false, false, false, false, false] rfl rfl (zbc HT_.out HW_.out (by kernel_rfl)) (fun _ _ _ h => h) (Or.inl ⟨by rfl, ?_⟩) hHeld ?_ ?_;rotate_left
          ·rintro w' ⟨s0, s1, s2, s3⟩
           go_simp;with_reducible rfl
          rotate_left
          ·simp only [Act.put, Zs1, Zs2, Zs3, zh, zi]
           rfl
          refine one_ (i := 8) (N := some 31) #[true, true, true, true, true, true, true, true, true, false, true, false, false, false, false, false, false, false, false, false, false, false, false, false, false, false, false, false, false] rfl rfl (zb0 HT_.out (by kernel_rfl)) (by decide) (fun K hK => ?_);refine zcs Try.func64 (by kernel_rfl) rfl #[.agg #[.int .i64 ((zf l0 x11_2).f0), .int .i64 ((zf l0 x11_2).f1), .int .i64 ((zf l0 x11_2).f2)], .int .i64 (rd l1 x11_2)] (by rfl) rfl rfl Zmt ?_;with_reducible refine (zbb.calls ((zf l0 x11_2).f0) ((zf l0 x11_2).f1) ((zf l0 x11_2).f2) (rd l1 x11_2) t314 t315 _ A12.out).mono ?_
          rintro e w30 ⟨rfl, hb⟩;refine ⟨_, rfl, ?_⟩;have n0_ := za.mk (Kd.zb7 (Zq12 HO_9) hb);have n1_ := za.mk (zl (Zq1 HB) hb);clear HO_9;clear HB;have HO_9 := n0_;have HB := n1_;clear n0_ n1_;(try clear hb);(try clear hb2);(try clear hk);(try clear hi);refine hK.out _ _ ⟨((HB.out.cell (World.block_lt_of_cell? w _ hw312_0)).trans hw312_0), ((HB.out.cell (World.block_lt_of_cell? w _ hw312_1)).trans hw312_1), ((HB.out.cell (World.block_lt_of_cell? w _ hw312_2)).trans hw312_2), ((HB.out.cell (World.block_lt_of_cell? w _ hw313_0)).trans hw313_0)⟩ (fun hHeld => ?_);clear hK K;refine zcd (a' := ?_) ?_ ?_;rotate_left
          ·show Act.put _ (some 31) _ = _
           simp only [Act.put, Zs1, Zs2, Zs3, zh, zi];rfl
          refine zn (i := 9) (N := some 32) (v := ?_) (a' := ?_) #[true, true, true, true, true, true, true, true, true, true, true, false, false, false, false, false, false, false, false, false, false, false, false, false, false, false, false, false, false] rfl rfl (zg HT_.out (by kernel_rfl)) (fun _ _ _ h => h) (Or.inl ⟨by rfl, ?_⟩) ?_ ?_;rotate_left
          ·intro w'
           go_simp;with_reducible rfl
          rotate_left
          ·simp only [Act.put, Zs1, Zs2, Zs3, zh, zi]
           rfl
          refine zn (i := 11) (N := some 34) (v := ?_) (a' := ?_) #[true, true, true, true, true, true, true, true, true, true, true, true, false, false, false, false, false, false, false, false, false, false, false, false, false, false, false, false, false] rfl rfl (zg HT_.out (by kernel_rfl)) (fun _ _ _ h => h) (Or.inl ⟨by rfl, ?_⟩) ?_ ?_;rotate_left
          ·intro w'
           go_simp;with_reducible rfl
          rotate_left
          ·simp only [Act.put, Zs1, Zs2, Zs3, zh, zi]
           rfl
          refine zn (i := 12) (N := some 35) (v := ?_) (a' := ?_) #[true, true, true, true, true, true, true, true, true, true, true, true, true, false, false, false, false, false, false, false, false, false, false, false, false, false, false, false, false] rfl rfl (zg HT_.out (by kernel_rfl)) (fun _ _ _ h => h) (Or.inl ⟨by rfl, ?_⟩) ?_ ?_;rotate_left
          ·intro w'
           go_simp;with_reducible rfl
          rotate_left
          ·simp only [Act.put, Zs1, Zs2, Zs3, zh, zi]
           rfl
          refine zn (i := 13) (N := some 36) (v := undef) (a' := ?_) #[true, true, true, true, true, true, true, true, true, true, true, true, true, true, false, false, false, false, false, false, false, false, false, false, false, false, false, false, false] rfl rfl (zg HT_.out (by kernel_rfl)) (fun _ _ _ h => h) (Or.inr ⟨by rfl, rfl⟩) ?_ ?_;rotate_left
          ·simp only [Act.put, Zs1, Zs2, Zs3, zh, zi]
           rfl
          refine zn (i := 14) (N := some 37) (v := undef) (a' := ?_) #[true, true, true, true, true, true, true, true, true, true, true, true, true, true, true, false, false, false, false, false, false, false, false, false, false, false, false, false, false] rfl rfl (zg HT_.out (by kernel_rfl)) (fun _ _ _ h => h) (Or.inr ⟨by rfl, rfl⟩) ?_ ?_;rotate_left
          ·simp only [Act.put, Zs1, Zs2, Zs3, zh, zi]
           rfl
          refine zn (i := 15) (N := some 38) (v := undef) (a' := ?_) #[true, true, true, true, true, true, true, true, true, true, true, true, true, true, true, true, false, false, false, false, false, false, false, false, false, false, false, false, false] rfl rfl (zg HT_.out (by kernel_rfl)) (fun _ _ _ h => h) (Or.inr ⟨by rfl, rfl⟩) ?_ ?_;rotate_left
          ·simp only [Act.put, Zs1, Zs2, Zs3, zh, zi]
           rfl
          refine zn (i := 16) (N := some 39) (v := undef) (a' := ?_) #[true, true, true, true, true, true, true, true, true, true, true, true, true, true, true, true, true, false, false, false, false, false, false, false, false, false, false, false, false] rfl rfl (zg HT_.out (by kernel_rfl)) (fun _ _ _ h => h) (Or.inr ⟨by rfl, rfl⟩) ?_ ?_;rotate_left
          ·simp only [Act.put, Zs1, Zs2, Zs3, zh, zi]
           rfl
          refine zn (i := 17) (N := some 40) (v := ?_) (a' := ?_) #[true, true, true, true, true, true, true, true, true, true, true, true, true, true, true, true, true, true, false, false, false, false, false, false, false, false, false, false, false] rfl rfl (zg HT_.out (by kernel_rfl)) (fun _ _ _ h => h) (Or.inl ⟨by rfl, ?_⟩) ?_ ?_;rotate_left
          ·intro w'
           go_simp;with_reducible rfl
          rotate_left
          ·simp only [Act.put, Zs1, Zs2, Zs3, zh, zi]
           rfl
          refine zn (i := 18) (N := some 41) (v := ?_) (a' := ?_) #[true, true, true, true, true, true, true, true, true, true, true, true, true, true, true, true, true, true, true, false, false, false, false, false, false, false, false, false, false] rfl rfl (zg HT_.out (by kernel_rfl)) (fun _ _ _ h => h) (Or.inl ⟨by rfl, ?_⟩) ?_ ?_;rotate_left
          ·intro w'
           go_simp;with_reducible rfl
          rotate_left
          ·simp only [Act.put, Zs1, Zs2, Zs3, zh, zi]
           rfl
          refine zn (i := 19) (N := some 42) (v := undef) (a' := ?_) #[true, true, true, true, true, true, true, true, true, true, true, true, true, true, true, true, true, true, true, true, false, false, false, false, false, false, false, false, false] rfl rfl (zg HT_.out (by kernel_rfl)) (fun _ _ _ h => h) (Or.inr ⟨by rfl, rfl⟩) ?_ ?_;rotate_left
          ·simp only [Act.put, Zs1, Zs2, Zs3, zh, zi]
           rfl
          refine zn (i := 20) (N := some 43) (v := undef) (a' := ?_) #[true, true, true, true, true, true, true, true, true, true, true, true, true, true, true, true, true, true, true, true, true, false, false, false, false, false, false, false, false] rfl rfl (zg HT_.out (by kernel_rfl)) (fun _ _ _ h => h) (Or.inr ⟨by rfl, rfl⟩) ?_ ?_;rotate_left
          ·simp only [Act.put, Zs1, Zs2, Zs3, zh, zi]
           rfl
          refine zn (i := 21) (N := some 44) (v := undef) (a' := ?_) #[true, true, true, true, true, true, true, true, true, true, true, true, true, true, true, true, true, true, true, true, true, true, false, false, false, false, false, false, false] rfl rfl (zg HT_.out (by kernel_rfl)) (fun _ _ _ h => h) (Or.inr ⟨by rfl, rfl⟩) ?_ ?_;rotate_left
          ·simp only [Act.put, Zs1, Zs2, Zs3, zh, zi]
           rfl
          refine zn (i := 22) (N := some 45) (v := undef) (a' := ?_) #[true, true, true, true, true, true, true, true, true, true, true, true, true, true, true, true, true, true, true, true, true, true, true, false, false, false, false, false, false] rfl rfl (zg HT_.out (by kernel_rfl)) (fun _ _ _ h => h) (Or.inr ⟨by rfl, rfl⟩) ?_ ?_;rotate_left
          ·simp only [Act.put, Zs1, Zs2, Zs3, zh, zi]
           rfl
          refine zn (i := 23) (N := some 46) (v := undef) (a' := ?_) #[true, true, true, true, true, true, true, true, true, true, true, true, true, true, true, true, true, true, true, true, true, true, true, true, false, false, false, false, false] rfl rfl (zg HT_.out (by kernel_rfl)) (fun _ _ _ h => h) (Or.inr ⟨by rfl, rfl⟩) ?_ ?_;rotate_left
          ·simp only [Act.put, Zs1, Zs2, Zs3, zh, zi]
           rfl
          refine zn (i := 24) (N := some 47) (v := undef) (a' := ?_) #[true, true, true, true, true, true, true, true, true, true, true, true, true, true, true, true, true, true, true, true, true, true, true, true, true, false, false, false, false] rfl rfl (zg HT_.out (by kernel_rfl)) (fun _ _ _ h => h) (Or.inr ⟨by rfl, rfl⟩) ?_ ?_;rotate_left
          ·simp only [Act.put, Zs1, Zs2, Zs3, zh, zi]
           rfl
          refine zn (i := 25) (N := some 48) (v := undef) (a' := ?_) #[true, true, true, true, true, true, true, true, true, true, true, true, true, true, true, true, true, true, true, true, true, true, true, true, true, true, false, false, false] rfl rfl (zg HT_.out (by kernel_rfl)) (fun _ _ _ h => h) (Or.inr ⟨by rfl, rfl⟩) ?_ ?_;rotate_left
          ·simp only [Act.put, Zs1, Zs2, Zs3, zh, zi]
           rfl
          refine zn (i := 26) (N := some 49) (v := undef) (a' := ?_) #[true, true, true, true, true, true, true, true, true, true, true, true, true, true, true, true, true, true, true, true, true, true, true, true, true, true, true, false, false] rfl rfl (zg HT_.out (by kernel_rfl)) (fun _ _ _ h => h) (Or.inr ⟨by rfl, rfl⟩) ?_ ?_;rotate_left
          ·simp only [Act.put, Zs1, Zs2, Zs3, zh, zi]
           rfl
          refine zn (i := 27) (N := some 50) (v := undef) (a' := ?_) #[true, true, true, true, true, true, true, true, true, true, true, true, true, true, true, true, true, true, true, true, true, true, true, true, true, true, true, true, false] rfl rfl (zg HT_.out (by kernel_rfl)) (fun _ _ _ h => h) (Or.inr ⟨by rfl, rfl⟩) ?_ ?_;rotate_left
          ·simp only [Act.put, Zs1, Zs2, Zs3, zh, zi]
           rfl
          refine zn (i := 28) (N := some 51) (v := ?_) (a' := ?_) #[true, true, true, true, true, true, true, true, true, true, true, true, true, true, true, true, true, true, true, true, true, true, true, true, true, true, true, true, true] rfl rfl (zg HT_.out (by kernel_rfl)) (fun _ _ _ h => h) (Or.inl ⟨by rfl, ?_⟩) ?_ ?_;rotate_left
          ·intro w'
           go_simp;with_reducible rfl
          rotate_left
          ·simp only [Act.put, Zs1, Zs2, Zs3, zh, zi]
           rfl
          refine zc5 (zb9 HT_.out (by kernel_rfl)) ?_
          try go_wp2
          go_roundg k2
          case measure => have := HK1.out; have := HK2.out; omega
          case rel => exact ⟨(x10_2), (wrap64 (x11_2 + 1)), Zrs, Zrs, H', ⟨by have := HK1.out; have := HK2.out; omega⟩, ⟨Zq12 HO_9⟩, ⟨Zq1 HB⟩⟩
        ·rw [if_neg c11] at H
         exact absurd H (by simp)
       ·rw [if_neg c10] at H
        exact absurd H (by simp)
      ·rw [if_neg c9] at H
       have c9b0 : decide (x11_2 < (l0.length : Int)) = false := decide_eq_false c9;clear c9;by_cases c31 : x10_2 < 0
       ·rw [if_pos c31] at H
        have c31b0 : decide (x10_2 < 0) = true := decide_eq_true c31;clear c31;obtain rfl := Option.some.inj H;go_wp2;go_ret;exact ⟨_, by first | rfl | (simp [zq, zt] <;> rfl) | (simp [*, zq, zt] <;> rfl), Zq12 HO_9, Zq1 HB⟩
       ·rw [if_neg c31] at H
        have c31b0 : decide (x10_2 < 0) = false := decide_eq_false c31;clear c31;by_cases c32 : x9_1.length < 17592186044416
        ·rw [if_pos c32] at H
         have LMc32 := za.mk c32;clear c32;obtain ⟨y309, hy309⟩ : ∃ y_ : List Int, y_ = (x9_1 ++ [x10_2]) := ⟨_, rfl⟩;replace H : (z8.l0 k2 l0 l1 a2 a3 y309) = some r := by first | (rw [hy309]; with_reducible exact H) | (have H2_ := (Option.bind_some _ _).symm.trans H; rw [hy309]; with_reducible exact H2_) | (have H2_ := (Option.bind_some _ _).symm.trans H; with_reducible exact H2_) | with_reducible exact H | (rw [hy309]; exact H) | exact H
         have Ny309 := za.mk hy309;clear hy309;have H' := za.mk H;clear H;go_wp2_with (first | ((with_reducible refine zdc (b := .append) (xs := #[.tmp 56, .tmp 58]) rfl ?_); at_builtin; refine Kd.zek (Kd.int .i64) (w0 := w) w.heap.size rfl (.tmp 56) (.tmp 58) 33 3 (.int .i64 0) 8 rfl Try.underlying33 info3 rfl (by decide) (by omega) (.slice Ao8 x9_1.length co8) x9_1 x10_2 [.int .i64 x10_2] (fun _ => True) (fun _ => False) rfl rfl ?aP (fun _ hk => hk.elim) ?aF ?aO ?aB ?aS ?aL ?_; (case aP => exact rfl); (case aB => exact (Zq1 HB)); (case aF => exact (fun _ _ => trivial)); (case aO => exact (Zq12 HO_9)); (case aS => exact (zu (Zq1 HB))); (case aL => have := LMc32.out; omega); intro v310 w33 ho hb hg hat; rw [← Ny309.out] at ho; have n0_ := za.mk (hb); have n1_ := za.mk (ho); clear HB; clear HO_9; have HB := n0_; have HO311 := n1_; clear n0_ n1_; clear ho hb hg hat));go_roundg k2
         case measure => have := HK1.out; have := HK2.out; omega
         case rel => exact ⟨(y309), H', ⟨by have := HK1.out; have := HK2.out; omega⟩, ⟨Zq12 HO311⟩, ⟨Zq1 HB⟩⟩
        ·rw [if_neg c32] at H
         exact absurd H (by simp)
   ·rw [if_neg c7] at H
    have c7b0 : decide ((x9_1.length : Int) < a3) = false := decide_eq_false c7;clear c7;obtain rfl := Option.some.inj H;obtain ⟨Ao34, co34, eo34⟩ := Kd.zck HO_9.out;subst eo34;go_wp2;go_ret;exact ⟨_, by first | rfl | (simp [zq, zt] <;> rfl) | (simp [*, zq, zt] <;> rfl), Zq12 HO_9, Zq1 HB⟩
theorem Zq20 {X0 P : Prop} (x0 : za X0) (h : X0 → P := by intro x0; (with_reducible repeat (first | apply Kd.zfy | apply Kd.zfz | apply Kd.zfg)); exact x0) : P := h x0.out
mutual
def zo.j0 : Nat → List (S35) → Int → List (List Int) → Bool → Option ((List (List Int)))
 | 0, _, _, _, _ => none
 | k + 1, x0, x1, x5, x19 => if x19 = true then (some x5) else (zo.l0 k x0 x1 x5 0)
def zo.l0 : Nat → List (S35) → Int → List (List Int) → Int → Option ((List (List Int)))
 | 0, _, _, _, _ => none
 | k + 1, x0, x1, x5, x6 => if x6 < (x0.length : Int) then (if 0 ≤ x6 then (if ((zf x0 x6).f1) = ((zf x0 x6).f2) then (zo.l0 k x0 x1 x5 (wrap64 (x6 + 1))) else (some x5)) else (none)) else (if 0 ≤ (x0.length : Int) then (if ((x0.length : Int) : Int).toNat ≤ 35184372088832 then (zo.l1 k x0 x1 x5 (List.replicate ((x0.length : Int) : Int).toNat 0) 0) else (none)) else (none))
def zo.l1 : Nat → List (S35) → Int → List (List Int) → List Int → Int → Option ((List (List Int)))
 | 0, _, _, _, _, _ => none
 | k + 1, x0, x1, x5, x7, x8 => if x8 < 120 then ((z8.f k x0 x7 x8 x1).bind fun t328 => (zo.l2 k x0 x1 x5 x7 x8 t328 0)) else (some x5)
def zo.l2 : Nat → List (S35) → Int → List (List Int) → List Int → Int → List Int → Int → Option ((List (List Int)))
 | 0, _, _, _, _, _, _, _ => none
 | k + 1, x0, x1, x5, x7, x8, x9, x10 => if x10 < (x9.length : Int) then (if 0 ≤ x10 then (if 0 ≤ (rd x9 x10) then (if (rd x9 x10) < (x7.length : Int) then (zo.l2 k x0 x1 x5 (x7.set ((rd x9 x10) : Int).toNat (wrap64 ((rd x7 (rd x9 x10)) + 1))) x8 x9 (wrap64 (x10 + 1))) else (none)) else (none)) else (none)) else (if x5.length < 5864062014805 then (zo.l1 k x0 x1 (x5 ++ [x9]) x7 (wrap64 (x8 + 1))) else (none))
end
def zo.f (k : Nat) (l0 : List (S35)) (a1 : Int) : Option ((List (List Int))) := (some (([] : List (List Int)) : List (List Int))).bind fun y318 => ((zb2.f k l0).bind fun t321 => (if t321 = true then ((zcg.f a1 1 5).bind fun t322 => (zo.j0 k l0 a1 y318 (!t322))) else (zo.j0 k l0 a1 y318 true)))
def zo.T7 : Bool × List (List Nat × List Nat) := (true, [([], []), ([], []), ([0, 1], [0, 1]), ([2], [2]), ([3], [3]), ([], []), ([], []), ([5, 6], [5, 6]), ([7], [7]), ([8], [8]), ([4, 9], [4, 9])])
def zo.B7 : List Nat := [0, 0, 3, 7, 15, 0, 0, 96, 224, 480, 1023]
theorem zo.tab7 : rtab .any (opsOf Try.f12 7) = zo.T7 := by kernel_rfl
theorem zo.zit : zcw zo.T7.2 zo.B7 = true := by kernel_rfl
def zo.T17 : Bool × List (List Nat × List Nat) := (true, [([], []), ([], []), ([], []), ([1, 2], [1, 2]), ([3], [3]), ([], []), ([], []), ([], []), ([6, 7], [6, 7]), ([8], [8]), ([5, 9], [5, 9]), ([10], [10]), ([11], [11]), ([0, 4, 0, 1, 2, 3, 4, 5, 6, 7, 8, 9, 10, 11, 12], [0, 4]), ([13, 12, 0, 1, 2, 3, 4, 5, 6, 7, 8, 9, 10, 11, 12], [12, 13])])
def zo.B17 : List Nat := [0, 0, 0, 6, 14, 0, 0, 0, 192, 448, 992, 2016, 4064, 8191, 16383]
theorem zo.tab17 : rtab .any (opsOf Try.f12 17) = zo.T17 := by kernel_rfl
theorem zo.bits17 : zcw zo.T17.2 zo.B17 = true := by kernel_rfl
set_option maxHeartbeats 8000000 in
theorem zo.calls (k : Nat) (A0 : Option Addr) (c0 : Nat) (l0 : List (S35)) (a1 : Int) (r : List (List Int)) (w : World) (hr0 : Kd.C k35 w A0 l0.length l0) (hc0 : l0.length ≤ c0) (h : zo.f k l0 a1 = some r) :
  Calls Try.prog 12 #[.slice A0 l0.length c0, .int .i64 a1] w fun e w' => ∃ v0_ : Value, e = .returned (v0_) ∧ Kd.S (Kd.slice 3 (Kd.int .i64)) 33 w' w.heap.size (fun _ => True) v0_ r ∧ Below w.heap.size w w' := by
 have HR0 := za.mk hr0
 have HC0 := za.mk hc0
 clear hr0 hc0
 have HB := za.mk (Below.refl w.heap.size w)
 have H : ((some (([] : List (List Int)) : List (List Int))).bind fun y318 => ((zb2.f k l0).bind fun t321 => (if t321 = true then ((zcg.f a1 1 5).bind fun t322 => (zo.j0 k l0 a1 y318 (!t322))) else (zo.j0 k l0 a1 y318 true)))) = some r := h
 clear h
 obtain ⟨y318, hy318⟩ : ∃ y_ : List (List Int), y_ = (([] : List (List Int))) := ⟨_, rfl⟩
 replace H : ((zb2.f k l0).bind fun t321 => (if t321 = true then ((zcg.f a1 1 5).bind fun t322 => (zo.j0 k l0 a1 y318 (!t322))) else (zo.j0 k l0 a1 y318 true))) = some r := by first | (rw [hy318]; with_reducible exact H) | (have H2_ := (Option.bind_some _ _).symm.trans H; rw [hy318]; with_reducible exact H2_) | (have H2_ := (Option.bind_some _ _).symm.trans H; with_reducible exact H2_) | with_reducible exact H | (rw [hy318]; exact H) | exact H
 have Ny318 := za.mk hy318
 clear hy318
 have HC3 := za.mk H
 clear H
 go_enter Try.func12, Try.ntmps12
 go_upto_region 2 with (first | ((with_reducible refine zb4 (N := 11) rfl ?_); refine Kd.S_lit (Kd.slice 3 (Kd.int .i64)) _ 33 ?hg (N := 11) ?hd (xs := ([] : List (List Int))) (inner := []) (ok := fun _ => True) (okp := fun _ => True) ?hr ?hp (fun _ hk => hk) trivial (Below.refl _ _) (Nat.le_refl _) (by simp) ?_; (case hd => rfl); (case hg => rfl); (case hr => first | (go_simp; done) | (go_simp; rfl)); (case hp => exact (Reps.none _ _)); intro v319 w4 ho5 hb hg_ hnew_; clear hg_ hnew_; (first | rw [← Ny318.out] at ho5 | (simp only [Int.reduceToNat] at ho5; rw [← Ny318.out] at ho5)); have n0_ := za.mk (Kd.S_lower ho5 (zu (Zq1 HB))); have n1_ := za.mk (zl (Zq1 HB) hb); clear HB; have HO320 := n0_; have HB := n1_; clear n0_ n1_; clear hb ho5))
 (try simp only [Act.put, Zs1, Zs2, Zs3])
 go_cut [19] (fun v19 wc => ∃ (kq : Nat) (x19_2 : Bool), v19 = .bool x19_2 ∧ za (zo.j0 kq l0 a1 y318 x19_2 = some r) ∧ za (kq ≤ k) ∧ za (Kd.S (Kd.slice 3 (Kd.int .i64)) 33 wc w.heap.size (fun _ => True) v319 y318) ∧ za (Below w.heap.size w wc))
 case first =>
  have H := HC3.out;clear HC3;replace H := Option.bind_eq_some_iff.mp H;obtain ⟨t321, A60, H⟩ := H;replace H : (if t321 = true then ((zcg.f a1 1 5).bind fun t322 => (zo.j0 k l0 a1 y318 (!t322))) else (zo.j0 k l0 a1 y318 true)) = some r := H;have A6 := za.mk A60;clear A60;by_cases c7 : t321 = true
  ·subst c7
   have H1 : ((zcg.f a1 1 5).bind fun t322 => (zo.j0 k l0 a1 y318 (!t322))) = some r := by rw [if_pos rfl] at H; exact H
   clear H;have H := H1;clear H1;replace H := Option.bind_eq_some_iff.mp H;obtain ⟨t322, A80, H⟩ := H;replace H : (zo.j0 k l0 a1 y318 (!t322)) = some r := H;have A8 := za.mk A80;clear A80;have H' := za.mk H;clear H;go_wp2_with (first | ((with_reducible refine zbd (f := 36) rfl ?_); refine zb6 (some 13) rfl rfl Try.func36 (by kernel_rfl) rfl #[.slice A0 l0.length c0] rfl Zmt ?_; (with_reducible refine (zb2.calls k _ _ l0 true _ ?side1 ?side2 A6.out).mono ?_); (case side1 => exact Zq18 (Kd.zdq HR0.out HB.out)); (case side2 => exact HC0.out); rintro e w9 ⟨rfl, hb⟩; refine ⟨_, rfl, ?_⟩; have n0_ := za.mk (Kd.zgp (Zq20 HO320) hb); have n1_ := za.mk (zl (Zq1 HB) hb); clear HO320; clear HB; have HO320 := n0_; have HB := n1_; clear n0_ n1_; (try clear hb); (try clear hb2); (try clear hk); (try clear hi)) | (go_at_call 37; (with_reducible refine (zcg.calls a1 1 5 t322 _ A8.out).mono ?_); rintro e w' ⟨rfl, ⟨nd, rfl⟩⟩));go_meet
   case rel => exact ⟨_, (!t322), Zrs, H', ⟨by first | omega | exact Nat.le_refl _⟩, ⟨Zq20 HO320⟩, ⟨Zq1 HB⟩⟩
  ·replace c7 := Bool.eq_false_iff.mpr c7
   subst c7;have H1 : (zo.j0 k l0 a1 y318 true) = some r := by rw [if_neg (show ¬ (false = true) by decide)] at H; exact H
   clear H;have H := H1;clear H1;have H' := za.mk H;clear H;go_wp2_with (first | ((with_reducible refine zbd (f := 36) rfl ?_); refine zb6 (some 13) rfl rfl Try.func36 (by kernel_rfl) rfl #[.slice A0 l0.length c0] rfl Zmt ?_; (with_reducible refine (zb2.calls k _ _ l0 false _ ?side1 ?side2 A6.out).mono ?_); (case side1 => exact Zq18 (Kd.zdq HR0.out HB.out)); (case side2 => exact HC0.out); rintro e w10 ⟨rfl, hb⟩; refine ⟨_, rfl, ?_⟩; have n0_ := za.mk (Kd.zgp (Zq20 HO320) hb); have n1_ := za.mk (zl (Zq1 HB) hb); clear HO320; clear HB; have HO320 := n0_; have HB := n1_; clear n0_ n1_; (try clear hb); (try clear hb2); (try clear hk); (try clear hi)));go_meet
   case rel => exact ⟨_, (true), Zrs, H', ⟨by first | omega | exact Nat.le_refl _⟩, ⟨Zq20 HO320⟩, ⟨Zq1 HB⟩⟩
 case rest =>
  clear HC3
  (try clear c1);(try clear p2);(try clear c3);(try clear c7)
  obtain ⟨kq, x19_2, rfl, HA, HJ2, HO_5, HB⟩ := hcut
  cases kq with
  | zero => exact absurd HA.out (by simp [zo.j0])
  | succ kj2 =>
   have H := HA.out;clear HA;simp only [zo.j0] at H;by_cases c11 : x19_2 = true
   ·subst c11
    have H1 : (some y318) = some r := by rw [if_pos rfl] at H; exact H
    clear H;have H := H1;clear H1;obtain rfl := Option.some.inj H;go_wp2;go_ret;exact ⟨_, by first | rfl | (simp [zq, zt] <;> rfl) | (simp [*, zq, zt] <;> rfl), Zq20 HO_5, Zq1 HB⟩
   ·replace c11 := Bool.eq_false_iff.mpr c11
    subst c11;have H1 : (zo.l0 kj2 l0 a1 y318 0) = some r := by rw [if_neg (show ¬ (false = true) by decide)] at H; exact H
    clear H;have H := H1;clear H1;have H' := za.mk H;clear H;go_wp2
    go_loopg [6] kj2 (fun kq v6 w' => ∃ (x6_2 : Int), v6 = .int .i64 x6_2 ∧ za (zo.l0 kq l0 a1 y318 x6_2 = some r) ∧ za (kq ≤ kj2) ∧ za (Kd.S (Kd.slice 3 (Kd.int .i64)) 33 w' w.heap.size (fun _ => True) v319 y318) ∧ za (Below w.heap.size w w'))
    case atStart => exact ⟨(0), Zrs, H', ⟨Nat.le_refl _⟩, ⟨Zq20 HO_5⟩, ⟨Zq1 HB⟩⟩
    case round =>
     clear H'
     (try clear c1);(try clear p2);(try clear c3);(try clear c7);(try clear c11);(try clear p2)
     obtain ⟨x6_2, rfl, HA, HK2, HO_5, HB⟩ := hrel
     cases gk with
     | zero => exact absurd HA.out (by simp [zo.l0])
     | succ k2 =>
      have H := HA.out;clear HA;simp only [zo.l0] at H;by_cases c12 : x6_2 < (l0.length : Int)
      ·rw [if_pos c12] at H
       have c12b0 : decide (x6_2 < (l0.length : Int)) = true := decide_eq_true c12;clear c12;by_cases c13 : 0 ≤ x6_2
       ·rw [if_pos c13] at H
        have c13b0 : decide (0 ≤ x6_2) = true := decide_eq_true c13;clear c13;by_cases c14 : ((zf l0 x6_2).f1) = ((zf l0 x6_2).f2)
        ·rw [if_pos c14] at H
         have c14b0 : (((zf l0 x6_2).f1) == ((zf l0 x6_2).f2)) = true := beq_iff_eq.mpr c14;have c14b1 : (((zf l0 x6_2).f1) != ((zf l0 x6_2).f2)) = false := bne_eq_false_iff_eq.mpr c14;clear c14;have H' := za.mk H;clear H
         try go_wp2
         have n0_ := za.mk (Kd.zfg HO_5.out);have n1_ := za.mk (zbk HB.out);clear HO_5;clear HB;have HO_5 := n0_;have HB := n1_;clear n0_ n1_;have p323 : 0 ≤ (x6_2 : Int) := of_decide_eq_true Zas;have q323 : x6_2 < (l0.length : Int) := of_decide_eq_true Zas;obtain ⟨ad323, e323, hx323_0, hx323_1, hx323_2⟩ := zch HR0.out x6_2 p323 q323;have hw323_2 := hx323_2;have hw323_1 := hx323_1;have hw323_0 := hx323_0
         cases e323
         replace hx323_0 := (HB.out.cell (World.block_lt_of_cell? w _ hx323_0)).trans hx323_0;replace hx323_1 := (HB.out.cell (World.block_lt_of_cell? w _ hx323_1)).trans hx323_1;replace hx323_2 := (HB.out.cell (World.block_lt_of_cell? w _ hx323_2)).trans hx323_2;replace p323 := eq_true p323;replace q323 := eq_true q323;have p324 : 0 ≤ (x6_2 : Int) := of_decide_eq_true Zas;have q324 : x6_2 < (l0.length : Int) := of_decide_eq_true Zas;obtain ⟨ad324, e324, hx324_0, hx324_1, hx324_2⟩ := zch HR0.out x6_2 p324 q324;have hw324_2 := hx324_2;have hw324_1 := hx324_1;have hw324_0 := hx324_0;obtain rfl : ad323 = ad324 := (by injection e324);replace hx324_0 := (HB.out.cell (World.block_lt_of_cell? w _ hx324_0)).trans hx324_0;replace hx324_1 := (HB.out.cell (World.block_lt_of_cell? w _ hx324_1)).trans hx324_1;replace hx324_2 := (HB.out.cell (World.block_lt_of_cell? w _ hx324_2)).trans hx324_2;replace p324 := eq_true p324;replace q324 := eq_true q324;refine zcn (n := 11) (S := fun w' => w'.cell? (ad323.add ((x6_2).toNat * 3)) = some (.int .i64 ((zf l0 x6_2).f0)) ∧ w'.cell? ⟨(ad323.add ((x6_2).toNat * 3)).block, (ad323.add ((x6_2).toNat * 3)).off + 1, none⟩ = some (.int .i64 ((zf l0 x6_2).f1)) ∧ w'.cell? ⟨(ad323.add ((x6_2).toNat * 3)).block, (ad323.add ((x6_2).toNat * 3)).off + 2, none⟩ = some (.int .i64 ((zf l0 x6_2).f2)) ∧ w'.cell? (ad323.add ((x6_2).toNat * 3)) = some (.int .i64 ((zf l0 x6_2).f0)) ∧ w'.cell? ⟨(ad323.add ((x6_2).toNat * 3)).block, (ad323.add ((x6_2).toNat * 3)).off + 1, none⟩ = some (.int .i64 ((zf l0 x6_2).f1)) ∧ w'.cell? ⟨(ad323.add ((x6_2).toNat * 3)).block, (ad323.add ((x6_2).toNat * 3)).off + 2, none⟩ = some (.int .i64 ((zf l0 x6_2).f2))) (ds := []) #[false, false, false, false, false, false, false, false, false, false, false] (by kernel_rfl) rfl rfl ⟨((HB.out.cell (World.block_lt_of_cell? w _ hw323_0)).trans hw323_0), ((HB.out.cell (World.block_lt_of_cell? w _ hw323_1)).trans hw323_1), ((HB.out.cell (World.block_lt_of_cell? w _ hw323_2)).trans hw323_2), ((HB.out.cell (World.block_lt_of_cell? w _ hw324_0)).trans hw324_0), ((HB.out.cell (World.block_lt_of_cell? w _ hw324_1)).trans hw324_1), ((HB.out.cell (World.block_lt_of_cell? w _ hw324_2)).trans hw324_2)⟩ (fun hHeld => ?_); refine zbw zo.tab7 zo.zit (fun HT_ HW_ => ?_);generalize wr.drew = w15 at HO_5 HB hx323_0 hx323_1 hx323_2 hx324_0 hx324_1 hx324_2 hHeld ⊢;refine zn (i := 0) (N := some 27) (v := ?_) (a' := ?_) #[true, false, false, false, false, false, false, false, false, false, false] rfl rfl (zg HT_.out (by kernel_rfl)) (fun _ _ _ h => h) (Or.inl ⟨by rfl, ?_⟩) ?_ ?_;rotate_left
         ·intro w'
          go_simp;with_reducible rfl
         rotate_left
         ·simp only [Act.put, Zs1, Zs2, Zs3, zh, zi]
          rfl
         refine zn (i := 1) (N := some 28) (v := ?_) (a' := ?_) #[true, true, false, false, false, false, false, false, false, false, false] rfl rfl (zg HT_.out (by kernel_rfl)) (fun _ _ _ h => h) (Or.inl ⟨by rfl, ?_⟩) ?_ ?_;rotate_left
         ·intro w'
          go_simp;with_reducible rfl
         rotate_left
         ·simp only [Act.put, Zs1, Zs2, Zs3, zh, zi]
          rfl
         refine zn (i := 2) (N := some 29) (v := ?_) (a' := ?_) #[true, true, true, false, false, false, false, false, false, false, false] rfl rfl (zg HT_.out (by kernel_rfl)) (fun _ _ _ h => h) (Or.inl ⟨by rfl, ?_⟩) ?_ ?_;rotate_left
         ·intro w'
          go_simp;with_reducible rfl
         rotate_left
         ·simp only [Act.put, Zs1, Zs2, Zs3, zh, zi]
          rfl
         refine zn (i := 3) (N := some 30) (v := ?_) (a' := ?_) #[true, true, true, true, false, false, false, false, false, false, false] rfl rfl (zg HT_.out (by kernel_rfl)) (fun _ _ _ h => h) (Or.inl ⟨by rfl, ?_⟩) ?_ ?_;rotate_left
         ·intro w'
          go_simp;with_reducible rfl
         rotate_left
         ·simp only [Act.put, Zs1, Zs2, Zs3, zh, zi]
          rfl
         refine zn (i := 5) (N := some 32) (v := ?_) (a' := ?_) #[true, true, true, true, false, true, false, false, false, false, false] rfl rfl (zg HT_.out (by kernel_rfl)) (fun _ _ _ h => h) (Or.inl ⟨by rfl, ?_⟩) ?_ ?_;rotate_left
         ·intro w'
          go_simp;with_reducible rfl
         rotate_left
         ·simp only [Act.put, Zs1, Zs2, Zs3, zh, zi]
          rfl
         refine zn (i := 6) (N := some 33) (v := ?_) (a' := ?_) #[true, true, true, true, false, true, true, false, false, false, false] rfl rfl (zg HT_.out (by kernel_rfl)) (fun _ _ _ h => h) (Or.inl ⟨by rfl, ?_⟩) ?_ ?_;rotate_left
         ·intro w'
          go_simp;with_reducible rfl
         rotate_left
         ·simp only [Act.put, Zs1, Zs2, Zs3, zh, zi]
          rfl
         refine zn (i := 7) (N := some 34) (v := ?_) (a' := ?_) #[true, true, true, true, false, true, true, true, false, false, false] rfl rfl (zg HT_.out (by kernel_rfl)) (fun _ _ _ h => h) (Or.inl ⟨by rfl, ?_⟩) ?_ ?_;rotate_left
         ·intro w'
          go_simp;with_reducible rfl
         rotate_left
         ·simp only [Act.put, Zs1, Zs2, Zs3, zh, zi]
          rfl
         refine zn (i := 8) (N := some 35) (v := ?_) (a' := ?_) #[true, true, true, true, false, true, true, true, true, false, false] rfl rfl (zg HT_.out (by kernel_rfl)) (fun _ _ _ h => h) (Or.inl ⟨by rfl, ?_⟩) ?_ ?_;rotate_left
         ·intro w'
          go_simp;with_reducible rfl
         rotate_left
         ·simp only [Act.put, Zs1, Zs2, Zs3, zh, zi]
          rfl
         refine zb3 (i := 4) (N := some 31) (v := ?_) (a' := ?_) #[true, true, true, true, true, true, true, true, true, false, false] rfl rfl (zbc HT_.out HW_.out (by kernel_rfl)) (fun _ _ _ h => h) (Or.inl ⟨by rfl, ?_⟩) hHeld ?_ ?_;rotate_left
         ·rintro w' ⟨s0, s1, s2, s3, s4, s5⟩
          go_simp;with_reducible rfl
         rotate_left
         ·simp only [Act.put, Zs1, Zs2, Zs3, zh, zi]
          rfl
         refine zb3 (i := 9) (N := some 36) (v := ?_) (a' := ?_) #[true, true, true, true, true, true, true, true, true, true, false] rfl rfl (zbc HT_.out HW_.out (by kernel_rfl)) (fun _ _ _ h => h) (Or.inl ⟨by rfl, ?_⟩) hHeld ?_ ?_;rotate_left
         ·rintro w' ⟨s0, s1, s2, s3, s4, s5⟩
          go_simp;with_reducible rfl
         rotate_left
         ·simp only [Act.put, Zs1, Zs2, Zs3, zh, zi]
          rfl
         refine zn (i := 10) (N := some 37) (v := ?_) (a' := ?_) #[true, true, true, true, true, true, true, true, true, true, true] rfl rfl (zg HT_.out (by kernel_rfl)) (fun _ _ _ h => h) (Or.inl ⟨by rfl, ?_⟩) ?_ ?_;rotate_left
         ·intro w'
          go_simp;with_reducible rfl
         rotate_left
         ·simp only [Act.put, Zs1, Zs2, Zs3, zh, zi]
          rfl
         refine zc5 (zb9 HT_.out (by kernel_rfl)) ?_
         try go_wp2
         go_roundg k2
         case measure => have := HJ2.out; have := HK2.out; omega
         case rel => exact ⟨(wrap64 (x6_2 + 1)), Zrs, H', ⟨by have := HJ2.out; have := HK2.out; omega⟩, ⟨Zq20 HO_5⟩, ⟨Zq1 HB⟩⟩
        ·rw [if_neg c14] at H
         have c14b0 : (((zf l0 x6_2).f1) == ((zf l0 x6_2).f2)) = false := beq_eq_false_iff_ne.mpr c14;have c14b1 : (((zf l0 x6_2).f1) != ((zf l0 x6_2).f2)) = true := bne_iff_ne.mpr c14;obtain rfl := Option.some.inj H
         try go_wp2
         have n0_ := za.mk (Kd.zfg HO_5.out);have n1_ := za.mk (zbk HB.out);clear HO_5;clear HB;have HO_5 := n0_;have HB := n1_;clear n0_ n1_;have p323 : 0 ≤ (x6_2 : Int) := of_decide_eq_true Zas;have q323 : x6_2 < (l0.length : Int) := of_decide_eq_true Zas;obtain ⟨ad323, e323, hx323_0, hx323_1, hx323_2⟩ := zch HR0.out x6_2 p323 q323;have hw323_2 := hx323_2;have hw323_1 := hx323_1;have hw323_0 := hx323_0
         cases e323
         replace hx323_0 := (HB.out.cell (World.block_lt_of_cell? w _ hx323_0)).trans hx323_0;replace hx323_1 := (HB.out.cell (World.block_lt_of_cell? w _ hx323_1)).trans hx323_1;replace hx323_2 := (HB.out.cell (World.block_lt_of_cell? w _ hx323_2)).trans hx323_2;replace p323 := eq_true p323;replace q323 := eq_true q323;have p324 : 0 ≤ (x6_2 : Int) := of_decide_eq_true Zas;have q324 : x6_2 < (l0.length : Int) := of_decide_eq_true Zas;obtain ⟨ad324, e324, hx324_0, hx324_1, hx324_2⟩ := zch HR0.out x6_2 p324 q324;have hw324_2 := hx324_2;have hw324_1 := hx324_1;have hw324_0 := hx324_0;obtain rfl : ad323 = ad324 := (by injection e324);replace hx324_0 := (HB.out.cell (World.block_lt_of_cell? w _ hx324_0)).trans hx324_0;replace hx324_1 := (HB.out.cell (World.block_lt_of_cell? w _ hx324_1)).trans hx324_1;replace hx324_2 := (HB.out.cell (World.block_lt_of_cell? w _ hx324_2)).trans hx324_2;replace p324 := eq_true p324;replace q324 := eq_true q324;refine zcn (n := 11) (S := fun w' => w'.cell? (ad323.add ((x6_2).toNat * 3)) = some (.int .i64 ((zf l0 x6_2).f0)) ∧ w'.cell? ⟨(ad323.add ((x6_2).toNat * 3)).block, (ad323.add ((x6_2).toNat * 3)).off + 1, none⟩ = some (.int .i64 ((zf l0 x6_2).f1)) ∧ w'.cell? ⟨(ad323.add ((x6_2).toNat * 3)).block, (ad323.add ((x6_2).toNat * 3)).off + 2, none⟩ = some (.int .i64 ((zf l0 x6_2).f2)) ∧ w'.cell? (ad323.add ((x6_2).toNat * 3)) = some (.int .i64 ((zf l0 x6_2).f0)) ∧ w'.cell? ⟨(ad323.add ((x6_2).toNat * 3)).block, (ad323.add ((x6_2).toNat * 3)).off + 1, none⟩ = some (.int .i64 ((zf l0 x6_2).f1)) ∧ w'.cell? ⟨(ad323.add ((x6_2).toNat * 3)).block, (ad323.add ((x6_2).toNat * 3)).off + 2, none⟩ = some (.int .i64 ((zf l0 x6_2).f2))) (ds := []) #[false, false, false, false, false, false, false, false, false, false, false] (by kernel_rfl) rfl rfl ⟨((HB.out.cell (World.block_lt_of_cell? w _ hw323_0)).trans hw323_0), ((HB.out.cell (World.block_lt_of_cell? w _ hw323_1)).trans hw323_1), ((HB.out.cell (World.block_lt_of_cell? w _ hw323_2)).trans hw323_2), ((HB.out.cell (World.block_lt_of_cell? w _ hw324_0)).trans hw324_0), ((HB.out.cell (World.block_lt_of_cell? w _ hw324_1)).trans hw324_1), ((HB.out.cell (World.block_lt_of_cell? w _ hw324_2)).trans hw324_2)⟩ (fun hHeld => ?_); refine zbw zo.tab7 zo.zit (fun HT_ HW_ => ?_);generalize wr.drew = w16 at HO_5 HB hx323_0 hx323_1 hx323_2 hx324_0 hx324_1 hx324_2 hHeld ⊢;refine zn (i := 0) (N := some 27) (v := ?_) (a' := ?_) #[true, false, false, false, false, false, false, false, false, false, false] rfl rfl (zg HT_.out (by kernel_rfl)) (fun _ _ _ h => h) (Or.inl ⟨by rfl, ?_⟩) ?_ ?_;rotate_left
         ·intro w'
          go_simp;with_reducible rfl
         rotate_left
         ·simp only [Act.put, Zs1, Zs2, Zs3, zh, zi]
          rfl
         refine zn (i := 1) (N := some 28) (v := ?_) (a' := ?_) #[true, true, false, false, false, false, false, false, false, false, false] rfl rfl (zg HT_.out (by kernel_rfl)) (fun _ _ _ h => h) (Or.inl ⟨by rfl, ?_⟩) ?_ ?_;rotate_left
         ·intro w'
          go_simp;with_reducible rfl
         rotate_left
         ·simp only [Act.put, Zs1, Zs2, Zs3, zh, zi]
          rfl
         refine zn (i := 2) (N := some 29) (v := ?_) (a' := ?_) #[true, true, true, false, false, false, false, false, false, false, false] rfl rfl (zg HT_.out (by kernel_rfl)) (fun _ _ _ h => h) (Or.inl ⟨by rfl, ?_⟩) ?_ ?_;rotate_left
         ·intro w'
          go_simp;with_reducible rfl
         rotate_left
         ·simp only [Act.put, Zs1, Zs2, Zs3, zh, zi]
          rfl
         refine zn (i := 3) (N := some 30) (v := ?_) (a' := ?_) #[true, true, true, true, false, false, false, false, false, false, false] rfl rfl (zg HT_.out (by kernel_rfl)) (fun _ _ _ h => h) (Or.inl ⟨by rfl, ?_⟩) ?_ ?_;rotate_left
         ·intro w'
          go_simp;with_reducible rfl
         rotate_left
         ·simp only [Act.put, Zs1, Zs2, Zs3, zh, zi]
          rfl
         refine zn (i := 5) (N := some 32) (v := ?_) (a' := ?_) #[true, true, true, true, false, true, false, false, false, false, false] rfl rfl (zg HT_.out (by kernel_rfl)) (fun _ _ _ h => h) (Or.inl ⟨by rfl, ?_⟩) ?_ ?_;rotate_left
         ·intro w'
          go_simp;with_reducible rfl
         rotate_left
         ·simp only [Act.put, Zs1, Zs2, Zs3, zh, zi]
          rfl
         refine zn (i := 6) (N := some 33) (v := ?_) (a' := ?_) #[true, true, true, true, false, true, true, false, false, false, false] rfl rfl (zg HT_.out (by kernel_rfl)) (fun _ _ _ h => h) (Or.inl ⟨by rfl, ?_⟩) ?_ ?_;rotate_left
         ·intro w'
          go_simp;with_reducible rfl
         rotate_left
         ·simp only [Act.put, Zs1, Zs2, Zs3, zh, zi]
          rfl
         refine zn (i := 7) (N := some 34) (v := ?_) (a' := ?_) #[true, true, true, true, false, true, true, true, false, false, false] rfl rfl (zg HT_.out (by kernel_rfl)) (fun _ _ _ h => h) (Or.inl ⟨by rfl, ?_⟩) ?_ ?_;rotate_left
         ·intro w'
          go_simp;with_reducible rfl
         rotate_left
         ·simp only [Act.put, Zs1, Zs2, Zs3, zh, zi]
          rfl
         refine zn (i := 8) (N := some 35) (v := ?_) (a' := ?_) #[true, true, true, true, false, true, true, true, true, false, false] rfl rfl (zg HT_.out (by kernel_rfl)) (fun _ _ _ h => h) (Or.inl ⟨by rfl, ?_⟩) ?_ ?_;rotate_left
         ·intro w'
          go_simp;with_reducible rfl
         rotate_left
         ·simp only [Act.put, Zs1, Zs2, Zs3, zh, zi]
          rfl
         refine zb3 (i := 4) (N := some 31) (v := ?_) (a' := ?_) #[true, true, true, true, true, true, true, true, true, false, false] rfl rfl (zbc HT_.out HW_.out (by kernel_rfl)) (fun _ _ _ h => h) (Or.inl ⟨by rfl, ?_⟩) hHeld ?_ ?_;rotate_left
         ·rintro w' ⟨s0, s1, s2, s3, s4, s5⟩
          go_simp;with_reducible rfl
         rotate_left
         ·simp only [Act.put, Zs1, Zs2, Zs3, zh, zi]
          rfl
         refine zb3 (i := 9) (N := some 36) (v := ?_) (a' := ?_) #[true, true, true, true, true, true, true, true, true, true, false] rfl rfl (zbc HT_.out HW_.out (by kernel_rfl)) (fun _ _ _ h => h) (Or.inl ⟨by rfl, ?_⟩) hHeld ?_ ?_;rotate_left
         ·rintro w' ⟨s0, s1, s2, s3, s4, s5⟩
          go_simp;with_reducible rfl
         rotate_left
         ·simp only [Act.put, Zs1, Zs2, Zs3, zh, zi]
          rfl
         refine zn (i := 10) (N := some 37) (v := ?_) (a' := ?_) #[true, true, true, true, true, true, true, true, true, true, true] rfl rfl (zg HT_.out (by kernel_rfl)) (fun _ _ _ h => h) (Or.inl ⟨by rfl, ?_⟩) ?_ ?_;rotate_left
         ·intro w'
          go_simp;with_reducible rfl
         rotate_left
         ·simp only [Act.put, Zs1, Zs2, Zs3, zh, zi]
          rfl
         refine zc5 (zb9 HT_.out (by kernel_rfl)) ?_
         try go_wp2
         go_ret;exact ⟨_, by first | rfl | (simp [zq, zt] <;> rfl) | (simp [*, zq, zt] <;> rfl), Zq20 HO_5, Zq1 HB⟩
       ·rw [if_neg c13] at H
        exact absurd H (by simp)
      ·rw [if_neg c12] at H
       have c12b0 : decide (x6_2 < (l0.length : Int)) = false := decide_eq_false c12;clear c12;by_cases c17 : 0 ≤ (l0.length : Int)
       ·rw [if_pos c17] at H
        have c17b0 := eq_true c17;have c17b1 : decide (0 ≤ (l0.length : Int)) = true := decide_eq_true c17;clear c17;by_cases c18 : ((l0.length : Int) : Int).toNat ≤ 35184372088832
        ·rw [if_pos c18] at H
         have c18b0 := eq_true c18;have c18b1 : decide (((l0.length : Int) : Int).toNat ≤ 35184372088832) = true := decide_eq_true c18;clear c18;obtain ⟨y325, hy325⟩ : ∃ y_ : List Int, y_ = (List.replicate ((l0.length : Int) : Int).toNat 0) := ⟨_, rfl⟩;replace H : (zo.l1 k2 l0 a1 y318 y325 0) = some r := by first | (rw [hy325]; with_reducible exact H) | (have H2_ := (Option.bind_some _ _).symm.trans H; rw [hy325]; with_reducible exact H2_) | (have H2_ := (Option.bind_some _ _).symm.trans H; with_reducible exact H2_) | with_reducible exact H | (rw [hy325]; exact H) | exact H
         have Ny325 := za.mk hy325;clear hy325;have H' := za.mk H;clear H;go_wp2_with (first | ((with_reducible refine zb4 (N := 41) rfl ?_); refine Kd.zhc (Kd.int .i64) _ 3 rfl (N := 41) rfl 33 _ _ rfl (l0.length : Int) rfl rfl Try.underlying33 (.int .i64 0) 8 info3 rfl (by decide) (by omega) 0 (ok := fun _ => True) (okp := fun _ => True) rfl (fun _ hk => hk) trivial (of_decide_eq_true Zas) (Nat.le_trans (Nat.mul_le_mul_right _ (of_decide_eq_true Zas : (l0.length : Int).toNat ≤ 35184372088832)) (by omega)) (Below.refl _ _) (Nat.le_refl _) ?_; intro v326 w19 ho20 hb hg_ hnew_; clear hg_ hnew_; (first | rw [← Ny325.out] at ho20 | (simp only [Int.reduceToNat] at ho20; rw [← Ny325.out] at ho20)); have n0_ := za.mk (Kd.S_elder' (Zq20 HO_5) (Kd.zcy ho20) hb); have n1_ := za.mk (Kd.zcj ho20 (zu (Zq1 HB))); have n2_ := za.mk (zl (Zq1 HB) hb); clear HO_5; clear HB; have HO_5 := n0_; have HO327 := n1_; have HB := n2_; clear n0_ n1_ n2_; clear hb ho20))
         go_loopg [5, 8] k2 (fun kq v5 v8 w' => ∃ (x5_3 : List (List Int)) (x7_3 : List Int) (x8_3 : Int), v8 = .int .i64 x8_3 ∧ za (zo.l1 kq l0 a1 x5_3 x7_3 x8_3 = some r) ∧ za (kq ≤ k2) ∧ za (Kd.S (Kd.slice 3 (Kd.int .i64)) 33 w' w.heap.size (fun k_ => some k_ ≠ (v326 : Value).ownBlock) v5 x5_3) ∧ za (Kd.R (Kd.int .i64) 3 w' w.heap.size (fun _ => True) v326 x7_3) ∧ za (Below w.heap.size w w'))
         case atStart => exact ⟨(y318), (y325), (0), Zrs, H', ⟨Nat.le_refl _⟩, ⟨by (with_reducible repeat (first | apply Kd.zfy | apply Kd.zfz | apply Kd.zfg)); exact Kd.zhg HO_5.out (fun _ hk => hk.2)⟩, ⟨Zq12 HO327⟩, ⟨Zq1 HB⟩⟩
         case round =>
          clear H'
          (try clear c1);(try clear p2);(try clear c3);(try clear p3);(try clear q3);(try clear hx3);(try clear p6);(try clear c7);(try clear c11);(try clear c12);(try clear c12b0);(try clear c13);(try clear c13b0);(try clear c14);(try clear c14b0);(try clear c14b1);(try clear c17);(try clear c17b0);(try clear c17b1);(try clear c18);(try clear c18b0);(try clear c18b1);(try clear hx323_0);(try clear hx323_1);(try clear hx323_2);(try clear hx324_0);(try clear hx324_1);(try clear hx324_2);(try clear p2);(try clear p323);(try clear p324);(try clear q323);(try clear q324)
          obtain ⟨x5_3, x7_3, x8_3, rfl, HA, HK3, HO_5, HO_7, HB⟩ := hrel
          cases gk with
          | zero => exact absurd HA.out (by simp [zo.l1])
          | succ k3 =>
           have H := HA.out;clear HA;simp only [zo.l1] at H;by_cases c21 : x8_3 < 120
           ·rw [if_pos c21] at H
            have c21b0 : decide (x8_3 < 120) = true := decide_eq_true c21;clear c21;replace H := Option.bind_eq_some_iff.mp H;obtain ⟨t328, A220, H⟩ := H;replace H : (zo.l2 k3 l0 a1 x5_3 x7_3 x8_3 t328 0) = some r := H;have A22 := za.mk A220;clear A220;have H' := za.mk H;clear H;obtain ⟨Ao23, co23, eo23⟩ := Kd.zck HO_7.out;subst eo23;go_wp2_with (first | ((with_reducible refine zbd (f := 38) rfl ?_); refine zb6 (some 50) rfl rfl Try.func38 (by kernel_rfl) rfl #[.slice A0 l0.length c0, .slice Ao23 x7_3.length co23, .int .i64 x8_3, .int .i64 a1] rfl Zmt ?_; (with_reducible refine (z8.calls k3 _ _ l0 _ _ x7_3 x8_3 a1 t328 _ ?side1 ?side2 ?side3 ?side4 A22.out).mono ?_); (case side1 => exact Zq18 (Kd.zdq HR0.out HB.out)); (case side2 => exact HC0.out); (case side3 => exact Zq18 ((Kd.zz HO_7.out).2.2)); (case side4 => exact (Kd.zz HO_7.out).2.1); rintro e w24 ⟨v329, rfl, ho0, hb⟩; refine ⟨_, rfl, ?_⟩; have n0_ := za.mk (Kd.S_elder' (Zq20 HO_5) (Kd.zcy ho0) hb); have n1_ := za.mk (Kd.zct (Zq12 HO_7) (Kd.zcy ho0) hb); have n2_ := za.mk (Kd.zcj (Kd.zdk ho0 (Kd.R_lt (Zq12 HO_7))) (zu (Zq1 HB))); have n3_ := za.mk (zl (Zq1 HB) hb); clear HO_5; clear HO_7; clear HB; have HO_5 := n0_; have HO_7 := n1_; have HO330 := n2_; have HB := n3_; clear n0_ n1_ n2_ n3_; (try clear hb); (try clear hb2); (try clear hk); (try clear hi); (try clear ho0)))
            go_loopg [10] k3 (fun kq v10 w' => ∃ (x7_4 : List Int) (x10_4 : Int), v10 = .int .i64 x10_4 ∧ za (zo.l2 kq l0 a1 x5_3 x7_4 x8_3 t328 x10_4 = some r) ∧ za (kq ≤ k3) ∧ za (Kd.S (Kd.slice 3 (Kd.int .i64)) 33 w' w.heap.size (fun k_ => some k_ ≠ ((.slice Ao23 x7_3.length co23) : Value).ownBlock ∧ some k_ ≠ (v329 : Value).ownBlock) u5 x5_3) ∧ za (Kd.R (Kd.int .i64) 3 w' w.heap.size (fun k_ => some k_ ≠ (v329 : Value).ownBlock) (.slice Ao23 x7_3.length co23) x7_4) ∧ za (Kd.R (Kd.int .i64) 3 w' w.heap.size (fun k_ => some k_ ≠ ((.slice Ao23 x7_3.length co23) : Value).ownBlock) v329 t328) ∧ za (Below w.heap.size w w'))
            case atStart => exact ⟨(x7_3), (0), Zrs, H', ⟨Nat.le_refl _⟩, ⟨Zq20 HO_5⟩, ⟨by (with_reducible repeat (first | apply Kd.zcl | apply Kd.zcm | apply Kd.zci)); exact Kd.zbs HO_7.out (fun _ hk => hk.2)⟩, ⟨by (with_reducible repeat (first | apply Kd.zcl | apply Kd.zcm | apply Kd.zci)); exact Kd.zbs HO330.out (fun _ hk => hk.2)⟩, ⟨Zq1 HB⟩⟩
            case round =>
             clear H'
             (try clear c1);(try clear c2);(try clear p2);(try clear c3);(try clear p3);(try clear q3);(try clear hx3);(try clear p6);(try clear c7);(try clear c11);(try clear c12);(try clear c12b0);(try clear c13);(try clear c13b0);(try clear c14);(try clear c14b0);(try clear c14b1);(try clear c17);(try clear c17b0);(try clear c17b1);(try clear c18);(try clear c18b0);(try clear c18b1);(try clear c21);(try clear c21b0);(try clear hx323_0);(try clear hx323_1);(try clear hx323_2);(try clear hx324_0);(try clear hx324_1);(try clear hx324_2);(try clear p2);(try clear p3);(try clear p323);(try clear p324);(try clear p6);(try clear q3);(try clear q323);(try clear q324)
             obtain ⟨x7_4, x10_4, rfl, HA, HK4, HO_5, HO_7, HO_9, HB⟩ := hrel;have hl7_4 := (Kd.zz HO_7.out).1;rw [hl7_4] at HO_7;(try simp only [hl7_4]);(try simp only [hl7_4] at HO_5);(try simp only [hl7_4] at HO_9)
             cases gk with
             | zero => exact absurd HA.out (by simp [zo.l2])
             | succ k4 =>
              have H := HA.out;clear HA;simp only [zo.l2] at H;by_cases c25 : x10_4 < (t328.length : Int)
              ·rw [if_pos c25] at H
               have c25b0 : decide (x10_4 < (t328.length : Int)) = true := decide_eq_true c25;clear c25;by_cases c26 : 0 ≤ x10_4
               ·rw [if_pos c26] at H
                have c26b0 : decide (0 ≤ x10_4) = true := decide_eq_true c26;clear c26;by_cases c27 : 0 ≤ (rd t328 x10_4)
                ·rw [if_pos c27] at H
                 have c27b0 : decide (0 ≤ (rd t328 x10_4)) = true := decide_eq_true c27;clear c27;by_cases c28 : (rd t328 x10_4) < (x7_4.length : Int)
                 ·rw [if_pos c28] at H
                  have c28b0 : decide ((rd t328 x10_4) < (x7_4.length : Int)) = true := decide_eq_true c28;clear c28;obtain ⟨y334, hy334⟩ : ∃ y_ : List Int, y_ = (x7_4.set ((rd t328 x10_4) : Int).toNat (wrap64 ((rd x7_4 (rd t328 x10_4)) + 1))) := ⟨_, rfl⟩;replace H : (zo.l2 k4 l0 a1 x5_3 y334 x8_3 t328 (wrap64 (x10_4 + 1))) = some r := by first | (rw [hy334]; with_reducible exact H) | (have H2_ := (Option.bind_some _ _).symm.trans H; rw [hy334]; with_reducible exact H2_) | (have H2_ := (Option.bind_some _ _).symm.trans H; with_reducible exact H2_) | with_reducible exact H | (rw [hy334]; exact H) | exact H
                  have Ny334 := za.mk hy334;clear hy334;have H' := za.mk H;clear H;obtain ⟨Ao30, co30, eo30⟩ := Kd.zck HO_9.out;subst eo30
                  try go_wp2
                  have n0_ := za.mk (Kd.zfg HO_5.out);have n1_ := za.mk (Kd.zci HO_7.out);have n2_ := za.mk (Kd.zci HO_9.out);have n3_ := za.mk (zbk HB.out);clear HO_5;clear HO_7;clear HO_9;clear HB;have HO_5 := n0_;have HO_7 := n1_;have HO_9 := n2_;have HB := n3_;clear n0_ n1_ n2_ n3_;have p331 : 0 ≤ (x10_4 : Int) := of_decide_eq_true Zas;have q331 : x10_4 < (t328.length : Int) := of_decide_eq_true Zas;obtain ⟨ad331, e331, hx331_0⟩ := Kd.zb5 (Kd.zz HO_9.out).2.2 x10_4 p331 q331
                  cases e331
                  replace p331 := eq_true p331;replace q331 := eq_true q331;have p332 : 0 ≤ (x10_4 : Int) := of_decide_eq_true Zas;have q332 : x10_4 < (t328.length : Int) := of_decide_eq_true Zas;obtain ⟨ad332, e332, hx332_0⟩ := Kd.zb5 (Kd.zz HO_9.out).2.2 x10_4 p332 q332;obtain rfl : ad331 = ad332 := (by injection e332);replace p332 := eq_true p332;replace q332 := eq_true q332;have p333 : 0 ≤ ((rd t328 x10_4) : Int) := of_decide_eq_true Zas;have q333 : (rd t328 x10_4) < (x7_4.length : Int) := of_decide_eq_true Zas;obtain ⟨ad333, e333, hx333_0⟩ := Kd.zb5 (Kd.zz HO_7.out).2.2 (rd t328 x10_4) p333 q333
                  cases e333
                  replace p333 := eq_true p333;replace q333 := eq_true q333;have p29 : 0 ≤ ((rd t328 x10_4) : Int) := of_decide_eq_true Zas;have q29 : ((rd t328 x10_4) : Int) < ((x7_4.length : Int) : Int) := of_decide_eq_true Zas;obtain ⟨go29, co29, eo29, gb29, gl29, cl29, HG29⟩ := Kd.zgh HO_7.out (by omega);(first | cases eo29 | (injection eo29 with ea_ en_ ec_; (first | subst ea_ | (injection ea_ with ea_; subst ea_)); subst ec_; clear en_));have GB29 := za.mk gb29;have GG29 := za.mk HG29;clear gb29 gl29 HG29;(first | simp only [add_plain] at hx333_0 | skip);obtain ⟨hx29_0, hf29_0⟩ := Kd.zfw 0 HO_7.out ((rd t328 x10_4) : Int) p29 q29;replace p29 := eq_true p29;replace q29 := eq_true q29;have HP32 := Kd.R_putn HO_7.out ((rd t328 x10_4) : Int) (wrap64 ((rd x7_4 (rd t328 x10_4)) + 1));rw [← Ny334.out] at HP32;have HQ32 := za.mk HP32;clear HP32;refine zcn (n := 15) (S := fun w' => w'.cell? (ad331.add (x10_4).toNat) = some (.int .i64 (rd t328 x10_4)) ∧ w'.cell? (ad331.add (x10_4).toNat) = some (.int .i64 (rd t328 x10_4)) ∧ w'.cell? ⟨go29, ((rd t328 x10_4)).toNat, none⟩ = some (.int .i64 (rd x7_4 (rd t328 x10_4)))) (ds := [14]) #[false, false, false, false, false, false, false, false, false, false, false, false, false, false, false] (by kernel_rfl) rfl rfl ⟨hx331_0, hx332_0, hx333_0⟩ (fun hHeld => ?_); refine zbw zo.tab17 zo.bits17 (fun HT_ HW_ => ?_);generalize wr.drew = w31 at HO_5 HO_7 HO_9 HB GG29 HQ32 hf29_0 hx29_0 hx331_0 hx332_0 hx333_0 hHeld ⊢;refine zn (i := 0) (N := some 57) (v := ?_) (a' := ?_) #[true, false, false, false, false, false, false, false, false, false, false, false, false, false, false] rfl rfl (zg HT_.out (by kernel_rfl)) (fun _ _ _ h => h) (Or.inl ⟨by rfl, ?_⟩) ?_ ?_;rotate_left
                  ·intro w'
                   go_simp;with_reducible rfl
                  rotate_left
                  ·simp only [Act.put, Zs1, Zs2, Zs3, zh, zi]
                   rfl
                  refine zn (i := 1) (N := some 58) (v := ?_) (a' := ?_) #[true, true, false, false, false, false, false, false, false, false, false, false, false, false, false] rfl rfl (zg HT_.out (by kernel_rfl)) (fun _ _ _ h => h) (Or.inl ⟨by rfl, ?_⟩) ?_ ?_;rotate_left
                  ·intro w'
                   go_simp;with_reducible rfl
                  rotate_left
                  ·simp only [Act.put, Zs1, Zs2, Zs3, zh, zi]
                   rfl
                  refine zn (i := 2) (N := some 59) (v := ?_) (a' := ?_) #[true, true, true, false, false, false, false, false, false, false, false, false, false, false, false] rfl rfl (zg HT_.out (by kernel_rfl)) (fun _ _ _ h => h) (Or.inl ⟨by rfl, ?_⟩) ?_ ?_;rotate_left
                  ·intro w'
                   go_simp;with_reducible rfl
                  rotate_left
                  ·simp only [Act.put, Zs1, Zs2, Zs3, zh, zi]
                   rfl
                  refine zn (i := 3) (N := some 60) (v := ?_) (a' := ?_) #[true, true, true, true, false, false, false, false, false, false, false, false, false, false, false] rfl rfl (zg HT_.out (by kernel_rfl)) (fun _ _ _ h => h) (Or.inl ⟨by rfl, ?_⟩) ?_ ?_;rotate_left
                  ·intro w'
                   go_simp;with_reducible rfl
                  rotate_left
                  ·simp only [Act.put, Zs1, Zs2, Zs3, zh, zi]
                   rfl
                  refine zn (i := 5) (N := some 62) (v := ?_) (a' := ?_) #[true, true, true, true, false, true, false, false, false, false, false, false, false, false, false] rfl rfl (zg HT_.out (by kernel_rfl)) (fun _ _ _ h => h) (Or.inl ⟨by rfl, ?_⟩) ?_ ?_;rotate_left
                  ·intro w'
                   go_simp;with_reducible rfl
                  rotate_left
                  ·simp only [Act.put, Zs1, Zs2, Zs3, zh, zi]
                   rfl
                  refine zn (i := 6) (N := some 63) (v := ?_) (a' := ?_) #[true, true, true, true, false, true, true, false, false, false, false, false, false, false, false] rfl rfl (zg HT_.out (by kernel_rfl)) (fun _ _ _ h => h) (Or.inl ⟨by rfl, ?_⟩) ?_ ?_;rotate_left
                  ·intro w'
                   go_simp;with_reducible rfl
                  rotate_left
                  ·simp only [Act.put, Zs1, Zs2, Zs3, zh, zi]
                   rfl
                  refine zn (i := 7) (N := some 64) (v := ?_) (a' := ?_) #[true, true, true, true, false, true, true, true, false, false, false, false, false, false, false] rfl rfl (zg HT_.out (by kernel_rfl)) (fun _ _ _ h => h) (Or.inl ⟨by rfl, ?_⟩) ?_ ?_;rotate_left
                  ·intro w'
                   go_simp;with_reducible rfl
                  rotate_left
                  ·simp only [Act.put, Zs1, Zs2, Zs3, zh, zi]
                   rfl
                  refine zn (i := 8) (N := some 65) (v := ?_) (a' := ?_) #[true, true, true, true, false, true, true, true, true, false, false, false, false, false, false] rfl rfl (zg HT_.out (by kernel_rfl)) (fun _ _ _ h => h) (Or.inl ⟨by rfl, ?_⟩) ?_ ?_;rotate_left
                  ·intro w'
                   go_simp;with_reducible rfl
                  rotate_left
                  ·simp only [Act.put, Zs1, Zs2, Zs3, zh, zi]
                   rfl
                  refine zb3 (i := 4) (N := some 61) (v := ?_) (a' := ?_) #[true, true, true, true, true, true, true, true, true, false, false, false, false, false, false] rfl rfl (zbc HT_.out HW_.out (by kernel_rfl)) (fun _ _ _ h => h) (Or.inl ⟨by rfl, ?_⟩) hHeld ?_ ?_;rotate_left
                  ·rintro w' ⟨s0, s1, s2⟩
                   go_simp;with_reducible rfl
                  rotate_left
                  ·simp only [Act.put, Zs1, Zs2, Zs3, zh, zi]
                   rfl
                  refine zb3 (i := 9) (N := some 66) (v := ?_) (a' := ?_) #[true, true, true, true, true, true, true, true, true, true, false, false, false, false, false] rfl rfl (zbc HT_.out HW_.out (by kernel_rfl)) (fun _ _ _ h => h) (Or.inl ⟨by rfl, ?_⟩) hHeld ?_ ?_;rotate_left
                  ·rintro w' ⟨s0, s1, s2⟩
                   go_simp;with_reducible rfl
                  rotate_left
                  ·simp only [Act.put, Zs1, Zs2, Zs3, zh, zi]
                   rfl
                  refine zn (i := 10) (N := some 67) (v := ?_) (a' := ?_) #[true, true, true, true, true, true, true, true, true, true, true, false, false, false, false] rfl rfl (zg HT_.out (by kernel_rfl)) (fun _ _ _ h => h) (Or.inl ⟨by rfl, ?_⟩) ?_ ?_;rotate_left
                  ·intro w'
                   go_simp;with_reducible rfl
                  rotate_left
                  ·simp only [Act.put, Zs1, Zs2, Zs3, zh, zi]
                   rfl
                  refine zb3 (i := 11) (N := some 68) (v := ?_) (a' := ?_) #[true, true, true, true, true, true, true, true, true, true, true, true, false, false, false] rfl rfl (zbc HT_.out HW_.out (by kernel_rfl)) (fun _ _ _ h => h) (Or.inl ⟨by rfl, ?_⟩) hHeld ?_ ?_;rotate_left
                  ·rintro w' ⟨s0, s1, s2⟩
                   go_simp;with_reducible rfl
                  rotate_left
                  ·simp only [Act.put, Zs1, Zs2, Zs3, zh, zi]
                   rfl
                  refine zn (i := 12) (N := some 69) (v := ?_) (a' := ?_) #[true, true, true, true, true, true, true, true, true, true, true, true, true, false, false] rfl rfl (zg HT_.out (by kernel_rfl)) (fun _ _ _ h => h) (Or.inl ⟨by rfl, ?_⟩) ?_ ?_;rotate_left
                  ·intro w'
                   go_simp;with_reducible rfl
                  rotate_left
                  ·simp only [Act.put, Zs1, Zs2, Zs3, zh, zi]
                   rfl
                  refine zn (i := 13) (N := some 70) (v := ?_) (a' := ?_) #[true, true, true, true, true, true, true, true, true, true, true, true, true, true, false] rfl rfl (zg HT_.out (by kernel_rfl)) (fun _ _ _ h => h) (Or.inl ⟨by rfl, ?_⟩) ?_ ?_;rotate_left
                  ·intro w'
                   go_simp;with_reducible rfl
                  rotate_left
                  ·simp only [Act.put, Zs1, Zs2, Zs3, zh, zi]
                   rfl
                  refine last_ (i := 14) (N := none) #[true, true, true, true, true, true, true, true, true, true, true, true, true, true, true] rfl rfl (zb0 HT_.out (by kernel_rfl)) (by decide) (fun K hK => ?_);refine zi6 (w1 := ?_) (by rfl) rfl ?_ ?_;rotate_left
                  ·go_simp
                   rfl
                  refine hK.out _ _ ?_;clear hK K;refine zc5 (zb9 HT_.out (by kernel_rfl)) ?_
                  try go_wp2
                  (try simp only [← hl7_4]);go_roundg k4
                  case measure => have := HJ2.out; have := HK2.out; have := HK3.out; have := HK4.out; omega
                  case rel => exact ⟨(y334), (wrap64 (x10_4 + 1)), Zrs, H', ⟨by have := HJ2.out; have := HK2.out; have := HK3.out; have := HK4.out; omega⟩, ⟨by (try simp only [hl7_4]); (with_reducible repeat (first | apply Kd.zfy | apply Kd.zfz | apply Kd.zfg)); exact Kd.zhg (Kd.S_far (p := ⟨go29, ((rd t328 x10_4) : Int).toNat, none⟩) (Kd.zhg HO_5.out (fun k_ hk => (⟨hk, fun e_ => hk.1 (by rw [e_]; rfl)⟩ : _ ∧ k_ ≠ go29))) (fun _ hk => hk.2) (.int .i64 (wrap64 ((rd x7_4 (rd t328 x10_4)) + 1)))) (fun _ hk => ⟨hk.1.1, hk.1.2⟩)⟩, ⟨by (try simp only [hl7_4]); (with_reducible repeat (first | apply Kd.zcl | apply Kd.zcm | apply Kd.zci)); exact HQ32.out⟩, ⟨by (try simp only [hl7_4]); (with_reducible repeat (first | apply Kd.zcl | apply Kd.zcm | apply Kd.zci)); exact Kd.zbs (Kd.zf8 (p := ⟨go29, ((rd t328 x10_4) : Int).toNat, none⟩) (Kd.zbs HO_9.out (fun k_ hk => (⟨hk, fun e_ => hk (by rw [e_]; rfl)⟩ : _ ∧ k_ ≠ go29))) (fun _ hk => hk.2) (.int .i64 (wrap64 ((rd x7_4 (rd t328 x10_4)) + 1)))) (fun _ hk => hk.1)⟩, ⟨Zq3 HB GB29⟩⟩
                 ·rw [if_neg c28] at H
                  exact absurd H (by simp)
                ·rw [if_neg c27] at H
                 exact absurd H (by simp)
               ·rw [if_neg c26] at H
                exact absurd H (by simp)
              ·rw [if_neg c25] at H
               have c25b0 : decide (x10_4 < (t328.length : Int)) = false := decide_eq_false c25;clear c25;by_cases c33 : x5_3.length < 5864062014805
               ·rw [if_pos c33] at H
                have LMc33 := za.mk c33;clear c33;obtain ⟨y335, hy335⟩ : ∃ y_ : List (List Int), y_ = (x5_3 ++ [t328]) := ⟨_, rfl⟩;replace H : (zo.l1 k4 l0 a1 y335 x7_4 (wrap64 (x8_3 + 1))) = some r := by first | (rw [hy335]; with_reducible exact H) | (have H2_ := (Option.bind_some _ _).symm.trans H; rw [hy335]; with_reducible exact H2_) | (have H2_ := (Option.bind_some _ _).symm.trans H; with_reducible exact H2_) | with_reducible exact H | (rw [hy335]; exact H) | exact H
                have Ny335 := za.mk hy335;clear hy335;have H' := za.mk H;clear H;obtain ⟨Ao34, co34, eo34⟩ := Kd.zck HO_9.out;subst eo34;go_wp2_with (first | ((with_reducible refine zdc (b := .append) (xs := #[.tmp 71, .tmp 73]) rfl ?_); at_builtin; refine Kd.S_append (Kd.slice 3 (Kd.int .i64)) (w0 := w) w.heap.size rfl (.tmp 71) (.tmp 73) 26 33 (.slice none 0 0) 24 rfl Try.underlying26 info33 rfl (by decide) (by omega) u5 x5_3 t328 [.slice Ao34 t328.length co34] (fun k_ => some k_ ≠ (.slice Ao23 x7_4.length co23 : Value).ownBlock) (fun k_ => some k_ = (.slice Ao34 t328.length co34 : Value).ownBlock) rfl rfl ?aP (fun k_ hk_ => ((Kd.zbs (ok' := fun k_ => ((fun k_ => some k_ ≠ (.slice Ao23 x7_4.length co23 : Value).ownBlock)) k_ ∧ some k_ ≠ (u5 : Value).ownBlock) (Kd.R_apart' (HO_9.out) (Kd.zi8 HO_5.out) (by decide)) (fun k_ hk => ⟨hk.1, hk.2⟩))).1 k_ hk_.symm) ?aF ?aO ?aB ?aS ?aL ?_; (case aP => exact Kd.M_row (Kd.zbs (Kd.R_tight rfl (Kd.zbs (ok' := fun k_ => ((fun k_ => some k_ ≠ (.slice Ao23 x7_4.length co23 : Value).ownBlock)) k_ ∧ some k_ ≠ (u5 : Value).ownBlock) (Kd.R_apart' (HO_9.out) (Kd.zi8 HO_5.out) (by decide)) (fun k_ hk => ⟨hk.1, hk.2⟩))) (fun _ h_ => h_))); (case aB => exact (Zq1 HB)); (case aF => exact (fun k_ hk => Kd.fresh' (Kd.R_lt (Zq12 HO_7)) k_ hk)); (case aO => exact (by (with_reducible repeat (first | apply Kd.zfy | apply Kd.zfz | apply Kd.zfg)); exact Kd.zhg HO_5.out (fun k_ hk => ⟨hk.1, fun e_ => hk.2 e_⟩))); (case aS => exact (zu (Zq1 HB))); (case aL => have := LMc33.out; omega); intro v336 w35 ho hb hg hat; rw [← Ny335.out] at ho; have n0_ := za.mk (Kd.ze9 (Zq12 HO_7) (Kd.zi8 (Zq20 HO_5)) (by decide) hg); have n1_ := za.mk (hb); have n2_ := za.mk (ho); clear HO_7; clear HB; clear HO_5; clear HO_9; have HO_7 := n0_; have HB := n1_; have HO337 := n2_; clear n0_ n1_ n2_; clear ho hb hg hat));(try simp only [← hl7_4]);go_roundg k4
                case measure => have := HJ2.out; have := HK2.out; have := HK3.out; have := HK4.out; omega
                case rel => exact ⟨(y335), (x7_4), (wrap64 (x8_3 + 1)), Zrs, H', ⟨by have := HJ2.out; have := HK2.out; have := HK3.out; have := HK4.out; omega⟩, ⟨by (try simp only [hl7_4]); (with_reducible repeat (first | apply Kd.zfy | apply Kd.zfz | apply Kd.zfg)); exact HO337.out⟩, ⟨by (try simp only [hl7_4]); (with_reducible repeat (first | apply Kd.zcl | apply Kd.zcm | apply Kd.zci)); exact Kd.zbs HO_7.out (fun _ hk => trivial)⟩, ⟨Zq1 HB⟩⟩
               ·rw [if_neg c33] at H
                exact absurd H (by simp)
           ·rw [if_neg c21] at H
            have c21b0 : decide (x8_3 < 120) = false := decide_eq_false c21;clear c21;obtain rfl := Option.some.inj H;go_wp2;go_ret;exact ⟨_, by first | rfl | (simp [zq, zt] <;> rfl) | (simp [*, zq, zt] <;> rfl), by (with_reducible repeat (first | apply Kd.zfy | apply Kd.zfz | apply Kd.zfg)); exact Kd.zhg HO_5.out (fun _ hk => trivial), Zq1 HB⟩
        ·rw [if_neg c18] at H
         exact absurd H (by simp)
       ·rw [if_neg c17] at H
        exact absurd H (by simp)
def zcx.f  : Option (Bool) := (zcq.f 1 1 1).bind fun t353 => (some t353)
set_option maxHeartbeats 8000000 in
theorem zcx.calls  (r : Bool) (w : World) (h : zcx.f  = some r) :
  Calls Try.prog 14 #[] w fun e w' => e = .returned (.bool r) ∧ Below w.heap.size w w' := by
 have hu35 := Try.underlying35
 have HB := za.mk (Below.refl w.heap.size w)
 have H : ((zcq.f 1 1 1).bind fun t353 => (some t353)) = some r := h
 clear h
 replace H := Option.bind_eq_some_iff.mp H
 obtain ⟨t353, A10, H⟩ := H
 replace H : (some t353) = some r := H
 have A1 := za.mk A10
 clear A10
 obtain rfl := Option.some.inj H
 go_enter Try.func14, Try.ntmps14
 go_wp2_with (first | ((with_reducible refine zbd (f := 43) rfl ?_); refine zb6 (some 2) rfl rfl Try.func43 (by kernel_rfl) rfl #[.agg #[.int .i64 1, .int .i64 1, .int .i64 1]] rfl Zmt ?_; (with_reducible refine (zcq.calls 1 1 1 t353 _ A1.out).mono ?_); rintro e w2 ⟨rfl, hb⟩; refine ⟨_, rfl, ?_⟩; have n0_ := za.mk (zl (Zq1 HB) hb); clear HB; have HB := n0_; clear n0_; (try clear hb); (try clear hb2); (try clear hk); (try clear hi)))
 go_ret
 exact ⟨by first | rfl | (simp [zq, zt] <;> rfl) | (simp [*, zq, zt] <;> rfl), Zq1 HB⟩
def zb8.l0 : Nat → List Int → Int → Int → Option (Bool)
 | 0, _, _, _ => none
 | k + 1, x0, x1, x5 => if x5 < (x0.length : Int) then (if 0 ≤ x5 then (if (rd x0 x5) = x1 then (some true) else (zb8.l0 k x0 x1 (wrap64 (x5 + 1)))) else (none)) else (some false)
def zb8.f (k : Nat) (l0 : List Int) (a1 : Int) : Option (Bool) := zb8.l0 k l0 a1 0
set_option maxHeartbeats 8000000 in
theorem zb8.calls (k : Nat) (A0 : Option Addr) (c0 : Nat) (l0 : List Int) (a1 : Int) (r : Bool) (w : World) (hr0 : Kd.C (Kd.int .i64) w A0 l0.length l0) (hc0 : l0.length ≤ c0) (h : zb8.f k l0 a1 = some r) :
  Calls Try.prog 17 #[.slice A0 l0.length c0, .int .i64 a1] w fun e w' => e = .returned (.bool r) ∧ zbx w w' := by
 have HR0 := za.mk hr0
 have HC0 := za.mk hc0
 clear hr0 hc0
 have H : (zb8.l0 k l0 a1 0) = some r := h
 clear h
 have H' := za.mk H
 clear H
 go_enter Try.func17, Try.ntmps17
 go_wp2
 go_loopg [5] k (fun kq v5 w' => ∃ (x5_1 : Int), v5 = .int .i64 x5_1 ∧ za (zb8.l0 kq l0 a1 x5_1 = some r) ∧ za (kq ≤ k) ∧ zbx w w')
 case atStart => exact ⟨(0), Zrs, H', ⟨Nat.le_refl _⟩, by repeat (first | exact zbx.refl _ | apply zbx.step)⟩
 case round =>
  clear H'
  (try clear c1);(try clear p2)
  obtain ⟨x5_1, rfl, HA, HK1, ⟨m1, rfl⟩⟩ := hrel
  cases gk with
  | zero => exact absurd HA.out (by simp [zb8.l0])
  | succ k1 =>
   have H := HA.out;clear HA;simp only [zb8.l0] at H;by_cases c3 : x5_1 < (l0.length : Int)
   ·rw [if_pos c3] at H
    have c3b0 : decide (x5_1 < (l0.length : Int)) = true := decide_eq_true c3;clear c3;by_cases c4 : 0 ≤ x5_1
    ·rw [if_pos c4] at H
     have c4b0 : decide (0 ≤ x5_1) = true := decide_eq_true c4;clear c4;by_cases c5 : (rd l0 x5_1) = a1
     ·rw [if_pos c5] at H
      have c5b0 : ((rd l0 x5_1) == a1) = true := beq_iff_eq.mpr c5;have c5b1 : ((rd l0 x5_1) != a1) = false := bne_eq_false_iff_eq.mpr c5;clear c5;obtain rfl := Option.some.inj H;have p383 : 0 ≤ (x5_1 : Int) := of_decide_eq_true Zas;have q383 : x5_1 < (l0.length : Int) := of_decide_eq_true Zas;obtain ⟨ad383, e383, hx383_0⟩ := Kd.zb5 HR0.out x5_1 p383 q383
      cases e383
      replace p383 := eq_true p383;replace q383 := eq_true q383;go_wp2;go_ret;exact ⟨by first | rfl | (simp; done) | (simp [*]; done), by repeat (first | exact zbx.refl _ | apply zbx.step)⟩
     ·rw [if_neg c5] at H
      have c5b0 : ((rd l0 x5_1) == a1) = false := beq_eq_false_iff_ne.mpr c5;have c5b1 : ((rd l0 x5_1) != a1) = true := bne_iff_ne.mpr c5;have H' := za.mk H;clear H;have p383 : 0 ≤ (x5_1 : Int) := of_decide_eq_true Zas;have q383 : x5_1 < (l0.length : Int) := of_decide_eq_true Zas;obtain ⟨ad383, e383, hx383_0⟩ := Kd.zb5 HR0.out x5_1 p383 q383
      cases e383
      replace p383 := eq_true p383;replace q383 := eq_true q383;go_wp2;go_roundg k1
      case measure => have := HK1.out; omega
      case rel => exact ⟨(wrap64 (x5_1 + 1)), Zrs, H', ⟨by have := HK1.out; omega⟩, by repeat (first | exact zbx.refl _ | apply zbx.step)⟩
    ·rw [if_neg c4] at H
     exact absurd H (by simp)
   ·rw [if_neg c3] at H
    have c3b0 : decide (x5_1 < (l0.length : Int)) = false := decide_eq_false c3;clear c3;obtain rfl := Option.some.inj H;go_wp2;go_ret;exact ⟨by first | rfl | (simp; done) | (simp [*]; done), by repeat (first | exact zbx.refl _ | apply zbx.step)⟩
theorem Zq21 {X0 P : Prop} (x0 : za X0) (h : X0 → P := by intro x0; (with_reducible repeat (first | apply Kd.zd7 | apply Kd.zd0 | apply Kd.zem)); exact x0) : P := h x0.out
mutual
def laws_FnFairRows.l0 : Nat → List (S35) → Int → List (List Int) → List Int → Int → Option (Bool)
 | 0, _, _, _, _, _ => none
 | k + 1, x3, x4, x5, x6, x7 => if x7 < 120 then (if 0 ≤ x7 then (if x7 < (x5.length : Int) then (if ((zbj x5 x7).length : Int) > x4 then (some false) else (laws_FnFairRows.l1 k x3 x4 x5 x6 x7 0)) else (none)) else (none)) else (some true)
def laws_FnFairRows.l1 : Nat → List (S35) → Int → List (List Int) → List Int → Int → Int → Option (Bool)
 | 0, _, _, _, _, _, _ => none
 | k + 1, x3, x4, x5, x6, x7, x8 => if 0 ≤ x7 then (if x7 < (x5.length : Int) then (if x8 < ((zbj x5 x7).length : Int) then (if 0 ≤ x8 then (if (rd (zbj x5 x7) x8) < 0 then (laws_FnFairRows.j2 k x3 x4 x5 x6 x7 x8 (rd (zbj x5 x7) x8) true) else (if (rd (zbj x5 x7) x8) ≥ (x3.length : Int) then (laws_FnFairRows.j2 k x3 x4 x5 x6 x7 x8 (rd (zbj x5 x7) x8) true) else (if x8 ≤ ((zbj x5 x7).length : Int) then ((zb8.f k ((zbj x5 x7).take (x8 : Int).toNat) (rd (zbj x5 x7) x8)).bind fun t484 => (laws_FnFairRows.j2 k x3 x4 x5 x6 x7 x8 (rd (zbj x5 x7) x8) t484)) else (none)))) else (none)) else (laws_FnFairRows.l0 k x3 x4 x5 x6 (wrap64 (x7 + 1)))) else (none)) else (none)
def laws_FnFairRows.j2 : Nat → List (S35) → Int → List (List Int) → List Int → Int → Int → Int → Bool → Option (Bool)
 | 0, _, _, _, _, _, _, _, _ => none
 | k + 1, x3, x4, x5, x6, x7, x8, x9, x83 => if x83 = true then (some false) else (if 0 ≤ x9 then (if x9 < (x6.length : Int) then ((some (x6.set (x9 : Int).toNat (wrap64 ((rd x6 x9) + 1)) : List Int)).bind fun y486 => (if x9 < (x3.length : Int) then (if (wrap64 ((wrap64 ((rd y486 x9) * ((zf x3 x9).f2))) - (wrap64 ((wrap64 (x7 + 1)) * ((zf x3 x9).f0))))) ≥ ((zf x3 x9).f2) then (some false) else (laws_FnFairRows.l1 k x3 x4 x5 y486 x7 (wrap64 (x8 + 1)))) else (none))) else (none)) else (none))
end
def laws_FnFairRows.f (k : Nat) (l0 : List Int) : Option (Bool) := if (l0.length : Int) > 1048576 then (some true) else ((zby.f k l0).bind fun bt460 => ((zbp.f k bt460.1 bt460.2).bind fun t464 => ((zo.f k bt460.1 bt460.2).bind fun t467 => ((zbq.f k t464 t467).bind fun t470 => (if t470 = true then (if (t464.length : Int) = 120 then (if 0 ≤ (bt460.1.length : Int) then (if ((bt460.1.length : Int) : Int).toNat ≤ 35184372088832 then (laws_FnFairRows.l0 k bt460.1 bt460.2 t464 (List.replicate ((bt460.1.length : Int) : Int).toNat 0) 0) else (none)) else (none)) else (if (t464.length : Int) = 0 then ((zcx.f).bind fun t471 => (some t471)) else (some false))) else (some false))))))
set_option maxHeartbeats 8000000 in
theorem laws_FnFairRows.calls (k : Nat) (A0 : Option Addr) (c0 : Nat) (l0 : List Int) (r : Bool) (w : World) (hr0 : Kd.C (Kd.int .u8) w A0 l0.length l0) (hc0 : l0.length ≤ c0) (h : laws_FnFairRows.f k l0 = some r) :
  Calls Try.prog 6 #[.slice A0 l0.length c0] w fun e w' => e = .returned (.bool r) ∧ Below w.heap.size w w' := by
 have HR0 := za.mk hr0
 have HC0 := za.mk hc0
 clear hr0 hc0
 have HB := za.mk (Below.refl w.heap.size w)
 have H : (if (l0.length : Int) > 1048576 then (some true) else ((zby.f k l0).bind fun bt460 => ((zbp.f k bt460.1 bt460.2).bind fun t464 => ((zo.f k bt460.1 bt460.2).bind fun t467 => ((zbq.f k t464 t467).bind fun t470 => (if t470 = true then (if (t464.length : Int) = 120 then (if 0 ≤ (bt460.1.length : Int) then (if ((bt460.1.length : Int) : Int).toNat ≤ 35184372088832 then (laws_FnFairRows.l0 k bt460.1 bt460.2 t464 (List.replicate ((bt460.1.length : Int) : Int).toNat 0) 0) else (none)) else (none)) else (if (t464.length : Int) = 0 then ((zcx.f).bind fun t471 => (some t471)) else (some false))) else (some false))))))) = some r := h
 clear h
 by_cases c2 : (l0.length : Int) > 1048576
 ·rw [if_pos c2] at H
  have c2b0 : decide (1048576 < (l0.length : Int)) = true := decide_eq_true c2;have c2b1 : decide (1048576 < l0.length) = true := decide_eq_true (by omega);clear c2;obtain rfl := Option.some.inj H;go_enter Try.func6, Try.ntmps6;go_wp2
  repeat (go_quiet (fail); try go_wp2)
  go_ret;exact ⟨by first | rfl | (simp [zq, zt] <;> rfl) | (simp [*, zq, zt] <;> rfl), Zq1 HB⟩
 ·rw [if_neg c2] at H
  have c2b0 : decide (1048576 < (l0.length : Int)) = false := decide_eq_false c2;have c2b1 : decide (1048576 < l0.length) = false := decide_eq_false (by omega);clear c2;replace H := Option.bind_eq_some_iff.mp H;obtain ⟨⟨t460, t461⟩, A30, H⟩ := H;replace H : ((zbp.f k t460 t461).bind fun t464 => ((zo.f k t460 t461).bind fun t467 => ((zbq.f k t464 t467).bind fun t470 => (if t470 = true then (if (t464.length : Int) = 120 then (if 0 ≤ (t460.length : Int) then (if ((t460.length : Int) : Int).toNat ≤ 35184372088832 then (laws_FnFairRows.l0 k t460 t461 t464 (List.replicate ((t460.length : Int) : Int).toNat 0) 0) else (none)) else (none)) else (if (t464.length : Int) = 0 then ((zcx.f).bind fun t471 => (some t471)) else (some false))) else (some false))))) = some r := H;have A3 := za.mk A30;clear A30;replace H := Option.bind_eq_some_iff.mp H;obtain ⟨t464, A40, H⟩ := H;replace H : ((zo.f k t460 t461).bind fun t467 => ((zbq.f k t464 t467).bind fun t470 => (if t470 = true then (if (t464.length : Int) = 120 then (if 0 ≤ (t460.length : Int) then (if ((t460.length : Int) : Int).toNat ≤ 35184372088832 then (laws_FnFairRows.l0 k t460 t461 t464 (List.replicate ((t460.length : Int) : Int).toNat 0) 0) else (none)) else (none)) else (if (t464.length : Int) = 0 then ((zcx.f).bind fun t471 => (some t471)) else (some false))) else (some false)))) = some r := H;have A4 := za.mk A40;clear A40;replace H := Option.bind_eq_some_iff.mp H;obtain ⟨t467, A50, H⟩ := H;replace H : ((zbq.f k t464 t467).bind fun t470 => (if t470 = true then (if (t464.length : Int) = 120 then (if 0 ≤ (t460.length : Int) then (if ((t460.length : Int) : Int).toNat ≤ 35184372088832 then (laws_FnFairRows.l0 k t460 t461 t464 (List.replicate ((t460.length : Int) : Int).toNat 0) 0) else (none)) else (none)) else (if (t464.length : Int) = 0 then ((zcx.f).bind fun t471 => (some t471)) else (some false))) else (some false))) = some r := H;have A5 := za.mk A50;clear A50;replace H := Option.bind_eq_some_iff.mp H;obtain ⟨t470, A60, H⟩ := H;replace H : (if t470 = true then (if (t464.length : Int) = 120 then (if 0 ≤ (t460.length : Int) then (if ((t460.length : Int) : Int).toNat ≤ 35184372088832 then (laws_FnFairRows.l0 k t460 t461 t464 (List.replicate ((t460.length : Int) : Int).toNat 0) 0) else (none)) else (none)) else (if (t464.length : Int) = 0 then ((zcx.f).bind fun t471 => (some t471)) else (some false))) else (some false)) = some r := H;have A6 := za.mk A60;clear A60;by_cases c7 : t470 = true
  ·subst c7
   have H1 : (if (t464.length : Int) = 120 then (if 0 ≤ (t460.length : Int) then (if ((t460.length : Int) : Int).toNat ≤ 35184372088832 then (laws_FnFairRows.l0 k t460 t461 t464 (List.replicate ((t460.length : Int) : Int).toNat 0) 0) else (none)) else (none)) else (if (t464.length : Int) = 0 then ((zcx.f).bind fun t471 => (some t471)) else (some false))) = some r := by rw [if_pos rfl] at H; exact H
   clear H;have H := H1;clear H1;by_cases c8 : (t464.length : Int) = 120
   ·rw [if_pos c8] at H
    have c8b0 : ((t464.length : Int) == 120) = true := beq_iff_eq.mpr c8;have c8b1 : ((t464.length : Int) != 120) = false := bne_eq_false_iff_eq.mpr c8;clear c8;by_cases c9 : 0 ≤ (t460.length : Int)
    ·rw [if_pos c9] at H
     have c9b0 := eq_true c9;have c9b1 : decide (0 ≤ (t460.length : Int)) = true := decide_eq_true c9;clear c9;by_cases c10 : ((t460.length : Int) : Int).toNat ≤ 35184372088832
     ·rw [if_pos c10] at H
      have c10b0 := eq_true c10;have c10b1 : decide (((t460.length : Int) : Int).toNat ≤ 35184372088832) = true := decide_eq_true c10;clear c10;obtain ⟨y472, hy472⟩ : ∃ y_ : List Int, y_ = (List.replicate ((t460.length : Int) : Int).toNat 0) := ⟨_, rfl⟩;replace H : (laws_FnFairRows.l0 k t460 t461 t464 y472 0) = some r := by first | (rw [hy472]; with_reducible exact H) | (have H2_ := (Option.bind_some _ _).symm.trans H; rw [hy472]; with_reducible exact H2_) | (have H2_ := (Option.bind_some _ _).symm.trans H; with_reducible exact H2_) | with_reducible exact H | (rw [hy472]; exact H) | exact H
      have Ny472 := za.mk hy472;clear hy472;have H' := za.mk H;clear H;go_enter Try.func6, Try.ntmps6;go_wp2_with (first | (go_at_call 9; (with_reducible refine (zby.calls k _ _ l0 t460 t461 _ ?side1 ?side2 A3.out).mono ?_); (case side1 => exact Zq17 HR0); (case side2 => exact HC0.out); rintro e w11 ⟨v462, rfl, ho0, hb⟩; have n0_ := za.mk (Kd.zcj ho0 (zu (Zq1 HB))); have n1_ := za.mk (zl (Zq1 HB) hb); clear HB; have HO463 := n0_; have HB := n1_; clear n0_ n1_; (try clear hb); (try clear hb2); (try clear hk); (try clear hi); (try clear ho0); obtain ⟨Ao12, co12, eo12⟩ := Kd.zck HO463.out; subst eo12) | (go_at_call 10; (with_reducible refine (zbp.calls k _ _ t460 t461 t464 _ ?side1 ?side2 A4.out).mono ?_); (case side1 => exact Zq18 ((Kd.zz HO463.out).2.2)); (case side2 => exact (Kd.zz HO463.out).2.1); rintro e w13 ⟨v465, rfl, ho0, hb⟩; have n0_ := za.mk (Kd.zb7 (Zq12 HO463) hb); have n1_ := za.mk (Kd.zcp ho0 (zu (Zq1 HB))); have n2_ := za.mk (zl (Zq1 HB) hb); clear HO463; clear HB; have HO463 := n0_; have HO466 := n1_; have HB := n2_; clear n0_ n1_ n2_; (try clear hb); (try clear hb2); (try clear hk); (try clear hi); (try clear ho0)) | (go_at_call 12; (with_reducible refine (zo.calls k _ _ t460 t461 t467 _ ?side1 ?side2 A5.out).mono ?_); (case side1 => exact Zq18 ((Kd.zz HO463.out).2.2)); (case side2 => exact (Kd.zz HO463.out).2.1); rintro e w14 ⟨v468, rfl, ho0, hb⟩; replace ho0 := Kd.zd6 ho0; have n0_ := za.mk (Kd.zb7 (Zq12 HO463) hb); have n1_ := za.mk (Kd.zcu (Zq21 HO466) (Kd.zd5 ho0) hb); have n2_ := za.mk (Kd.zcp (Kd.zd4 ho0 (Kd.zf9 (Zq21 HO466))) (zu (Zq1 HB))); have n3_ := za.mk (zl (Zq1 HB) hb); clear HO463; clear HO466; clear HB; have HO463 := n0_; have HO466 := n1_; have HO469 := n2_; have HB := n3_; clear n0_ n1_ n2_ n3_; (try clear hb); (try clear hb2); (try clear hk); (try clear hi); (try clear ho0); obtain ⟨Ao15, co15, eo15⟩ := Kd.zcr HO466.out; subst eo15; obtain ⟨Ao16, co16, eo16⟩ := Kd.zcr HO469.out; subst eo16) | (go_at_call 11; (with_reducible refine (zbq.calls k _ _ t464 _ _ t467 true _ ?side1 ?side2 ?side3 ?side4 A6.out).mono ?_); (case side1 => exact Zq18 ((Kd.zbo HO466.out).2.2)); (case side2 => exact (Kd.zbo HO466.out).2.1); (case side3 => exact Zq18 ((Kd.zbo HO469.out).2.2)); (case side4 => exact (Kd.zbo HO469.out).2.1); rintro e w' ⟨rfl, ⟨nd, rfl⟩⟩; (try first | exact ⟨rfl, _, World.drewN_drewN _ _ _⟩ | exact ⟨rfl, _, Eq.trans (World.drewN_drewN _ _ _) (congrArg (World.drewN _) (Nat.add_assoc _ _ _))⟩)) | ((with_reducible refine zb4 (N := 38) rfl ?_); (try (refine zf0 (by rfl) ?_; dsimp only)); refine Kd.zhc (Kd.int .i64) _ 3 rfl (N := 38) rfl 33 _ _ rfl (t460.length : Int) rfl rfl Try.underlying33 (.int .i64 0) 8 info3 rfl (by decide) (by omega) 0 (ok := fun _ => True) (okp := fun _ => True) rfl (fun _ hk => hk) trivial (of_decide_eq_true Zas) (Nat.le_trans (Nat.mul_le_mul_right _ (of_decide_eq_true Zas : (t460.length : Int).toNat ≤ 35184372088832)) (by omega)) (Below.refl _ _) (Nat.le_refl _) ?_; intro v473 w17 ho18 hb hg_ hnew_; clear hg_ hnew_; (first | rw [← Ny472.out] at ho18 | (simp only [Int.reduceToNat] at ho18; rw [← Ny472.out] at ho18)); have n0_ := za.mk (Kd.zb7 (Zq12 HO463) hb); have n1_ := za.mk (Kd.zcu (Zq21 HO466) (Kd.zcy ho18) hb); have n2_ := za.mk (Kd.zcu (Zq21 HO469) (Kd.zcy ho18) hb); have n3_ := za.mk (Kd.zcj ho18 (zu (Zq1 HB))); have n4_ := za.mk (zl (Zq1 HB) hb); clear HO463; clear HO466; clear HO469; clear HB; have HO463 := n0_; have HO466 := n1_; have HO469 := n2_; have HO474 := n3_; have HB := n4_; clear n0_ n1_ n2_ n3_ n4_; clear hb ho18))
      repeat (go_quiet (first | (go_at_call 9; (with_reducible refine (zby.calls k _ _ l0 t460 t461 _ ?side1 ?side2 A3.out).mono ?_); (case side1 => exact Zq17 HR0); (case side2 => exact HC0.out); rintro e w11 ⟨v462, rfl, ho0, hb⟩; have n0_ := za.mk (Kd.zcj ho0 (zu (Zq1 HB))); have n1_ := za.mk (zl (Zq1 HB) hb); clear HB; have HO463 := n0_; have HB := n1_; clear n0_ n1_; (try clear hb); (try clear hb2); (try clear hk); (try clear hi); (try clear ho0); obtain ⟨Ao12, co12, eo12⟩ := Kd.zck HO463.out; subst eo12) | (go_at_call 10; (with_reducible refine (zbp.calls k _ _ t460 t461 t464 _ ?side1 ?side2 A4.out).mono ?_); (case side1 => exact Zq18 ((Kd.zz HO463.out).2.2)); (case side2 => exact (Kd.zz HO463.out).2.1); rintro e w13 ⟨v465, rfl, ho0, hb⟩; have n0_ := za.mk (Kd.zb7 (Zq12 HO463) hb); have n1_ := za.mk (Kd.zcp ho0 (zu (Zq1 HB))); have n2_ := za.mk (zl (Zq1 HB) hb); clear HO463; clear HB; have HO463 := n0_; have HO466 := n1_; have HB := n2_; clear n0_ n1_ n2_; (try clear hb); (try clear hb2); (try clear hk); (try clear hi); (try clear ho0)) | (go_at_call 12; (with_reducible refine (zo.calls k _ _ t460 t461 t467 _ ?side1 ?side2 A5.out).mono ?_); (case side1 => exact Zq18 ((Kd.zz HO463.out).2.2)); (case side2 => exact (Kd.zz HO463.out).2.1); rintro e w14 ⟨v468, rfl, ho0, hb⟩; replace ho0 := Kd.zd6 ho0; have n0_ := za.mk (Kd.zb7 (Zq12 HO463) hb); have n1_ := za.mk (Kd.zcu (Zq21 HO466) (Kd.zd5 ho0) hb); have n2_ := za.mk (Kd.zcp (Kd.zd4 ho0 (Kd.zf9 (Zq21 HO466))) (zu (Zq1 HB))); have n3_ := za.mk (zl (Zq1 HB) hb); clear HO463; clear HO466; clear HB; have HO463 := n0_; have HO466 := n1_; have HO469 := n2_; have HB := n3_; clear n0_ n1_ n2_ n3_; (try clear hb); (try clear hb2); (try clear hk); (try clear hi); (try clear ho0); obtain ⟨Ao15, co15, eo15⟩ := Kd.zcr HO466.out; subst eo15; obtain ⟨Ao16, co16, eo16⟩ := Kd.zcr HO469.out; subst eo16) | (go_at_call 11; (with_reducible refine (zbq.calls k _ _ t464 _ _ t467 true _ ?side1 ?side2 ?side3 ?side4 A6.out).mono ?_); (case side1 => exact Zq18 ((Kd.zbo HO466.out).2.2)); (case side2 => exact (Kd.zbo HO466.out).2.1); (case side3 => exact Zq18 ((Kd.zbo HO469.out).2.2)); (case side4 => exact (Kd.zbo HO469.out).2.1); rintro e w' ⟨rfl, ⟨nd, rfl⟩⟩; (try first | exact ⟨rfl, _, World.drewN_drewN _ _ _⟩ | exact ⟨rfl, _, Eq.trans (World.drewN_drewN _ _ _) (congrArg (World.drewN _) (Nat.add_assoc _ _ _))⟩)) | ((with_reducible refine zb4 (N := 38) rfl ?_); (try (refine zf0 (by rfl) ?_; dsimp only)); refine Kd.zhc (Kd.int .i64) _ 3 rfl (N := 38) rfl 33 _ _ rfl (t460.length : Int) rfl rfl Try.underlying33 (.int .i64 0) 8 info3 rfl (by decide) (by omega) 0 (ok := fun _ => True) (okp := fun _ => True) rfl (fun _ hk => hk) trivial (of_decide_eq_true Zas) (Nat.le_trans (Nat.mul_le_mul_right _ (of_decide_eq_true Zas : (t460.length : Int).toNat ≤ 35184372088832)) (by omega)) (Below.refl _ _) (Nat.le_refl _) ?_; intro v473 w17 ho18 hb hg_ hnew_; clear hg_ hnew_; (first | rw [← Ny472.out] at ho18 | (simp only [Int.reduceToNat] at ho18; rw [← Ny472.out] at ho18)); have n0_ := za.mk (Kd.zb7 (Zq12 HO463) hb); have n1_ := za.mk (Kd.zcu (Zq21 HO466) (Kd.zcy ho18) hb); have n2_ := za.mk (Kd.zcu (Zq21 HO469) (Kd.zcy ho18) hb); have n3_ := za.mk (Kd.zcj ho18 (zu (Zq1 HB))); have n4_ := za.mk (zl (Zq1 HB) hb); clear HO463; clear HO466; clear HO469; clear HB; have HO463 := n0_; have HO466 := n1_; have HO469 := n2_; have HO474 := n3_; have HB := n4_; clear n0_ n1_ n2_ n3_ n4_; clear hb ho18)); try go_wp2_with (first | (go_at_call 9; (with_reducible refine (zby.calls k _ _ l0 t460 t461 _ ?side1 ?side2 A3.out).mono ?_); (case side1 => exact Zq17 HR0); (case side2 => exact HC0.out); rintro e w11 ⟨v462, rfl, ho0, hb⟩; have n0_ := za.mk (Kd.zcj ho0 (zu (Zq1 HB))); have n1_ := za.mk (zl (Zq1 HB) hb); clear HB; have HO463 := n0_; have HB := n1_; clear n0_ n1_; (try clear hb); (try clear hb2); (try clear hk); (try clear hi); (try clear ho0); obtain ⟨Ao12, co12, eo12⟩ := Kd.zck HO463.out; subst eo12) | (go_at_call 10; (with_reducible refine (zbp.calls k _ _ t460 t461 t464 _ ?side1 ?side2 A4.out).mono ?_); (case side1 => exact Zq18 ((Kd.zz HO463.out).2.2)); (case side2 => exact (Kd.zz HO463.out).2.1); rintro e w13 ⟨v465, rfl, ho0, hb⟩; have n0_ := za.mk (Kd.zb7 (Zq12 HO463) hb); have n1_ := za.mk (Kd.zcp ho0 (zu (Zq1 HB))); have n2_ := za.mk (zl (Zq1 HB) hb); clear HO463; clear HB; have HO463 := n0_; have HO466 := n1_; have HB := n2_; clear n0_ n1_ n2_; (try clear hb); (try clear hb2); (try clear hk); (try clear hi); (try clear ho0)) | (go_at_call 12; (with_reducible refine (zo.calls k _ _ t460 t461 t467 _ ?side1 ?side2 A5.out).mono ?_); (case side1 => exact Zq18 ((Kd.zz HO463.out).2.2)); (case side2 => exact (Kd.zz HO463.out).2.1); rintro e w14 ⟨v468, rfl, ho0, hb⟩; replace ho0 := Kd.zd6 ho0; have n0_ := za.mk (Kd.zb7 (Zq12 HO463) hb); have n1_ := za.mk (Kd.zcu (Zq21 HO466) (Kd.zd5 ho0) hb); have n2_ := za.mk (Kd.zcp (Kd.zd4 ho0 (Kd.zf9 (Zq21 HO466))) (zu (Zq1 HB))); have n3_ := za.mk (zl (Zq1 HB) hb); clear HO463; clear HO466; clear HB; have HO463 := n0_; have HO466 := n1_; have HO469 := n2_; have HB := n3_; clear n0_ n1_ n2_ n3_; (try clear hb); (try clear hb2); (try clear hk); (try clear hi); (try clear ho0); obtain ⟨Ao15, co15, eo15⟩ := Kd.zcr HO466.out; subst eo15; obtain ⟨Ao16, co16, eo16⟩ := Kd.zcr HO469.out; subst eo16) | (go_at_call 11; (with_reducible refine (zbq.calls k _ _ t464 _ _ t467 true _ ?side1 ?side2 ?side3 ?side4 A6.out).mono ?_); (case side1 => exact Zq18 ((Kd.zbo HO466.out).2.2)); (case side2 => exact (Kd.zbo HO466.out).2.1); (case side3 => exact Zq18 ((Kd.zbo HO469.out).2.2)); (case side4 => exact (Kd.zbo HO469.out).2.1); rintro e w' ⟨rfl, ⟨nd, rfl⟩⟩; (try first | exact ⟨rfl, _, World.drewN_drewN _ _ _⟩ | exact ⟨rfl, _, Eq.trans (World.drewN_drewN _ _ _) (congrArg (World.drewN _) (Nat.add_assoc _ _ _))⟩)) | ((with_reducible refine zb4 (N := 38) rfl ?_); (try (refine zf0 (by rfl) ?_; dsimp only)); refine Kd.zhc (Kd.int .i64) _ 3 rfl (N := 38) rfl 33 _ _ rfl (t460.length : Int) rfl rfl Try.underlying33 (.int .i64 0) 8 info3 rfl (by decide) (by omega) 0 (ok := fun _ => True) (okp := fun _ => True) rfl (fun _ hk => hk) trivial (of_decide_eq_true Zas) (Nat.le_trans (Nat.mul_le_mul_right _ (of_decide_eq_true Zas : (t460.length : Int).toNat ≤ 35184372088832)) (by omega)) (Below.refl _ _) (Nat.le_refl _) ?_; intro v473 w17 ho18 hb hg_ hnew_; clear hg_ hnew_; (first | rw [← Ny472.out] at ho18 | (simp only [Int.reduceToNat] at ho18; rw [← Ny472.out] at ho18)); have n0_ := za.mk (Kd.zb7 (Zq12 HO463) hb); have n1_ := za.mk (Kd.zcu (Zq21 HO466) (Kd.zcy ho18) hb); have n2_ := za.mk (Kd.zcu (Zq21 HO469) (Kd.zcy ho18) hb); have n3_ := za.mk (Kd.zcj ho18 (zu (Zq1 HB))); have n4_ := za.mk (zl (Zq1 HB) hb); clear HO463; clear HO466; clear HO469; clear HB; have HO463 := n0_; have HO466 := n1_; have HO469 := n2_; have HO474 := n3_; have HB := n4_; clear n0_ n1_ n2_ n3_ n4_; clear hb ho18)))
      go_loopg [7] k (fun kq v7 w' => ∃ (x6_1 : List Int) (x7_1 : Int), v7 = .int .i64 x7_1 ∧ za (laws_FnFairRows.l0 kq t460 t461 t464 x6_1 x7_1 = some r) ∧ za (kq ≤ k) ∧ za (Kd.R k35 35 w' w.heap.size (fun _ => True) (.slice Ao12 t460.length co12) t460) ∧ za (Kd.Qc (Kd.cut 3 (Kd.int .i64)) 33 w' w.heap.size (fun k_ => some k_ ≠ (v473 : Value).ownBlock) (.slice Ao15 t464.length co15) t464) ∧ za (Kd.R (Kd.int .i64) 3 w' w.heap.size (fun _ => True) v473 x6_1) ∧ za (Below w.heap.size w w'))
      case atStart => exact ⟨(y472), (0), Zrs, H', ⟨Nat.le_refl _⟩, ⟨Zq12 HO463⟩, ⟨by (with_reducible repeat (first | apply Kd.zd7 | apply Kd.zd0 | apply Kd.zem)); exact Kd.zeh HO466.out (fun _ hk => hk.2)⟩, ⟨Zq12 HO474⟩, ⟨Zq1 HB⟩⟩
      case round =>
       clear H'
       (try clear c1);(try clear c2);(try clear c2b0);(try clear c2b1);(try clear p2);(try clear c6);(try clear c7);(try clear c8);(try clear c8b0);(try clear c8b1);(try clear c9);(try clear c9b0);(try clear c9b1);(try clear c10);(try clear c10b0);(try clear c10b1)
       obtain ⟨x6_1, x7_1, rfl, HA, HK1, HO_3, HO_5, HO_6, HB⟩ := hrel
       cases gk with
       | zero => exact absurd HA.out (by simp [laws_FnFairRows.l0])
       | succ k1 =>
        have H := HA.out;clear HA;simp only [laws_FnFairRows.l0] at H;by_cases c19 : x7_1 < 120
        ·rw [if_pos c19] at H
         have c19b0 : decide (x7_1 < 120) = true := decide_eq_true c19;clear c19;by_cases c20 : 0 ≤ x7_1
         ·rw [if_pos c20] at H
          have c20b0 : decide (0 ≤ x7_1) = true := decide_eq_true c20;clear c20;by_cases c21 : x7_1 < (t464.length : Int)
          ·rw [if_pos c21] at H
           have c21b0 : decide (x7_1 < (t464.length : Int)) = true := decide_eq_true c21;clear c21;by_cases c22 : ((zbj t464 x7_1).length : Int) > t461
           ·rw [if_pos c22] at H
            have c22b0 : decide (t461 < ((zbj t464 x7_1).length : Int)) = true := decide_eq_true c22;clear c22;obtain rfl := Option.some.inj H;have p475 : 0 ≤ (x7_1 : Int) := of_decide_eq_true Zas;have q475 : x7_1 < (t464.length : Int) := of_decide_eq_true Zas;obtain ⟨ad475, A475_0, c475_0, e475, hx475_0, hl475_0, hi475_0⟩ := zg6 (Kd.zbo HO_5.out).2.2 x7_1 p475 q475
            cases e475
            obtain ⟨ce475, hce475, hMe475, hcc475⟩ := Kd.zhi HO_5.out [] x7_1 p475 (by first | exact q475 | exact of_decide_eq_true Zas | (have e_ := (Kd.zbo HO_5.out).1; omega));obtain ⟨ve475_0, rfl, ge475_0⟩ := hMe475;have hv475_0 := hcc475 0 _ rfl;rw [Nat.add_zero, show ((Kd.cut 3 (Kd.int .i64))).sz = 1 from rfl, Nat.mul_one] at hv475_0;replace hv475_0 := Option.some.inj (hv475_0.symm.trans hx475_0);rw [hv475_0] at ge475_0;have HL475_0 := za.mk (show Kd.Qc (Kd.int .i64) 3 _ _ _ _ (zbj t464 x7_1) from ge475_0);clear hv475_0 ge475_0;clear hcc475 hce475;have HR475_0 := za.mk hi475_0;have HC475_0 := za.mk hl475_0;clear hi475_0 hl475_0;replace p475 := eq_true p475;replace q475 := eq_true q475;go_wp2
            repeat (go_quiet (fail); try go_wp2)
            go_ret;exact ⟨by first | rfl | (simp [zq, zt] <;> rfl) | (simp [*, zq, zt] <;> rfl), Zq1 HB⟩
           ·rw [if_neg c22] at H
            have c22b0 : decide (t461 < ((zbj t464 x7_1).length : Int)) = false := decide_eq_false c22;clear c22;have H' := za.mk H;clear H;have p475 : 0 ≤ (x7_1 : Int) := of_decide_eq_true Zas;have q475 : x7_1 < (t464.length : Int) := of_decide_eq_true Zas;obtain ⟨ad475, A475_0, c475_0, e475, hx475_0, hl475_0, hi475_0⟩ := zg6 (Kd.zbo HO_5.out).2.2 x7_1 p475 q475
            cases e475
            obtain ⟨ce475, hce475, hMe475, hcc475⟩ := Kd.zhi HO_5.out [] x7_1 p475 (by first | exact q475 | exact of_decide_eq_true Zas | (have e_ := (Kd.zbo HO_5.out).1; omega));obtain ⟨ve475_0, rfl, ge475_0⟩ := hMe475;have hv475_0 := hcc475 0 _ rfl;rw [Nat.add_zero, show ((Kd.cut 3 (Kd.int .i64))).sz = 1 from rfl, Nat.mul_one] at hv475_0;replace hv475_0 := Option.some.inj (hv475_0.symm.trans hx475_0);rw [hv475_0] at ge475_0;have HL475_0 := za.mk (show Kd.Qc (Kd.int .i64) 3 _ _ _ _ (zbj t464 x7_1) from ge475_0);clear hv475_0 ge475_0;clear hcc475 hce475;have HR475_0 := za.mk hi475_0;have HC475_0 := za.mk hl475_0;clear hi475_0 hl475_0;replace p475 := eq_true p475;replace q475 := eq_true q475;go_wp2
            repeat (go_quiet (fail); try go_wp2)
            go_loopg [8] k1 (fun kq v8 w' => ∃ (x6_2 : List Int) (x8_2 : Int), v8 = .int .i64 x8_2 ∧ za (laws_FnFairRows.l1 kq t460 t461 t464 x6_2 x7_1 x8_2 = some r) ∧ za (kq ≤ k1) ∧ za (Kd.R k35 35 w' w.heap.size (fun _ => True) (.slice Ao12 t460.length co12) t460) ∧ za (Kd.Qc (Kd.cut 3 (Kd.int .i64)) 33 w' w.heap.size (fun k_ => some k_ ≠ (v473 : Value).ownBlock) (.slice (some ad475) t464.length co15) t464) ∧ za (Kd.R (Kd.int .i64) 3 w' w.heap.size (fun _ => True) v473 x6_2) ∧ za (Below w.heap.size w w'))
            case atStart => exact ⟨(x6_1), (0), Zrs, H', ⟨Nat.le_refl _⟩, ⟨Zq12 HO_3⟩, ⟨Zq21 HO_5⟩, ⟨Zq12 HO_6⟩, ⟨Zq1 HB⟩⟩
            case round =>
             clear H'
             (try clear c1);(try clear c2);(try clear c2b0);(try clear c2b1);(try clear p2);(try clear c4);(try clear p4);(try clear q4);(try clear hx4);(try clear c6);(try clear c7);(try clear c8);(try clear c8b0);(try clear c8b1);(try clear c9);(try clear c9b0);(try clear c9b1);(try clear c10);(try clear c10b0);(try clear c10b1);(try clear c19);(try clear c19b0);(try clear c20);(try clear c20b0);(try clear c21);(try clear c21b0);(try clear c22);(try clear c22b0);(try clear hx475_0);(try clear p2);(try clear p475);(try clear q475)
             obtain ⟨x6_2, x8_2, rfl, HA, HK2, HO_3, HO_5, HO_6, HB⟩ := hrel
             cases gk with
             | zero => exact absurd HA.out (by simp [laws_FnFairRows.l1])
             | succ k2 =>
              have H := HA.out;clear HA;simp only [laws_FnFairRows.l1] at H;by_cases c23 : 0 ≤ x7_1
              ·rw [if_pos c23] at H
               have c23b0 : decide (0 ≤ x7_1) = true := decide_eq_true c23;clear c23;by_cases c24 : x7_1 < (t464.length : Int)
               ·rw [if_pos c24] at H
                have c24b0 : decide (x7_1 < (t464.length : Int)) = true := decide_eq_true c24;clear c24;by_cases c25 : x8_2 < ((zbj t464 x7_1).length : Int)
                ·rw [if_pos c25] at H
                 have c25b0 : decide (x8_2 < ((zbj t464 x7_1).length : Int)) = true := decide_eq_true c25;clear c25;by_cases c26 : 0 ≤ x8_2
                 ·rw [if_pos c26] at H
                  have c26b0 : decide (0 ≤ x8_2) = true := decide_eq_true c26;clear c26;have HC27 := za.mk H;clear H;have p476 : 0 ≤ (x7_1 : Int) := of_decide_eq_true Zas;have q476 : x7_1 < (t464.length : Int) := of_decide_eq_true Zas;obtain ⟨ad476, A476_0, c476_0, e476, hx476_0, hl476_0, hi476_0⟩ := zg6 (Kd.zbo HO_5.out).2.2 x7_1 p476 q476;obtain rfl : ad475 = ad476 := (by injection e476);obtain ⟨ce476, hce476, hMe476, hcc476⟩ := Kd.zhi HO_5.out [] x7_1 p476 (by first | exact q476 | exact of_decide_eq_true Zas | (have e_ := (Kd.zbo HO_5.out).1; omega));obtain ⟨ve476_0, rfl, ge476_0⟩ := hMe476;have hv476_0 := hcc476 0 _ rfl;rw [Nat.add_zero, show ((Kd.cut 3 (Kd.int .i64))).sz = 1 from rfl, Nat.mul_one] at hv476_0;replace hv476_0 := Option.some.inj (hv476_0.symm.trans hx476_0);rw [hv476_0] at ge476_0;have HL476_0 := za.mk (show Kd.Qc (Kd.int .i64) 3 _ _ _ _ (zbj t464 x7_1) from ge476_0);clear hv476_0 ge476_0;clear hcc476 hce476;have HR476_0 := za.mk hi476_0;have HC476_0 := za.mk hl476_0;clear hi476_0 hl476_0;replace p476 := eq_true p476;replace q476 := eq_true q476;have p477 : 0 ≤ (x7_1 : Int) := of_decide_eq_true Zas;have q477 : x7_1 < (t464.length : Int) := of_decide_eq_true Zas;obtain ⟨ad477, A477_0, c477_0, e477, hx477_0, hl477_0, hi477_0⟩ := zg6 (Kd.zbo HO_5.out).2.2 x7_1 p477 q477;obtain rfl : ad475 = ad477 := (by injection e477);obtain ⟨ce477, hce477, hMe477, hcc477⟩ := Kd.zhi HO_5.out [] x7_1 p477 (by first | exact q477 | exact of_decide_eq_true Zas | (have e_ := (Kd.zbo HO_5.out).1; omega));obtain ⟨ve477_0, rfl, ge477_0⟩ := hMe477;have hv477_0 := hcc477 0 _ rfl;rw [Nat.add_zero, show ((Kd.cut 3 (Kd.int .i64))).sz = 1 from rfl, Nat.mul_one] at hv477_0;replace hv477_0 := Option.some.inj (hv477_0.symm.trans hx477_0);rw [hv477_0] at ge477_0;have HL477_0 := za.mk (show Kd.Qc (Kd.int .i64) 3 _ _ _ _ (zbj t464 x7_1) from ge477_0);clear hv477_0 ge477_0;clear hcc477 hce477;have HR477_0 := za.mk hi477_0;have HC477_0 := za.mk hl477_0;clear hi477_0 hl477_0;replace p477 := eq_true p477;replace q477 := eq_true q477;have ea_ := Option.some.inj (hx476_0.symm.trans hx477_0);injection ea_ with ea_ en_ ec_;subst ea_;subst ec_;clear en_;have p478 : 0 ≤ (x8_2 : Int) := of_decide_eq_true Zas;have q478 : x8_2 < ((zbj t464 x7_1).length : Int) := of_decide_eq_true Zas;obtain ⟨ad478, e478, hx478_0⟩ := Kd.zb5 (by repeat (first | (with_reducible exact HR477_0.out) | (with_reducible refine Kd.zc3 ?_ _) | (with_reducible refine Kd.zdb ?_ _) | (with_reducible refine Kd.zdt ?_) | exact HR477_0.out)) x8_2 p478 q478
                  cases e478
                  replace p478 := eq_true p478;replace q478 := eq_true q478
                  go_upto_region 19 with (fail)
                  repeat (go_quiet (fail); go_upto_region 19 with (fail))
                  go_cut [83] (fun v83 wc => ∃ (kq : Nat) (x83_26 : Bool), v83 = .bool x83_26 ∧ za (laws_FnFairRows.j2 kq t460 t461 t464 x6_2 x7_1 x8_2 (rd (zbj t464 x7_1) x8_2) x83_26 = some r) ∧ za (kq ≤ k2) ∧ za (Kd.R k35 35 wc w.heap.size (fun _ => True) (.slice Ao12 t460.length co12) t460) ∧ za (Kd.Qc (Kd.cut 3 (Kd.int .i64)) 33 wc w.heap.size (fun k_ => some k_ ≠ (v473 : Value).ownBlock) (.slice (some ad475) t464.length co15) t464) ∧ za (Kd.R (Kd.int .i64) 3 wc w.heap.size (fun _ => True) v473 x6_2) ∧ za (Kd.C (Kd.int .i64) wc (some ad478) (zbj t464 x7_1).length (zbj t464 x7_1)) ∧ za (Kd.C (Kd.int .i64) wc (some ad478) (zbj t464 x7_1).length (zbj t464 x7_1)) ∧ za (Below w.heap.size w wc))
                  case first =>
                   have H := HC27.out;clear HC27;by_cases c28 : (rd (zbj t464 x7_1) x8_2) < 0
                   ·rw [if_pos c28] at H
                    have c28b0 : decide ((rd (zbj t464 x7_1) x8_2) < 0) = true := decide_eq_true c28;clear c28;(first | rw [c28b0] | (simp only [zh, zi]; rw [c28b0]) | skip);have H' := za.mk H;clear H;go_wp2
                    repeat (go_quiet (fail); try go_wp2)
                    go_meet
                    case rel => exact ⟨_, (true), Zrs, H', ⟨by have := HK1.out; have := HK2.out; first | omega | exact Nat.le_refl _⟩, ⟨Zq12 HO_3⟩, ⟨Zq21 HO_5⟩, ⟨Zq12 HO_6⟩, ⟨by repeat (first | (with_reducible exact HR476_0.out) | (with_reducible refine Kd.zc3 ?_ _) | (with_reducible refine Kd.zdb ?_ _) | (with_reducible refine Kd.zdt ?_) | exact HR476_0.out)⟩, ⟨by repeat (first | (with_reducible exact HR477_0.out) | (with_reducible refine Kd.zc3 ?_ _) | (with_reducible refine Kd.zdb ?_ _) | (with_reducible refine Kd.zdt ?_) | exact HR477_0.out)⟩, ⟨Zq1 HB⟩⟩
                   ·rw [if_neg c28] at H
                    have c28b0 : decide ((rd (zbj t464 x7_1) x8_2) < 0) = false := decide_eq_false c28;clear c28;(first | rw [c28b0] | (simp only [zh, zi]; rw [c28b0]) | skip);by_cases c29 : (rd (zbj t464 x7_1) x8_2) ≥ (t460.length : Int)
                    ·rw [if_pos c29] at H
                     have c29b0 : decide ((t460.length : Int) ≤ (rd (zbj t464 x7_1) x8_2)) = true := decide_eq_true c29;clear c29;have H' := za.mk H;clear H;go_wp2
                     repeat (go_quiet (fail); try go_wp2)
                     go_meet
                     case rel => exact ⟨_, (true), Zrs, H', ⟨by have := HK1.out; have := HK2.out; first | omega | exact Nat.le_refl _⟩, ⟨Zq12 HO_3⟩, ⟨Zq21 HO_5⟩, ⟨Zq12 HO_6⟩, ⟨by repeat (first | (with_reducible exact HR476_0.out) | (with_reducible refine Kd.zc3 ?_ _) | (with_reducible refine Kd.zdb ?_ _) | (with_reducible refine Kd.zdt ?_) | exact HR476_0.out)⟩, ⟨by repeat (first | (with_reducible exact HR477_0.out) | (with_reducible refine Kd.zc3 ?_ _) | (with_reducible refine Kd.zdb ?_ _) | (with_reducible refine Kd.zdt ?_) | exact HR477_0.out)⟩, ⟨Zq1 HB⟩⟩
                    ·rw [if_neg c29] at H
                     have c29b0 : decide ((t460.length : Int) ≤ (rd (zbj t464 x7_1) x8_2)) = false := decide_eq_false c29;clear c29;have c30b0 := eq_true (of_decide_eq_true Zas : 0 ≤ x8_2);by_cases c31 : x8_2 ≤ ((zbj t464 x7_1).length : Int)
                     ·rw [if_pos c31] at H
                      have c31b0 := eq_true c31;have c31b1 : decide (x8_2 ≤ ((zbj t464 x7_1).length : Int)) = true := decide_eq_true c31;clear c31;obtain ⟨y480, hy480⟩ : ∃ y_ : List Int, y_ = ((zbj t464 x7_1).take (x8_2 : Int).toNat) := ⟨_, rfl⟩;replace H : ((zb8.f k2 y480 (rd (zbj t464 x7_1) x8_2)).bind fun t484 => (laws_FnFairRows.j2 k2 t460 t461 t464 x6_2 x7_1 x8_2 (rd (zbj t464 x7_1) x8_2) t484)) = some r := by first | (rw [hy480]; with_reducible exact H) | (have H2_ := (Option.bind_some _ _).symm.trans H; rw [hy480]; with_reducible exact H2_) | (have H2_ := (Option.bind_some _ _).symm.trans H; with_reducible exact H2_) | with_reducible exact H | (rw [hy480]; exact H) | exact H
                      have Ny480 := za.mk hy480;clear hy480;replace H := Option.bind_eq_some_iff.mp H;obtain ⟨t484, A320, H⟩ := H;replace H : (laws_FnFairRows.j2 k2 t460 t461 t464 x6_2 x7_1 x8_2 (rd (zbj t464 x7_1) x8_2) t484) = some r := H;have A32 := za.mk A320;clear A320;have H' := za.mk H;clear H;have p479 : 0 ≤ (x7_1 : Int) := of_decide_eq_true Zas;have q479 : x7_1 < (t464.length : Int) := of_decide_eq_true Zas;obtain ⟨ad479, A479_0, c479_0, e479, hx479_0, hl479_0, hi479_0⟩ := zg6 (Kd.zbo HO_5.out).2.2 x7_1 p479 q479;obtain rfl : ad475 = ad479 := (by injection e479);obtain ⟨ce479, hce479, hMe479, hcc479⟩ := Kd.zhi HO_5.out [] x7_1 p479 (by first | exact q479 | exact of_decide_eq_true Zas | (have e_ := (Kd.zbo HO_5.out).1; omega));obtain ⟨ve479_0, rfl, ge479_0⟩ := hMe479;have hv479_0 := hcc479 0 _ rfl;rw [Nat.add_zero, show ((Kd.cut 3 (Kd.int .i64))).sz = 1 from rfl, Nat.mul_one] at hv479_0;replace hv479_0 := Option.some.inj (hv479_0.symm.trans hx479_0);rw [hv479_0] at ge479_0;have HL479_0 := za.mk (show Kd.Qc (Kd.int .i64) 3 _ _ _ _ (zbj t464 x7_1) from ge479_0);clear hv479_0 ge479_0;clear hcc479 hce479;have HR479_0 := za.mk hi479_0;have HC479_0 := za.mk hl479_0;clear hi479_0 hl479_0;replace p479 := eq_true p479;replace q479 := eq_true q479;have ea_ := Option.some.inj (hx476_0.symm.trans hx479_0);injection ea_ with ea_ en_ ec_;subst ea_;subst ec_;clear en_;have q33 : (x8_2 : Int) ≤ (((zbj t464 x7_1).length : Int) : Int) := of_decide_eq_true Zas;obtain ⟨i033, hi033, _, hsz33, _⟩ := info_parts info3;have hroom33 : (zbj t464 x7_1).length ≤ c476_0 := HC479_0.out;have hC33 : Kd.C (Kd.int .i64) _ (some ad478) (zbj t464 x7_1).length (zbj t464 x7_1) := (by repeat (first | (with_reducible exact HR479_0.out) | (with_reducible refine Kd.zc3 ?_ _) | (with_reducible refine Kd.zdb ?_ _) | (with_reducible refine Kd.zdt ?_) | exact HR479_0.out));have hcut33 := cut_to (P := Try.prog) 33 3 .i64 Try.underlying33 hi033 (some ad478) (zbj t464 x7_1).length c476_0 x8_2 (of_decide_eq_true Zas) q33 hroom33;have hr33 := Kd.C_take (m := (x8_2 : Int).toNat) hC33 (by omega);have hy33 : y480.length = (x8_2 : Int).toNat := (by rw [Ny480.out, List.length_take]; omega);rw [← Ny480.out] at hr33;rw [← hy33] at hcut33;have HR483 := za.mk hr33;have HC483 := za.mk (show y480.length ≤ c476_0 from by omega);clear hr33 hC33 hroom33 hi033 hsz33;have KY33 := za.mk hy33;clear hy33;replace q33 := eq_true q33;go_wp2_with (first | (go_at_call 17; (with_reducible refine (zb8.calls k2 _ _ y480 (rd (zbj t464 x7_1) x8_2) t484 _ ?side1 ?side2 A32.out).mono ?_); (case side1 => repeat (first | exact (by repeat (first | (with_reducible exact HR483.out) | (with_reducible refine Kd.zc3 ?_ _) | (with_reducible refine Kd.zdb ?_ _) | (with_reducible refine Kd.zdt ?_) | exact HR483.out)) | (with_reducible refine Kd.zc3 ?_ _) | (with_reducible refine Kd.zdb ?_ _) | (with_reducible refine Kd.zdt ?_))); (case side2 => exact HC483.out); rintro e w' ⟨rfl, ⟨nd, rfl⟩⟩; (try first | exact ⟨rfl, _, World.drewN_drewN _ _ _⟩ | exact ⟨rfl, _, Eq.trans (World.drewN_drewN _ _ _) (congrArg (World.drewN _) (Nat.add_assoc _ _ _))⟩)))
                      repeat (go_quiet (first | (go_at_call 17; (with_reducible refine (zb8.calls k2 _ _ y480 (rd (zbj t464 x7_1) x8_2) t484 _ ?side1 ?side2 A32.out).mono ?_); (case side1 => repeat (first | exact (by repeat (first | (with_reducible exact HR483.out) | (with_reducible refine Kd.zc3 ?_ _) | (with_reducible refine Kd.zdb ?_ _) | (with_reducible refine Kd.zdt ?_) | exact HR483.out)) | (with_reducible refine Kd.zc3 ?_ _) | (with_reducible refine Kd.zdb ?_ _) | (with_reducible refine Kd.zdt ?_))); (case side2 => exact HC483.out); rintro e w' ⟨rfl, ⟨nd, rfl⟩⟩; (try first | exact ⟨rfl, _, World.drewN_drewN _ _ _⟩ | exact ⟨rfl, _, Eq.trans (World.drewN_drewN _ _ _) (congrArg (World.drewN _) (Nat.add_assoc _ _ _))⟩))); try go_wp2_with (first | (go_at_call 17; (with_reducible refine (zb8.calls k2 _ _ y480 (rd (zbj t464 x7_1) x8_2) t484 _ ?side1 ?side2 A32.out).mono ?_); (case side1 => repeat (first | exact (by repeat (first | (with_reducible exact HR483.out) | (with_reducible refine Kd.zc3 ?_ _) | (with_reducible refine Kd.zdb ?_ _) | (with_reducible refine Kd.zdt ?_) | exact HR483.out)) | (with_reducible refine Kd.zc3 ?_ _) | (with_reducible refine Kd.zdb ?_ _) | (with_reducible refine Kd.zdt ?_))); (case side2 => exact HC483.out); rintro e w' ⟨rfl, ⟨nd, rfl⟩⟩; (try first | exact ⟨rfl, _, World.drewN_drewN _ _ _⟩ | exact ⟨rfl, _, Eq.trans (World.drewN_drewN _ _ _) (congrArg (World.drewN _) (Nat.add_assoc _ _ _))⟩))))
                      go_meet
                      case rel => exact ⟨_, (t484), Zrs, H', ⟨by have := HK1.out; have := HK2.out; first | omega | exact Nat.le_refl _⟩, ⟨Zq12 HO_3⟩, ⟨Zq21 HO_5⟩, ⟨Zq12 HO_6⟩, ⟨by repeat (first | (with_reducible exact HR476_0.out) | (with_reducible refine Kd.zc3 ?_ _) | (with_reducible refine Kd.zdb ?_ _) | (with_reducible refine Kd.zdt ?_) | exact HR476_0.out)⟩, ⟨by repeat (first | (with_reducible exact HR477_0.out) | (with_reducible refine Kd.zc3 ?_ _) | (with_reducible refine Kd.zdb ?_ _) | (with_reducible refine Kd.zdt ?_) | exact HR477_0.out)⟩, ⟨Zq1 HB⟩⟩
                     ·rw [if_neg c31] at H
                      exact absurd H (by simp)
                  case rest =>
                   clear HC27
                   (try clear c1);(try clear c2);(try clear c2b0);(try clear c2b1);(try clear p2);(try clear c3);(try clear q3);(try clear c4);(try clear p4);(try clear q4);(try clear hx4);(try clear c6);(try clear c7);(try clear c8);(try clear c8b0);(try clear c8b1);(try clear c9);(try clear c9b0);(try clear c9b1);(try clear c10);(try clear c10b0);(try clear c10b1);(try clear c19);(try clear c19b0);(try clear c20);(try clear c20b0);(try clear c21);(try clear c21b0);(try clear c22);(try clear c22b0);(try clear c23);(try clear c23b0);(try clear c24);(try clear c24b0);(try clear c25);(try clear c25b0);(try clear c26);(try clear c26b0);(try clear c28);(try clear c28b0);(try clear c29);(try clear c29b0);(try clear c30);(try clear c30b0);(try clear c31);(try clear c31b0);(try clear c31b1);(try clear q33);(try clear hx475_0);(try clear hx476_0);(try clear hx477_0);(try clear hx478_0);(try clear hx479_0);(try clear p2);(try clear p4);(try clear p475);(try clear p476);(try clear p477);(try clear p478);(try clear p479);(try clear q33);(try clear q4);(try clear q475);(try clear q476);(try clear q477);(try clear q478);(try clear q479)
                   obtain ⟨kq, x83_26, rfl, HA, HJ26, HO_3, HO_5, HO_6, HR476_0, HR477_0, HB⟩ := hcut
                   cases kq with
                   | zero => exact absurd HA.out (by simp [laws_FnFairRows.j2])
                   | succ kj26 =>
                    have H := HA.out;clear HA;simp only [laws_FnFairRows.j2] at H;by_cases c34 : x83_26 = true
                    ·subst c34
                     have H1 : (some false) = some r := by rw [if_pos rfl] at H; exact H
                     clear H;have H := H1;clear H1;obtain rfl := Option.some.inj H;go_wp2
                     repeat (go_quiet (fail); try go_wp2)
                     go_ret;exact ⟨by first | rfl | (simp [zq, zt] <;> rfl) | (simp [*, zq, zt] <;> rfl), Zq1 HB⟩
                    ·replace c34 := Bool.eq_false_iff.mpr c34
                     subst c34;have H1 : (if 0 ≤ (rd (zbj t464 x7_1) x8_2) then (if (rd (zbj t464 x7_1) x8_2) < (x6_2.length : Int) then ((some (x6_2.set ((rd (zbj t464 x7_1) x8_2) : Int).toNat (wrap64 ((rd x6_2 (rd (zbj t464 x7_1) x8_2)) + 1)) : List Int)).bind fun y486 => (if (rd (zbj t464 x7_1) x8_2) < (t460.length : Int) then (if (wrap64 ((wrap64 ((rd y486 (rd (zbj t464 x7_1) x8_2)) * ((zf t460 (rd (zbj t464 x7_1) x8_2)).f2))) - (wrap64 ((wrap64 (x7_1 + 1)) * ((zf t460 (rd (zbj t464 x7_1) x8_2)).f0))))) ≥ ((zf t460 (rd (zbj t464 x7_1) x8_2)).f2) then (some false) else (laws_FnFairRows.l1 kj26 t460 t461 t464 y486 x7_1 (wrap64 (x8_2 + 1)))) else (none))) else (none)) else (none)) = some r := by rw [if_neg (show ¬ (false = true) by decide)] at H; exact H
                     clear H;have H := H1;clear H1;by_cases c35 : 0 ≤ (rd (zbj t464 x7_1) x8_2)
                     ·rw [if_pos c35] at H
                      have c35b0 : decide (0 ≤ (rd (zbj t464 x7_1) x8_2)) = true := decide_eq_true c35;clear c35;by_cases c36 : (rd (zbj t464 x7_1) x8_2) < (x6_2.length : Int)
                      ·rw [if_pos c36] at H
                       have c36b0 : decide ((rd (zbj t464 x7_1) x8_2) < (x6_2.length : Int)) = true := decide_eq_true c36;clear c36;obtain ⟨y486, hy486⟩ : ∃ y_ : List Int, y_ = (x6_2.set ((rd (zbj t464 x7_1) x8_2) : Int).toNat (wrap64 ((rd x6_2 (rd (zbj t464 x7_1) x8_2)) + 1))) := ⟨_, rfl⟩;replace H : (if (rd (zbj t464 x7_1) x8_2) < (t460.length : Int) then (if (wrap64 ((wrap64 ((rd y486 (rd (zbj t464 x7_1) x8_2)) * ((zf t460 (rd (zbj t464 x7_1) x8_2)).f2))) - (wrap64 ((wrap64 (x7_1 + 1)) * ((zf t460 (rd (zbj t464 x7_1) x8_2)).f0))))) ≥ ((zf t460 (rd (zbj t464 x7_1) x8_2)).f2) then (some false) else (laws_FnFairRows.l1 kj26 t460 t461 t464 y486 x7_1 (wrap64 (x8_2 + 1)))) else (none)) = some r := by first | (rw [hy486]; with_reducible exact H) | (have H2_ := (Option.bind_some _ _).symm.trans H; rw [hy486]; with_reducible exact H2_) | (have H2_ := (Option.bind_some _ _).symm.trans H; with_reducible exact H2_) | with_reducible exact H | (rw [hy486]; exact H) | exact H
                       have Ny486 := za.mk hy486;clear hy486;by_cases c38 : (rd (zbj t464 x7_1) x8_2) < (t460.length : Int)
                       ·rw [if_pos c38] at H
                        have c38b0 : decide ((rd (zbj t464 x7_1) x8_2) < (t460.length : Int)) = true := decide_eq_true c38;clear c38;by_cases c39 : (wrap64 ((wrap64 ((rd y486 (rd (zbj t464 x7_1) x8_2)) * ((zf t460 (rd (zbj t464 x7_1) x8_2)).f2))) - (wrap64 ((wrap64 (x7_1 + 1)) * ((zf t460 (rd (zbj t464 x7_1) x8_2)).f0))))) ≥ ((zf t460 (rd (zbj t464 x7_1) x8_2)).f2)
                        ·rw [if_pos c39] at H
                         have c39b0 : decide (((zf t460 (rd (zbj t464 x7_1) x8_2)).f2) ≤ (wrap64 ((wrap64 ((rd y486 (rd (zbj t464 x7_1) x8_2)) * ((zf t460 (rd (zbj t464 x7_1) x8_2)).f2))) - (wrap64 ((wrap64 (x7_1 + 1)) * ((zf t460 (rd (zbj t464 x7_1) x8_2)).f0)))))) = true := decide_eq_true c39;clear c39;obtain rfl := Option.some.inj H;obtain ⟨Ao40, co40, eo40⟩ := Kd.zck HO_6.out;subst eo40;have p485 : 0 ≤ ((rd (zbj t464 x7_1) x8_2) : Int) := of_decide_eq_true Zas;have q485 : (rd (zbj t464 x7_1) x8_2) < (x6_2.length : Int) := of_decide_eq_true Zas;obtain ⟨ad485, e485, hx485_0⟩ := Kd.zb5 (Kd.zz HO_6.out).2.2 (rd (zbj t464 x7_1) x8_2) p485 q485
                         cases e485
                         replace p485 := eq_true p485;replace q485 := eq_true q485;have p37 : 0 ≤ ((rd (zbj t464 x7_1) x8_2) : Int) := of_decide_eq_true Zas;have q37 : ((rd (zbj t464 x7_1) x8_2) : Int) < ((x6_2.length : Int) : Int) := of_decide_eq_true Zas;obtain ⟨go37, co37, eo37, gb37, gl37, cl37, HG37⟩ := Kd.zgh HO_6.out (by omega);(first | cases eo37 | (injection eo37 with ea_ en_ ec_; (first | subst ea_ | (injection ea_ with ea_; subst ea_)); subst ec_; clear en_));have GB37 := za.mk gb37;have GG37 := za.mk HG37;clear gb37 gl37 HG37;(first | simp only [add_plain] at hx485_0 | skip);obtain ⟨hx37_0, hf37_0⟩ := Kd.zfw 0 HO_6.out ((rd (zbj t464 x7_1) x8_2) : Int) p37 q37;replace p37 := eq_true p37;replace q37 := eq_true q37;have HP41 := Kd.zer HO_6.out ((rd (zbj t464 x7_1) x8_2) : Int) (wrap64 ((rd x6_2 (rd (zbj t464 x7_1) x8_2)) + 1));go_wp2_with (first | ((with_reducible refine zdy (t := 3) (p := 91) rfl ?_); (try (rw [zdz wc]; generalize hq_ : World.drewN wc _ = wc; have n0_ := za.mk (Kd.R_at hq_ HO_3.out); have n1_ := za.mk (Kd.Qc_at hq_ HO_5.out); have n2_ := za.mk (Kd.R_at hq_ HO_6.out); have n3_ := za.mk (ze0 hq_ HB.out); clear hq_ HO_3 HO_5 HO_6 HB; have HO_3 := n0_; have HO_5 := n1_; have HO_6 := n2_; have HB := n3_; clear n0_ n1_ n2_ n3_; (try (have HP41 := Kd.zer HO_6.out ((rd (zbj t464 x7_1) x8_2) : Int) (wrap64 ((rd x6_2 (rd (zbj t464 x7_1) x8_2)) + 1)))))); refine zdr (t := 3) (p := 91) (v := ?vo_w42) (w1 := (wc.setCell ⟨go37, ((rd (zbj t464 x7_1) x8_2) : Int).toNat, none⟩ (.int .i64 (wrap64 ((rd x6_2 (rd (zbj t464 x7_1) x8_2)) + 1))))) ?hg ?ho ?hn ?hr ?_; (case ho => rfl); (case hg => rfl); (case hn => rfl); (case hr => first | (go_simp; done) | (go_simp; rfl)); intro w42 hw; have hg : wc.grownBy w42 (some go37) := (by rw [hw]; exact HP41.2); have hp_ : Kd.R (Kd.int .i64) 3 w42 w.heap.size (fun _ => True) (.slice (some ⟨go37, 0, none⟩) x6_2.length co40) y486 := (by rw [hw, Ny486.out]; exact HP41.1); clear HP41; have n0_ := za.mk (Kd.ze9 (v := (.slice (some ⟨go37, 0, none⟩) x6_2.length co40)) (Zq12 HO_3) (Kd.ze8 HO_6.out) (by decide) hg); have n1_ := za.mk (Kd.ze3 (v := (.slice (some ⟨go37, 0, none⟩) x6_2.length co40)) (v1 := (.slice (some ⟨go37, 0, none⟩) x6_2.length co40)) (ok := (fun _ => True)) (by (with_reducible repeat (first | apply Kd.zd7 | apply Kd.zd0 | apply Kd.zem)); exact Kd.zeh HO_5.out (fun _ hk => ⟨trivial, hk⟩)) hg (.inl rfl)); have n2_ := za.mk (hp_); have n3_ := za.mk ((by rw [hw]; exact zcz (HB.out) GB37.out : Below w.heap.size w w42)); clear HO_3; clear HO_5; clear HO_6; clear HB; have HO_3 := n0_; have HO_5 := n1_; have HO_6 := n2_; have HB := n3_; clear n0_ n1_ n2_ n3_; clear hg hw hp_; have p487 : 0 ≤ ((rd (zbj t464 x7_1) x8_2) : Int) := of_decide_eq_true Zas; have q487 : (rd (zbj t464 x7_1) x8_2) < (y486.length : Int) := (by have h_ : ((rd (zbj t464 x7_1) x8_2) : Int) < ((x6_2.length : Int) : Int) := of_decide_eq_true Zas; first | (have e_ := (Kd.zz HO_6.out).1; omega) | simpa only [Ny486.out, List.length_set] using h_); have ql487 : (((rd (zbj t464 x7_1) x8_2) : Int) < ((x6_2.length : Int) : Int)) = True := eq_true (of_decide_eq_true Zas); obtain ⟨ad487, e487, hx487_0⟩ := Kd.zb5 (Kd.zz HO_6.out).2.2 (rd (zbj t464 x7_1) x8_2) p487 q487; obtain rfl : (⟨go37, 0, none⟩ : Addr) = ad487 := (by injection e487); (first | simp only [add_plain] at hx487_0 | simp only [zgi] at hx487_0 | simp only [Addr.add, Nat.zero_add] at hx487_0 | skip); replace p487 := eq_true p487; replace q487 := eq_true q487; have p488 : 0 ≤ ((rd (zbj t464 x7_1) x8_2) : Int) := of_decide_eq_true Zas; have q488 : (rd (zbj t464 x7_1) x8_2) < (t460.length : Int) := of_decide_eq_true Zas; obtain ⟨ad488, e488, hx488_0, hx488_1, hx488_2⟩ := zch (Kd.zz HO_3.out).2.2 (rd (zbj t464 x7_1) x8_2) p488 q488; cases e488; replace p488 := eq_true p488; replace q488 := eq_true q488; have p489 : 0 ≤ ((rd (zbj t464 x7_1) x8_2) : Int) := of_decide_eq_true Zas; have q489 : (rd (zbj t464 x7_1) x8_2) < (t460.length : Int) := of_decide_eq_true Zas; obtain ⟨ad489, e489, hx489_0, hx489_1, hx489_2⟩ := zch (Kd.zz HO_3.out).2.2 (rd (zbj t464 x7_1) x8_2) p489 q489; obtain rfl : ad488 = ad489 := (by injection e489); replace p489 := eq_true p489; replace q489 := eq_true q489; have p490 : 0 ≤ ((rd (zbj t464 x7_1) x8_2) : Int) := of_decide_eq_true Zas; have q490 : (rd (zbj t464 x7_1) x8_2) < (t460.length : Int) := of_decide_eq_true Zas; obtain ⟨ad490, e490, hx490_0, hx490_1, hx490_2⟩ := zch (Kd.zz HO_3.out).2.2 (rd (zbj t464 x7_1) x8_2) p490 q490; obtain rfl : ad488 = ad490 := (by injection e490); replace p490 := eq_true p490; replace q490 := eq_true q490))
                         repeat (go_quiet (first | ((with_reducible refine zdy (t := 3) (p := 91) rfl ?_); (try (rw [zdz wc]; generalize hq_ : World.drewN wc _ = wc; have n0_ := za.mk (Kd.R_at hq_ HO_3.out); have n1_ := za.mk (Kd.Qc_at hq_ HO_5.out); have n2_ := za.mk (Kd.R_at hq_ HO_6.out); have n3_ := za.mk (ze0 hq_ HB.out); clear hq_ HO_3 HO_5 HO_6 HB; have HO_3 := n0_; have HO_5 := n1_; have HO_6 := n2_; have HB := n3_; clear n0_ n1_ n2_ n3_; (try (have HP41 := Kd.zer HO_6.out ((rd (zbj t464 x7_1) x8_2) : Int) (wrap64 ((rd x6_2 (rd (zbj t464 x7_1) x8_2)) + 1)))))); refine zdr (t := 3) (p := 91) (v := ?vo_w42) (w1 := (wc.setCell ⟨go37, ((rd (zbj t464 x7_1) x8_2) : Int).toNat, none⟩ (.int .i64 (wrap64 ((rd x6_2 (rd (zbj t464 x7_1) x8_2)) + 1))))) ?hg ?ho ?hn ?hr ?_; (case ho => rfl); (case hg => rfl); (case hn => rfl); (case hr => first | (go_simp; done) | (go_simp; rfl)); intro w42 hw; have hg : wc.grownBy w42 (some go37) := (by rw [hw]; exact HP41.2); have hp_ : Kd.R (Kd.int .i64) 3 w42 w.heap.size (fun _ => True) (.slice (some ⟨go37, 0, none⟩) x6_2.length co40) y486 := (by rw [hw, Ny486.out]; exact HP41.1); clear HP41; have n0_ := za.mk (Kd.ze9 (v := (.slice (some ⟨go37, 0, none⟩) x6_2.length co40)) (Zq12 HO_3) (Kd.ze8 HO_6.out) (by decide) hg); have n1_ := za.mk (Kd.ze3 (v := (.slice (some ⟨go37, 0, none⟩) x6_2.length co40)) (v1 := (.slice (some ⟨go37, 0, none⟩) x6_2.length co40)) (ok := (fun _ => True)) (by (with_reducible repeat (first | apply Kd.zd7 | apply Kd.zd0 | apply Kd.zem)); exact Kd.zeh HO_5.out (fun _ hk => ⟨trivial, hk⟩)) hg (.inl rfl)); have n2_ := za.mk (hp_); have n3_ := za.mk ((by rw [hw]; exact zcz (HB.out) GB37.out : Below w.heap.size w w42)); clear HO_3; clear HO_5; clear HO_6; clear HB; have HO_3 := n0_; have HO_5 := n1_; have HO_6 := n2_; have HB := n3_; clear n0_ n1_ n2_ n3_; clear hg hw hp_; have p487 : 0 ≤ ((rd (zbj t464 x7_1) x8_2) : Int) := of_decide_eq_true Zas; have q487 : (rd (zbj t464 x7_1) x8_2) < (y486.length : Int) := (by have h_ : ((rd (zbj t464 x7_1) x8_2) : Int) < ((x6_2.length : Int) : Int) := of_decide_eq_true Zas; first | (have e_ := (Kd.zz HO_6.out).1; omega) | simpa only [Ny486.out, List.length_set] using h_); have ql487 : (((rd (zbj t464 x7_1) x8_2) : Int) < ((x6_2.length : Int) : Int)) = True := eq_true (of_decide_eq_true Zas); obtain ⟨ad487, e487, hx487_0⟩ := Kd.zb5 (Kd.zz HO_6.out).2.2 (rd (zbj t464 x7_1) x8_2) p487 q487; obtain rfl : (⟨go37, 0, none⟩ : Addr) = ad487 := (by injection e487); (first | simp only [add_plain] at hx487_0 | simp only [zgi] at hx487_0 | simp only [Addr.add, Nat.zero_add] at hx487_0 | skip); replace p487 := eq_true p487; replace q487 := eq_true q487; have p488 : 0 ≤ ((rd (zbj t464 x7_1) x8_2) : Int) := of_decide_eq_true Zas; have q488 : (rd (zbj t464 x7_1) x8_2) < (t460.length : Int) := of_decide_eq_true Zas; obtain ⟨ad488, e488, hx488_0, hx488_1, hx488_2⟩ := zch (Kd.zz HO_3.out).2.2 (rd (zbj t464 x7_1) x8_2) p488 q488; cases e488; replace p488 := eq_true p488; replace q488 := eq_true q488; have p489 : 0 ≤ ((rd (zbj t464 x7_1) x8_2) : Int) := of_decide_eq_true Zas; have q489 : (rd (zbj t464 x7_1) x8_2) < (t460.length : Int) := of_decide_eq_true Zas; obtain ⟨ad489, e489, hx489_0, hx489_1, hx489_2⟩ := zch (Kd.zz HO_3.out).2.2 (rd (zbj t464 x7_1) x8_2) p489 q489; obtain rfl : ad488 = ad489 := (by injection e489); replace p489 := eq_true p489; replace q489 := eq_true q489; have p490 : 0 ≤ ((rd (zbj t464 x7_1) x8_2) : Int) := of_decide_eq_true Zas; have q490 : (rd (zbj t464 x7_1) x8_2) < (t460.length : Int) := of_decide_eq_true Zas; obtain ⟨ad490, e490, hx490_0, hx490_1, hx490_2⟩ := zch (Kd.zz HO_3.out).2.2 (rd (zbj t464 x7_1) x8_2) p490 q490; obtain rfl : ad488 = ad490 := (by injection e490); replace p490 := eq_true p490; replace q490 := eq_true q490)); try go_wp2_with (first | ((with_reducible refine zdy (t := 3) (p := 91) rfl ?_); (try (rw [zdz wc]; generalize hq_ : World.drewN wc _ = wc; have n0_ := za.mk (Kd.R_at hq_ HO_3.out); have n1_ := za.mk (Kd.Qc_at hq_ HO_5.out); have n2_ := za.mk (Kd.R_at hq_ HO_6.out); have n3_ := za.mk (ze0 hq_ HB.out); clear hq_ HO_3 HO_5 HO_6 HB; have HO_3 := n0_; have HO_5 := n1_; have HO_6 := n2_; have HB := n3_; clear n0_ n1_ n2_ n3_; (try (have HP41 := Kd.zer HO_6.out ((rd (zbj t464 x7_1) x8_2) : Int) (wrap64 ((rd x6_2 (rd (zbj t464 x7_1) x8_2)) + 1)))))); refine zdr (t := 3) (p := 91) (v := ?vo_w42) (w1 := (wc.setCell ⟨go37, ((rd (zbj t464 x7_1) x8_2) : Int).toNat, none⟩ (.int .i64 (wrap64 ((rd x6_2 (rd (zbj t464 x7_1) x8_2)) + 1))))) ?hg ?ho ?hn ?hr ?_; (case ho => rfl); (case hg => rfl); (case hn => rfl); (case hr => first | (go_simp; done) | (go_simp; rfl)); intro w42 hw; have hg : wc.grownBy w42 (some go37) := (by rw [hw]; exact HP41.2); have hp_ : Kd.R (Kd.int .i64) 3 w42 w.heap.size (fun _ => True) (.slice (some ⟨go37, 0, none⟩) x6_2.length co40) y486 := (by rw [hw, Ny486.out]; exact HP41.1); clear HP41; have n0_ := za.mk (Kd.ze9 (v := (.slice (some ⟨go37, 0, none⟩) x6_2.length co40)) (Zq12 HO_3) (Kd.ze8 HO_6.out) (by decide) hg); have n1_ := za.mk (Kd.ze3 (v := (.slice (some ⟨go37, 0, none⟩) x6_2.length co40)) (v1 := (.slice (some ⟨go37, 0, none⟩) x6_2.length co40)) (ok := (fun _ => True)) (by (with_reducible repeat (first | apply Kd.zd7 | apply Kd.zd0 | apply Kd.zem)); exact Kd.zeh HO_5.out (fun _ hk => ⟨trivial, hk⟩)) hg (.inl rfl)); have n2_ := za.mk (hp_); have n3_ := za.mk ((by rw [hw]; exact zcz (HB.out) GB37.out : Below w.heap.size w w42)); clear HO_3; clear HO_5; clear HO_6; clear HB; have HO_3 := n0_; have HO_5 := n1_; have HO_6 := n2_; have HB := n3_; clear n0_ n1_ n2_ n3_; clear hg hw hp_; have p487 : 0 ≤ ((rd (zbj t464 x7_1) x8_2) : Int) := of_decide_eq_true Zas; have q487 : (rd (zbj t464 x7_1) x8_2) < (y486.length : Int) := (by have h_ : ((rd (zbj t464 x7_1) x8_2) : Int) < ((x6_2.length : Int) : Int) := of_decide_eq_true Zas; first | (have e_ := (Kd.zz HO_6.out).1; omega) | simpa only [Ny486.out, List.length_set] using h_); have ql487 : (((rd (zbj t464 x7_1) x8_2) : Int) < ((x6_2.length : Int) : Int)) = True := eq_true (of_decide_eq_true Zas); obtain ⟨ad487, e487, hx487_0⟩ := Kd.zb5 (Kd.zz HO_6.out).2.2 (rd (zbj t464 x7_1) x8_2) p487 q487; obtain rfl : (⟨go37, 0, none⟩ : Addr) = ad487 := (by injection e487); (first | simp only [add_plain] at hx487_0 | simp only [zgi] at hx487_0 | simp only [Addr.add, Nat.zero_add] at hx487_0 | skip); replace p487 := eq_true p487; replace q487 := eq_true q487; have p488 : 0 ≤ ((rd (zbj t464 x7_1) x8_2) : Int) := of_decide_eq_true Zas; have q488 : (rd (zbj t464 x7_1) x8_2) < (t460.length : Int) := of_decide_eq_true Zas; obtain ⟨ad488, e488, hx488_0, hx488_1, hx488_2⟩ := zch (Kd.zz HO_3.out).2.2 (rd (zbj t464 x7_1) x8_2) p488 q488; cases e488; replace p488 := eq_true p488; replace q488 := eq_true q488; have p489 : 0 ≤ ((rd (zbj t464 x7_1) x8_2) : Int) := of_decide_eq_true Zas; have q489 : (rd (zbj t464 x7_1) x8_2) < (t460.length : Int) := of_decide_eq_true Zas; obtain ⟨ad489, e489, hx489_0, hx489_1, hx489_2⟩ := zch (Kd.zz HO_3.out).2.2 (rd (zbj t464 x7_1) x8_2) p489 q489; obtain rfl : ad488 = ad489 := (by injection e489); replace p489 := eq_true p489; replace q489 := eq_true q489; have p490 : 0 ≤ ((rd (zbj t464 x7_1) x8_2) : Int) := of_decide_eq_true Zas; have q490 : (rd (zbj t464 x7_1) x8_2) < (t460.length : Int) := of_decide_eq_true Zas; obtain ⟨ad490, e490, hx490_0, hx490_1, hx490_2⟩ := zch (Kd.zz HO_3.out).2.2 (rd (zbj t464 x7_1) x8_2) p490 q490; obtain rfl : ad488 = ad490 := (by injection e490); replace p490 := eq_true p490; replace q490 := eq_true q490)))
                         go_ret;exact ⟨by first | rfl | (simp [zq, zt] <;> rfl) | (simp [*, zq, zt] <;> rfl), Zq1 HB⟩
                        ·rw [if_neg c39] at H
                         have c39b0 : decide (((zf t460 (rd (zbj t464 x7_1) x8_2)).f2) ≤ (wrap64 ((wrap64 ((rd y486 (rd (zbj t464 x7_1) x8_2)) * ((zf t460 (rd (zbj t464 x7_1) x8_2)).f2))) - (wrap64 ((wrap64 (x7_1 + 1)) * ((zf t460 (rd (zbj t464 x7_1) x8_2)).f0)))))) = false := decide_eq_false c39;clear c39;have H' := za.mk H;clear H;obtain ⟨Ao43, co43, eo43⟩ := Kd.zck HO_6.out;subst eo43;have p485 : 0 ≤ ((rd (zbj t464 x7_1) x8_2) : Int) := of_decide_eq_true Zas;have q485 : (rd (zbj t464 x7_1) x8_2) < (x6_2.length : Int) := of_decide_eq_true Zas;obtain ⟨ad485, e485, hx485_0⟩ := Kd.zb5 (Kd.zz HO_6.out).2.2 (rd (zbj t464 x7_1) x8_2) p485 q485
                         cases e485
                         replace p485 := eq_true p485;replace q485 := eq_true q485;have p37 : 0 ≤ ((rd (zbj t464 x7_1) x8_2) : Int) := of_decide_eq_true Zas;have q37 : ((rd (zbj t464 x7_1) x8_2) : Int) < ((x6_2.length : Int) : Int) := of_decide_eq_true Zas;obtain ⟨go37, co37, eo37, gb37, gl37, cl37, HG37⟩ := Kd.zgh HO_6.out (by omega);(first | cases eo37 | (injection eo37 with ea_ en_ ec_; (first | subst ea_ | (injection ea_ with ea_; subst ea_)); subst ec_; clear en_));have GB37 := za.mk gb37;have GG37 := za.mk HG37;clear gb37 gl37 HG37;(first | simp only [add_plain] at hx485_0 | skip);obtain ⟨hx37_0, hf37_0⟩ := Kd.zfw 0 HO_6.out ((rd (zbj t464 x7_1) x8_2) : Int) p37 q37;replace p37 := eq_true p37;replace q37 := eq_true q37;have HP44 := Kd.zer HO_6.out ((rd (zbj t464 x7_1) x8_2) : Int) (wrap64 ((rd x6_2 (rd (zbj t464 x7_1) x8_2)) + 1));go_wp2_with (first | ((with_reducible refine zdy (t := 3) (p := 91) rfl ?_); (try (rw [zdz wc]; generalize hq_ : World.drewN wc _ = wc; have n0_ := za.mk (Kd.R_at hq_ HO_3.out); have n1_ := za.mk (Kd.Qc_at hq_ HO_5.out); have n2_ := za.mk (Kd.R_at hq_ HO_6.out); have n3_ := za.mk (ze0 hq_ HB.out); clear hq_ HO_3 HO_5 HO_6 HB; have HO_3 := n0_; have HO_5 := n1_; have HO_6 := n2_; have HB := n3_; clear n0_ n1_ n2_ n3_; (try (have HP44 := Kd.zer HO_6.out ((rd (zbj t464 x7_1) x8_2) : Int) (wrap64 ((rd x6_2 (rd (zbj t464 x7_1) x8_2)) + 1)))))); refine zdr (t := 3) (p := 91) (v := ?vo_w45) (w1 := (wc.setCell ⟨go37, ((rd (zbj t464 x7_1) x8_2) : Int).toNat, none⟩ (.int .i64 (wrap64 ((rd x6_2 (rd (zbj t464 x7_1) x8_2)) + 1))))) ?hg ?ho ?hn ?hr ?_; (case ho => rfl); (case hg => rfl); (case hn => rfl); (case hr => first | (go_simp; done) | (go_simp; rfl)); intro w45 hw; have hg : wc.grownBy w45 (some go37) := (by rw [hw]; exact HP44.2); have hp_ : Kd.R (Kd.int .i64) 3 w45 w.heap.size (fun _ => True) (.slice (some ⟨go37, 0, none⟩) x6_2.length co43) y486 := (by rw [hw, Ny486.out]; exact HP44.1); clear HP44; have n0_ := za.mk (Kd.ze9 (v := (.slice (some ⟨go37, 0, none⟩) x6_2.length co43)) (Zq12 HO_3) (Kd.ze8 HO_6.out) (by decide) hg); have n1_ := za.mk (Kd.ze3 (v := (.slice (some ⟨go37, 0, none⟩) x6_2.length co43)) (v1 := (.slice (some ⟨go37, 0, none⟩) x6_2.length co43)) (ok := (fun _ => True)) (by (with_reducible repeat (first | apply Kd.zd7 | apply Kd.zd0 | apply Kd.zem)); exact Kd.zeh HO_5.out (fun _ hk => ⟨trivial, hk⟩)) hg (.inl rfl)); have n2_ := za.mk (hp_); have n3_ := za.mk ((by rw [hw]; exact zcz (HB.out) GB37.out : Below w.heap.size w w45)); clear HO_3; clear HO_5; clear HO_6; clear HB; have HO_3 := n0_; have HO_5 := n1_; have HO_6 := n2_; have HB := n3_; clear n0_ n1_ n2_ n3_; clear hg hw hp_; have p487 : 0 ≤ ((rd (zbj t464 x7_1) x8_2) : Int) := of_decide_eq_true Zas; have q487 : (rd (zbj t464 x7_1) x8_2) < (y486.length : Int) := (by have h_ : ((rd (zbj t464 x7_1) x8_2) : Int) < ((x6_2.length : Int) : Int) := of_decide_eq_true Zas; first | (have e_ := (Kd.zz HO_6.out).1; omega) | simpa only [Ny486.out, List.length_set] using h_); have ql487 : (((rd (zbj t464 x7_1) x8_2) : Int) < ((x6_2.length : Int) : Int)) = True := eq_true (of_decide_eq_true Zas); obtain ⟨ad487, e487, hx487_0⟩ := Kd.zb5 (Kd.zz HO_6.out).2.2 (rd (zbj t464 x7_1) x8_2) p487 q487; obtain rfl : (⟨go37, 0, none⟩ : Addr) = ad487 := (by injection e487); (first | simp only [add_plain] at hx487_0 | simp only [zgi] at hx487_0 | simp only [Addr.add, Nat.zero_add] at hx487_0 | skip); replace p487 := eq_true p487; replace q487 := eq_true q487; have p488 : 0 ≤ ((rd (zbj t464 x7_1) x8_2) : Int) := of_decide_eq_true Zas; have q488 : (rd (zbj t464 x7_1) x8_2) < (t460.length : Int) := of_decide_eq_true Zas; obtain ⟨ad488, e488, hx488_0, hx488_1, hx488_2⟩ := zch (Kd.zz HO_3.out).2.2 (rd (zbj t464 x7_1) x8_2) p488 q488; cases e488; replace p488 := eq_true p488; replace q488 := eq_true q488; have p489 : 0 ≤ ((rd (zbj t464 x7_1) x8_2) : Int) := of_decide_eq_true Zas; have q489 : (rd (zbj t464 x7_1) x8_2) < (t460.length : Int) := of_decide_eq_true Zas; obtain ⟨ad489, e489, hx489_0, hx489_1, hx489_2⟩ := zch (Kd.zz HO_3.out).2.2 (rd (zbj t464 x7_1) x8_2) p489 q489; obtain rfl : ad488 = ad489 := (by injection e489); replace p489 := eq_true p489; replace q489 := eq_true q489; have p490 : 0 ≤ ((rd (zbj t464 x7_1) x8_2) : Int) := of_decide_eq_true Zas; have q490 : (rd (zbj t464 x7_1) x8_2) < (t460.length : Int) := of_decide_eq_true Zas; obtain ⟨ad490, e490, hx490_0, hx490_1, hx490_2⟩ := zch (Kd.zz HO_3.out).2.2 (rd (zbj t464 x7_1) x8_2) p490 q490; obtain rfl : ad488 = ad490 := (by injection e490); replace p490 := eq_true p490; replace q490 := eq_true q490))
                         repeat (go_quiet (first | ((with_reducible refine zdy (t := 3) (p := 91) rfl ?_); (try (rw [zdz wc]; generalize hq_ : World.drewN wc _ = wc; have n0_ := za.mk (Kd.R_at hq_ HO_3.out); have n1_ := za.mk (Kd.Qc_at hq_ HO_5.out); have n2_ := za.mk (Kd.R_at hq_ HO_6.out); have n3_ := za.mk (ze0 hq_ HB.out); clear hq_ HO_3 HO_5 HO_6 HB; have HO_3 := n0_; have HO_5 := n1_; have HO_6 := n2_; have HB := n3_; clear n0_ n1_ n2_ n3_; (try (have HP44 := Kd.zer HO_6.out ((rd (zbj t464 x7_1) x8_2) : Int) (wrap64 ((rd x6_2 (rd (zbj t464 x7_1) x8_2)) + 1)))))); refine zdr (t := 3) (p := 91) (v := ?vo_w45) (w1 := (wc.setCell ⟨go37, ((rd (zbj t464 x7_1) x8_2) : Int).toNat, none⟩ (.int .i64 (wrap64 ((rd x6_2 (rd (zbj t464 x7_1) x8_2)) + 1))))) ?hg ?ho ?hn ?hr ?_; (case ho => rfl); (case hg => rfl); (case hn => rfl); (case hr => first | (go_simp; done) | (go_simp; rfl)); intro w45 hw; have hg : wc.grownBy w45 (some go37) := (by rw [hw]; exact HP44.2); have hp_ : Kd.R (Kd.int .i64) 3 w45 w.heap.size (fun _ => True) (.slice (some ⟨go37, 0, none⟩) x6_2.length co43) y486 := (by rw [hw, Ny486.out]; exact HP44.1); clear HP44; have n0_ := za.mk (Kd.ze9 (v := (.slice (some ⟨go37, 0, none⟩) x6_2.length co43)) (Zq12 HO_3) (Kd.ze8 HO_6.out) (by decide) hg); have n1_ := za.mk (Kd.ze3 (v := (.slice (some ⟨go37, 0, none⟩) x6_2.length co43)) (v1 := (.slice (some ⟨go37, 0, none⟩) x6_2.length co43)) (ok := (fun _ => True)) (by (with_reducible repeat (first | apply Kd.zd7 | apply Kd.zd0 | apply Kd.zem)); exact Kd.zeh HO_5.out (fun _ hk => ⟨trivial, hk⟩)) hg (.inl rfl)); have n2_ := za.mk (hp_); have n3_ := za.mk ((by rw [hw]; exact zcz (HB.out) GB37.out : Below w.heap.size w w45)); clear HO_3; clear HO_5; clear HO_6; clear HB; have HO_3 := n0_; have HO_5 := n1_; have HO_6 := n2_; have HB := n3_; clear n0_ n1_ n2_ n3_; clear hg hw hp_; have p487 : 0 ≤ ((rd (zbj t464 x7_1) x8_2) : Int) := of_decide_eq_true Zas; have q487 : (rd (zbj t464 x7_1) x8_2) < (y486.length : Int) := (by have h_ : ((rd (zbj t464 x7_1) x8_2) : Int) < ((x6_2.length : Int) : Int) := of_decide_eq_true Zas; first | (have e_ := (Kd.zz HO_6.out).1; omega) | simpa only [Ny486.out, List.length_set] using h_); have ql487 : (((rd (zbj t464 x7_1) x8_2) : Int) < ((x6_2.length : Int) : Int)) = True := eq_true (of_decide_eq_true Zas); obtain ⟨ad487, e487, hx487_0⟩ := Kd.zb5 (Kd.zz HO_6.out).2.2 (rd (zbj t464 x7_1) x8_2) p487 q487; obtain rfl : (⟨go37, 0, none⟩ : Addr) = ad487 := (by injection e487); (first | simp only [add_plain] at hx487_0 | simp only [zgi] at hx487_0 | simp only [Addr.add, Nat.zero_add] at hx487_0 | skip); replace p487 := eq_true p487; replace q487 := eq_true q487; have p488 : 0 ≤ ((rd (zbj t464 x7_1) x8_2) : Int) := of_decide_eq_true Zas; have q488 : (rd (zbj t464 x7_1) x8_2) < (t460.length : Int) := of_decide_eq_true Zas; obtain ⟨ad488, e488, hx488_0, hx488_1, hx488_2⟩ := zch (Kd.zz HO_3.out).2.2 (rd (zbj t464 x7_1) x8_2) p488 q488; cases e488; replace p488 := eq_true p488; replace q488 := eq_true q488; have p489 : 0 ≤ ((rd (zbj t464 x7_1) x8_2) : Int) := of_decide_eq_true Zas; have q489 : (rd (zbj t464 x7_1) x8_2) < (t460.length : Int) := of_decide_eq_true Zas; obtain ⟨ad489, e489, hx489_0, hx489_1, hx489_2⟩ := zch (Kd.zz HO_3.out).2.2 (rd (zbj t464 x7_1) x8_2) p489 q489; obtain rfl : ad488 = ad489 := (by injection e489); replace p489 := eq_true p489; replace q489 := eq_true q489; have p490 : 0 ≤ ((rd (zbj t464 x7_1) x8_2) : Int) := of_decide_eq_true Zas; have q490 : (rd (zbj t464 x7_1) x8_2) < (t460.length : Int) := of_decide_eq_true Zas; obtain ⟨ad490, e490, hx490_0, hx490_1, hx490_2⟩ := zch (Kd.zz HO_3.out).2.2 (rd (zbj t464 x7_1) x8_2) p490 q490; obtain rfl : ad488 = ad490 := (by injection e490); replace p490 := eq_true p490; replace q490 := eq_true q490)); try go_wp2_with (first | ((with_reducible refine zdy (t := 3) (p := 91) rfl ?_); (try (rw [zdz wc]; generalize hq_ : World.drewN wc _ = wc; have n0_ := za.mk (Kd.R_at hq_ HO_3.out); have n1_ := za.mk (Kd.Qc_at hq_ HO_5.out); have n2_ := za.mk (Kd.R_at hq_ HO_6.out); have n3_ := za.mk (ze0 hq_ HB.out); clear hq_ HO_3 HO_5 HO_6 HB; have HO_3 := n0_; have HO_5 := n1_; have HO_6 := n2_; have HB := n3_; clear n0_ n1_ n2_ n3_; (try (have HP44 := Kd.zer HO_6.out ((rd (zbj t464 x7_1) x8_2) : Int) (wrap64 ((rd x6_2 (rd (zbj t464 x7_1) x8_2)) + 1)))))); refine zdr (t := 3) (p := 91) (v := ?vo_w45) (w1 := (wc.setCell ⟨go37, ((rd (zbj t464 x7_1) x8_2) : Int).toNat, none⟩ (.int .i64 (wrap64 ((rd x6_2 (rd (zbj t464 x7_1) x8_2)) + 1))))) ?hg ?ho ?hn ?hr ?_; (case ho => rfl); (case hg => rfl); (case hn => rfl); (case hr => first | (go_simp; done) | (go_simp; rfl)); intro w45 hw; have hg : wc.grownBy w45 (some go37) := (by rw [hw]; exact HP44.2); have hp_ : Kd.R (Kd.int .i64) 3 w45 w.heap.size (fun _ => True) (.slice (some ⟨go37, 0, none⟩) x6_2.length co43) y486 := (by rw [hw, Ny486.out]; exact HP44.1); clear HP44; have n0_ := za.mk (Kd.ze9 (v := (.slice (some ⟨go37, 0, none⟩) x6_2.length co43)) (Zq12 HO_3) (Kd.ze8 HO_6.out) (by decide) hg); have n1_ := za.mk (Kd.ze3 (v := (.slice (some ⟨go37, 0, none⟩) x6_2.length co43)) (v1 := (.slice (some ⟨go37, 0, none⟩) x6_2.length co43)) (ok := (fun _ => True)) (by (with_reducible repeat (first | apply Kd.zd7 | apply Kd.zd0 | apply Kd.zem)); exact Kd.zeh HO_5.out (fun _ hk => ⟨trivial, hk⟩)) hg (.inl rfl)); have n2_ := za.mk (hp_); have n3_ := za.mk ((by rw [hw]; exact zcz (HB.out) GB37.out : Below w.heap.size w w45)); clear HO_3; clear HO_5; clear HO_6; clear HB; have HO_3 := n0_; have HO_5 := n1_; have HO_6 := n2_; have HB := n3_; clear n0_ n1_ n2_ n3_; clear hg hw hp_; have p487 : 0 ≤ ((rd (zbj t464 x7_1) x8_2) : Int) := of_decide_eq_true Zas; have q487 : (rd (zbj t464 x7_1) x8_2) < (y486.length : Int) := (by have h_ : ((rd (zbj t464 x7_1) x8_2) : Int) < ((x6_2.length : Int) : Int) := of_decide_eq_true Zas; first | (have e_ := (Kd.zz HO_6.out).1; omega) | simpa only [Ny486.out, List.length_set] using h_); have ql487 : (((rd (zbj t464 x7_1) x8_2) : Int) < ((x6_2.length : Int) : Int)) = True := eq_true (of_decide_eq_true Zas); obtain ⟨ad487, e487, hx487_0⟩ := Kd.zb5 (Kd.zz HO_6.out).2.2 (rd (zbj t464 x7_1) x8_2) p487 q487; obtain rfl : (⟨go37, 0, none⟩ : Addr) = ad487 := (by injection e487); (first | simp only [add_plain] at hx487_0 | simp only [zgi] at hx487_0 | simp only [Addr.add, Nat.zero_add] at hx487_0 | skip); replace p487 := eq_true p487; replace q487 := eq_true q487; have p488 : 0 ≤ ((rd (zbj t464 x7_1) x8_2) : Int) := of_decide_eq_true Zas; have q488 : (rd (zbj t464 x7_1) x8_2) < (t460.length : Int) := of_decide_eq_true Zas; obtain ⟨ad488, e488, hx488_0, hx488_1, hx488_2⟩ := zch (Kd.zz HO_3.out).2.2 (rd (zbj t464 x7_1) x8_2) p488 q488; cases e488; replace p488 := eq_true p488; replace q488 := eq_true q488; have p489 : 0 ≤ ((rd (zbj t464 x7_1) x8_2) : Int) := of_decide_eq_true Zas; have q489 : (rd (zbj t464 x7_1) x8_2) < (t460.length : Int) := of_decide_eq_true Zas; obtain ⟨ad489, e489, hx489_0, hx489_1, hx489_2⟩ := zch (Kd.zz HO_3.out).2.2 (rd (zbj t464 x7_1) x8_2) p489 q489; obtain rfl : ad488 = ad489 := (by injection e489); replace p489 := eq_true p489; replace q489 := eq_true q489; have p490 : 0 ≤ ((rd (zbj t464 x7_1) x8_2) : Int) := of_decide_eq_true Zas; have q490 : (rd (zbj t464 x7_1) x8_2) < (t460.length : Int) := of_decide_eq_true Zas; obtain ⟨ad490, e490, hx490_0, hx490_1, hx490_2⟩ := zch (Kd.zz HO_3.out).2.2 (rd (zbj t464 x7_1) x8_2) p490 q490; obtain rfl : ad488 = ad490 := (by injection e490); replace p490 := eq_true p490; replace q490 := eq_true q490)))
                         go_roundg kj26
                         case measure => have := HK1.out; have := HK2.out; have := HJ26.out; omega
                         case rel => exact ⟨(y486), (wrap64 (x8_2 + 1)), Zrs, H', ⟨by have := HK1.out; have := HK2.out; have := HJ26.out; omega⟩, ⟨Zq12 HO_3⟩, ⟨by (with_reducible repeat (first | apply Kd.zd7 | apply Kd.zd0 | apply Kd.zem)); exact Kd.zeh HO_5.out (fun _ hk => hk.2)⟩, ⟨Zq12 HO_6⟩, ⟨Zq1 HB⟩⟩
                       ·rw [if_neg c38] at H
                        exact absurd H (by simp)
                      ·rw [if_neg c36] at H
                       exact absurd H (by simp)
                     ·rw [if_neg c35] at H
                      exact absurd H (by simp)
                 ·rw [if_neg c26] at H
                  exact absurd H (by simp)
                ·rw [if_neg c25] at H
                 have c25b0 : decide (x8_2 < ((zbj t464 x7_1).length : Int)) = false := decide_eq_false c25;clear c25;have H' := za.mk H;clear H;have p476 : 0 ≤ (x7_1 : Int) := of_decide_eq_true Zas;have q476 : x7_1 < (t464.length : Int) := of_decide_eq_true Zas;obtain ⟨ad476, A476_0, c476_0, e476, hx476_0, hl476_0, hi476_0⟩ := zg6 (Kd.zbo HO_5.out).2.2 x7_1 p476 q476;obtain rfl : ad475 = ad476 := (by injection e476);obtain ⟨ce476, hce476, hMe476, hcc476⟩ := Kd.zhi HO_5.out [] x7_1 p476 (by first | exact q476 | exact of_decide_eq_true Zas | (have e_ := (Kd.zbo HO_5.out).1; omega));obtain ⟨ve476_0, rfl, ge476_0⟩ := hMe476;have hv476_0 := hcc476 0 _ rfl;rw [Nat.add_zero, show ((Kd.cut 3 (Kd.int .i64))).sz = 1 from rfl, Nat.mul_one] at hv476_0;replace hv476_0 := Option.some.inj (hv476_0.symm.trans hx476_0);rw [hv476_0] at ge476_0;have HL476_0 := za.mk (show Kd.Qc (Kd.int .i64) 3 _ _ _ _ (zbj t464 x7_1) from ge476_0);clear hv476_0 ge476_0;clear hcc476 hce476;have HR476_0 := za.mk hi476_0;have HC476_0 := za.mk hl476_0;clear hi476_0 hl476_0;replace p476 := eq_true p476;replace q476 := eq_true q476;go_wp2
                 repeat (go_quiet (fail); try go_wp2)
                 go_roundg k2
                 case measure => have := HK1.out; have := HK2.out; omega
                 case rel => exact ⟨(x6_2), (wrap64 (x7_1 + 1)), Zrs, H', ⟨by have := HK1.out; have := HK2.out; omega⟩, ⟨Zq12 HO_3⟩, ⟨Zq21 HO_5⟩, ⟨Zq12 HO_6⟩, ⟨Zq1 HB⟩⟩
               ·rw [if_neg c24] at H
                exact absurd H (by simp)
              ·rw [if_neg c23] at H
               exact absurd H (by simp)
          ·rw [if_neg c21] at H
           exact absurd H (by simp)
         ·rw [if_neg c20] at H
          exact absurd H (by simp)
        ·rw [if_neg c19] at H
         have c19b0 : decide (x7_1 < 120) = false := decide_eq_false c19;clear c19;obtain rfl := Option.some.inj H;go_wp2
         repeat (go_quiet (fail); try go_wp2)
         go_ret;exact ⟨by first | rfl | (simp [zq, zt] <;> rfl) | (simp [*, zq, zt] <;> rfl), Zq1 HB⟩
     ·rw [if_neg c10] at H
      exact absurd H (by simp)
    ·rw [if_neg c9] at H
     exact absurd H (by simp)
   ·rw [if_neg c8] at H
    have c8b0 : ((t464.length : Int) == 120) = false := beq_eq_false_iff_ne.mpr c8;have c8b1 : ((t464.length : Int) != 120) = true := bne_iff_ne.mpr c8;by_cases c46 : (t464.length : Int) = 0
    ·rw [if_pos c46] at H
     have c46b0 : ((t464.length : Int) == 0) = true := beq_iff_eq.mpr c46;have c46b1 : ((t464.length : Int) != 0) = false := bne_eq_false_iff_eq.mpr c46;clear c46;replace H := Option.bind_eq_some_iff.mp H;obtain ⟨t471, A470, H⟩ := H;replace H : (some t471) = some r := H;have A47 := za.mk A470;clear A470;obtain rfl := Option.some.inj H;go_enter Try.func6, Try.ntmps6;go_wp2_with (first | (go_at_call 9; (with_reducible refine (zby.calls k _ _ l0 t460 t461 _ ?side1 ?side2 A3.out).mono ?_); (case side1 => exact Zq17 HR0); (case side2 => exact HC0.out); rintro e w48 ⟨v462, rfl, ho0, hb⟩; have n0_ := za.mk (Kd.zcj ho0 (zu (Zq1 HB))); have n1_ := za.mk (zl (Zq1 HB) hb); clear HB; have HO463 := n0_; have HB := n1_; clear n0_ n1_; (try clear hb); (try clear hb2); (try clear hk); (try clear hi); (try clear ho0); obtain ⟨Ao49, co49, eo49⟩ := Kd.zck HO463.out; subst eo49) | (go_at_call 10; (with_reducible refine (zbp.calls k _ _ t460 t461 t464 _ ?side1 ?side2 A4.out).mono ?_); (case side1 => exact Zq18 ((Kd.zz HO463.out).2.2)); (case side2 => exact (Kd.zz HO463.out).2.1); rintro e w50 ⟨v465, rfl, ho0, hb⟩; have n0_ := za.mk (Kd.zb7 (Zq12 HO463) hb); have n1_ := za.mk (Kd.zcp ho0 (zu (Zq1 HB))); have n2_ := za.mk (zl (Zq1 HB) hb); clear HO463; clear HB; have HO463 := n0_; have HO466 := n1_; have HB := n2_; clear n0_ n1_ n2_; (try clear hb); (try clear hb2); (try clear hk); (try clear hi); (try clear ho0)) | (go_at_call 12; (with_reducible refine (zo.calls k _ _ t460 t461 t467 _ ?side1 ?side2 A5.out).mono ?_); (case side1 => exact Zq18 ((Kd.zz HO463.out).2.2)); (case side2 => exact (Kd.zz HO463.out).2.1); rintro e w51 ⟨v468, rfl, ho0, hb⟩; replace ho0 := Kd.zd6 ho0; have n0_ := za.mk (Kd.zb7 (Zq12 HO463) hb); have n1_ := za.mk (Kd.zcu (Zq21 HO466) (Kd.zd5 ho0) hb); have n2_ := za.mk (Kd.zcp (Kd.zd4 ho0 (Kd.zf9 (Zq21 HO466))) (zu (Zq1 HB))); have n3_ := za.mk (zl (Zq1 HB) hb); clear HO463; clear HO466; clear HB; have HO463 := n0_; have HO466 := n1_; have HO469 := n2_; have HB := n3_; clear n0_ n1_ n2_ n3_; (try clear hb); (try clear hb2); (try clear hk); (try clear hi); (try clear ho0); obtain ⟨Ao52, co52, eo52⟩ := Kd.zcr HO466.out; subst eo52; obtain ⟨Ao53, co53, eo53⟩ := Kd.zcr HO469.out; subst eo53) | (go_at_call 11; (with_reducible refine (zbq.calls k _ _ t464 _ _ t467 true _ ?side1 ?side2 ?side3 ?side4 A6.out).mono ?_); (case side1 => exact Zq18 ((Kd.zbo HO466.out).2.2)); (case side2 => exact (Kd.zbo HO466.out).2.1); (case side3 => exact Zq18 ((Kd.zbo HO469.out).2.2)); (case side4 => exact (Kd.zbo HO469.out).2.1); rintro e w' ⟨rfl, ⟨nd, rfl⟩⟩; (try first | exact ⟨rfl, _, World.drewN_drewN _ _ _⟩ | exact ⟨rfl, _, Eq.trans (World.drewN_drewN _ _ _) (congrArg (World.drewN _) (Nat.add_assoc _ _ _))⟩)) | (go_at_call 14; (with_reducible refine (zcx.calls  t471 _ A47.out).mono ?_); rintro e w54 ⟨rfl, hb⟩; have n0_ := za.mk (Kd.zb7 (Zq12 HO463) hb); have n1_ := za.mk (Kd.ze2 (Zq21 HO466) hb); have n2_ := za.mk (Kd.ze2 (Zq21 HO469) hb); have n3_ := za.mk (zl (Zq1 HB) hb); clear HO463; clear HO466; clear HO469; clear HB; have HO463 := n0_; have HO466 := n1_; have HO469 := n2_; have HB := n3_; clear n0_ n1_ n2_ n3_; (try clear hb); (try clear hb2); (try clear hk); (try clear hi)))
     repeat (go_quiet (first | (go_at_call 9; (with_reducible refine (zby.calls k _ _ l0 t460 t461 _ ?side1 ?side2 A3.out).mono ?_); (case side1 => exact Zq17 HR0); (case side2 => exact HC0.out); rintro e w48 ⟨v462, rfl, ho0, hb⟩; have n0_ := za.mk (Kd.zcj ho0 (zu (Zq1 HB))); have n1_ := za.mk (zl (Zq1 HB) hb); clear HB; have HO463 := n0_; have HB := n1_; clear n0_ n1_; (try clear hb); (try clear hb2); (try clear hk); (try clear hi); (try clear ho0); obtain ⟨Ao49, co49, eo49⟩ := Kd.zck HO463.out; subst eo49) | (go_at_call 10; (with_reducible refine (zbp.calls k _ _ t460 t461 t464 _ ?side1 ?side2 A4.out).mono ?_); (case side1 => exact Zq18 ((Kd.zz HO463.out).2.2)); (case side2 => exact (Kd.zz HO463.out).2.1); rintro e w50 ⟨v465, rfl, ho0, hb⟩; have n0_ := za.mk (Kd.zb7 (Zq12 HO463) hb); have n1_ := za.mk (Kd.zcp ho0 (zu (Zq1 HB))); have n2_ := za.mk (zl (Zq1 HB) hb); clear HO463; clear HB; have HO463 := n0_; have HO466 := n1_; have HB := n2_; clear n0_ n1_ n2_; (try clear hb); (try clear hb2); (try clear hk); (try clear hi); (try clear ho0)) | (go_at_call 12; (with_reducible refine (zo.calls k _ _ t460 t461 t467 _ ?side1 ?side2 A5.out).mono ?_); (case side1 => exact Zq18 ((Kd.zz HO463.out).2.2)); (case side2 => exact (Kd.zz HO463.out).2.1); rintro e w51 ⟨v468, rfl, ho0, hb⟩; replace ho0 := Kd.zd6 ho0; have n0_ := za.mk (Kd.zb7 (Zq12 HO463) hb); have n1_ := za.mk (Kd.zcu (Zq21 HO466) (Kd.zd5 ho0) hb); have n2_ := za.mk (Kd.zcp (Kd.zd4 ho0 (Kd.zf9 (Zq21 HO466))) (zu (Zq1 HB))); have n3_ := za.mk (zl (Zq1 HB) hb); clear HO463; clear HO466; clear HB; have HO463 := n0_; have HO466 := n1_; have HO469 := n2_; have HB := n3_; clear n0_ n1_ n2_ n3_; (try clear hb); (try clear hb2); (try clear hk); (try clear hi); (try clear ho0); obtain ⟨Ao52, co52, eo52⟩ := Kd.zcr HO466.out; subst eo52; obtain ⟨Ao53, co53, eo53⟩ := Kd.zcr HO469.out; subst eo53) | (go_at_call 11; (with_reducible refine (zbq.calls k _ _ t464 _ _ t467 true _ ?side1 ?side2 ?side3 ?side4 A6.out).mono ?_); (case side1 => exact Zq18 ((Kd.zbo HO466.out).2.2)); (case side2 => exact (Kd.zbo HO466.out).2.1); (case side3 => exact Zq18 ((Kd.zbo HO469.out).2.2)); (case side4 => exact (Kd.zbo HO469.out).2.1); rintro e w' ⟨rfl, ⟨nd, rfl⟩⟩; (try first | exact ⟨rfl, _, World.drewN_drewN _ _ _⟩ | exact ⟨rfl, _, Eq.trans (World.drewN_drewN _ _ _) (congrArg (World.drewN _) (Nat.add_assoc _ _ _))⟩)) | (go_at_call 14; (with_reducible refine (zcx.calls  t471 _ A47.out).mono ?_); rintro e w54 ⟨rfl, hb⟩; have n0_ := za.mk (Kd.zb7 (Zq12 HO463) hb); have n1_ := za.mk (Kd.ze2 (Zq21 HO466) hb); have n2_ := za.mk (Kd.ze2 (Zq21 HO469) hb); have n3_ := za.mk (zl (Zq1 HB) hb); clear HO463; clear HO466; clear HO469; clear HB; have HO463 := n0_; have HO466 := n1_; have HO469 := n2_; have HB := n3_; clear n0_ n1_ n2_ n3_; (try clear hb); (try clear hb2); (try clear hk); (try clear hi))); try go_wp2_with (first | (go_at_call 9; (with_reducible refine (zby.calls k _ _ l0 t460 t461 _ ?side1 ?side2 A3.out).mono ?_); (case side1 => exact Zq17 HR0); (case side2 => exact HC0.out); rintro e w48 ⟨v462, rfl, ho0, hb⟩; have n0_ := za.mk (Kd.zcj ho0 (zu (Zq1 HB))); have n1_ := za.mk (zl (Zq1 HB) hb); clear HB; have HO463 := n0_; have HB := n1_; clear n0_ n1_; (try clear hb); (try clear hb2); (try clear hk); (try clear hi); (try clear ho0); obtain ⟨Ao49, co49, eo49⟩ := Kd.zck HO463.out; subst eo49) | (go_at_call 10; (with_reducible refine (zbp.calls k _ _ t460 t461 t464 _ ?side1 ?side2 A4.out).mono ?_); (case side1 => exact Zq18 ((Kd.zz HO463.out).2.2)); (case side2 => exact (Kd.zz HO463.out).2.1); rintro e w50 ⟨v465, rfl, ho0, hb⟩; have n0_ := za.mk (Kd.zb7 (Zq12 HO463) hb); have n1_ := za.mk (Kd.zcp ho0 (zu (Zq1 HB))); have n2_ := za.mk (zl (Zq1 HB) hb); clear HO463; clear HB; have HO463 := n0_; have HO466 := n1_; have HB := n2_; clear n0_ n1_ n2_; (try clear hb); (try clear hb2); (try clear hk); (try clear hi); (try clear ho0)) | (go_at_call 12; (with_reducible refine (zo.calls k _ _ t460 t461 t467 _ ?side1 ?side2 A5.out).mono ?_); (case side1 => exact Zq18 ((Kd.zz HO463.out).2.2)); (case side2 => exact (Kd.zz HO463.out).2.1); rintro e w51 ⟨v468, rfl, ho0, hb⟩; replace ho0 := Kd.zd6 ho0; have n0_ := za.mk (Kd.zb7 (Zq12 HO463) hb); have n1_ := za.mk (Kd.zcu (Zq21 HO466) (Kd.zd5 ho0) hb); have n2_ := za.mk (Kd.zcp (Kd.zd4 ho0 (Kd.zf9 (Zq21 HO466))) (zu (Zq1 HB))); have n3_ := za.mk (zl (Zq1 HB) hb); clear HO463; clear HO466; clear HB; have HO463 := n0_; have HO466 := n1_; have HO469 := n2_; have HB := n3_; clear n0_ n1_ n2_ n3_; (try clear hb); (try clear hb2); (try clear hk); (try clear hi); (try clear ho0); obtain ⟨Ao52, co52, eo52⟩ := Kd.zcr HO466.out; subst eo52; obtain ⟨Ao53, co53, eo53⟩ := Kd.zcr HO469.out; subst eo53) | (go_at_call 11; (with_reducible refine (zbq.calls k _ _ t464 _ _ t467 true _ ?side1 ?side2 ?side3 ?side4 A6.out).mono ?_); (case side1 => exact Zq18 ((Kd.zbo HO466.out).2.2)); (case side2 => exact (Kd.zbo HO466.out).2.1); (case side3 => exact Zq18 ((Kd.zbo HO469.out).2.2)); (case side4 => exact (Kd.zbo HO469.out).2.1); rintro e w' ⟨rfl, ⟨nd, rfl⟩⟩; (try first | exact ⟨rfl, _, World.drewN_drewN _ _ _⟩ | exact ⟨rfl, _, Eq.trans (World.drewN_drewN _ _ _) (congrArg (World.drewN _) (Nat.add_assoc _ _ _))⟩)) | (go_at_call 14; (with_reducible refine (zcx.calls  t471 _ A47.out).mono ?_); rintro e w54 ⟨rfl, hb⟩; have n0_ := za.mk (Kd.zb7 (Zq12 HO463) hb); have n1_ := za.mk (Kd.ze2 (Zq21 HO466) hb); have n2_ := za.mk (Kd.ze2 (Zq21 HO469) hb); have n3_ := za.mk (zl (Zq1 HB) hb); clear HO463; clear HO466; clear HO469; clear HB; have HO463 := n0_; have HO466 := n1_; have HO469 := n2_; have HB := n3_; clear n0_ n1_ n2_ n3_; (try clear hb); (try clear hb2); (try clear hk); (try clear hi))))
     go_ret;exact ⟨by first | rfl | (simp [zq, zt] <;> rfl) | (simp [*, zq, zt] <;> rfl), Zq1 HB⟩
    ·rw [if_neg c46] at H
     have c46b0 : ((t464.length : Int) == 0) = false := beq_eq_false_iff_ne.mpr c46;have c46b1 : ((t464.length : Int) != 0) = true := bne_iff_ne.mpr c46;have c46b2 : ¬ (t464 = []) := fun h_ => c46 (by rw [h_]; rfl)
     obtain rfl := Option.some.inj H;go_enter Try.func6, Try.ntmps6;go_wp2_with (first | (go_at_call 9; (with_reducible refine (zby.calls k _ _ l0 t460 t461 _ ?side1 ?side2 A3.out).mono ?_); (case side1 => exact Zq17 HR0); (case side2 => exact HC0.out); rintro e w55 ⟨v462, rfl, ho0, hb⟩; have n0_ := za.mk (Kd.zcj ho0 (zu (Zq1 HB))); have n1_ := za.mk (zl (Zq1 HB) hb); clear HB; have HO463 := n0_; have HB := n1_; clear n0_ n1_; (try clear hb); (try clear hb2); (try clear hk); (try clear hi); (try clear ho0); obtain ⟨Ao56, co56, eo56⟩ := Kd.zck HO463.out; subst eo56) | (go_at_call 10; (with_reducible refine (zbp.calls k _ _ t460 t461 t464 _ ?side1 ?side2 A4.out).mono ?_); (case side1 => exact Zq18 ((Kd.zz HO463.out).2.2)); (case side2 => exact (Kd.zz HO463.out).2.1); rintro e w57 ⟨v465, rfl, ho0, hb⟩; have n0_ := za.mk (Kd.zb7 (Zq12 HO463) hb); have n1_ := za.mk (Kd.zcp ho0 (zu (Zq1 HB))); have n2_ := za.mk (zl (Zq1 HB) hb); clear HO463; clear HB; have HO463 := n0_; have HO466 := n1_; have HB := n2_; clear n0_ n1_ n2_; (try clear hb); (try clear hb2); (try clear hk); (try clear hi); (try clear ho0)) | (go_at_call 12; (with_reducible refine (zo.calls k _ _ t460 t461 t467 _ ?side1 ?side2 A5.out).mono ?_); (case side1 => exact Zq18 ((Kd.zz HO463.out).2.2)); (case side2 => exact (Kd.zz HO463.out).2.1); rintro e w58 ⟨v468, rfl, ho0, hb⟩; replace ho0 := Kd.zd6 ho0; have n0_ := za.mk (Kd.zb7 (Zq12 HO463) hb); have n1_ := za.mk (Kd.zcu (Zq21 HO466) (Kd.zd5 ho0) hb); have n2_ := za.mk (Kd.zcp (Kd.zd4 ho0 (Kd.zf9 (Zq21 HO466))) (zu (Zq1 HB))); have n3_ := za.mk (zl (Zq1 HB) hb); clear HO463; clear HO466; clear HB; have HO463 := n0_; have HO466 := n1_; have HO469 := n2_; have HB := n3_; clear n0_ n1_ n2_ n3_; (try clear hb); (try clear hb2); (try clear hk); (try clear hi); (try clear ho0); obtain ⟨Ao59, co59, eo59⟩ := Kd.zcr HO466.out; subst eo59; obtain ⟨Ao60, co60, eo60⟩ := Kd.zcr HO469.out; subst eo60) | (go_at_call 11; (with_reducible refine (zbq.calls k _ _ t464 _ _ t467 true _ ?side1 ?side2 ?side3 ?side4 A6.out).mono ?_); (case side1 => exact Zq18 ((Kd.zbo HO466.out).2.2)); (case side2 => exact (Kd.zbo HO466.out).2.1); (case side3 => exact Zq18 ((Kd.zbo HO469.out).2.2)); (case side4 => exact (Kd.zbo HO469.out).2.1); rintro e w' ⟨rfl, ⟨nd, rfl⟩⟩; (try first | exact ⟨rfl, _, World.drewN_drewN _ _ _⟩ | exact ⟨rfl, _, Eq.trans (World.drewN_drewN _ _ _) (congrArg (World.drewN _) (Nat.add_assoc _ _ _))⟩)))
     repeat (go_quiet (first | (go_at_call 9; (with_reducible refine (zby.calls k _ _ l0 t460 t461 _ ?side1 ?side2 A3.out).mono ?_); (case side1 => exact Zq17 HR0); (case side2 => exact HC0.out); rintro e w55 ⟨v462, rfl, ho0, hb⟩; have n0_ := za.mk (Kd.zcj ho0 (zu (Zq1 HB))); have n1_ := za.mk (zl (Zq1 HB) hb); clear HB; have HO463 := n0_; have HB := n1_; clear n0_ n1_; (try clear hb); (try clear hb2); (try clear hk); (try clear hi); (try clear ho0); obtain ⟨Ao56, co56, eo56⟩ := Kd.zck HO463.out; subst eo56) | (go_at_call 10; (with_reducible refine (zbp.calls k _ _ t460 t461 t464 _ ?side1 ?side2 A4.out).mono ?_); (case side1 => exact Zq18 ((Kd.zz HO463.out).2.2)); (case side2 => exact (Kd.zz HO463.out).2.1); rintro e w57 ⟨v465, rfl, ho0, hb⟩; have n0_ := za.mk (Kd.zb7 (Zq12 HO463) hb); have n1_ := za.mk (Kd.zcp ho0 (zu (Zq1 HB))); have n2_ := za.mk (zl (Zq1 HB) hb); clear HO463; clear HB; have HO463 := n0_; have HO466 := n1_; have HB := n2_; clear n0_ n1_ n2_; (try clear hb); (try clear hb2); (try clear hk); (try clear hi); (try clear ho0)) | (go_at_call 12; (with_reducible refine (zo.calls k _ _ t460 t461 t467 _ ?side1 ?side2 A5.out).mono ?_); (case side1 => exact Zq18 ((Kd.zz HO463.out).2.2)); (case side2 => exact (Kd.zz HO463.out).2.1); rintro e w58 ⟨v468, rfl, ho0, hb⟩; replace ho0 := Kd.zd6 ho0; have n0_ := za.mk (Kd.zb7 (Zq12 HO463) hb); have n1_ := za.mk (Kd.zcu (Zq21 HO466) (Kd.zd5 ho0) hb); have n2_ := za.mk (Kd.zcp (Kd.zd4 ho0 (Kd.zf9 (Zq21 HO466))) (zu (Zq1 HB))); have n3_ := za.mk (zl (Zq1 HB) hb); clear HO463; clear HO466; clear HB; have HO463 := n0_; have HO466 := n1_; have HO469 := n2_; have HB := n3_; clear n0_ n1_ n2_ n3_; (try clear hb); (try clear hb2); (try clear hk); (try clear hi); (try clear ho0); obtain ⟨Ao59, co59, eo59⟩ := Kd.zcr HO466.out; subst eo59; obtain ⟨Ao60, co60, eo60⟩ := Kd.zcr HO469.out; subst eo60) | (go_at_call 11; (with_reducible refine (zbq.calls k _ _ t464 _ _ t467 true _ ?side1 ?side2 ?side3 ?side4 A6.out).mono ?_); (case side1 => exact Zq18 ((Kd.zbo HO466.out).2.2)); (case side2 => exact (Kd.zbo HO466.out).2.1); (case side3 => exact Zq18 ((Kd.zbo HO469.out).2.2)); (case side4 => exact (Kd.zbo HO469.out).2.1); rintro e w' ⟨rfl, ⟨nd, rfl⟩⟩; (try first | exact ⟨rfl, _, World.drewN_drewN _ _ _⟩ | exact ⟨rfl, _, Eq.trans (World.drewN_drewN _ _ _) (congrArg (World.drewN _) (Nat.add_assoc _ _ _))⟩))); try go_wp2_with (first | (go_at_call 9; (with_reducible refine (zby.calls k _ _ l0 t460 t461 _ ?side1 ?side2 A3.out).mono ?_); (case side1 => exact Zq17 HR0); (case side2 => exact HC0.out); rintro e w55 ⟨v462, rfl, ho0, hb⟩; have n0_ := za.mk (Kd.zcj ho0 (zu (Zq1 HB))); have n1_ := za.mk (zl (Zq1 HB) hb); clear HB; have HO463 := n0_; have HB := n1_; clear n0_ n1_; (try clear hb); (try clear hb2); (try clear hk); (try clear hi); (try clear ho0); obtain ⟨Ao56, co56, eo56⟩ := Kd.zck HO463.out; subst eo56) | (go_at_call 10; (with_reducible refine (zbp.calls k _ _ t460 t461 t464 _ ?side1 ?side2 A4.out).mono ?_); (case side1 => exact Zq18 ((Kd.zz HO463.out).2.2)); (case side2 => exact (Kd.zz HO463.out).2.1); rintro e w57 ⟨v465, rfl, ho0, hb⟩; have n0_ := za.mk (Kd.zb7 (Zq12 HO463) hb); have n1_ := za.mk (Kd.zcp ho0 (zu (Zq1 HB))); have n2_ := za.mk (zl (Zq1 HB) hb); clear HO463; clear HB; have HO463 := n0_; have HO466 := n1_; have HB := n2_; clear n0_ n1_ n2_; (try clear hb); (try clear hb2); (try clear hk); (try clear hi); (try clear ho0)) | (go_at_call 12; (with_reducible refine (zo.calls k _ _ t460 t461 t467 _ ?side1 ?side2 A5.out).mono ?_); (case side1 => exact Zq18 ((Kd.zz HO463.out).2.2)); (case side2 => exact (Kd.zz HO463.out).2.1); rintro e w58 ⟨v468, rfl, ho0, hb⟩; replace ho0 := Kd.zd6 ho0; have n0_ := za.mk (Kd.zb7 (Zq12 HO463) hb); have n1_ := za.mk (Kd.zcu (Zq21 HO466) (Kd.zd5 ho0) hb); have n2_ := za.mk (Kd.zcp (Kd.zd4 ho0 (Kd.zf9 (Zq21 HO466))) (zu (Zq1 HB))); have n3_ := za.mk (zl (Zq1 HB) hb); clear HO463; clear HO466; clear HB; have HO463 := n0_; have HO466 := n1_; have HO469 := n2_; have HB := n3_; clear n0_ n1_ n2_ n3_; (try clear hb); (try clear hb2); (try clear hk); (try clear hi); (try clear ho0); obtain ⟨Ao59, co59, eo59⟩ := Kd.zcr HO466.out; subst eo59; obtain ⟨Ao60, co60, eo60⟩ := Kd.zcr HO469.out; subst eo60) | (go_at_call 11; (with_reducible refine (zbq.calls k _ _ t464 _ _ t467 true _ ?side1 ?side2 ?side3 ?side4 A6.out).mono ?_); (case side1 => exact Zq18 ((Kd.zbo HO466.out).2.2)); (case side2 => exact (Kd.zbo HO466.out).2.1); (case side3 => exact Zq18 ((Kd.zbo HO469.out).2.2)); (case side4 => exact (Kd.zbo HO469.out).2.1); rintro e w' ⟨rfl, ⟨nd, rfl⟩⟩; (try first | exact ⟨rfl, _, World.drewN_drewN _ _ _⟩ | exact ⟨rfl, _, Eq.trans (World.drewN_drewN _ _ _) (congrArg (World.drewN _) (Nat.add_assoc _ _ _))⟩))))
     go_ret;exact ⟨by first | rfl | (simp [zq, zt] <;> rfl) | (simp [*, zq, zt] <;> rfl), Zq1 HB⟩
  ·replace c7 := Bool.eq_false_iff.mpr c7
   subst c7;have H1 : (some false) = some r := by rw [if_neg (show ¬ (false = true) by decide)] at H; exact H
   clear H;have H := H1;clear H1;obtain rfl := Option.some.inj H;go_enter Try.func6, Try.ntmps6;go_wp2_with (first | (go_at_call 9; (with_reducible refine (zby.calls k _ _ l0 t460 t461 _ ?side1 ?side2 A3.out).mono ?_); (case side1 => exact Zq17 HR0); (case side2 => exact HC0.out); rintro e w61 ⟨v462, rfl, ho0, hb⟩; have n0_ := za.mk (Kd.zcj ho0 (zu (Zq1 HB))); have n1_ := za.mk (zl (Zq1 HB) hb); clear HB; have HO463 := n0_; have HB := n1_; clear n0_ n1_; (try clear hb); (try clear hb2); (try clear hk); (try clear hi); (try clear ho0); obtain ⟨Ao62, co62, eo62⟩ := Kd.zck HO463.out; subst eo62) | (go_at_call 10; (with_reducible refine (zbp.calls k _ _ t460 t461 t464 _ ?side1 ?side2 A4.out).mono ?_); (case side1 => exact Zq18 ((Kd.zz HO463.out).2.2)); (case side2 => exact (Kd.zz HO463.out).2.1); rintro e w63 ⟨v465, rfl, ho0, hb⟩; have n0_ := za.mk (Kd.zb7 (Zq12 HO463) hb); have n1_ := za.mk (Kd.zcp ho0 (zu (Zq1 HB))); have n2_ := za.mk (zl (Zq1 HB) hb); clear HO463; clear HB; have HO463 := n0_; have HO466 := n1_; have HB := n2_; clear n0_ n1_ n2_; (try clear hb); (try clear hb2); (try clear hk); (try clear hi); (try clear ho0)) | (go_at_call 12; (with_reducible refine (zo.calls k _ _ t460 t461 t467 _ ?side1 ?side2 A5.out).mono ?_); (case side1 => exact Zq18 ((Kd.zz HO463.out).2.2)); (case side2 => exact (Kd.zz HO463.out).2.1); rintro e w64 ⟨v468, rfl, ho0, hb⟩; replace ho0 := Kd.zd6 ho0; have n0_ := za.mk (Kd.zb7 (Zq12 HO463) hb); have n1_ := za.mk (Kd.zcu (Zq21 HO466) (Kd.zd5 ho0) hb); have n2_ := za.mk (Kd.zcp (Kd.zd4 ho0 (Kd.zf9 (Zq21 HO466))) (zu (Zq1 HB))); have n3_ := za.mk (zl (Zq1 HB) hb); clear HO463; clear HO466; clear HB; have HO463 := n0_; have HO466 := n1_; have HO469 := n2_; have HB := n3_; clear n0_ n1_ n2_ n3_; (try clear hb); (try clear hb2); (try clear hk); (try clear hi); (try clear ho0); obtain ⟨Ao65, co65, eo65⟩ := Kd.zcr HO466.out; subst eo65; obtain ⟨Ao66, co66, eo66⟩ := Kd.zcr HO469.out; subst eo66) | (go_at_call 11; (with_reducible refine (zbq.calls k _ _ t464 _ _ t467 false _ ?side1 ?side2 ?side3 ?side4 A6.out).mono ?_); (case side1 => exact Zq18 ((Kd.zbo HO466.out).2.2)); (case side2 => exact (Kd.zbo HO466.out).2.1); (case side3 => exact Zq18 ((Kd.zbo HO469.out).2.2)); (case side4 => exact (Kd.zbo HO469.out).2.1); rintro e w' ⟨rfl, ⟨nd, rfl⟩⟩; (try first | exact ⟨rfl, _, World.drewN_drewN _ _ _⟩ | exact ⟨rfl, _, Eq.trans (World.drewN_drewN _ _ _) (congrArg (World.drewN _) (Nat.add_assoc _ _ _))⟩)))
   repeat (go_quiet (first | (go_at_call 9; (with_reducible refine (zby.calls k _ _ l0 t460 t461 _ ?side1 ?side2 A3.out).mono ?_); (case side1 => exact Zq17 HR0); (case side2 => exact HC0.out); rintro e w61 ⟨v462, rfl, ho0, hb⟩; have n0_ := za.mk (Kd.zcj ho0 (zu (Zq1 HB))); have n1_ := za.mk (zl (Zq1 HB) hb); clear HB; have HO463 := n0_; have HB := n1_; clear n0_ n1_; (try clear hb); (try clear hb2); (try clear hk); (try clear hi); (try clear ho0); obtain ⟨Ao62, co62, eo62⟩ := Kd.zck HO463.out; subst eo62) | (go_at_call 10; (with_reducible refine (zbp.calls k _ _ t460 t461 t464 _ ?side1 ?side2 A4.out).mono ?_); (case side1 => exact Zq18 ((Kd.zz HO463.out).2.2)); (case side2 => exact (Kd.zz HO463.out).2.1); rintro e w63 ⟨v465, rfl, ho0, hb⟩; have n0_ := za.mk (Kd.zb7 (Zq12 HO463) hb); have n1_ := za.mk (Kd.zcp ho0 (zu (Zq1 HB))); have n2_ := za.mk (zl (Zq1 HB) hb); clear HO463; clear HB; have HO463 := n0_; have HO466 := n1_; have HB := n2_; clear n0_ n1_ n2_; (try clear hb); (try clear hb2); (try clear hk); (try clear hi); (try clear ho0)) | (go_at_call 12; (with_reducible refine (zo.calls k _ _ t460 t461 t467 _ ?side1 ?side2 A5.out).mono ?_); (case side1 => exact Zq18 ((Kd.zz HO463.out).2.2)); (case side2 => exact (Kd.zz HO463.out).2.1); rintro e w64 ⟨v468, rfl, ho0, hb⟩; replace ho0 := Kd.zd6 ho0; have n0_ := za.mk (Kd.zb7 (Zq12 HO463) hb); have n1_ := za.mk (Kd.zcu (Zq21 HO466) (Kd.zd5 ho0) hb); have n2_ := za.mk (Kd.zcp (Kd.zd4 ho0 (Kd.zf9 (Zq21 HO466))) (zu (Zq1 HB))); have n3_ := za.mk (zl (Zq1 HB) hb); clear HO463; clear HO466; clear HB; have HO463 := n0_; have HO466 := n1_; have HO469 := n2_; have HB := n3_; clear n0_ n1_ n2_ n3_; (try clear hb); (try clear hb2); (try clear hk); (try clear hi); (try clear ho0); obtain ⟨Ao65, co65, eo65⟩ := Kd.zcr HO466.out; subst eo65; obtain ⟨Ao66, co66, eo66⟩ := Kd.zcr HO469.out; subst eo66) | (go_at_call 11; (with_reducible refine (zbq.calls k _ _ t464 _ _ t467 false _ ?side1 ?side2 ?side3 ?side4 A6.out).mono ?_); (case side1 => exact Zq18 ((Kd.zbo HO466.out).2.2)); (case side2 => exact (Kd.zbo HO466.out).2.1); (case side3 => exact Zq18 ((Kd.zbo HO469.out).2.2)); (case side4 => exact (Kd.zbo HO469.out).2.1); rintro e w' ⟨rfl, ⟨nd, rfl⟩⟩; (try first | exact ⟨rfl, _, World.drewN_drewN _ _ _⟩ | exact ⟨rfl, _, Eq.trans (World.drewN_drewN _ _ _) (congrArg (World.drewN _) (Nat.add_assoc _ _ _))⟩))); try go_wp2_with (first | (go_at_call 9; (with_reducible refine (zby.calls k _ _ l0 t460 t461 _ ?side1 ?side2 A3.out).mono ?_); (case side1 => exact Zq17 HR0); (case side2 => exact HC0.out); rintro e w61 ⟨v462, rfl, ho0, hb⟩; have n0_ := za.mk (Kd.zcj ho0 (zu (Zq1 HB))); have n1_ := za.mk (zl (Zq1 HB) hb); clear HB; have HO463 := n0_; have HB := n1_; clear n0_ n1_; (try clear hb); (try clear hb2); (try clear hk); (try clear hi); (try clear ho0); obtain ⟨Ao62, co62, eo62⟩ := Kd.zck HO463.out; subst eo62) | (go_at_call 10; (with_reducible refine (zbp.calls k _ _ t460 t461 t464 _ ?side1 ?side2 A4.out).mono ?_); (case side1 => exact Zq18 ((Kd.zz HO463.out).2.2)); (case side2 => exact (Kd.zz HO463.out).2.1); rintro e w63 ⟨v465, rfl, ho0, hb⟩; have n0_ := za.mk (Kd.zb7 (Zq12 HO463) hb); have n1_ := za.mk (Kd.zcp ho0 (zu (Zq1 HB))); have n2_ := za.mk (zl (Zq1 HB) hb); clear HO463; clear HB; have HO463 := n0_; have HO466 := n1_; have HB := n2_; clear n0_ n1_ n2_; (try clear hb); (try clear hb2); (try clear hk); (try clear hi); (try clear ho0)) | (go_at_call 12; (with_reducible refine (zo.calls k _ _ t460 t461 t467 _ ?side1 ?side2 A5.out).mono ?_); (case side1 => exact Zq18 ((Kd.zz HO463.out).2.2)); (case side2 => exact (Kd.zz HO463.out).2.1); rintro e w64 ⟨v468, rfl, ho0, hb⟩; replace ho0 := Kd.zd6 ho0; have n0_ := za.mk (Kd.zb7 (Zq12 HO463) hb); have n1_ := za.mk (Kd.zcu (Zq21 HO466) (Kd.zd5 ho0) hb); have n2_ := za.mk (Kd.zcp (Kd.zd4 ho0 (Kd.zf9 (Zq21 HO466))) (zu (Zq1 HB))); have n3_ := za.mk (zl (Zq1 HB) hb); clear HO463; clear HO466; clear HB; have HO463 := n0_; have HO466 := n1_; have HO469 := n2_; have HB := n3_; clear n0_ n1_ n2_ n3_; (try clear hb); (try clear hb2); (try clear hk); (try clear hi); (try clear ho0); obtain ⟨Ao65, co65, eo65⟩ := Kd.zcr HO466.out; subst eo65; obtain ⟨Ao66, co66, eo66⟩ := Kd.zcr HO469.out; subst eo66) | (go_at_call 11; (with_reducible refine (zbq.calls k _ _ t464 _ _ t467 false _ ?side1 ?side2 ?side3 ?side4 A6.out).mono ?_); (case side1 => exact Zq18 ((Kd.zbo HO466.out).2.2)); (case side2 => exact (Kd.zbo HO466.out).2.1); (case side3 => exact Zq18 ((Kd.zbo HO469.out).2.2)); (case side4 => exact (Kd.zbo HO469.out).2.1); rintro e w' ⟨rfl, ⟨nd, rfl⟩⟩; (try first | exact ⟨rfl, _, World.drewN_drewN _ _ _⟩ | exact ⟨rfl, _, Eq.trans (World.drewN_drewN _ _ _) (congrArg (World.drewN _) (Nat.add_assoc _ _ _))⟩))))
   go_ret;exact ⟨by first | rfl | (simp [zq, zt] <;> rfl) | (simp [*, zq, zt] <;> rfl), Zq1 HB⟩
def laws_FnFairRows.Pure : Prop := ∀ (l0 : List Int), l0.length * 1 ≤ 140737488351232 → (l0.length ≤ maxLen ∧ ∀ y0 ∈ l0, (Lit.int .u8 y0).wf = true) → ∃ k, laws_FnFairRows.f k l0 = some true
end Go.Proofs.Ytnilnaabjpcfjaa.P
namespace Go.Proofs.Ytnilnaabjpcfjaa.Base
open Go.RowKit Go.Proofs.Ytnilnaabjpcfjaa.P Go.Proofs.YtnilnaabjpcfjaaW.PrintWords Go.Proofs.YtnilnaabjpcfjaaW.PrintLast Go.Proofs.YtnilnaabjpcfjaaW.PrintMore
theorem w64 {x : Int} (h0 : -9223372036854775808 ≤ x) (h1 : x < 9223372036854775808) : wrap64 x = x := by unfold wrap64; omega
theorem zhk {a b A B : Int} (ha : 0 ≤ a) (hA : a ≤ A) (hb : 0 ≤ b) (hB : b ≤ B) : 0 ≤ a * b ∧ a * b ≤ A * B :=
  ⟨Int.mul_nonneg ha hb, Int.mul_le_mul hA hB hb (by omega)⟩
theorem in_f (a b c : Int) : zdf.f a b c = some (decide (b ≤ a ∧ a ≤ c)) := by
  unfold zdf.f
  by_cases h : a ≥ b
  · rw [if_pos h]; simp [show b ≤ a from h]
  · rw [if_neg h]; simp [show ¬ b ≤ a from h]
theorem l1In_f (a b c : Int) : zcg.f a b c = some (decide (b ≤ a ∧ a ≤ c)) := by
  unfold zcg.f
  by_cases h : a ≥ b
  · rw [if_pos h]; simp [show b ≤ a from h]
  · rw [if_neg h]; simp [show ¬ b ≤ a from h]
theorem zfp {α : Type} (p : Prop) [Decidable p] (x y : Option α) : (some (decide p)).bind (fun t => if t = true then x else y) = if p then x else y := by
  by_cases hp : p <;> simp [hp]
theorem zga {a b : Int} (h : 0 ≤ a) : Int.tdiv a b = a / b := Int.tdiv_eq_ediv_of_nonneg h
end Go.Proofs.Ytnilnaabjpcfjaa.Base
namespace Go.Proofs.Ytnilnaabjpcfjaa.Alive
open Go.RowKit Go.Proofs.Ytnilnaabjpcfjaa.P Go.Proofs.Ytnilnaabjpcfjaa.Base Go.Proofs.YtnilnaabjpcfjaaW.PrintWords Go.Proofs.YtnilnaabjpcfjaaW.PrintLast
def TV (c d p : Int) : Prop := 1 ≤ c ∧ c ≤ 8 ∧ c ≤ d ∧ d ≤ p ∧ p ≤ 12
instance (c d p : Int) : Decidable (TV c d p) := by unfold TV; infer_instance
theorem task_f (c d p : Int) : zcq.f c d p = some (decide (TV c d p)) := by
  unfold zcq.f
  rw [in_f, in_f, zfp, zfp]
  by_cases h1 : 1 ≤ c ∧ c ≤ 8
  · by_cases h2 : c ≤ d ∧ d ≤ p
    · rw [if_pos h1, if_pos h2]; congr 1; rw [decide_eq_decide]; unfold TV; omega
    · rw [if_pos h1, if_neg h2]; congr 1; symm; rw [decide_eq_false_iff_not]; unfold TV; omega
  · rw [if_neg h1]; congr 1; symm; rw [decide_eq_false_iff_not]; unfold TV; omega
theorem alive_f : zcx.f = some true := by
  unfold zcx.f
  rw [task_f]; rfl
end Go.Proofs.Ytnilnaabjpcfjaa.Alive
namespace Go.Proofs.Ytnilnaabjpcfjaa.Win
open Go.RowKit Go.Proofs.Ytnilnaabjpcfjaa.P Go.Proofs.Ytnilnaabjpcfjaa.Base Go.Proofs.Ytnilnaabjpcfjaa.Alive Go.Proofs.YtnilnaabjpcfjaaW.PrintWords Go.Proofs.YtnilnaabjpcfjaaW.PrintLast
def wr (c p k : Int) : Int := k * p / c
def wd (c p k : Int) : Int := ((k + 1) * p + c - 1) / c
theorem div_sp {x c : Int} (hc : 1 ≤ c) : x / c * c ≤ x ∧ x < x / c * c + c := by
  have h3 := Int.mul_ediv_add_emod x c
  have h4 := Int.emod_nonneg x (show c ≠ 0 by omega)
  have h5 := Int.emod_lt_of_pos x (show 0 < c by omega)
  rw [Int.mul_comm] at h3
  omega
theorem wr_sp {c p k : Int} (hc : 1 ≤ c) : wr c p k * c ≤ k * p ∧ k * p < wr c p k * c + c := div_sp hc
theorem wd_sp {c p k : Int} (hc : 1 ≤ c) : (k + 1) * p ≤ wd c p k * c ∧ wd c p k * c < (k + 1) * p + c := by
  have := div_sp (x := (k + 1) * p + c - 1) hc
  unfold wd; omega
theorem wr_bd {c p k : Int} (hc : 1 ≤ c) (hp : 0 ≤ p) (hp2 : p ≤ 12) (hk : 0 ≤ k) (hk2 : k ≤ 2000000) : 0 ≤ k * p ∧ k * p ≤ 24000000 ∧ 0 ≤ wr c p k ∧ wr c p k ≤ 24000000 := by
  have h := zhk (a := k) (b := p) (A := 2000000) (B := 12) hk hk2 hp hp2
  have h0 := Int.ediv_nonneg h.1 (show 0 ≤ c by omega)
  have h1 := Int.ediv_le_self c h.1
  unfold wr; omega
theorem wd_bd {c p k : Int} (hc : 1 ≤ c) (hc2 : c ≤ 8) (hp : 0 ≤ p) (hp2 : p ≤ 12) (hk : 0 ≤ k) (hk2 : k ≤ 2000000) : 0 ≤ (k + 1) * p ∧ (k + 1) * p ≤ 24000012 ∧ 0 ≤ wd c p k ∧ wd c p k ≤ 24000100 := by
  have h := zhk (a := k + 1) (b := p) (A := 2000001) (B := 12) (by omega) (by omega) hp hp2
  have h0 := Int.ediv_nonneg (show 0 ≤ (k + 1) * p + c - 1 by omega) (show 0 ≤ c by omega)
  have h1 := Int.ediv_le_self c (show 0 ≤ (k + 1) * p + c - 1 by omega)
  unfold wd; omega
theorem zjf {c d p k : Int} (hv : TV c d p) (hk : 0 ≤ k) (hk2 : k ≤ 2000000) : zbr.f c d p k = some (wr c p k, wd c p k) := by
  unfold TV at hv
  have h1 := wr_bd (c := c) (p := p) (k := k) (by omega) (by omega) (by omega) hk hk2
  have h2 := wd_bd (c := c) (p := p) (k := k) (by omega) (by omega) (by omega) (by omega) hk hk2
  unfold zbr.f zed.f
  rw [if_neg (by omega), if_neg (by omega)]
  simp only [Option.bind_some]
  rw [w64 (x := k + 1) (by omega) (by omega), w64 (x := (k + 1) * p) (by omega) (by omega), w64 (x := k * p) (by omega) (by omega), w64 (x := (k + 1) * p + c) (by omega) (by omega), w64 (x := (k + 1) * p + c - 1) (by omega) (by omega), zga (by omega), zga (by omega)]
  show some (wrap64 (wr c p k), wrap64 (wd c p k)) = _
  rw [w64 (by omega) (by omega), w64 (by omega) (by omega)]
theorem zf6 {c d p k : Int} (hv : TV c d p) (hk : 0 ≤ k) (hk2 : k ≤ 2000000) : zbb.f c d p k = some (wr c p k, wd c p k) := by
  unfold TV at hv
  have h1 := wr_bd (c := c) (p := p) (k := k) (by omega) (by omega) (by omega) hk hk2
  have h2 := wd_bd (c := c) (p := p) (k := k) (by omega) (by omega) (by omega) (by omega) hk hk2
  unfold zbb.f
  rw [if_neg (by omega)]
  rw [w64 (x := k + 1) (by omega) (by omega), w64 (x := (k + 1) * p) (by omega) (by omega), w64 (x := k * p) (by omega) (by omega), w64 (x := (k + 1) * p + c) (by omega) (by omega), w64 (x := (k + 1) * p + c - 1) (by omega) (by omega), zga (by omega), zga (by omega)]
  show some (wrap64 (wr c p k), wrap64 (wd c p k)) = _
  rw [w64 (by omega) (by omega), w64 (by omega) (by omega)]
end Go.Proofs.Ytnilnaabjpcfjaa.Win
namespace Go.Proofs.Ytnilnaabjpcfjaa.Set
open Go.RowKit Go.Proofs.Ytnilnaabjpcfjaa.P Go.Proofs.Ytnilnaabjpcfjaa.Base Go.Proofs.Ytnilnaabjpcfjaa.Alive Go.Proofs.YtnilnaabjpcfjaaW.PrintWords Go.Proofs.YtnilnaabjpcfjaaW.PrintLast
abbrev Task := S35
def TVt (t : Task) : Prop := TV t.f0 t.f1 t.f2
instance (t : Task) : Decidable (TVt t) := by unfold TVt; infer_instance
def zew (l : List Task) : Prop := l.length ≤ 5 ∧ ∀ t ∈ l, TVt t
instance (l : List Task) : Decidable (zew l) := by unfold zew; infer_instance
def Impl (l : List Task) : Prop := zew l ∧ ∀ t ∈ l, t.f1 = t.f2
instance (l : List Task) : Decidable (Impl l) := by unfold Impl; infer_instance
theorem taskOk_iff (t : Task) : taskOk t = decide (TVt t) := by
  unfold taskOk
  rw [decide_eq_decide]; unfold TVt TV; omega
theorem zjg (l : List Task) : zc4.f l = some (decide (¬ ∀ t ∈ l, TVt t)) := by
  unfold zc4.f
  congr 1
  rw [Bool.eq_iff_iff, List.any_eq_true]
  simp [zc4.bad, taskOk_iff]
theorem set_f (l : List Task) : zc8.f l = some (decide (zew l)) := by
  unfold zc8.f
  by_cases h : (l.length : Int) ≤ 5
  · rw [if_pos h, zjg]
    simp only [Option.bind_some]
    congr 1
    rw [Bool.eq_iff_iff]
    unfold zew
    have : l.length ≤ 5 := by omega
    simp [this]
  · rw [if_neg h]
    congr 1; symm; rw [decide_eq_false_iff_not]
    unfold zew; omega
theorem any_late_f (l : List Task) : zc7.f l = some (decide (¬ ∀ t ∈ l, t.f1 = t.f2)) := by
  unfold zc7.f
  congr 1
  rw [Bool.eq_iff_iff, List.any_eq_true]
  simp [zc7.bad]
theorem impl_f (l : List Task) : zc2.f l = some (decide (Impl l)) := by
  unfold zc2.f
  rw [set_f, zfp, any_late_f]
  simp only [Option.bind_some]
  by_cases h : zew l
  · rw [if_pos h]
    congr 1
    rw [Bool.eq_iff_iff]
    unfold Impl
    simp [h]
  · rw [if_neg h]
    congr 1; symm; rw [decide_eq_false_iff_not]
    exact fun h' => h h'.1
end Go.Proofs.Ytnilnaabjpcfjaa.Set
