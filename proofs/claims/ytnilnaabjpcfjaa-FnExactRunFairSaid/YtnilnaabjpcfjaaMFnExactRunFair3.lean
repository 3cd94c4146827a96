/- The law FnExactRunFair for every input, part 3 of its proof: what the program's functions answer, and the plain law. No condition. -/
import Derived.Test.YtnilnaabjpcfjaaMFnExactRunFair1
import Derived.Test.YtnilnaabjpcfjaaMFnExactRunFair2
set_option maxRecDepth 100000
namespace Go.Proofs.Ytnilnaabjpcfjaa.P
open Go.RowKit Go.Proofs.YtnilnaabjpcfjaaW.PrintWords Go.Proofs.YtnilnaabjpcfjaaW.PrintLast Go.Proofs.YtnilnaabjpcfjaaW.PrintMore
attribute [local go_sem] ze2 ze3 zf3 zf4 zej zek ze4 ze5
set_option linter.unusedVariables false
set_option linter.unusedSimpArgs false
def zi.f (k : Nat) (l0 : List (S35)) (l1 : List Int) (a2 : Int) (a3 : Int) : Option (Bool) := if 0 ≤ a2 then (if a2 < (l0.length : Int) then (if a2 < (l1.length : Int) then ((zy.f ((zb l0 a2).f0) ((zb l0 a2).f1) ((zb l0 a2).f2) (rd l1 a2)).bind fun bt288 => (if 0 ≤ a3 then (if a3 < (l0.length : Int) then (if a3 < (l1.length : Int) then ((zy.f ((zb l0 a3).f0) ((zb l0 a3).f1) ((zb l0 a3).f2) (rd l1 a3)).bind fun bt292 => (if bt288.2 = bt292.2 then ((zbd.f ((zb l0 a2).f0) ((zb l0 a2).f1) ((zb l0 a2).f2) (rd l1 a2)).bind fun t296 => ((zbd.f ((zb l0 a3).f0) ((zb l0 a3).f1) ((zb l0 a3).f2) (rd l1 a3)).bind fun t299 => (if t296 = t299 then (if t296 = 1 then ((zba.f k ((zb l0 a2).f0) ((zb l0 a2).f1) ((zb l0 a2).f2) (rd l1 a2)).bind fun t302 => ((zba.f k ((zb l0 a3).f0) ((zb l0 a3).f1) ((zb l0 a3).f2) (rd l1 a3)).bind fun t305 => (if t302 = t305 then (some (decide (a2 < a3))) else (some (decide (t302 > t305)))))) else (some (decide (a2 < a3)))) else (some (decide (t296 > t299)))))) else (some (decide (bt288.2 < bt292.2))))) else (none)) else (none)) else (none))) else (none)) else (none)) else (none)
def zi.T1 : Bool × List (List Nat × List Nat) := (true, [([], []), ([], []), ([0, 1], [0, 1]), ([2], [2]), ([], []), ([], []), ([4, 5], [4, 5]), ([6], [6]), ([3, 7], [3, 7]), ([8], [8]), ([9, 8, 0, 1, 2, 3, 4, 5, 6, 7, 8, 9], [9])])
def zi.B1 : List Nat := [0, 0, 3, 7, 0, 0, 48, 112, 255, 511, 1023]
theorem zi.tab1 : rtab .any (opsOf Try.f66 1) = zi.T1 := by kernel_rfl
theorem zi.zd8 : zci zi.T1.2 zi.B1 = true := by kernel_rfl
def zi.T2 : Bool × List (List Nat × List Nat) := (true, [([], []), ([], []), ([0, 1], [0, 1]), ([2], [2]), ([], []), ([], []), ([4, 5], [4, 5]), ([6], [6]), ([3, 7], [3, 7]), ([8], [8]), ([9, 8, 0, 1, 2, 3, 4, 5, 6, 7, 8, 9], [9])])
def zi.B2 : List Nat := [0, 0, 3, 7, 0, 0, 48, 112, 255, 511, 1023]
theorem zi.tab2 : rtab .any (opsOf Try.f66 2) = zi.T2 := by kernel_rfl
theorem zi.bits2 : zci zi.T2.2 zi.B2 = true := by kernel_rfl
def zi.T5 : Bool × List (List Nat × List Nat) := (true, [([], []), ([], []), ([0, 1], [0, 1]), ([2], [2]), ([], []), ([], []), ([4, 5], [4, 5]), ([6], [6]), ([3, 7], [3, 7]), ([8, 8, 0, 1, 2, 3, 4, 5, 6, 7, 8], [8])])
def zi.B5 : List Nat := [0, 0, 3, 7, 0, 0, 48, 112, 255, 511]
theorem zi.tab5 : rtab .any (opsOf Try.f66 5) = zi.T5 := by kernel_rfl
theorem zi.bits5 : zci zi.T5.2 zi.B5 = true := by kernel_rfl
def zi.T6 : Bool × List (List Nat × List Nat) := (true, [([], []), ([], []), ([0, 1], [0, 1]), ([2], [2]), ([], []), ([], []), ([4, 5], [4, 5]), ([6], [6]), ([3, 7], [3, 7]), ([8, 8, 0, 1, 2, 3, 4, 5, 6, 7, 8], [8])])
def zi.B6 : List Nat := [0, 0, 3, 7, 0, 0, 48, 112, 255, 511]
theorem zi.tab6 : rtab .any (opsOf Try.f66 6) = zi.T6 := by kernel_rfl
theorem zi.zil : zci zi.T6.2 zi.B6 = true := by kernel_rfl
def zi.T10 : Bool × List (List Nat × List Nat) := (true, [([], []), ([], []), ([0, 1], [0, 1]), ([2], [2]), ([], []), ([], []), ([4, 5], [4, 5]), ([6], [6]), ([3, 7], [3, 7]), ([8, 8, 0, 1, 2, 3, 4, 5, 6, 7, 8], [8])])
def zi.B10 : List Nat := [0, 0, 3, 7, 0, 0, 48, 112, 255, 511]
theorem zi.tab10 : rtab .any (opsOf Try.f66 10) = zi.T10 := by kernel_rfl
theorem zi.bits10 : zci zi.T10.2 zi.B10 = true := by kernel_rfl
def zi.T11 : Bool × List (List Nat × List Nat) := (true, [([], []), ([], []), ([0, 1], [0, 1]), ([2], [2]), ([], []), ([], []), ([4, 5], [4, 5]), ([6], [6]), ([3, 7], [3, 7]), ([8, 8, 0, 1, 2, 3, 4, 5, 6, 7, 8], [8])])
def zi.B11 : List Nat := [0, 0, 3, 7, 0, 0, 48, 112, 255, 511]
theorem zi.tab11 : rtab .any (opsOf Try.f66 11) = zi.T11 := by kernel_rfl
theorem zi.bits11 : zci zi.T11.2 zi.B11 = true := by kernel_rfl
set_option maxHeartbeats 8000000 in
theorem zi.calls (k : Nat) (A0 : Option Addr) (c0 : Nat) (l0 : List (S35)) (A1 : Option Addr) (c1 : Nat) (l1 : List Int) (a2 : Int) (a3 : Int) (r : Bool) (w : World) (hr0 : Kd.C k35 w A0 l0.length l0) (hc0 : l0.length ≤ c0) (hr1 : Kd.C (Kd.int .i64) w A1 l1.length l1) (hc1 : l1.length ≤ c1) (h : zi.f k l0 l1 a2 a3 = some r) :
  Calls Try.prog 66 #[.slice A0 l0.length c0, .slice A1 l1.length c1, .int .i64 a2, .int .i64 a3] w fun e w' => e = .returned (.bool r) ∧ Below w.heap.size w w' := by
 have hfld39_0 : ∀ (v0_ v1_ : Value) (W : World), (Instr.field 39 (.agg #[v0_, v1_]) 0).run Try.prog W = .ok v0_ W := fun _ _ _ => rfl
 have hfld39_1 : ∀ (v0_ v1_ : Value) (W : World), (Instr.field 39 (.agg #[v0_, v1_]) 1).run Try.prog W = .ok v1_ W := fun _ _ _ => rfl
 have hu35 := Try.underlying35
 have HR0 := za.mk hr0
 have HC0 := za.mk hc0
 clear hr0 hc0
 have HR1 := za.mk hr1
 have HC1 := za.mk hc1
 clear hr1 hc1
 have HB := za.mk (Below.refl w.heap.size w)
 have H : (if 0 ≤ a2 then (if a2 < (l0.length : Int) then (if a2 < (l1.length : Int) then ((zy.f ((zb l0 a2).f0) ((zb l0 a2).f1) ((zb l0 a2).f2) (rd l1 a2)).bind fun bt288 => (if 0 ≤ a3 then (if a3 < (l0.length : Int) then (if a3 < (l1.length : Int) then ((zy.f ((zb l0 a3).f0) ((zb l0 a3).f1) ((zb l0 a3).f2) (rd l1 a3)).bind fun bt292 => (if bt288.2 = bt292.2 then ((zbd.f ((zb l0 a2).f0) ((zb l0 a2).f1) ((zb l0 a2).f2) (rd l1 a2)).bind fun t296 => ((zbd.f ((zb l0 a3).f0) ((zb l0 a3).f1) ((zb l0 a3).f2) (rd l1 a3)).bind fun t299 => (if t296 = t299 then (if t296 = 1 then ((zba.f k ((zb l0 a2).f0) ((zb l0 a2).f1) ((zb l0 a2).f2) (rd l1 a2)).bind fun t302 => ((zba.f k ((zb l0 a3).f0) ((zb l0 a3).f1) ((zb l0 a3).f2) (rd l1 a3)).bind fun t305 => (if t302 = t305 then (some (decide (a2 < a3))) else (some (decide (t302 > t305)))))) else (some (decide (a2 < a3)))) else (some (decide (t296 > t299)))))) else (some (decide (bt288.2 < bt292.2))))) else (none)) else (none)) else (none))) else (none)) else (none)) else (none)) = some r := h
 clear h
 by_cases c5 : 0 ≤ a2
 ·rw [if_pos c5] at H
  have c5b0 : decide (0 ≤ a2) = true := decide_eq_true c5;clear c5;by_cases c6 : a2 < (l0.length : Int)
  ·rw [if_pos c6] at H
   have c6b0 : decide (a2 < (l0.length : Int)) = true := decide_eq_true c6;clear c6;by_cases c7 : a2 < (l1.length : Int)
   ·rw [if_pos c7] at H
    have c7b0 : decide (a2 < (l1.length : Int)) = true := decide_eq_true c7;clear c7;replace H := Option.bind_eq_some_iff.mp H;obtain ⟨⟨t288, t289⟩, A80, H⟩ := H;replace H : (if 0 ≤ a3 then (if a3 < (l0.length : Int) then (if a3 < (l1.length : Int) then ((zy.f ((zb l0 a3).f0) ((zb l0 a3).f1) ((zb l0 a3).f2) (rd l1 a3)).bind fun bt292 => (if t289 = bt292.2 then ((zbd.f ((zb l0 a2).f0) ((zb l0 a2).f1) ((zb l0 a2).f2) (rd l1 a2)).bind fun t296 => ((zbd.f ((zb l0 a3).f0) ((zb l0 a3).f1) ((zb l0 a3).f2) (rd l1 a3)).bind fun t299 => (if t296 = t299 then (if t296 = 1 then ((zba.f k ((zb l0 a2).f0) ((zb l0 a2).f1) ((zb l0 a2).f2) (rd l1 a2)).bind fun t302 => ((zba.f k ((zb l0 a3).f0) ((zb l0 a3).f1) ((zb l0 a3).f2) (rd l1 a3)).bind fun t305 => (if t302 = t305 then (some (decide (a2 < a3))) else (some (decide (t302 > t305)))))) else (some (decide (a2 < a3)))) else (some (decide (t296 > t299)))))) else (some (decide (t289 < bt292.2))))) else (none)) else (none)) else (none)) = some r := H;have A8 := za.mk A80;clear A80;by_cases c9 : 0 ≤ a3
    ·rw [if_pos c9] at H
     have c9b0 : decide (0 ≤ a3) = true := decide_eq_true c9;clear c9;by_cases c10 : a3 < (l0.length : Int)
     ·rw [if_pos c10] at H
      have c10b0 : decide (a3 < (l0.length : Int)) = true := decide_eq_true c10;clear c10;by_cases c11 : a3 < (l1.length : Int)
      ·rw [if_pos c11] at H
       have c11b0 : decide (a3 < (l1.length : Int)) = true := decide_eq_true c11;clear c11;replace H := Option.bind_eq_some_iff.mp H;obtain ⟨⟨t292, t293⟩, A120, H⟩ := H;replace H : (if t289 = t293 then ((zbd.f ((zb l0 a2).f0) ((zb l0 a2).f1) ((zb l0 a2).f2) (rd l1 a2)).bind fun t296 => ((zbd.f ((zb l0 a3).f0) ((zb l0 a3).f1) ((zb l0 a3).f2) (rd l1 a3)).bind fun t299 => (if t296 = t299 then (if t296 = 1 then ((zba.f k ((zb l0 a2).f0) ((zb l0 a2).f1) ((zb l0 a2).f2) (rd l1 a2)).bind fun t302 => ((zba.f k ((zb l0 a3).f0) ((zb l0 a3).f1) ((zb l0 a3).f2) (rd l1 a3)).bind fun t305 => (if t302 = t305 then (some (decide (a2 < a3))) else (some (decide (t302 > t305)))))) else (some (decide (a2 < a3)))) else (some (decide (t296 > t299)))))) else (some (decide (t289 < t293)))) = some r := H;have A12 := za.mk A120;clear A120;by_cases c13 : t289 = t293
       ·rw [if_pos c13] at H
        have c13b0 : (t289 == t293) = true := beq_iff_eq.mpr c13;have c13b1 : (t289 != t293) = false := bne_eq_false_iff_eq.mpr c13;clear c13;replace H := Option.bind_eq_some_iff.mp H;obtain ⟨t296, A140, H⟩ := H;replace H : ((zbd.f ((zb l0 a3).f0) ((zb l0 a3).f1) ((zb l0 a3).f2) (rd l1 a3)).bind fun t299 => (if t296 = t299 then (if t296 = 1 then ((zba.f k ((zb l0 a2).f0) ((zb l0 a2).f1) ((zb l0 a2).f2) (rd l1 a2)).bind fun t302 => ((zba.f k ((zb l0 a3).f0) ((zb l0 a3).f1) ((zb l0 a3).f2) (rd l1 a3)).bind fun t305 => (if t302 = t305 then (some (decide (a2 < a3))) else (some (decide (t302 > t305)))))) else (some (decide (a2 < a3)))) else (some (decide (t296 > t299))))) = some r := H;have A14 := za.mk A140;clear A140;replace H := Option.bind_eq_some_iff.mp H;obtain ⟨t299, A150, H⟩ := H;replace H : (if t296 = t299 then (if t296 = 1 then ((zba.f k ((zb l0 a2).f0) ((zb l0 a2).f1) ((zb l0 a2).f2) (rd l1 a2)).bind fun t302 => ((zba.f k ((zb l0 a3).f0) ((zb l0 a3).f1) ((zb l0 a3).f2) (rd l1 a3)).bind fun t305 => (if t302 = t305 then (some (decide (a2 < a3))) else (some (decide (t302 > t305)))))) else (some (decide (a2 < a3)))) else (some (decide (t296 > t299)))) = some r := H;have A15 := za.mk A150;clear A150;by_cases c16 : t296 = t299
        ·rw [if_pos c16] at H
         have c16b0 : (t296 == t299) = true := beq_iff_eq.mpr c16;have c16b1 : (t296 != t299) = false := bne_eq_false_iff_eq.mpr c16;clear c16;by_cases c17 : t296 = 1
         ·rw [if_pos c17] at H
          have c17b0 : (t296 == 1) = true := beq_iff_eq.mpr c17;have c17b1 : (t296 != 1) = false := bne_eq_false_iff_eq.mpr c17;clear c17;replace H := Option.bind_eq_some_iff.mp H;obtain ⟨t302, A180, H⟩ := H;replace H : ((zba.f k ((zb l0 a3).f0) ((zb l0 a3).f1) ((zb l0 a3).f2) (rd l1 a3)).bind fun t305 => (if t302 = t305 then (some (decide (a2 < a3))) else (some (decide (t302 > t305))))) = some r := H;have A18 := za.mk A180;clear A180;replace H := Option.bind_eq_some_iff.mp H;obtain ⟨t305, A190, H⟩ := H;replace H : (if t302 = t305 then (some (decide (a2 < a3))) else (some (decide (t302 > t305)))) = some r := H;have A19 := za.mk A190;clear A190;by_cases c20 : t302 = t305
          ·rw [if_pos c20] at H
           have c20b0 : (t302 == t305) = true := beq_iff_eq.mpr c20;have c20b1 : (t302 != t305) = false := bne_eq_false_iff_eq.mpr c20;clear c20;obtain rfl := Option.some.inj H;go_enter Try.func66, Try.ntmps66
           try go_wp2
           have n0_ := za.mk (zbe HB.out);clear HB;have HB := n0_;clear n0_;have p286 : 0 ≤ (a2 : Int) := of_decide_eq_true Zas;have q286 : a2 < (l0.length : Int) := of_decide_eq_true Zas;obtain ⟨ad286, e286, hx286_0, hx286_1, hx286_2⟩ := zcc HR0.out a2 p286 q286;have hw286_2 := hx286_2;have hw286_1 := hx286_1;have hw286_0 := hx286_0
           cases e286
           replace hx286_0 := (HB.out.cell (World.block_lt_of_cell? w _ hx286_0)).trans hx286_0;replace hx286_1 := (HB.out.cell (World.block_lt_of_cell? w _ hx286_1)).trans hx286_1;replace hx286_2 := (HB.out.cell (World.block_lt_of_cell? w _ hx286_2)).trans hx286_2;replace p286 := eq_true p286;replace q286 := eq_true q286;have p287 : 0 ≤ (a2 : Int) := of_decide_eq_true Zas;have q287 : a2 < (l1.length : Int) := of_decide_eq_true Zas;obtain ⟨ad287, e287, hx287_0⟩ := Kd.zcb HR1.out a2 p287 q287;have hw287_0 := hx287_0
           cases e287
           replace hx287_0 := (HB.out.cell (World.block_lt_of_cell? w _ hx287_0)).trans hx287_0;replace p287 := eq_true p287;replace q287 := eq_true q287;refine zca (n := 11) (S := fun w' => w'.cell? (ad286.add ((a2).toNat * 3)) = some (.int .i64 ((zb l0 a2).f0)) ∧ w'.cell? ⟨(ad286.add ((a2).toNat * 3)).block, (ad286.add ((a2).toNat * 3)).off + 1, none⟩ = some (.int .i64 ((zb l0 a2).f1)) ∧ w'.cell? ⟨(ad286.add ((a2).toNat * 3)).block, (ad286.add ((a2).toNat * 3)).off + 2, none⟩ = some (.int .i64 ((zb l0 a2).f2)) ∧ w'.cell? (ad287.add (a2).toNat) = some (.int .i64 (rd l1 a2))) (ds := []) #[false, false, false, false, false, false, false, false, false, false, false] (by kernel_rfl) rfl rfl ⟨((HB.out.cell (World.block_lt_of_cell? w _ hw286_0)).trans hw286_0), ((HB.out.cell (World.block_lt_of_cell? w _ hw286_1)).trans hw286_1), ((HB.out.cell (World.block_lt_of_cell? w _ hw286_2)).trans hw286_2), ((HB.out.cell (World.block_lt_of_cell? w _ hw287_0)).trans hw287_0)⟩ (fun hHeld => ?_); refine zbu zi.tab1 zi.zd8 (fun HT_ HW_ => ?_);generalize w.drew = w21 at HB hx286_0 hx286_1 hx286_2 hx287_0 hHeld ⊢;refine zl (i := 0) (N := some 15) (v := ?_) (a' := ?_) #[true, false, false, false, false, false, false, false, false, false, false] rfl rfl (ze HT_.out (by kernel_rfl)) (fun _ _ _ h => h) (Or.inl ⟨by rfl, ?_⟩) ?_ ?_;rotate_left
           ·intro w'
            go_simp;with_reducible rfl
           rotate_left
           ·simp only [Act.put, Zs1, Zs2, Zs3, zg, zh]
            rfl
           refine zl (i := 1) (N := some 16) (v := ?_) (a' := ?_) #[true, true, false, false, false, false, false, false, false, false, false] rfl rfl (ze HT_.out (by kernel_rfl)) (fun _ _ _ h => h) (Or.inl ⟨by rfl, ?_⟩) ?_ ?_;rotate_left
           ·intro w'
            go_simp;with_reducible rfl
           rotate_left
           ·simp only [Act.put, Zs1, Zs2, Zs3, zg, zh]
            rfl
           refine zl (i := 2) (N := some 17) (v := ?_) (a' := ?_) #[true, true, true, false, false, false, false, false, false, false, false] rfl rfl (ze HT_.out (by kernel_rfl)) (fun _ _ _ h => h) (Or.inl ⟨by rfl, ?_⟩) ?_ ?_;rotate_left
           ·intro w'
            go_simp;with_reducible rfl
           rotate_left
           ·simp only [Act.put, Zs1, Zs2, Zs3, zg, zh]
            rfl
           refine zl (i := 4) (N := some 19) (v := ?_) (a' := ?_) #[true, true, true, false, true, false, false, false, false, false, false] rfl rfl (ze HT_.out (by kernel_rfl)) (fun _ _ _ h => h) (Or.inl ⟨by rfl, ?_⟩) ?_ ?_;rotate_left
           ·intro w'
            go_simp;with_reducible rfl
           rotate_left
           ·simp only [Act.put, Zs1, Zs2, Zs3, zg, zh]
            rfl
           refine zl (i := 5) (N := some 20) (v := ?_) (a' := ?_) #[true, true, true, false, true, true, false, false, false, false, false] rfl rfl (ze HT_.out (by kernel_rfl)) (fun _ _ _ h => h) (Or.inl ⟨by rfl, ?_⟩) ?_ ?_;rotate_left
           ·intro w'
            go_simp;with_reducible rfl
           rotate_left
           ·simp only [Act.put, Zs1, Zs2, Zs3, zg, zh]
            rfl
           refine zl (i := 6) (N := some 21) (v := ?_) (a' := ?_) #[true, true, true, false, true, true, true, false, false, false, false] rfl rfl (ze HT_.out (by kernel_rfl)) (fun _ _ _ h => h) (Or.inl ⟨by rfl, ?_⟩) ?_ ?_;rotate_left
           ·intro w'
            go_simp;with_reducible rfl
           rotate_left
           ·simp only [Act.put, Zs1, Zs2, Zs3, zg, zh]
            rfl
           refine zby (i := 3) (N := some 18) (v := ?_) (a' := ?_) #[true, true, true, true, true, true, true, false, false, false, false] rfl rfl (z8 HT_.out HW_.out (by kernel_rfl)) (fun _ _ _ h => h) (Or.inl ⟨by rfl, ?_⟩) hHeld ?_ ?_;rotate_left
           ·rintro w' ⟨s0, s1, s2, s3⟩
            go_simp;with_reducible rfl
           rotate_left
           ·simp only [Act.put, Zs1, Zs2, Zs3, zg, zh]
            rfl
           refine zby (i := 7) (N := some 22) (v := ?_) (a' := ?_) #[true, true, true, true, true, true, true, true, false, false, false] rfl rfl (z8 HT_.out HW_.out (by kernel_rfl)) (fun _ _ _ h => h) (Or.inl ⟨by rfl, ?_⟩) hHeld ?_ ?_;rotate_left
           ·rintro w' ⟨s0, s1, s2, s3⟩
            go_simp;with_reducible rfl
           rotate_left
           ·simp only [Act.put, Zs1, Zs2, Zs3, zg, zh]
            rfl
           refine one_ (i := 8) (N := some 23) #[true, true, true, true, true, true, true, true, true, false, false] rfl rfl (zb2 HT_.out (by kernel_rfl)) (by decide) (fun K hK => ?_);refine zce Try.func64 (by kernel_rfl) rfl #[.agg #[.int .i64 ((zb l0 a2).f0), .int .i64 ((zb l0 a2).f1), .int .i64 ((zb l0 a2).f2)], .int .i64 (rd l1 a2)] (by rfl) rfl rfl Zmt ?_;with_reducible refine (zy.calls ((zb l0 a2).f0) ((zb l0 a2).f1) ((zb l0 a2).f2) (rd l1 a2) t288 t289 _ A8.out).mono ?_
           rintro e w22 ⟨rfl, hb⟩;refine ⟨_, rfl, ?_⟩;have n0_ := za.mk (zk (Zq0 HB) hb);clear HB;have HB := n0_;clear n0_;(try clear hb);(try clear hb2);(try clear hk);(try clear hi);refine hK.out _ _ ⟨((HB.out.cell (World.block_lt_of_cell? w _ hw286_0)).trans hw286_0), ((HB.out.cell (World.block_lt_of_cell? w _ hw286_1)).trans hw286_1), ((HB.out.cell (World.block_lt_of_cell? w _ hw286_2)).trans hw286_2), ((HB.out.cell (World.block_lt_of_cell? w _ hw287_0)).trans hw287_0)⟩ (fun hHeld => ?_);clear hK K;refine zcd (a' := ?_) ?_ ?_;rotate_left
           ·show Act.put _ (some 23) _ = _
            simp only [Act.put, Zs1, Zs2, Zs3, zg, zh];rfl
           refine zl (i := 9) (N := some 24) (v := ?_) (a' := ?_) #[true, true, true, true, true, true, true, true, true, true, false] rfl rfl (ze HT_.out (by kernel_rfl)) (fun _ _ _ h => h) (Or.inl ⟨by rfl, ?_⟩) ?_ ?_;rotate_left
           ·intro w'
            go_simp;with_reducible rfl
           rotate_left
           ·simp only [Act.put, Zs1, Zs2, Zs3, zg, zh]
            rfl
           refine zl (i := 10) (N := some 9) (v := ?_) (a' := ?_) #[true, true, true, true, true, true, true, true, true, true, true] rfl rfl (ze HT_.out (by kernel_rfl)) (fun _ _ _ h => h) (Or.inl ⟨by rfl, ?_⟩) ?_ ?_;rotate_left
           ·intro w'
            go_simp;with_reducible rfl
           rotate_left
           ·simp only [Act.put, Zs1, Zs2, Zs3, zg, zh]
            rfl
           refine zcn (zb3 HT_.out (by kernel_rfl)) ?_
           try go_wp2
           have n0_ := za.mk (zbe HB.out);clear HB;have HB := n0_;clear n0_;have p290 : 0 ≤ (a3 : Int) := of_decide_eq_true Zas;have q290 : a3 < (l0.length : Int) := of_decide_eq_true Zas;obtain ⟨ad290, e290, hx290_0, hx290_1, hx290_2⟩ := zcc HR0.out a3 p290 q290;have hw290_2 := hx290_2;have hw290_1 := hx290_1;have hw290_0 := hx290_0;obtain rfl : ad286 = ad290 := (by injection e290);replace hx290_0 := (HB.out.cell (World.block_lt_of_cell? w _ hx290_0)).trans hx290_0;replace hx290_1 := (HB.out.cell (World.block_lt_of_cell? w _ hx290_1)).trans hx290_1;replace hx290_2 := (HB.out.cell (World.block_lt_of_cell? w _ hx290_2)).trans hx290_2;replace p290 := eq_true p290;replace q290 := eq_true q290;have p291 : 0 ≤ (a3 : Int) := of_decide_eq_true Zas;have q291 : a3 < (l1.length : Int) := of_decide_eq_true Zas;obtain ⟨ad291, e291, hx291_0⟩ := Kd.zcb HR1.out a3 p291 q291;have hw291_0 := hx291_0;obtain rfl : ad287 = ad291 := (by injection e291);replace hx291_0 := (HB.out.cell (World.block_lt_of_cell? w _ hx291_0)).trans hx291_0;replace p291 := eq_true p291;replace q291 := eq_true q291;refine zca (n := 11) (S := fun w' => w'.cell? (ad286.add ((a3).toNat * 3)) = some (.int .i64 ((zb l0 a3).f0)) ∧ w'.cell? ⟨(ad286.add ((a3).toNat * 3)).block, (ad286.add ((a3).toNat * 3)).off + 1, none⟩ = some (.int .i64 ((zb l0 a3).f1)) ∧ w'.cell? ⟨(ad286.add ((a3).toNat * 3)).block, (ad286.add ((a3).toNat * 3)).off + 2, none⟩ = some (.int .i64 ((zb l0 a3).f2)) ∧ w'.cell? (ad287.add (a3).toNat) = some (.int .i64 (rd l1 a3))) (ds := []) #[false, false, false, false, false, false, false, false, false, false, false] (by kernel_rfl) rfl rfl ⟨((HB.out.cell (World.block_lt_of_cell? w _ hw290_0)).trans hw290_0), ((HB.out.cell (World.block_lt_of_cell? w _ hw290_1)).trans hw290_1), ((HB.out.cell (World.block_lt_of_cell? w _ hw290_2)).trans hw290_2), ((HB.out.cell (World.block_lt_of_cell? w _ hw291_0)).trans hw291_0)⟩ (fun hHeld => ?_); refine zbu zi.tab2 zi.bits2 (fun HT_ HW_ => ?_);generalize w22.drew = w23 at HB hx290_0 hx290_1 hx290_2 hx291_0 hHeld ⊢;refine zl (i := 0) (N := some 25) (v := ?_) (a' := ?_) #[true, false, false, false, false, false, false, false, false, false, false] rfl rfl (ze HT_.out (by kernel_rfl)) (fun _ _ _ h => h) (Or.inl ⟨by rfl, ?_⟩) ?_ ?_;rotate_left
           ·intro w'
            go_simp;with_reducible rfl
           rotate_left
           ·simp only [Act.put, Zs1, Zs2, Zs3, zg, zh]
            rfl
           refine zl (i := 1) (N := some 26) (v := ?_) (a' := ?_) #[true, true, false, false, false, false, false, false, false, false, false] rfl rfl (ze HT_.out (by kernel_rfl)) (fun _ _ _ h => h) (Or.inl ⟨by rfl, ?_⟩) ?_ ?_;rotate_left
           ·intro w'
            go_simp;with_reducible rfl
           rotate_left
           ·simp only [Act.put, Zs1, Zs2, Zs3, zg, zh]
            rfl
           refine zl (i := 2) (N := some 27) (v := ?_) (a' := ?_) #[true, true, true, false, false, false, false, false, false, false, false] rfl rfl (ze HT_.out (by kernel_rfl)) (fun _ _ _ h => h) (Or.inl ⟨by rfl, ?_⟩) ?_ ?_;rotate_left
           ·intro w'
            go_simp;with_reducible rfl
           rotate_left
           ·simp only [Act.put, Zs1, Zs2, Zs3, zg, zh]
            rfl
           refine zl (i := 4) (N := some 29) (v := ?_) (a' := ?_) #[true, true, true, false, true, false, false, false, false, false, false] rfl rfl (ze HT_.out (by kernel_rfl)) (fun _ _ _ h => h) (Or.inl ⟨by rfl, ?_⟩) ?_ ?_;rotate_left
           ·intro w'
            go_simp;with_reducible rfl
           rotate_left
           ·simp only [Act.put, Zs1, Zs2, Zs3, zg, zh]
            rfl
           refine zl (i := 5) (N := some 30) (v := ?_) (a' := ?_) #[true, true, true, false, true, true, false, false, false, false, false] rfl rfl (ze HT_.out (by kernel_rfl)) (fun _ _ _ h => h) (Or.inl ⟨by rfl, ?_⟩) ?_ ?_;rotate_left
           ·intro w'
            go_simp;with_reducible rfl
           rotate_left
           ·simp only [Act.put, Zs1, Zs2, Zs3, zg, zh]
            rfl
           refine zl (i := 6) (N := some 31) (v := ?_) (a' := ?_) #[true, true, true, false, true, true, true, false, false, false, false] rfl rfl (ze HT_.out (by kernel_rfl)) (fun _ _ _ h => h) (Or.inl ⟨by rfl, ?_⟩) ?_ ?_;rotate_left
           ·intro w'
            go_simp;with_reducible rfl
           rotate_left
           ·simp only [Act.put, Zs1, Zs2, Zs3, zg, zh]
            rfl
           refine zby (i := 3) (N := some 28) (v := ?_) (a' := ?_) #[true, true, true, true, true, true, true, false, false, false, false] rfl rfl (z8 HT_.out HW_.out (by kernel_rfl)) (fun _ _ _ h => h) (Or.inl ⟨by rfl, ?_⟩) hHeld ?_ ?_;rotate_left
           ·rintro w' ⟨s0, s1, s2, s3⟩
            go_simp;with_reducible rfl
           rotate_left
           ·simp only [Act.put, Zs1, Zs2, Zs3, zg, zh]
            rfl
           refine zby (i := 7) (N := some 32) (v := ?_) (a' := ?_) #[true, true, true, true, true, true, true, true, false, false, false] rfl rfl (z8 HT_.out HW_.out (by kernel_rfl)) (fun _ _ _ h => h) (Or.inl ⟨by rfl, ?_⟩) hHeld ?_ ?_;rotate_left
           ·rintro w' ⟨s0, s1, s2, s3⟩
            go_simp;with_reducible rfl
           rotate_left
           ·simp only [Act.put, Zs1, Zs2, Zs3, zg, zh]
            rfl
           refine one_ (i := 8) (N := some 33) #[true, true, true, true, true, true, true, true, true, false, false] rfl rfl (zb2 HT_.out (by kernel_rfl)) (by decide) (fun K hK => ?_);refine zce Try.func64 (by kernel_rfl) rfl #[.agg #[.int .i64 ((zb l0 a3).f0), .int .i64 ((zb l0 a3).f1), .int .i64 ((zb l0 a3).f2)], .int .i64 (rd l1 a3)] (by rfl) rfl rfl Zmt ?_;with_reducible refine (zy.calls ((zb l0 a3).f0) ((zb l0 a3).f1) ((zb l0 a3).f2) (rd l1 a3) t292 t293 _ A12.out).mono ?_
           rintro e w24 ⟨rfl, hb⟩;refine ⟨_, rfl, ?_⟩;have n0_ := za.mk (zk (Zq0 HB) hb);clear HB;have HB := n0_;clear n0_;(try clear hb);(try clear hb2);(try clear hk);(try clear hi);refine hK.out _ _ ⟨((HB.out.cell (World.block_lt_of_cell? w _ hw290_0)).trans hw290_0), ((HB.out.cell (World.block_lt_of_cell? w _ hw290_1)).trans hw290_1), ((HB.out.cell (World.block_lt_of_cell? w _ hw290_2)).trans hw290_2), ((HB.out.cell (World.block_lt_of_cell? w _ hw291_0)).trans hw291_0)⟩ (fun hHeld => ?_);clear hK K;refine zcd (a' := ?_) ?_ ?_;rotate_left
           ·show Act.put _ (some 33) _ = _
            simp only [Act.put, Zs1, Zs2, Zs3, zg, zh];rfl
           refine zl (i := 9) (N := some 34) (v := ?_) (a' := ?_) #[true, true, true, true, true, true, true, true, true, true, false] rfl rfl (ze HT_.out (by kernel_rfl)) (fun _ _ _ h => h) (Or.inl ⟨by rfl, ?_⟩) ?_ ?_;rotate_left
           ·intro w'
            go_simp;with_reducible rfl
           rotate_left
           ·simp only [Act.put, Zs1, Zs2, Zs3, zg, zh]
            rfl
           refine zl (i := 10) (N := some 10) (v := ?_) (a' := ?_) #[true, true, true, true, true, true, true, true, true, true, true] rfl rfl (ze HT_.out (by kernel_rfl)) (fun _ _ _ h => h) (Or.inl ⟨by rfl, ?_⟩) ?_ ?_;rotate_left
           ·intro w'
            go_simp;with_reducible rfl
           rotate_left
           ·simp only [Act.put, Zs1, Zs2, Zs3, zg, zh]
            rfl
           refine zcn (zb3 HT_.out (by kernel_rfl)) ?_
           try go_wp2
           have n0_ := za.mk (zbe HB.out);clear HB;have HB := n0_;clear n0_;have p294 : 0 ≤ (a2 : Int) := of_decide_eq_true Zas;have q294 : a2 < (l0.length : Int) := of_decide_eq_true Zas;obtain ⟨ad294, e294, hx294_0, hx294_1, hx294_2⟩ := zcc HR0.out a2 p294 q294;have hw294_2 := hx294_2;have hw294_1 := hx294_1;have hw294_0 := hx294_0;obtain rfl : ad286 = ad294 := (by injection e294);replace hx294_0 := (HB.out.cell (World.block_lt_of_cell? w _ hx294_0)).trans hx294_0;replace hx294_1 := (HB.out.cell (World.block_lt_of_cell? w _ hx294_1)).trans hx294_1;replace hx294_2 := (HB.out.cell (World.block_lt_of_cell? w _ hx294_2)).trans hx294_2;replace p294 := eq_true p294;replace q294 := eq_true q294;have p295 : 0 ≤ (a2 : Int) := of_decide_eq_true Zas;have q295 : a2 < (l1.length : Int) := of_decide_eq_true Zas;obtain ⟨ad295, e295, hx295_0⟩ := Kd.zcb HR1.out a2 p295 q295;have hw295_0 := hx295_0;obtain rfl : ad287 = ad295 := (by injection e295);replace hx295_0 := (HB.out.cell (World.block_lt_of_cell? w _ hx295_0)).trans hx295_0;replace p295 := eq_true p295;replace q295 := eq_true q295;refine zca (n := 10) (S := fun w' => w'.cell? (ad286.add ((a2).toNat * 3)) = some (.int .i64 ((zb l0 a2).f0)) ∧ w'.cell? ⟨(ad286.add ((a2).toNat * 3)).block, (ad286.add ((a2).toNat * 3)).off + 1, none⟩ = some (.int .i64 ((zb l0 a2).f1)) ∧ w'.cell? ⟨(ad286.add ((a2).toNat * 3)).block, (ad286.add ((a2).toNat * 3)).off + 2, none⟩ = some (.int .i64 ((zb l0 a2).f2)) ∧ w'.cell? (ad287.add (a2).toNat) = some (.int .i64 (rd l1 a2))) (ds := []) #[false, false, false, false, false, false, false, false, false, false] (by kernel_rfl) rfl rfl ⟨((HB.out.cell (World.block_lt_of_cell? w _ hw294_0)).trans hw294_0), ((HB.out.cell (World.block_lt_of_cell? w _ hw294_1)).trans hw294_1), ((HB.out.cell (World.block_lt_of_cell? w _ hw294_2)).trans hw294_2), ((HB.out.cell (World.block_lt_of_cell? w _ hw295_0)).trans hw295_0)⟩ (fun hHeld => ?_); refine zbu zi.tab5 zi.bits5 (fun HT_ HW_ => ?_);generalize w24.drew = w25 at HB hx294_0 hx294_1 hx294_2 hx295_0 hHeld ⊢;refine zl (i := 0) (N := some 41) (v := ?_) (a' := ?_) #[true, false, false, false, false, false, false, false, false, false] rfl rfl (ze HT_.out (by kernel_rfl)) (fun _ _ _ h => h) (Or.inl ⟨by rfl, ?_⟩) ?_ ?_;rotate_left
           ·intro w'
            go_simp;with_reducible rfl
           rotate_left
           ·simp only [Act.put, Zs1, Zs2, Zs3, zg, zh]
            rfl
           refine zl (i := 1) (N := some 42) (v := ?_) (a' := ?_) #[true, true, false, false, false, false, false, false, false, false] rfl rfl (ze HT_.out (by kernel_rfl)) (fun _ _ _ h => h) (Or.inl ⟨by rfl, ?_⟩) ?_ ?_;rotate_left
           ·intro w'
            go_simp;with_reducible rfl
           rotate_left
           ·simp only [Act.put, Zs1, Zs2, Zs3, zg, zh]
            rfl
           refine zl (i := 2) (N := some 43) (v := ?_) (a' := ?_) #[true, true, true, false, false, false, false, false, false, false] rfl rfl (ze HT_.out (by kernel_rfl)) (fun _ _ _ h => h) (Or.inl ⟨by rfl, ?_⟩) ?_ ?_;rotate_left
           ·intro w'
            go_simp;with_reducible rfl
           rotate_left
           ·simp only [Act.put, Zs1, Zs2, Zs3, zg, zh]
            rfl
           refine zl (i := 4) (N := some 45) (v := ?_) (a' := ?_) #[true, true, true, false, true, false, false, false, false, false] rfl rfl (ze HT_.out (by kernel_rfl)) (fun _ _ _ h => h) (Or.inl ⟨by rfl, ?_⟩) ?_ ?_;rotate_left
           ·intro w'
            go_simp;with_reducible rfl
           rotate_left
           ·simp only [Act.put, Zs1, Zs2, Zs3, zg, zh]
            rfl
           refine zl (i := 5) (N := some 46) (v := ?_) (a' := ?_) #[true, true, true, false, true, true, false, false, false, false] rfl rfl (ze HT_.out (by kernel_rfl)) (fun _ _ _ h => h) (Or.inl ⟨by rfl, ?_⟩) ?_ ?_;rotate_left
           ·intro w'
            go_simp;with_reducible rfl
           rotate_left
           ·simp only [Act.put, Zs1, Zs2, Zs3, zg, zh]
            rfl
           refine zl (i := 6) (N := some 47) (v := ?_) (a' := ?_) #[true, true, true, false, true, true, true, false, false, false] rfl rfl (ze HT_.out (by kernel_rfl)) (fun _ _ _ h => h) (Or.inl ⟨by rfl, ?_⟩) ?_ ?_;rotate_left
           ·intro w'
            go_simp;with_reducible rfl
           rotate_left
           ·simp only [Act.put, Zs1, Zs2, Zs3, zg, zh]
            rfl
           refine zby (i := 3) (N := some 44) (v := ?_) (a' := ?_) #[true, true, true, true, true, true, true, false, false, false] rfl rfl (z8 HT_.out HW_.out (by kernel_rfl)) (fun _ _ _ h => h) (Or.inl ⟨by rfl, ?_⟩) hHeld ?_ ?_;rotate_left
           ·rintro w' ⟨s0, s1, s2, s3⟩
            go_simp;with_reducible rfl
           rotate_left
           ·simp only [Act.put, Zs1, Zs2, Zs3, zg, zh]
            rfl
           refine zby (i := 7) (N := some 48) (v := ?_) (a' := ?_) #[true, true, true, true, true, true, true, true, false, false] rfl rfl (z8 HT_.out HW_.out (by kernel_rfl)) (fun _ _ _ h => h) (Or.inl ⟨by rfl, ?_⟩) hHeld ?_ ?_;rotate_left
           ·rintro w' ⟨s0, s1, s2, s3⟩
            go_simp;with_reducible rfl
           rotate_left
           ·simp only [Act.put, Zs1, Zs2, Zs3, zg, zh]
            rfl
           refine one_ (i := 8) (N := some 49) #[true, true, true, true, true, true, true, true, true, false] rfl rfl (zb2 HT_.out (by kernel_rfl)) (by decide) (fun K hK => ?_);refine zce Try.func76 (by kernel_rfl) rfl #[.agg #[.int .i64 ((zb l0 a2).f0), .int .i64 ((zb l0 a2).f1), .int .i64 ((zb l0 a2).f2)], .int .i64 (rd l1 a2)] (by rfl) rfl rfl Zmt ?_;with_reducible refine (zbd.calls ((zb l0 a2).f0) ((zb l0 a2).f1) ((zb l0 a2).f2) (rd l1 a2) t296 _ A14.out).mono ?_
           rintro e w26 ⟨rfl, hb⟩;refine ⟨_, rfl, ?_⟩;have n0_ := za.mk (zk (Zq0 HB) hb);clear HB;have HB := n0_;clear n0_;(try clear hb);(try clear hb2);(try clear hk);(try clear hi);refine hK.out _ _ ⟨((HB.out.cell (World.block_lt_of_cell? w _ hw294_0)).trans hw294_0), ((HB.out.cell (World.block_lt_of_cell? w _ hw294_1)).trans hw294_1), ((HB.out.cell (World.block_lt_of_cell? w _ hw294_2)).trans hw294_2), ((HB.out.cell (World.block_lt_of_cell? w _ hw295_0)).trans hw295_0)⟩ (fun hHeld => ?_);clear hK K;refine zcd (a' := ?_) ?_ ?_;rotate_left
           ·show Act.put _ (some 49) _ = _
            simp only [Act.put, Zs1, Zs2, Zs3, zg, zh];rfl
           refine zl (i := 9) (N := some 11) (v := ?_) (a' := ?_) #[true, true, true, true, true, true, true, true, true, true] rfl rfl (ze HT_.out (by kernel_rfl)) (fun _ _ _ h => h) (Or.inl ⟨by rfl, ?_⟩) ?_ ?_;rotate_left
           ·intro w'
            go_simp;with_reducible rfl
           rotate_left
           ·simp only [Act.put, Zs1, Zs2, Zs3, zg, zh]
            rfl
           refine zcn (zb3 HT_.out (by kernel_rfl)) ?_
           try go_wp2
           have n0_ := za.mk (zbe HB.out);clear HB;have HB := n0_;clear n0_;have p297 : 0 ≤ (a3 : Int) := of_decide_eq_true Zas;have q297 : a3 < (l0.length : Int) := of_decide_eq_true Zas;obtain ⟨ad297, e297, hx297_0, hx297_1, hx297_2⟩ := zcc HR0.out a3 p297 q297;have hw297_2 := hx297_2;have hw297_1 := hx297_1;have hw297_0 := hx297_0;obtain rfl : ad286 = ad297 := (by injection e297);replace hx297_0 := (HB.out.cell (World.block_lt_of_cell? w _ hx297_0)).trans hx297_0;replace hx297_1 := (HB.out.cell (World.block_lt_of_cell? w _ hx297_1)).trans hx297_1;replace hx297_2 := (HB.out.cell (World.block_lt_of_cell? w _ hx297_2)).trans hx297_2;replace p297 := eq_true p297;replace q297 := eq_true q297;have p298 : 0 ≤ (a3 : Int) := of_decide_eq_true Zas;have q298 : a3 < (l1.length : Int) := of_decide_eq_true Zas;obtain ⟨ad298, e298, hx298_0⟩ := Kd.zcb HR1.out a3 p298 q298;have hw298_0 := hx298_0;obtain rfl : ad287 = ad298 := (by injection e298);replace hx298_0 := (HB.out.cell (World.block_lt_of_cell? w _ hx298_0)).trans hx298_0;replace p298 := eq_true p298;replace q298 := eq_true q298;refine zca (n := 10) (S := fun w' => w'.cell? (ad286.add ((a3).toNat * 3)) = some (.int .i64 ((zb l0 a3).f0)) ∧ w'.cell? ⟨(ad286.add ((a3).toNat * 3)).block, (ad286.add ((a3).toNat * 3)).off + 1, none⟩ = some (.int .i64 ((zb l0 a3).f1)) ∧ w'.cell? ⟨(ad286.add ((a3).toNat * 3)).block, (ad286.add ((a3).toNat * 3)).off + 2, none⟩ = some (.int .i64 ((zb l0 a3).f2)) ∧ w'.cell? (ad287.add (a3).toNat) = some (.int .i64 (rd l1 a3))) (ds := []) #[false, false, false, false, false, false, false, false, false, false] (by kernel_rfl) rfl rfl ⟨((HB.out.cell (World.block_lt_of_cell? w _ hw297_0)).trans hw297_0), ((HB.out.cell (World.block_lt_of_cell? w _ hw297_1)).trans hw297_1), ((HB.out.cell (World.block_lt_of_cell? w _ hw297_2)).trans hw297_2), ((HB.out.cell (World.block_lt_of_cell? w _ hw298_0)).trans hw298_0)⟩ (fun hHeld => ?_); refine zbu zi.tab6 zi.zil (fun HT_ HW_ => ?_);generalize w26.drew = w27 at HB hx297_0 hx297_1 hx297_2 hx298_0 hHeld ⊢;refine zl (i := 0) (N := some 50) (v := ?_) (a' := ?_) #[true, false, false, false, false, false, false, false, false, false] rfl rfl (ze HT_.out (by kernel_rfl)) (fun _ _ _ h => h) (Or.inl ⟨by rfl, ?_⟩) ?_ ?_;rotate_left
           ·intro w'
            go_simp;with_reducible rfl
           rotate_left
           ·simp only [Act.put, Zs1, Zs2, Zs3, zg, zh]
            rfl
           refine zl (i := 1) (N := some 51) (v := ?_) (a' := ?_) #[true, true, false, false, false, false, false, false, false, false] rfl rfl (ze HT_.out (by kernel_rfl)) (fun _ _ _ h => h) (Or.inl ⟨by rfl, ?_⟩) ?_ ?_;rotate_left
           ·intro w'
            go_simp;with_reducible rfl
           rotate_left
           ·simp only [Act.put, Zs1, Zs2, Zs3, zg, zh]
            rfl
           refine zl (i := 2) (N := some 52) (v := ?_) (a' := ?_) #[true, true, true, false, false, false, false, false, false, false] rfl rfl (ze HT_.out (by kernel_rfl)) (fun _ _ _ h => h) (Or.inl ⟨by rfl, ?_⟩) ?_ ?_;rotate_left
           ·intro w'
            go_simp;with_reducible rfl
           rotate_left
           ·simp only [Act.put, Zs1, Zs2, Zs3, zg, zh]
            rfl
           refine zl (i := 4) (N := some 54) (v := ?_) (a' := ?_) #[true, true, true, false, true, false, false, false, false, false] rfl rfl (ze HT_.out (by kernel_rfl)) (fun _ _ _ h => h) (Or.inl ⟨by rfl, ?_⟩) ?_ ?_;rotate_left
           ·intro w'
            go_simp;with_reducible rfl
           rotate_left
           ·simp only [Act.put, Zs1, Zs2, Zs3, zg, zh]
            rfl
           refine zl (i := 5) (N := some 55) (v := ?_) (a' := ?_) #[true, true, true, false, true, true, false, false, false, false] rfl rfl (ze HT_.out (by kernel_rfl)) (fun _ _ _ h => h) (Or.inl ⟨by rfl, ?_⟩) ?_ ?_;rotate_left
           ·intro w'
            go_simp;with_reducible rfl
           rotate_left
           ·simp only [Act.put, Zs1, Zs2, Zs3, zg, zh]
            rfl
           refine zl (i := 6) (N := some 56) (v := ?_) (a' := ?_) #[true, true, true, false, true, true, true, false, false, false] rfl rfl (ze HT_.out (by kernel_rfl)) (fun _ _ _ h => h) (Or.inl ⟨by rfl, ?_⟩) ?_ ?_;rotate_left
           ·intro w'
            go_simp;with_reducible rfl
           rotate_left
           ·simp only [Act.put, Zs1, Zs2, Zs3, zg, zh]
            rfl
           refine zby (i := 3) (N := some 53) (v := ?_) (a' := ?_) #[true, true, true, true, true, true, true, false, false, false] rfl rfl (z8 HT_.out HW_.out (by kernel_rfl)) (fun _ _ _ h => h) (Or.inl ⟨by rfl, ?_⟩) hHeld ?_ ?_;rotate_left
           ·rintro w' ⟨s0, s1, s2, s3⟩
            go_simp;with_reducible rfl
           rotate_left
           ·simp only [Act.put, Zs1, Zs2, Zs3, zg, zh]
            rfl
           refine zby (i := 7) (N := some 57) (v := ?_) (a' := ?_) #[true, true, true, true, true, true, true, true, false, false] rfl rfl (z8 HT_.out HW_.out (by kernel_rfl)) (fun _ _ _ h => h) (Or.inl ⟨by rfl, ?_⟩) hHeld ?_ ?_;rotate_left
           ·rintro w' ⟨s0, s1, s2, s3⟩
            go_simp;with_reducible rfl
           rotate_left
           ·simp only [Act.put, Zs1, Zs2, Zs3, zg, zh]
            rfl
           refine one_ (i := 8) (N := some 58) #[true, true, true, true, true, true, true, true, true, false] rfl rfl (zb2 HT_.out (by kernel_rfl)) (by decide) (fun K hK => ?_);refine zce Try.func76 (by kernel_rfl) rfl #[.agg #[.int .i64 ((zb l0 a3).f0), .int .i64 ((zb l0 a3).f1), .int .i64 ((zb l0 a3).f2)], .int .i64 (rd l1 a3)] (by rfl) rfl rfl Zmt ?_;with_reducible refine (zbd.calls ((zb l0 a3).f0) ((zb l0 a3).f1) ((zb l0 a3).f2) (rd l1 a3) t299 _ A15.out).mono ?_
           rintro e w28 ⟨rfl, hb⟩;refine ⟨_, rfl, ?_⟩;have n0_ := za.mk (zk (Zq0 HB) hb);clear HB;have HB := n0_;clear n0_;(try clear hb);(try clear hb2);(try clear hk);(try clear hi);refine hK.out _ _ ⟨((HB.out.cell (World.block_lt_of_cell? w _ hw297_0)).trans hw297_0), ((HB.out.cell (World.block_lt_of_cell? w _ hw297_1)).trans hw297_1), ((HB.out.cell (World.block_lt_of_cell? w _ hw297_2)).trans hw297_2), ((HB.out.cell (World.block_lt_of_cell? w _ hw298_0)).trans hw298_0)⟩ (fun hHeld => ?_);clear hK K;refine zcd (a' := ?_) ?_ ?_;rotate_left
           ·show Act.put _ (some 58) _ = _
            simp only [Act.put, Zs1, Zs2, Zs3, zg, zh];rfl
           refine zl (i := 9) (N := some 12) (v := ?_) (a' := ?_) #[true, true, true, true, true, true, true, true, true, true] rfl rfl (ze HT_.out (by kernel_rfl)) (fun _ _ _ h => h) (Or.inl ⟨by rfl, ?_⟩) ?_ ?_;rotate_left
           ·intro w'
            go_simp;with_reducible rfl
           rotate_left
           ·simp only [Act.put, Zs1, Zs2, Zs3, zg, zh]
            rfl
           refine zcn (zb3 HT_.out (by kernel_rfl)) ?_
           try go_wp2
           have n0_ := za.mk (zbe HB.out);clear HB;have HB := n0_;clear n0_;have p300 : 0 ≤ (a2 : Int) := of_decide_eq_true Zas;have q300 : a2 < (l0.length : Int) := of_decide_eq_true Zas;obtain ⟨ad300, e300, hx300_0, hx300_1, hx300_2⟩ := zcc HR0.out a2 p300 q300;have hw300_2 := hx300_2;have hw300_1 := hx300_1;have hw300_0 := hx300_0;obtain rfl : ad286 = ad300 := (by injection e300);replace hx300_0 := (HB.out.cell (World.block_lt_of_cell? w _ hx300_0)).trans hx300_0;replace hx300_1 := (HB.out.cell (World.block_lt_of_cell? w _ hx300_1)).trans hx300_1;replace hx300_2 := (HB.out.cell (World.block_lt_of_cell? w _ hx300_2)).trans hx300_2;replace p300 := eq_true p300;replace q300 := eq_true q300;have p301 : 0 ≤ (a2 : Int) := of_decide_eq_true Zas;have q301 : a2 < (l1.length : Int) := of_decide_eq_true Zas;obtain ⟨ad301, e301, hx301_0⟩ := Kd.zcb HR1.out a2 p301 q301;have hw301_0 := hx301_0;obtain rfl : ad287 = ad301 := (by injection e301);replace hx301_0 := (HB.out.cell (World.block_lt_of_cell? w _ hx301_0)).trans hx301_0;replace p301 := eq_true p301;replace q301 := eq_true q301;refine zca (n := 10) (S := fun w' => w'.cell? (ad286.add ((a2).toNat * 3)) = some (.int .i64 ((zb l0 a2).f0)) ∧ w'.cell? ⟨(ad286.add ((a2).toNat * 3)).block, (ad286.add ((a2).toNat * 3)).off + 1, none⟩ = some (.int .i64 ((zb l0 a2).f1)) ∧ w'.cell? ⟨(ad286.add ((a2).toNat * 3)).block, (ad286.add ((a2).toNat * 3)).off + 2, none⟩ = some (.int .i64 ((zb l0 a2).f2)) ∧ w'.cell? (ad287.add (a2).toNat) = some (.int .i64 (rd l1 a2))) (ds := []) #[false, false, false, false, false, false, false, false, false, false] (by kernel_rfl) rfl rfl ⟨((HB.out.cell (World.block_lt_of_cell? w _ hw300_0)).trans hw300_0), ((HB.out.cell (World.block_lt_of_cell? w _ hw300_1)).trans hw300_1), ((HB.out.cell (World.block_lt_of_cell? w _ hw300_2)).trans hw300_2), ((HB.out.cell (World.block_lt_of_cell? w _ hw301_0)).trans hw301_0)⟩ (fun hHeld => ?_); refine zbu zi.tab10 zi.bits10 (fun HT_ HW_ => ?_);generalize w28.drew = w29 at HB hx300_0 hx300_1 hx300_2 hx301_0 hHeld ⊢;refine zl (i := 0) (N := some 67) (v := ?_) (a' := ?_) #[true, false, false, false, false, false, false, false, false, false] rfl rfl (ze HT_.out (by kernel_rfl)) (fun _ _ _ h => h) (Or.inl ⟨by rfl, ?_⟩) ?_ ?_;rotate_left
           ·intro w'
            go_simp;with_reducible rfl
           rotate_left
           ·simp only [Act.put, Zs1, Zs2, Zs3, zg, zh]
            rfl
           refine zl (i := 1) (N := some 68) (v := ?_) (a' := ?_) #[true, true, false, false, false, false, false, false, false, false] rfl rfl (ze HT_.out (by kernel_rfl)) (fun _ _ _ h => h) (Or.inl ⟨by rfl, ?_⟩) ?_ ?_;rotate_left
           ·intro w'
            go_simp;with_reducible rfl
           rotate_left
           ·simp only [Act.put, Zs1, Zs2, Zs3, zg, zh]
            rfl
           refine zl (i := 2) (N := some 69) (v := ?_) (a' := ?_) #[true, true, true, false, false, false, false, false, false, false] rfl rfl (ze HT_.out (by kernel_rfl)) (fun _ _ _ h => h) (Or.inl ⟨by rfl, ?_⟩) ?_ ?_;rotate_left
           ·intro w'
            go_simp;with_reducible rfl
           rotate_left
           ·simp only [Act.put, Zs1, Zs2, Zs3, zg, zh]
            rfl
           refine zl (i := 4) (N := some 71) (v := ?_) (a' := ?_) #[true, true, true, false, true, false, false, false, false, false] rfl rfl (ze HT_.out (by kernel_rfl)) (fun _ _ _ h => h) (Or.inl ⟨by rfl, ?_⟩) ?_ ?_;rotate_left
           ·intro w'
            go_simp;with_reducible rfl
           rotate_left
           ·simp only [Act.put, Zs1, Zs2, Zs3, zg, zh]
            rfl
           refine zl (i := 5) (N := some 72) (v := ?_) (a' := ?_) #[true, true, true, false, true, true, false, false, false, false] rfl rfl (ze HT_.out (by kernel_rfl)) (fun _ _ _ h => h) (Or.inl ⟨by rfl, ?_⟩) ?_ ?_;rotate_left
           ·intro w'
            go_simp;with_reducible rfl
           rotate_left
           ·simp only [Act.put, Zs1, Zs2, Zs3, zg, zh]
            rfl
           refine zl (i := 6) (N := some 73) (v := ?_) (a' := ?_) #[true, true, true, false, true, true, true, false, false, false] rfl rfl (ze HT_.out (by kernel_rfl)) (fun _ _ _ h => h) (Or.inl ⟨by rfl, ?_⟩) ?_ ?_;rotate_left
           ·intro w'
            go_simp;with_reducible rfl
           rotate_left
           ·simp only [Act.put, Zs1, Zs2, Zs3, zg, zh]
            rfl
           refine zby (i := 3) (N := some 70) (v := ?_) (a' := ?_) #[true, true, true, true, true, true, true, false, false, false] rfl rfl (z8 HT_.out HW_.out (by kernel_rfl)) (fun _ _ _ h => h) (Or.inl ⟨by rfl, ?_⟩) hHeld ?_ ?_;rotate_left
           ·rintro w' ⟨s0, s1, s2, s3⟩
            go_simp;with_reducible rfl
           rotate_left
           ·simp only [Act.put, Zs1, Zs2, Zs3, zg, zh]
            rfl
           refine zby (i := 7) (N := some 74) (v := ?_) (a' := ?_) #[true, true, true, true, true, true, true, true, false, false] rfl rfl (z8 HT_.out HW_.out (by kernel_rfl)) (fun _ _ _ h => h) (Or.inl ⟨by rfl, ?_⟩) hHeld ?_ ?_;rotate_left
           ·rintro w' ⟨s0, s1, s2, s3⟩
            go_simp;with_reducible rfl
           rotate_left
           ·simp only [Act.put, Zs1, Zs2, Zs3, zg, zh]
            rfl
           refine one_ (i := 8) (N := some 75) #[true, true, true, true, true, true, true, true, true, false] rfl rfl (zb2 HT_.out (by kernel_rfl)) (by decide) (fun K hK => ?_);refine zce Try.func77 (by kernel_rfl) rfl #[.agg #[.int .i64 ((zb l0 a2).f0), .int .i64 ((zb l0 a2).f1), .int .i64 ((zb l0 a2).f2)], .int .i64 (rd l1 a2)] (by rfl) rfl rfl Zmt ?_;with_reducible refine (zba.calls k ((zb l0 a2).f0) ((zb l0 a2).f1) ((zb l0 a2).f2) (rd l1 a2) t302 _ A18.out).mono ?_
           rintro e w30 ⟨rfl, hb⟩;refine ⟨_, rfl, ?_⟩;have n0_ := za.mk (zk (Zq0 HB) hb);clear HB;have HB := n0_;clear n0_;(try clear hb);(try clear hb2);(try clear hk);(try clear hi);refine hK.out _ _ ⟨((HB.out.cell (World.block_lt_of_cell? w _ hw300_0)).trans hw300_0), ((HB.out.cell (World.block_lt_of_cell? w _ hw300_1)).trans hw300_1), ((HB.out.cell (World.block_lt_of_cell? w _ hw300_2)).trans hw300_2), ((HB.out.cell (World.block_lt_of_cell? w _ hw301_0)).trans hw301_0)⟩ (fun hHeld => ?_);clear hK K;refine zcd (a' := ?_) ?_ ?_;rotate_left
           ·show Act.put _ (some 75) _ = _
            simp only [Act.put, Zs1, Zs2, Zs3, zg, zh];rfl
           refine zl (i := 9) (N := some 13) (v := ?_) (a' := ?_) #[true, true, true, true, true, true, true, true, true, true] rfl rfl (ze HT_.out (by kernel_rfl)) (fun _ _ _ h => h) (Or.inl ⟨by rfl, ?_⟩) ?_ ?_;rotate_left
           ·intro w'
            go_simp;with_reducible rfl
           rotate_left
           ·simp only [Act.put, Zs1, Zs2, Zs3, zg, zh]
            rfl
           refine zcn (zb3 HT_.out (by kernel_rfl)) ?_
           try go_wp2
           have n0_ := za.mk (zbe HB.out);clear HB;have HB := n0_;clear n0_;have p303 : 0 ≤ (a3 : Int) := of_decide_eq_true Zas;have q303 : a3 < (l0.length : Int) := of_decide_eq_true Zas;obtain ⟨ad303, e303, hx303_0, hx303_1, hx303_2⟩ := zcc HR0.out a3 p303 q303;have hw303_2 := hx303_2;have hw303_1 := hx303_1;have hw303_0 := hx303_0;obtain rfl : ad286 = ad303 := (by injection e303);replace hx303_0 := (HB.out.cell (World.block_lt_of_cell? w _ hx303_0)).trans hx303_0;replace hx303_1 := (HB.out.cell (World.block_lt_of_cell? w _ hx303_1)).trans hx303_1;replace hx303_2 := (HB.out.cell (World.block_lt_of_cell? w _ hx303_2)).trans hx303_2;replace p303 := eq_true p303;replace q303 := eq_true q303;have p304 : 0 ≤ (a3 : Int) := of_decide_eq_true Zas;have q304 : a3 < (l1.length : Int) := of_decide_eq_true Zas;obtain ⟨ad304, e304, hx304_0⟩ := Kd.zcb HR1.out a3 p304 q304;have hw304_0 := hx304_0;obtain rfl : ad287 = ad304 := (by injection e304);replace hx304_0 := (HB.out.cell (World.block_lt_of_cell? w _ hx304_0)).trans hx304_0;replace p304 := eq_true p304;replace q304 := eq_true q304;refine zca (n := 10) (S := fun w' => w'.cell? (ad286.add ((a3).toNat * 3)) = some (.int .i64 ((zb l0 a3).f0)) ∧ w'.cell? ⟨(ad286.add ((a3).toNat * 3)).block, (ad286.add ((a3).toNat * 3)).off + 1, none⟩ = some (.int .i64 ((zb l0 a3).f1)) ∧ w'.cell? ⟨(ad286.add ((a3).toNat * 3)).block, (ad286.add ((a3).toNat * 3)).off + 2, none⟩ = some (.int .i64 ((zb l0 a3).f2)) ∧ w'.cell? (ad287.add (a3).toNat) = some (.int .i64 (rd l1 a3))) (ds := []) #[false, false, false, false, false, false, false, false, false, false] (by kernel_rfl) rfl rfl ⟨((HB.out.cell (World.block_lt_of_cell? w _ hw303_0)).trans hw303_0), ((HB.out.cell (World.block_lt_of_cell? w _ hw303_1)).trans hw303_1), ((HB.out.cell (World.block_lt_of_cell? w _ hw303_2)).trans hw303_2), ((HB.out.cell (World.block_lt_of_cell? w _ hw304_0)).trans hw304_0)⟩ (fun hHeld => ?_); refine zbu zi.tab11 zi.bits11 (fun HT_ HW_ => ?_);generalize w30.drew = w31 at HB hx303_0 hx303_1 hx303_2 hx304_0 hHeld ⊢;refine zl (i := 0) (N := some 76) (v := ?_) (a' := ?_) #[true, false, false, false, false, false, false, false, false, false] rfl rfl (ze HT_.out (by kernel_rfl)) (fun _ _ _ h => h) (Or.inl ⟨by rfl, ?_⟩) ?_ ?_;rotate_left
           ·intro w'
            go_simp;with_reducible rfl
           rotate_left
           ·simp only [Act.put, Zs1, Zs2, Zs3, zg, zh]
            rfl
           refine zl (i := 1) (N := some 77) (v := ?_) (a' := ?_) #[true, true, false, false, false, false, false, false, false, false] rfl rfl (ze HT_.out (by kernel_rfl)) (fun _ _ _ h => h) (Or.inl ⟨by rfl, ?_⟩) ?_ ?_;rotate_left
           ·intro w'
            go_simp;with_reducible rfl
           rotate_left
           ·simp only [Act.put, Zs1, Zs2, Zs3, zg, zh]
            rfl
           refine zl (i := 2) (N := some 78) (v := ?_) (a' := ?_) #[true, true, true, false, false, false, false, false, false, false] rfl rfl (ze HT_.out (by kernel_rfl)) (fun _ _ _ h => h) (Or.inl ⟨by rfl, ?_⟩) ?_ ?_;rotate_left
           ·intro w'
            go_simp;with_reducible rfl
           rotate_left
           ·simp only [Act.put, Zs1, Zs2, Zs3, zg, zh]
            rfl
           refine zl (i := 4) (N := some 80) (v := ?_) (a' := ?_) #[true, true, true, false, true, false, false, false, false, false] rfl rfl (ze HT_.out (by kernel_rfl)) (fun _ _ _ h => h) (Or.inl ⟨by rfl, ?_⟩) ?_ ?_;rotate_left
           ·intro w'
            go_simp;with_reducible rfl
           rotate_left
           ·simp only [Act.put, Zs1, Zs2, Zs3, zg, zh]
            rfl
           refine zl (i := 5) (N := some 81) (v := ?_) (a' := ?_) #[true, true, true, false, true, true, false, false, false, false] rfl rfl (ze HT_.out (by kernel_rfl)) (fun _ _ _ h => h) (Or.inl ⟨by rfl, ?_⟩) ?_ ?_;rotate_left
           ·intro w'
            go_simp;with_reducible rfl
           rotate_left
           ·simp only [Act.put, Zs1, Zs2, Zs3, zg, zh]
            rfl
           refine zl (i := 6) (N := some 82) (v := ?_) (a' := ?_) #[true, true, true, false, true, true, true, false, false, false] rfl rfl (ze HT_.out (by kernel_rfl)) (fun _ _ _ h => h) (Or.inl ⟨by rfl, ?_⟩) ?_ ?_;rotate_left
           ·intro w'
            go_simp;with_reducible rfl
           rotate_left
           ·simp only [Act.put, Zs1, Zs2, Zs3, zg, zh]
            rfl
           refine zby (i := 3) (N := some 79) (v := ?_) (a' := ?_) #[true, true, true, true, true, true, true, false, false, false] rfl rfl (z8 HT_.out HW_.out (by kernel_rfl)) (fun _ _ _ h => h) (Or.inl ⟨by rfl, ?_⟩) hHeld ?_ ?_;rotate_left
           ·rintro w' ⟨s0, s1, s2, s3⟩
            go_simp;with_reducible rfl
           rotate_left
           ·simp only [Act.put, Zs1, Zs2, Zs3, zg, zh]
            rfl
           refine zby (i := 7) (N := some 83) (v := ?_) (a' := ?_) #[true, true, true, true, true, true, true, true, false, false] rfl rfl (z8 HT_.out HW_.out (by kernel_rfl)) (fun _ _ _ h => h) (Or.inl ⟨by rfl, ?_⟩) hHeld ?_ ?_;rotate_left
           ·rintro w' ⟨s0, s1, s2, s3⟩
            go_simp;with_reducible rfl
           rotate_left
           ·simp only [Act.put, Zs1, Zs2, Zs3, zg, zh]
            rfl
           refine one_ (i := 8) (N := some 84) #[true, true, true, true, true, true, true, true, true, false] rfl rfl (zb2 HT_.out (by kernel_rfl)) (by decide) (fun K hK => ?_);refine zce Try.func77 (by kernel_rfl) rfl #[.agg #[.int .i64 ((zb l0 a3).f0), .int .i64 ((zb l0 a3).f1), .int .i64 ((zb l0 a3).f2)], .int .i64 (rd l1 a3)] (by rfl) rfl rfl Zmt ?_;with_reducible refine (zba.calls k ((zb l0 a3).f0) ((zb l0 a3).f1) ((zb l0 a3).f2) (rd l1 a3) t305 _ A19.out).mono ?_
           rintro e w32 ⟨rfl, hb⟩;refine ⟨_, rfl, ?_⟩;have n0_ := za.mk (zk (Zq0 HB) hb);clear HB;have HB := n0_;clear n0_;(try clear hb);(try clear hb2);(try clear hk);(try clear hi);refine hK.out _ _ ⟨((HB.out.cell (World.block_lt_of_cell? w _ hw303_0)).trans hw303_0), ((HB.out.cell (World.block_lt_of_cell? w _ hw303_1)).trans hw303_1), ((HB.out.cell (World.block_lt_of_cell? w _ hw303_2)).trans hw303_2), ((HB.out.cell (World.block_lt_of_cell? w _ hw304_0)).trans hw304_0)⟩ (fun hHeld => ?_);clear hK K;refine zcd (a' := ?_) ?_ ?_;rotate_left
           ·show Act.put _ (some 84) _ = _
            simp only [Act.put, Zs1, Zs2, Zs3, zg, zh];rfl
           refine zl (i := 9) (N := some 14) (v := ?_) (a' := ?_) #[true, true, true, true, true, true, true, true, true, true] rfl rfl (ze HT_.out (by kernel_rfl)) (fun _ _ _ h => h) (Or.inl ⟨by rfl, ?_⟩) ?_ ?_;rotate_left
           ·intro w'
            go_simp;with_reducible rfl
           rotate_left
           ·simp only [Act.put, Zs1, Zs2, Zs3, zg, zh]
            rfl
           refine zcn (zb3 HT_.out (by kernel_rfl)) ?_
           try go_wp2
           go_ret;exact ⟨by first | rfl | (simp [zn, zo] <;> rfl) | (simp [*, zn, zo] <;> rfl), Zq0 HB⟩
          ·rw [if_neg c20] at H
           have c20b0 : (t302 == t305) = false := beq_eq_false_iff_ne.mpr c20;have c20b1 : (t302 != t305) = true := bne_iff_ne.mpr c20;obtain rfl := Option.some.inj H;go_enter Try.func66, Try.ntmps66
           try go_wp2
           have n0_ := za.mk (zbe HB.out);clear HB;have HB := n0_;clear n0_;have p286 : 0 ≤ (a2 : Int) := of_decide_eq_true Zas;have q286 : a2 < (l0.length : Int) := of_decide_eq_true Zas;obtain ⟨ad286, e286, hx286_0, hx286_1, hx286_2⟩ := zcc HR0.out a2 p286 q286;have hw286_2 := hx286_2;have hw286_1 := hx286_1;have hw286_0 := hx286_0
           cases e286
           replace hx286_0 := (HB.out.cell (World.block_lt_of_cell? w _ hx286_0)).trans hx286_0;replace hx286_1 := (HB.out.cell (World.block_lt_of_cell? w _ hx286_1)).trans hx286_1;replace hx286_2 := (HB.out.cell (World.block_lt_of_cell? w _ hx286_2)).trans hx286_2;replace p286 := eq_true p286;replace q286 := eq_true q286;have p287 : 0 ≤ (a2 : Int) := of_decide_eq_true Zas;have q287 : a2 < (l1.length : Int) := of_decide_eq_true Zas;obtain ⟨ad287, e287, hx287_0⟩ := Kd.zcb HR1.out a2 p287 q287;have hw287_0 := hx287_0
           cases e287
           replace hx287_0 := (HB.out.cell (World.block_lt_of_cell? w _ hx287_0)).trans hx287_0;replace p287 := eq_true p287;replace q287 := eq_true q287;refine zca (n := 11) (S := fun w' => w'.cell? (ad286.add ((a2).toNat * 3)) = some (.int .i64 ((zb l0 a2).f0)) ∧ w'.cell? ⟨(ad286.add ((a2).toNat * 3)).block, (ad286.add ((a2).toNat * 3)).off + 1, none⟩ = some (.int .i64 ((zb l0 a2).f1)) ∧ w'.cell? ⟨(ad286.add ((a2).toNat * 3)).block, (ad286.add ((a2).toNat * 3)).off + 2, none⟩ = some (.int .i64 ((zb l0 a2).f2)) ∧ w'.cell? (ad287.add (a2).toNat) = some (.int .i64 (rd l1 a2))) (ds := []) #[false, false, false, false, false, false, false, false, false, false, false] (by kernel_rfl) rfl rfl ⟨((HB.out.cell (World.block_lt_of_cell? w _ hw286_0)).trans hw286_0), ((HB.out.cell (World.block_lt_of_cell? w _ hw286_1)).trans hw286_1), ((HB.out.cell (World.block_lt_of_cell? w _ hw286_2)).trans hw286_2), ((HB.out.cell (World.block_lt_of_cell? w _ hw287_0)).trans hw287_0)⟩ (fun hHeld => ?_); refine zbu zi.tab1 zi.zd8 (fun HT_ HW_ => ?_);generalize w.drew = w33 at HB hx286_0 hx286_1 hx286_2 hx287_0 hHeld ⊢;refine zl (i := 0) (N := some 15) (v := ?_) (a' := ?_) #[true, false, false, false, false, false, false, false, false, false, false] rfl rfl (ze HT_.out (by kernel_rfl)) (fun _ _ _ h => h) (Or.inl ⟨by rfl, ?_⟩) ?_ ?_;rotate_left
           ·intro w'
            go_simp;with_reducible rfl
           rotate_left
           ·simp only [Act.put, Zs1, Zs2, Zs3, zg, zh]
            rfl
           refine zl (i := 1) (N := some 16) (v := ?_) (a' := ?_) #[true, true, false, false, false, false, false, false, false, false, false] rfl rfl (ze HT_.out (by kernel_rfl)) (fun _ _ _ h => h) (Or.inl ⟨by rfl, ?_⟩) ?_ ?_;rotate_left
           ·intro w'
            go_simp;with_reducible rfl
           rotate_left
           ·simp only [Act.put, Zs1, Zs2, Zs3, zg, zh]
            rfl
           refine zl (i := 2) (N := some 17) (v := ?_) (a' := ?_) #[true, true, true, false, false, false, false, false, false, false, false] rfl rfl (ze HT_.out (by kernel_rfl)) (fun _ _ _ h => h) (Or.inl ⟨by rfl, ?_⟩) ?_ ?_;rotate_left
           ·intro w'
            go_simp;with_reducible rfl
           rotate_left
           ·simp only [Act.put, Zs1, Zs2, Zs3, zg, zh]
            rfl
           refine zl (i := 4) (N := some 19) (v := ?_) (a' := ?_) #[true, true, true, false, true, false, false, false, false, false, false] rfl rfl (ze HT_.out (by kernel_rfl)) (fun _ _ _ h => h) (Or.inl ⟨by rfl, ?_⟩) ?_ ?_;rotate_left
           ·intro w'
            go_simp;with_reducible rfl
           rotate_left
           ·simp only [Act.put, Zs1, Zs2, Zs3, zg, zh]
            rfl
           refine zl (i := 5) (N := some 20) (v := ?_) (a' := ?_) #[true, true, true, false, true, true, false, false, false, false, false] rfl rfl (ze HT_.out (by kernel_rfl)) (fun _ _ _ h => h) (Or.inl ⟨by rfl, ?_⟩) ?_ ?_;rotate_left
           ·intro w'
            go_simp;with_reducible rfl
           rotate_left
           ·simp only [Act.put, Zs1, Zs2, Zs3, zg, zh]
            rfl
           refine zl (i := 6) (N := some 21) (v := ?_) (a' := ?_) #[true, true, true, false, true, true, true, false, false, false, false] rfl rfl (ze HT_.out (by kernel_rfl)) (fun _ _ _ h => h) (Or.inl ⟨by rfl, ?_⟩) ?_ ?_;rotate_left
           ·intro w'
            go_simp;with_reducible rfl
           rotate_left
           ·simp only [Act.put, Zs1, Zs2, Zs3, zg, zh]
            rfl
           refine zby (i := 3) (N := some 18) (v := ?_) (a' := ?_) #[true, true, true, true, true, true, true, false, false, false, false] rfl rfl (z8 HT_.out HW_.out (by kernel_rfl)) (fun _ _ _ h => h) (Or.inl ⟨by rfl, ?_⟩) hHeld ?_ ?_;rotate_left
           ·rintro w' ⟨s0, s1, s2, s3⟩
            go_simp;with_reducible rfl
           rotate_left
           ·simp only [Act.put, Zs1, Zs2, Zs3, zg, zh]
            rfl
           refine zby (i := 7) (N := some 22) (v := ?_) (a' := ?_) #[true, true, true, true, true, true, true, true, false, false, false] rfl rfl (z8 HT_.out HW_.out (by kernel_rfl)) (fun _ _ _ h => h) (Or.inl ⟨by rfl, ?_⟩) hHeld ?_ ?_;rotate_left
           ·rintro w' ⟨s0, s1, s2, s3⟩
            go_simp;with_reducible rfl
           rotate_left
           ·simp only [Act.put, Zs1, Zs2, Zs3, zg, zh]
            rfl
           refine one_ (i := 8) (N := some 23) #[true, true, true, true, true, true, true, true, true, false, false] rfl rfl (zb2 HT_.out (by kernel_rfl)) (by decide) (fun K hK => ?_);refine zce Try.func64 (by kernel_rfl) rfl #[.agg #[.int .i64 ((zb l0 a2).f0), .int .i64 ((zb l0 a2).f1), .int .i64 ((zb l0 a2).f2)], .int .i64 (rd l1 a2)] (by rfl) rfl rfl Zmt ?_;with_reducible refine (zy.calls ((zb l0 a2).f0) ((zb l0 a2).f1) ((zb l0 a2).f2) (rd l1 a2) t288 t289 _ A8.out).mono ?_
           rintro e w34 ⟨rfl, hb⟩;refine ⟨_, rfl, ?_⟩;have n0_ := za.mk (zk (Zq0 HB) hb);clear HB;have HB := n0_;clear n0_;(try clear hb);(try clear hb2);(try clear hk);(try clear hi);refine hK.out _ _ ⟨((HB.out.cell (World.block_lt_of_cell? w _ hw286_0)).trans hw286_0), ((HB.out.cell (World.block_lt_of_cell? w _ hw286_1)).trans hw286_1), ((HB.out.cell (World.block_lt_of_cell? w _ hw286_2)).trans hw286_2), ((HB.out.cell (World.block_lt_of_cell? w _ hw287_0)).trans hw287_0)⟩ (fun hHeld => ?_);clear hK K;refine zcd (a' := ?_) ?_ ?_;rotate_left
           ·show Act.put _ (some 23) _ = _
            simp only [Act.put, Zs1, Zs2, Zs3, zg, zh];rfl
           refine zl (i := 9) (N := some 24) (v := ?_) (a' := ?_) #[true, true, true, true, true, true, true, true, true, true, false] rfl rfl (ze HT_.out (by kernel_rfl)) (fun _ _ _ h => h) (Or.inl ⟨by rfl, ?_⟩) ?_ ?_;rotate_left
           ·intro w'
            go_simp;with_reducible rfl
           rotate_left
           ·simp only [Act.put, Zs1, Zs2, Zs3, zg, zh]
            rfl
           refine zl (i := 10) (N := some 9) (v := ?_) (a' := ?_) #[true, true, true, true, true, true, true, true, true, true, true] rfl rfl (ze HT_.out (by kernel_rfl)) (fun _ _ _ h => h) (Or.inl ⟨by rfl, ?_⟩) ?_ ?_;rotate_left
           ·intro w'
            go_simp;with_reducible rfl
           rotate_left
           ·simp only [Act.put, Zs1, Zs2, Zs3, zg, zh]
            rfl
           refine zcn (zb3 HT_.out (by kernel_rfl)) ?_
           try go_wp2
           have n0_ := za.mk (zbe HB.out);clear HB;have HB := n0_;clear n0_;have p290 : 0 ≤ (a3 : Int) := of_decide_eq_true Zas;have q290 : a3 < (l0.length : Int) := of_decide_eq_true Zas;obtain ⟨ad290, e290, hx290_0, hx290_1, hx290_2⟩ := zcc HR0.out a3 p290 q290;have hw290_2 := hx290_2;have hw290_1 := hx290_1;have hw290_0 := hx290_0;obtain rfl : ad286 = ad290 := (by injection e290);replace hx290_0 := (HB.out.cell (World.block_lt_of_cell? w _ hx290_0)).trans hx290_0;replace hx290_1 := (HB.out.cell (World.block_lt_of_cell? w _ hx290_1)).trans hx290_1;replace hx290_2 := (HB.out.cell (World.block_lt_of_cell? w _ hx290_2)).trans hx290_2;replace p290 := eq_true p290;replace q290 := eq_true q290;have p291 : 0 ≤ (a3 : Int) := of_decide_eq_true Zas;have q291 : a3 < (l1.length : Int) := of_decide_eq_true Zas;obtain ⟨ad291, e291, hx291_0⟩ := Kd.zcb HR1.out a3 p291 q291;have hw291_0 := hx291_0;obtain rfl : ad287 = ad291 := (by injection e291);replace hx291_0 := (HB.out.cell (World.block_lt_of_cell? w _ hx291_0)).trans hx291_0;replace p291 := eq_true p291;replace q291 := eq_true q291;refine zca (n := 11) (S := fun w' => w'.cell? (ad286.add ((a3).toNat * 3)) = some (.int .i64 ((zb l0 a3).f0)) ∧ w'.cell? ⟨(ad286.add ((a3).toNat * 3)).block, (ad286.add ((a3).toNat * 3)).off + 1, none⟩ = some (.int .i64 ((zb l0 a3).f1)) ∧ w'.cell? ⟨(ad286.add ((a3).toNat * 3)).block, (ad286.add ((a3).toNat * 3)).off + 2, none⟩ = some (.int .i64 ((zb l0 a3).f2)) ∧ w'.cell? (ad287.add (a3).toNat) = some (.int .i64 (rd l1 a3))) (ds := []) #[false, false, false, false, false, false, false, false, false, false, false] (by kernel_rfl) rfl rfl ⟨((HB.out.cell (World.block_lt_of_cell? w _ hw290_0)).trans hw290_0), ((HB.out.cell (World.block_lt_of_cell? w _ hw290_1)).trans hw290_1), ((HB.out.cell (World.block_lt_of_cell? w _ hw290_2)).trans hw290_2), ((HB.out.cell (World.block_lt_of_cell? w _ hw291_0)).trans hw291_0)⟩ (fun hHeld => ?_); refine zbu zi.tab2 zi.bits2 (fun HT_ HW_ => ?_);generalize w34.drew = w35 at HB hx290_0 hx290_1 hx290_2 hx291_0 hHeld ⊢;refine zl (i := 0) (N := some 25) (v := ?_) (a' := ?_) #[true, false, false, false, false, false, false, false, false, false, false] rfl rfl (ze HT_.out (by kernel_rfl)) (fun _ _ _ h => h) (Or.inl ⟨by rfl, ?_⟩) ?_ ?_;rotate_left
           ·intro w'
            go_simp;with_reducible rfl
           rotate_left
           ·simp only [Act.put, Zs1, Zs2, Zs3, zg, zh]
            rfl
           refine zl (i := 1) (N := some 26) (v := ?_) (a' := ?_) #[true, true, false, false, false, false, false, false, false, false, false] rfl rfl (ze HT_.out (by kernel_rfl)) (fun _ _ _ h => h) (Or.inl ⟨by rfl, ?_⟩) ?_ ?_;rotate_left
           ·intro w'
            go_simp;with_reducible rfl
           rotate_left
           ·simp only [Act.put, Zs1, Zs2, Zs3, zg, zh]
            rfl
           refine zl (i := 2) (N := some 27) (v := ?_) (a' := ?_) #[true, true, true, false, false, false, false, false, false, false, false] rfl rfl (ze HT_.out (by kernel_rfl)) (fun _ _ _ h => h) (Or.inl ⟨by rfl, ?_⟩) ?_ ?_;rotate_left
           ·intro w'
            go_simp;with_reducible rfl
           rotate_left
           ·simp only [Act.put, Zs1, Zs2, Zs3, zg, zh]
            rfl
           refine zl (i := 4) (N := some 29) (v := ?_) (a' := ?_) #[true, true, true, false, true, false, false, false, false, false, false] rfl rfl (ze HT_.out (by kernel_rfl)) (fun _ _ _ h => h) (Or.inl ⟨by rfl, ?_⟩) ?_ ?_;rotate_left
           ·intro w'
            go_simp;with_reducible rfl
           rotate_left
           ·simp only [Act.put, Zs1, Zs2, Zs3, zg, zh]
            rfl
           refine zl (i := 5) (N := some 30) (v := ?_) (a' := ?_) #[true, true, true, false, true, true, false, false, false, false, false] rfl rfl (ze HT_.out (by kernel_rfl)) (fun _ _ _ h => h) (Or.inl ⟨by rfl, ?_⟩) ?_ ?_;rotate_left
           ·intro w'
            go_simp;with_reducible rfl
           rotate_left
           ·simp only [Act.put, Zs1, Zs2, Zs3, zg, zh]
            rfl
           refine zl (i := 6) (N := some 31) (v := ?_) (a' := ?_) #[true, true, true, false, true, true, true, false, false, false, false] rfl rfl (ze HT_.out (by kernel_rfl)) (fun _ _ _ h => h) (Or.inl ⟨by rfl, ?_⟩) ?_ ?_;rotate_left
           ·intro w'
            go_simp;with_reducible rfl
           rotate_left
           ·simp only [Act.put, Zs1, Zs2, Zs3, zg, zh]
            rfl
           refine zby (i := 3) (N := some 28) (v := ?_) (a' := ?_) #[true, true, true, true, true, true, true, false, false, false, false] rfl rfl (z8 HT_.out HW_.out (by kernel_rfl)) (fun _ _ _ h => h) (Or.inl ⟨by rfl, ?_⟩) hHeld ?_ ?_;rotate_left
           ·rintro w' ⟨s0, s1, s2, s3⟩
            go_simp;with_reducible rfl
           rotate_left
           ·simp only [Act.put, Zs1, Zs2, Zs3, zg, zh]
            rfl
           refine zby (i := 7) (N := some 32) (v := ?_) (a' := ?_) #[true, true, true, true, true, true, true, true, false, false, false] rfl rfl (z8 HT_.out HW_.out (by kernel_rfl)) (fun _ _ _ h => h) (Or.inl ⟨by rfl, ?_⟩) hHeld ?_ ?_;rotate_left
           ·rintro w' ⟨s0, s1, s2, s3⟩
            go_simp;with_reducible rfl
           rotate_left
           ·simp only [Act.put, Zs1, Zs2, Zs3, zg, zh]
            rfl
           refine one_ (i := 8) (N := some 33) #[true, true, true, true, true, true, true, true, true, false, false] rfl rfl (zb2 HT_.out (by kernel_rfl)) (by decide) (fun K hK => ?_);refine zce Try.func64 (by kernel_rfl) rfl #[.agg #[.int .i64 ((zb l0 a3).f0), .int .i64 ((zb l0 a3).f1), .int .i64 ((zb l0 a3).f2)], .int .i64 (rd l1 a3)] (by rfl) rfl rfl Zmt ?_;with_reducible refine (zy.calls ((zb l0 a3).f0) ((zb l0 a3).f1) ((zb l0 a3).f2) (rd l1 a3) t292 t293 _ A12.out).mono ?_
           rintro e w36 ⟨rfl, hb⟩;refine ⟨_, rfl, ?_⟩;have n0_ := za.mk (zk (Zq0 HB) hb);clear HB;have HB := n0_;clear n0_;(try clear hb);(try clear hb2);(try clear hk);(try clear hi);refine hK.out _ _ ⟨((HB.out.cell (World.block_lt_of_cell? w _ hw290_0)).trans hw290_0), ((HB.out.cell (World.block_lt_of_cell? w _ hw290_1)).trans hw290_1), ((HB.out.cell (World.block_lt_of_cell? w _ hw290_2)).trans hw290_2), ((HB.out.cell (World.block_lt_of_cell? w _ hw291_0)).trans hw291_0)⟩ (fun hHeld => ?_);clear hK K;refine zcd (a' := ?_) ?_ ?_;rotate_left
           ·show Act.put _ (some 33) _ = _
            simp only [Act.put, Zs1, Zs2, Zs3, zg, zh];rfl
           refine zl (i := 9) (N := some 34) (v := ?_) (a' := ?_) #[true, true, true, true, true, true, true, true, true, true, false] rfl rfl (ze HT_.out (by kernel_rfl)) (fun _ _ _ h => h) (Or.inl ⟨by rfl, ?_⟩) ?_ ?_;rotate_left
           ·intro w'
            go_simp;with_reducible rfl
           rotate_left
           ·simp only [Act.put, Zs1, Zs2, Zs3, zg, zh]
            rfl
           refine zl (i := 10) (N := some 10) (v := ?_) (a' := ?_) #[true, true, true, true, true, true, true, true, true, true, true] rfl rfl (ze HT_.out (by kernel_rfl)) (fun _ _ _ h => h) (Or.inl ⟨by rfl, ?_⟩) ?_ ?_;rotate_left
           ·intro w'
            go_simp;with_reducible rfl
           rotate_left
           ·simp only [Act.put, Zs1, Zs2, Zs3, zg, zh]
            rfl
           refine zcn (zb3 HT_.out (by kernel_rfl)) ?_
           try go_wp2
           have n0_ := za.mk (zbe HB.out);clear HB;have HB := n0_;clear n0_;have p294 : 0 ≤ (a2 : Int) := of_decide_eq_true Zas;have q294 : a2 < (l0.length : Int) := of_decide_eq_true Zas;obtain ⟨ad294, e294, hx294_0, hx294_1, hx294_2⟩ := zcc HR0.out a2 p294 q294;have hw294_2 := hx294_2;have hw294_1 := hx294_1;have hw294_0 := hx294_0;obtain rfl : ad286 = ad294 := (by injection e294);replace hx294_0 := (HB.out.cell (World.block_lt_of_cell? w _ hx294_0)).trans hx294_0;replace hx294_1 := (HB.out.cell (World.block_lt_of_cell? w _ hx294_1)).trans hx294_1;replace hx294_2 := (HB.out.cell (World.block_lt_of_cell? w _ hx294_2)).trans hx294_2;replace p294 := eq_true p294;replace q294 := eq_true q294;have p295 : 0 ≤ (a2 : Int) := of_decide_eq_true Zas;have q295 : a2 < (l1.length : Int) := of_decide_eq_true Zas;obtain ⟨ad295, e295, hx295_0⟩ := Kd.zcb HR1.out a2 p295 q295;have hw295_0 := hx295_0;obtain rfl : ad287 = ad295 := (by injection e295);replace hx295_0 := (HB.out.cell (World.block_lt_of_cell? w _ hx295_0)).trans hx295_0;replace p295 := eq_true p295;replace q295 := eq_true q295;refine zca (n := 10) (S := fun w' => w'.cell? (ad286.add ((a2).toNat * 3)) = some (.int .i64 ((zb l0 a2).f0)) ∧ w'.cell? ⟨(ad286.add ((a2).toNat * 3)).block, (ad286.add ((a2).toNat * 3)).off + 1, none⟩ = some (.int .i64 ((zb l0 a2).f1)) ∧ w'.cell? ⟨(ad286.add ((a2).toNat * 3)).block, (ad286.add ((a2).toNat * 3)).off + 2, none⟩ = some (.int .i64 ((zb l0 a2).f2)) ∧ w'.cell? (ad287.add (a2).toNat) = some (.int .i64 (rd l1 a2))) (ds := []) #[false, false, false, false, false, false, false, false, false, false] (by kernel_rfl) rfl rfl ⟨((HB.out.cell (World.block_lt_of_cell? w _ hw294_0)).trans hw294_0), ((HB.out.cell (World.block_lt_of_cell? w _ hw294_1)).trans hw294_1), ((HB.out.cell (World.block_lt_of_cell? w _ hw294_2)).trans hw294_2), ((HB.out.cell (World.block_lt_of_cell? w _ hw295_0)).trans hw295_0)⟩ (fun hHeld => ?_); refine zbu zi.tab5 zi.bits5 (fun HT_ HW_ => ?_);generalize w36.drew = w37 at HB hx294_0 hx294_1 hx294_2 hx295_0 hHeld ⊢;refine zl (i := 0) (N := some 41) (v := ?_) (a' := ?_) #[true, false, false, false, false, false, false, false, false, false] rfl rfl (ze HT_.out (by kernel_rfl)) (fun _ _ _ h => h) (Or.inl ⟨by rfl, ?_⟩) ?_ ?_;rotate_left
           ·intro w'
            go_simp;with_reducible rfl
           rotate_left
           ·simp only [Act.put, Zs1, Zs2, Zs3, zg, zh]
            rfl
           refine zl (i := 1) (N := some 42) (v := ?_) (a' := ?_) #[true, true, false, false, false, false, false, false, false, false] rfl rfl (ze HT_.out (by kernel_rfl)) (fun _ _ _ h => h) (Or.inl ⟨by rfl, ?_⟩) ?_ ?_;rotate_left
           ·intro w'
            go_simp;with_reducible rfl
           rotate_left
           ·simp only [Act.put, Zs1, Zs2, Zs3, zg, zh]
            rfl
           refine zl (i := 2) (N := some 43) (v := ?_) (a' := ?_) #[true, true, true, false, false, false, false, false, false, false] rfl rfl (ze HT_.out (by kernel_rfl)) (fun _ _ _ h => h) (Or.inl ⟨by rfl, ?_⟩) ?_ ?_;rotate_left
           ·intro w'
            go_simp;with_reducible rfl
           rotate_left
           ·simp only [Act.put, Zs1, Zs2, Zs3, zg, zh]
            rfl
           refine zl (i := 4) (N := some 45) (v := ?_) (a' := ?_) #[true, true, true, false, true, false, false, false, false, false] rfl rfl (ze HT_.out (by kernel_rfl)) (fun _ _ _ h => h) (Or.inl ⟨by rfl, ?_⟩) ?_ ?_;rotate_left
           ·intro w'
            go_simp;with_reducible rfl
           rotate_left
           ·simp only [Act.put, Zs1, Zs2, Zs3, zg, zh]
            rfl
           refine zl (i := 5) (N := some 46) (v := ?_) (a' := ?_) #[true, true, true, false, true, true, false, false, false, false] rfl rfl (ze HT_.out (by kernel_rfl)) (fun _ _ _ h => h) (Or.inl ⟨by rfl, ?_⟩) ?_ ?_;rotate_left
           ·intro w'
            go_simp;with_reducible rfl
           rotate_left
           ·simp only [Act.put, Zs1, Zs2, Zs3, zg, zh]
            rfl
           refine zl (i := 6) (N := some 47) (v := ?_) (a' := ?_) #[true, true, true, false, true, true, true, false, false, false] rfl rfl (ze HT_.out (by kernel_rfl)) (fun _ _ _ h => h) (Or.inl ⟨by rfl, ?_⟩) ?_ ?_;rotate_left
           ·intro w'
            go_simp;with_reducible rfl
           rotate_left
           ·simp only [Act.put, Zs1, Zs2, Zs3, zg, zh]
            rfl
           refine zby (i := 3) (N := some 44) (v := ?_) (a' := ?_) #[true, true, true, true, true, true, true, false, false, false] rfl rfl (z8 HT_.out HW_.out (by kernel_rfl)) (fun _ _ _ h => h) (Or.inl ⟨by rfl, ?_⟩) hHeld ?_ ?_;rotate_left
           ·rintro w' ⟨s0, s1, s2, s3⟩
            go_simp;with_reducible rfl
           rotate_left
           ·simp only [Act.put, Zs1, Zs2, Zs3, zg, zh]
            rfl
           refine zby (i := 7) (N := some 48) (v := ?_) (a' := ?_) #[true, true, true, true, true, true, true, true, false, false] rfl rfl (z8 HT_.out HW_.out (by kernel_rfl)) (fun _ _ _ h => h) (Or.inl ⟨by rfl, ?_⟩) hHeld ?_ ?_;rotate_left
           ·rintro w' ⟨s0, s1, s2, s3⟩
            go_simp;with_reducible rfl
           rotate_left
           ·simp only [Act.put, Zs1, Zs2, Zs3, zg, zh]
            rfl
           refine one_ (i := 8) (N := some 49) #[true, true, true, true, true, true, true, true, true, false] rfl rfl (zb2 HT_.out (by kernel_rfl)) (by decide) (fun K hK => ?_);refine zce Try.func76 (by kernel_rfl) rfl #[.agg #[.int .i64 ((zb l0 a2).f0), .int .i64 ((zb l0 a2).f1), .int .i64 ((zb l0 a2).f2)], .int .i64 (rd l1 a2)] (by rfl) rfl rfl Zmt ?_;with_reducible refine (zbd.calls ((zb l0 a2).f0) ((zb l0 a2).f1) ((zb l0 a2).f2) (rd l1 a2) t296 _ A14.out).mono ?_
           rintro e w38 ⟨rfl, hb⟩;refine ⟨_, rfl, ?_⟩;have n0_ := za.mk (zk (Zq0 HB) hb);clear HB;have HB := n0_;clear n0_;(try clear hb);(try clear hb2);(try clear hk);(try clear hi);refine hK.out _ _ ⟨((HB.out.cell (World.block_lt_of_cell? w _ hw294_0)).trans hw294_0), ((HB.out.cell (World.block_lt_of_cell? w _ hw294_1)).trans hw294_1), ((HB.out.cell (World.block_lt_of_cell? w _ hw294_2)).trans hw294_2), ((HB.out.cell (World.block_lt_of_cell? w _ hw295_0)).trans hw295_0)⟩ (fun hHeld => ?_);clear hK K;refine zcd (a' := ?_) ?_ ?_;rotate_left
           ·show Act.put _ (some 49) _ = _
            simp only [Act.put, Zs1, Zs2, Zs3, zg, zh];rfl
           refine zl (i := 9) (N := some 11) (v := ?_) (a' := ?_) #[true, true, true, true, true, true, true, true, true, true] rfl rfl (ze HT_.out (by kernel_rfl)) (fun _ _ _ h => h) (Or.inl ⟨by rfl, ?_⟩) ?_ ?_;rotate_left
           ·intro w'
            go_simp;with_reducible rfl
           rotate_left
           ·simp only [Act.put, Zs1, Zs2, Zs3, zg, zh]
            rfl
           refine zcn (zb3 HT_.out (by kernel_rfl)) ?_
           try go_wp2
           have n0_ := za.mk (zbe HB.out);clear HB;have HB := n0_;clear n0_;have p297 : 0 ≤ (a3 : Int) := of_decide_eq_true Zas;have q297 : a3 < (l0.length : Int) := of_decide_eq_true Zas;obtain ⟨ad297, e297, hx297_0, hx297_1, hx297_2⟩ := zcc HR0.out a3 p297 q297;have hw297_2 := hx297_2;have hw297_1 := hx297_1;have hw297_0 := hx297_0;obtain rfl : ad286 = ad297 := (by injection e297);replace hx297_0 := (HB.out.cell (World.block_lt_of_cell? w _ hx297_0)).trans hx297_0;replace hx297_1 := (HB.out.cell (World.block_lt_of_cell? w _ hx297_1)).trans hx297_1;replace hx297_2 := (HB.out.cell (World.block_lt_of_cell? w _ hx297_2)).trans hx297_2;replace p297 := eq_true p297;replace q297 := eq_true q297;have p298 : 0 ≤ (a3 : Int) := of_decide_eq_true Zas;have q298 : a3 < (l1.length : Int) := of_decide_eq_true Zas;obtain ⟨ad298, e298, hx298_0⟩ := Kd.zcb HR1.out a3 p298 q298;have hw298_0 := hx298_0;obtain rfl : ad287 = ad298 := (by injection e298);replace hx298_0 := (HB.out.cell (World.block_lt_of_cell? w _ hx298_0)).trans hx298_0;replace p298 := eq_true p298;replace q298 := eq_true q298;refine zca (n := 10) (S := fun w' => w'.cell? (ad286.add ((a3).toNat * 3)) = some (.int .i64 ((zb l0 a3).f0)) ∧ w'.cell? ⟨(ad286.add ((a3).toNat * 3)).block, (ad286.add ((a3).toNat * 3)).off + 1, none⟩ = some (.int .i64 ((zb l0 a3).f1)) ∧ w'.cell? ⟨(ad286.add ((a3).toNat * 3)).block, (ad286.add ((a3).toNat * 3)).off + 2, none⟩ = some (.int .i64 ((zb l0 a3).f2)) ∧ w'.cell? (ad287.add (a3).toNat) = some (.int .i64 (rd l1 a3))) (ds := []) #[false, false, false, false, false, false, false, false, false, false] (by kernel_rfl) rfl rfl ⟨((HB.out.cell (World.block_lt_of_cell? w _ hw297_0)).trans hw297_0), ((HB.out.cell (World.block_lt_of_cell? w _ hw297_1)).trans hw297_1), ((HB.out.cell (World.block_lt_of_cell? w _ hw297_2)).trans hw297_2), ((HB.out.cell (World.block_lt_of_cell? w _ hw298_0)).trans hw298_0)⟩ (fun hHeld => ?_); refine zbu zi.tab6 zi.zil (fun HT_ HW_ => ?_);generalize w38.drew = w39 at HB hx297_0 hx297_1 hx297_2 hx298_0 hHeld ⊢;refine zl (i := 0) (N := some 50) (v := ?_) (a' := ?_) #[true, false, false, false, false, false, false, false, false, false] rfl rfl (ze HT_.out (by kernel_rfl)) (fun _ _ _ h => h) (Or.inl ⟨by rfl, ?_⟩) ?_ ?_;rotate_left
           ·intro w'
            go_simp;with_reducible rfl
           rotate_left
           ·simp only [Act.put, Zs1, Zs2, Zs3, zg, zh]
            rfl
           refine zl (i := 1) (N := some 51) (v := ?_) (a' := ?_) #[true, true, false, false, false, false, false, false, false, false] rfl rfl (ze HT_.out (by kernel_rfl)) (fun _ _ _ h => h) (Or.inl ⟨by rfl, ?_⟩) ?_ ?_;rotate_left
           ·intro w'
            go_simp;with_reducible rfl
           rotate_left
           ·simp only [Act.put, Zs1, Zs2, Zs3, zg, zh]
            rfl
           refine zl (i := 2) (N := some 52) (v := ?_) (a' := ?_) #[true, true, true, false, false, false, false, false, false, false] rfl rfl (ze HT_.out (by kernel_rfl)) (fun _ _ _ h => h) (Or.inl ⟨by rfl, ?_⟩) ?_ ?_;rotate_left
           ·intro w'
            go_simp;with_reducible rfl
           rotate_left
           ·simp only [Act.put, Zs1, Zs2, Zs3, zg, zh]
            rfl
           refine zl (i := 4) (N := some 54) (v := ?_) (a' := ?_) #[true, true, true, false, true, false, false, false, false, false] rfl rfl (ze HT_.out (by kernel_rfl)) (fun _ _ _ h => h) (Or.inl ⟨by rfl, ?_⟩) ?_ ?_;rotate_left
           ·intro w'
            go_simp;with_reducible rfl
           rotate_left
           ·simp only [Act.put, Zs1, Zs2, Zs3, zg, zh]
            rfl
           refine zl (i := 5) (N := some 55) (v := ?_) (a' := ?_) #[true, true, true, false, true, true, false, false, false, false] rfl rfl (ze HT_.out (by kernel_rfl)) (fun _ _ _ h => h) (Or.inl ⟨by rfl, ?_⟩) ?_ ?_;rotate_left
           ·intro w'
            go_simp;with_reducible rfl
           rotate_left
           ·simp only [Act.put, Zs1, Zs2, Zs3, zg, zh]
            rfl
           refine zl (i := 6) (N := some 56) (v := ?_) (a' := ?_) #[true, true, true, false, true, true, true, false, false, false] rfl rfl (ze HT_.out (by kernel_rfl)) (fun _ _ _ h => h) (Or.inl ⟨by rfl, ?_⟩) ?_ ?_;rotate_left
           ·intro w'
            go_simp;with_reducible rfl
           rotate_left
           ·simp only [Act.put, Zs1, Zs2, Zs3, zg, zh]
            rfl
           refine zby (i := 3) (N := some 53) (v := ?_) (a' := ?_) #[true, true, true, true, true, true, true, false, false, false] rfl rfl (z8 HT_.out HW_.out (by kernel_rfl)) (fun _ _ _ h => h) (Or.inl ⟨by rfl, ?_⟩) hHeld ?_ ?_;rotate_left
           ·rintro w' ⟨s0, s1, s2, s3⟩
            go_simp;with_reducible rfl
           rotate_left
           ·simp only [Act.put, Zs1, Zs2, Zs3, zg, zh]
            rfl
           refine zby (i := 7) (N := some 57) (v := ?_) (a' := ?_) #[true, true, true, true, true, true, true, true, false, false] rfl rfl (z8 HT_.out HW_.out (by kernel_rfl)) (fun _ _ _ h => h) (Or.inl ⟨by rfl, ?_⟩) hHeld ?_ ?_;rotate_left
           ·rintro w' ⟨s0, s1, s2, s3⟩
            go_simp;with_reducible rfl
           rotate_left
           ·simp only [Act.put, Zs1, Zs2, Zs3, zg, zh]
            rfl
           refine one_ (i := 8) (N := some 58) #[true, true, true, true, true, true, true, true, true, false] rfl rfl (zb2 HT_.out (by kernel_rfl)) (by decide) (fun K hK => ?_);refine zce Try.func76 (by kernel_rfl) rfl #[.agg #[.int .i64 ((zb l0 a3).f0), .int .i64 ((zb l0 a3).f1), .int .i64 ((zb l0 a3).f2)], .int .i64 (rd l1 a3)] (by rfl) rfl rfl Zmt ?_;with_reducible refine (zbd.calls ((zb l0 a3).f0) ((zb l0 a3).f1) ((zb l0 a3).f2) (rd l1 a3) t299 _ A15.out).mono ?_
           rintro e w40 ⟨rfl, hb⟩;refine ⟨_, rfl, ?_⟩;have n0_ := za.mk (zk (Zq0 HB) hb);clear HB;have HB := n0_;clear n0_;(try clear hb);(try clear hb2);(try clear hk);(try clear hi);refine hK.out _ _ ⟨((HB.out.cell (World.block_lt_of_cell? w _ hw297_0)).trans hw297_0), ((HB.out.cell (World.block_lt_of_cell? w _ hw297_1)).trans hw297_1), ((HB.out.cell (World.block_lt_of_cell? w _ hw297_2)).trans hw297_2), ((HB.out.cell (World.block_lt_of_cell? w _ hw298_0)).trans hw298_0)⟩ (fun hHeld => ?_);clear hK K;refine zcd (a' := ?_) ?_ ?_;rotate_left
           ·show Act.put _ (some 58) _ = _
            simp only [Act.put, Zs1, Zs2, Zs3, zg, zh];rfl
           refine zl (i := 9) (N := some 12) (v := ?_) (a' := ?_) #[true, true, true, true, true, true, true, true, true, true] rfl rfl (ze HT_.out (by kernel_rfl)) (fun _ _ _ h => h) (Or.inl ⟨by rfl, ?_⟩) ?_ ?_;rotate_left
           ·intro w'
            go_simp;with_reducible rfl
           rotate_left
           ·simp only [Act.put, Zs1, Zs2, Zs3, zg, zh]
            rfl
           refine zcn (zb3 HT_.out (by kernel_rfl)) ?_
           try go_wp2
           have n0_ := za.mk (zbe HB.out);clear HB;have HB := n0_;clear n0_;have p300 : 0 ≤ (a2 : Int) := of_decide_eq_true Zas;have q300 : a2 < (l0.length : Int) := of_decide_eq_true Zas;obtain ⟨ad300, e300, hx300_0, hx300_1, hx300_2⟩ := zcc HR0.out a2 p300 q300;have hw300_2 := hx300_2;have hw300_1 := hx300_1;have hw300_0 := hx300_0;obtain rfl : ad286 = ad300 := (by injection e300);replace hx300_0 := (HB.out.cell (World.block_lt_of_cell? w _ hx300_0)).trans hx300_0;replace hx300_1 := (HB.out.cell (World.block_lt_of_cell? w _ hx300_1)).trans hx300_1;replace hx300_2 := (HB.out.cell (World.block_lt_of_cell? w _ hx300_2)).trans hx300_2;replace p300 := eq_true p300;replace q300 := eq_true q300;have p301 : 0 ≤ (a2 : Int) := of_decide_eq_true Zas;have q301 : a2 < (l1.length : Int) := of_decide_eq_true Zas;obtain ⟨ad301, e301, hx301_0⟩ := Kd.zcb HR1.out a2 p301 q301;have hw301_0 := hx301_0;obtain rfl : ad287 = ad301 := (by injection e301);replace hx301_0 := (HB.out.cell (World.block_lt_of_cell? w _ hx301_0)).trans hx301_0;replace p301 := eq_true p301;replace q301 := eq_true q301;refine zca (n := 10) (S := fun w' => w'.cell? (ad286.add ((a2).toNat * 3)) = some (.int .i64 ((zb l0 a2).f0)) ∧ w'.cell? ⟨(ad286.add ((a2).toNat * 3)).block, (ad286.add ((a2).toNat * 3)).off + 1, none⟩ = some (.int .i64 ((zb l0 a2).f1)) ∧ w'.cell? ⟨(ad286.add ((a2).toNat * 3)).block, (ad286.add ((a2).toNat * 3)).off + 2, none⟩ = some (.int .i64 ((zb l0 a2).f2)) ∧ w'.cell? (ad287.add (a2).toNat) = some (.int .i64 (rd l1 a2))) (ds := []) #[false, false, false, false, false, false, false, false, false, false] (by kernel_rfl) rfl rfl ⟨((HB.out.cell (World.block_lt_of_cell? w _ hw300_0)).trans hw300_0), ((HB.out.cell (World.block_lt_of_cell? w _ hw300_1)).trans hw300_1), ((HB.out.cell (World.block_lt_of_cell? w _ hw300_2)).trans hw300_2), ((HB.out.cell (World.block_lt_of_cell? w _ hw301_0)).trans hw301_0)⟩ (fun hHeld => ?_); refine zbu zi.tab10 zi.bits10 (fun HT_ HW_ => ?_);generalize w40.drew = w41 at HB hx300_0 hx300_1 hx300_2 hx301_0 hHeld ⊢;refine zl (i := 0) (N := some 67) (v := ?_) (a' := ?_) #[true, false, false, false, false, false, false, false, false, false] rfl rfl (ze HT_.out (by kernel_rfl)) (fun _ _ _ h => h) (Or.inl ⟨by rfl, ?_⟩) ?_ ?_;rotate_left
           ·intro w'
            go_simp;with_reducible rfl
           rotate_left
           ·simp only [Act.put, Zs1, Zs2, Zs3, zg, zh]
            rfl
           refine zl (i := 1) (N := some 68) (v := ?_) (a' := ?_) #[true, true, false, false, false, false, false, false, false, false] rfl rfl (ze HT_.out (by kernel_rfl)) (fun _ _ _ h => h) (Or.inl ⟨by rfl, ?_⟩) ?_ ?_;rotate_left
           ·intro w'
            go_simp;with_reducible rfl
           rotate_left
           ·simp only [Act.put, Zs1, Zs2, Zs3, zg, zh]
            rfl
           refine zl (i := 2) (N := some 69) (v := ?_) (a' := ?_) #[true, true, true, false, false, false, false, false, false, false] rfl rfl (ze HT_.out (by kernel_rfl)) (fun _ _ _ h => h) (Or.inl ⟨by rfl, ?_⟩) ?_ ?_;rotate_left
           ·intro w'
            go_simp;with_reducible rfl
           rotate_left
           ·simp only [Act.put, Zs1, Zs2, Zs3, zg, zh]
            rfl
           refine zl (i := 4) (N := some 71) (v := ?_) (a' := ?_) #[true, true, true, false, true, false, false, false, false, false] rfl rfl (ze HT_.out (by kernel_rfl)) (fun _ _ _ h => h) (Or.inl ⟨by rfl, ?_⟩) ?_ ?_;rotate_left
           ·intro w'
            go_simp;with_reducible rfl
           rotate_left
           ·simp only [Act.put, Zs1, Zs2, Zs3, zg, zh]
            rfl
           refine zl (i := 5) (N := some 72) (v := ?_) (a' := ?_) #[true, true, true, false, true, true, false, false, false, false] rfl rfl (ze HT_.out (by kernel_rfl)) (fun _ _ _ h => h) (Or.inl ⟨by rfl, ?_⟩) ?_ ?_;rotate_left
           ·intro w'
            go_simp;with_reducible rfl
           rotate_left
           ·simp only [Act.put, Zs1, Zs2, Zs3, zg, zh]
            rfl
           refine zl (i := 6) (N := some 73) (v := ?_) (a' := ?_) #[true, true, true, false, true, true, true, false, false, false] rfl rfl (ze HT_.out (by kernel_rfl)) (fun _ _ _ h => h) (Or.inl ⟨by rfl, ?_⟩) ?_ ?_;rotate_left
           ·intro w'
            go_simp;with_reducible rfl
           rotate_left
           ·simp only [Act.put, Zs1, Zs2, Zs3, zg, zh]
            rfl
           refine zby (i := 3) (N := some 70) (v := ?_) (a' := ?_) #[true, true, true, true, true, true, true, false, false, false] rfl rfl (z8 HT_.out HW_.out (by kernel_rfl)) (fun _ _ _ h => h) (Or.inl ⟨by rfl, ?_⟩) hHeld ?_ ?_;rotate_left
           ·rintro w' ⟨s0, s1, s2, s3⟩
            go_simp;with_reducible rfl
           rotate_left
           ·simp only [Act.put, Zs1, Zs2, Zs3, zg, zh]
            rfl
           refine zby (i := 7) (N := some 74) (v := ?_) (a' := ?_) #[true, true, true, true, true, true, true, true, false, false] rfl rfl (z8 HT_.out HW_.out (by kernel_rfl)) (fun _ _ _ h => h) (Or.inl ⟨by rfl, ?_⟩) hHeld ?_ ?_;rotate_left
           ·rintro w' ⟨s0, s1, s2, s3⟩
            go_simp;with_reducible rfl
           rotate_left
           ·simp only [Act.put, Zs1, Zs2, Zs3, zg, zh]
            rfl
           refine one_ (i := 8) (N := some 75) #[true, true, true, true, true, true, true, true, true, false] rfl rfl (zb2 HT_.out (by kernel_rfl)) (by decide) (fun K hK => ?_);refine zce Try.func77 (by kernel_rfl) rfl #[.agg #[.int .i64 ((zb l0 a2).f0), .int .i64 ((zb l0 a2).f1), .int .i64 ((zb l0 a2).f2)], .int .i64 (rd l1 a2)] (by rfl) rfl rfl Zmt ?_;with_reducible refine (zba.calls k ((zb l0 a2).f0) ((zb l0 a2).f1) ((zb l0 a2).f2) (rd l1 a2) t302 _ A18.out).mono ?_
           rintro e w42 ⟨rfl, hb⟩;refine ⟨_, rfl, ?_⟩;have n0_ := za.mk (zk (Zq0 HB) hb);clear HB;have HB := n0_;clear n0_;(try clear hb);(try clear hb2);(try clear hk);(try clear hi);refine hK.out _ _ ⟨((HB.out.cell (World.block_lt_of_cell? w _ hw300_0)).trans hw300_0), ((HB.out.cell (World.block_lt_of_cell? w _ hw300_1)).trans hw300_1), ((HB.out.cell (World.block_lt_of_cell? w _ hw300_2)).trans hw300_2), ((HB.out.cell (World.block_lt_of_cell? w _ hw301_0)).trans hw301_0)⟩ (fun hHeld => ?_);clear hK K;refine zcd (a' := ?_) ?_ ?_;rotate_left
           ·show Act.put _ (some 75) _ = _
            simp only [Act.put, Zs1, Zs2, Zs3, zg, zh];rfl
           refine zl (i := 9) (N := some 13) (v := ?_) (a' := ?_) #[true, true, true, true, true, true, true, true, true, true] rfl rfl (ze HT_.out (by kernel_rfl)) (fun _ _ _ h => h) (Or.inl ⟨by rfl, ?_⟩) ?_ ?_;rotate_left
           ·intro w'
            go_simp;with_reducible rfl
           rotate_left
           ·simp only [Act.put, Zs1, Zs2, Zs3, zg, zh]
            rfl
           refine zcn (zb3 HT_.out (by kernel_rfl)) ?_
           try go_wp2
           have n0_ := za.mk (zbe HB.out);clear HB;have HB := n0_;clear n0_;have p303 : 0 ≤ (a3 : Int) := of_decide_eq_true Zas;have q303 : a3 < (l0.length : Int) := of_decide_eq_true Zas;obtain ⟨ad303, e303, hx303_0, hx303_1, hx303_2⟩ := zcc HR0.out a3 p303 q303;have hw303_2 := hx303_2;have hw303_1 := hx303_1;have hw303_0 := hx303_0;obtain rfl : ad286 = ad303 := (by injection e303);replace hx303_0 := (HB.out.cell (World.block_lt_of_cell? w _ hx303_0)).trans hx303_0;replace hx303_1 := (HB.out.cell (World.block_lt_of_cell? w _ hx303_1)).trans hx303_1;replace hx303_2 := (HB.out.cell (World.block_lt_of_cell? w _ hx303_2)).trans hx303_2;replace p303 := eq_true p303;replace q303 := eq_true q303;have p304 : 0 ≤ (a3 : Int) := of_decide_eq_true Zas;have q304 : a3 < (l1.length : Int) := of_decide_eq_true Zas;obtain ⟨ad304, e304, hx304_0⟩ := Kd.zcb HR1.out a3 p304 q304;have hw304_0 := hx304_0;obtain rfl : ad287 = ad304 := (by injection e304);replace hx304_0 := (HB.out.cell (World.block_lt_of_cell? w _ hx304_0)).trans hx304_0;replace p304 := eq_true p304;replace q304 := eq_true q304;refine zca (n := 10) (S := fun w' => w'.cell? (ad286.add ((a3).toNat * 3)) = some (.int .i64 ((zb l0 a3).f0)) ∧ w'.cell? ⟨(ad286.add ((a3).toNat * 3)).block, (ad286.add ((a3).toNat * 3)).off + 1, none⟩ = some (.int .i64 ((zb l0 a3).f1)) ∧ w'.cell? ⟨(ad286.add ((a3).toNat * 3)).block, (ad286.add ((a3).toNat * 3)).off + 2, none⟩ = some (.int .i64 ((zb l0 a3).f2)) ∧ w'.cell? (ad287.add (a3).toNat) = some (.int .i64 (rd l1 a3))) (ds := []) #[false, false, false, false, false, false, false, false, false, false] (by kernel_rfl) rfl rfl ⟨((HB.out.cell (World.block_lt_of_cell? w _ hw303_0)).trans hw303_0), ((HB.out.cell (World.block_lt_of_cell? w _ hw303_1)).trans hw303_1), ((HB.out.cell (World.block_lt_of_cell? w _ hw303_2)).trans hw303_2), ((HB.out.cell (World.block_lt_of_cell? w _ hw304_0)).trans hw304_0)⟩ (fun hHeld => ?_); refine zbu zi.tab11 zi.bits11 (fun HT_ HW_ => ?_);generalize w42.drew = w43 at HB hx303_0 hx303_1 hx303_2 hx304_0 hHeld ⊢;refine zl (i := 0) (N := some 76) (v := ?_) (a' := ?_) #[true, false, false, false, false, false, false, false, false, false] rfl rfl (ze HT_.out (by kernel_rfl)) (fun _ _ _ h => h) (Or.inl ⟨by rfl, ?_⟩) ?_ ?_;rotate_left
           ·intro w'
            go_simp;with_reducible rfl
           rotate_left
           ·simp only [Act.put, Zs1, Zs2, Zs3, zg, zh]
            rfl
           refine zl (i := 1) (N := some 77) (v := ?_) (a' := ?_) #[true, true, false, false, false, false, false, false, false, false] rfl rfl (ze HT_.out (by kernel_rfl)) (fun _ _ _ h => h) (Or.inl ⟨by rfl, ?_⟩) ?_ ?_;rotate_left
           ·intro w'
            go_simp;with_reducible rfl
           rotate_left
           ·simp only [Act.put, Zs1, Zs2, Zs3, zg, zh]
            rfl
           refine zl (i := 2) (N := some 78) (v := ?_) (a' := ?_) #[true, true, true, false, false, false, false, false, false, false] rfl rfl (ze HT_.out (by kernel_rfl)) (fun _ _ _ h => h) (Or.inl ⟨by rfl, ?_⟩) ?_ ?_;rotate_left
           ·intro w'
            go_simp;with_reducible rfl
           rotate_left
           ·simp only [Act.put, Zs1, Zs2, Zs3, zg, zh]
            rfl
           refine zl (i := 4) (N := some 80) (v := ?_) (a' := ?_) #[true, true, true, false, true, false, false, false, false, false] rfl rfl (ze HT_.out (by kernel_rfl)) (fun _ _ _ h => h) (Or.inl ⟨by rfl, ?_⟩) ?_ ?_;rotate_left
           ·intro w'
            go_simp;with_reducible rfl
           rotate_left
           ·simp only [Act.put, Zs1, Zs2, Zs3, zg, zh]
            rfl
           refine zl (i := 5) (N := some 81) (v := ?_) (a' := ?_) #[true, true, true, false, true, true, false, false, false, false] rfl rfl (ze HT_.out (by kernel_rfl)) (fun _ _ _ h => h) (Or.inl ⟨by rfl, ?_⟩) ?_ ?_;rotate_left
           ·intro w'
            go_simp;with_reducible rfl
           rotate_left
           ·simp only [Act.put, Zs1, Zs2, Zs3, zg, zh]
            rfl
           refine zl (i := 6) (N := some 82) (v := ?_) (a' := ?_) #[true, true, true, false, true, true, true, false, false, false] rfl rfl (ze HT_.out (by kernel_rfl)) (fun _ _ _ h => h) (Or.inl ⟨by rfl, ?_⟩) ?_ ?_;rotate_left
           ·intro w'
            go_simp;with_reducible rfl
           rotate_left
           ·simp only [Act.put, Zs1, Zs2, Zs3, zg, zh]
            rfl
           refine zby (i := 3) (N := some 79) (v := ?_) (a' := ?_) #[true, true, true, true, true, true, true, false, false, false] rfl rfl (z8 HT_.out HW_.out (by kernel_rfl)) (fun _ _ _ h => h) (Or.inl ⟨by rfl, ?_⟩) hHeld ?_ ?_;rotate_left
           ·rintro w' ⟨s0, s1, s2, s3⟩
            go_simp;with_reducible rfl
           rotate_left
           ·simp only [Act.put, Zs1, Zs2, Zs3, zg, zh]
            rfl
           refine zby (i := 7) (N := some 83) (v := ?_) (a' := ?_) #[true, true, true, true, true, true, true, true, false, false] rfl rfl (z8 HT_.out HW_.out (by kernel_rfl)) (fun _ _ _ h => h) (Or.inl ⟨by rfl, ?_⟩) hHeld ?_ ?_;rotate_left
           ·rintro w' ⟨s0, s1, s2, s3⟩
            go_simp;with_reducible rfl
           rotate_left
           ·simp only [Act.put, Zs1, Zs2, Zs3, zg, zh]
            rfl
           refine one_ (i := 8) (N := some 84) #[true, true, true, true, true, true, true, true, true, false] rfl rfl (zb2 HT_.out (by kernel_rfl)) (by decide) (fun K hK => ?_);refine zce Try.func77 (by kernel_rfl) rfl #[.agg #[.int .i64 ((zb l0 a3).f0), .int .i64 ((zb l0 a3).f1), .int .i64 ((zb l0 a3).f2)], .int .i64 (rd l1 a3)] (by rfl) rfl rfl Zmt ?_;with_reducible refine (zba.calls k ((zb l0 a3).f0) ((zb l0 a3).f1) ((zb l0 a3).f2) (rd l1 a3) t305 _ A19.out).mono ?_
           rintro e w44 ⟨rfl, hb⟩;refine ⟨_, rfl, ?_⟩;have n0_ := za.mk (zk (Zq0 HB) hb);clear HB;have HB := n0_;clear n0_;(try clear hb);(try clear hb2);(try clear hk);(try clear hi);refine hK.out _ _ ⟨((HB.out.cell (World.block_lt_of_cell? w _ hw303_0)).trans hw303_0), ((HB.out.cell (World.block_lt_of_cell? w _ hw303_1)).trans hw303_1), ((HB.out.cell (World.block_lt_of_cell? w _ hw303_2)).trans hw303_2), ((HB.out.cell (World.block_lt_of_cell? w _ hw304_0)).trans hw304_0)⟩ (fun hHeld => ?_);clear hK K;refine zcd (a' := ?_) ?_ ?_;rotate_left
           ·show Act.put _ (some 84) _ = _
            simp only [Act.put, Zs1, Zs2, Zs3, zg, zh];rfl
           refine zl (i := 9) (N := some 14) (v := ?_) (a' := ?_) #[true, true, true, true, true, true, true, true, true, true] rfl rfl (ze HT_.out (by kernel_rfl)) (fun _ _ _ h => h) (Or.inl ⟨by rfl, ?_⟩) ?_ ?_;rotate_left
           ·intro w'
            go_simp;with_reducible rfl
           rotate_left
           ·simp only [Act.put, Zs1, Zs2, Zs3, zg, zh]
            rfl
           refine zcn (zb3 HT_.out (by kernel_rfl)) ?_
           try go_wp2
           go_ret;exact ⟨by first | rfl | (simp [zn, zo] <;> rfl) | (simp [*, zn, zo] <;> rfl), Zq0 HB⟩
         ·rw [if_neg c17] at H
          have c17b0 : (t296 == 1) = false := beq_eq_false_iff_ne.mpr c17;have c17b1 : (t296 != 1) = true := bne_iff_ne.mpr c17;obtain rfl := Option.some.inj H;go_enter Try.func66, Try.ntmps66
          try go_wp2
          have n0_ := za.mk (zbe HB.out);clear HB;have HB := n0_;clear n0_;have p286 : 0 ≤ (a2 : Int) := of_decide_eq_true Zas;have q286 : a2 < (l0.length : Int) := of_decide_eq_true Zas;obtain ⟨ad286, e286, hx286_0, hx286_1, hx286_2⟩ := zcc HR0.out a2 p286 q286;have hw286_2 := hx286_2;have hw286_1 := hx286_1;have hw286_0 := hx286_0
          cases e286
          replace hx286_0 := (HB.out.cell (World.block_lt_of_cell? w _ hx286_0)).trans hx286_0;replace hx286_1 := (HB.out.cell (World.block_lt_of_cell? w _ hx286_1)).trans hx286_1;replace hx286_2 := (HB.out.cell (World.block_lt_of_cell? w _ hx286_2)).trans hx286_2;replace p286 := eq_true p286;replace q286 := eq_true q286;have p287 : 0 ≤ (a2 : Int) := of_decide_eq_true Zas;have q287 : a2 < (l1.length : Int) := of_decide_eq_true Zas;obtain ⟨ad287, e287, hx287_0⟩ := Kd.zcb HR1.out a2 p287 q287;have hw287_0 := hx287_0
          cases e287
          replace hx287_0 := (HB.out.cell (World.block_lt_of_cell? w _ hx287_0)).trans hx287_0;replace p287 := eq_true p287;replace q287 := eq_true q287;refine zca (n := 11) (S := fun w' => w'.cell? (ad286.add ((a2).toNat * 3)) = some (.int .i64 ((zb l0 a2).f0)) ∧ w'.cell? ⟨(ad286.add ((a2).toNat * 3)).block, (ad286.add ((a2).toNat * 3)).off + 1, none⟩ = some (.int .i64 ((zb l0 a2).f1)) ∧ w'.cell? ⟨(ad286.add ((a2).toNat * 3)).block, (ad286.add ((a2).toNat * 3)).off + 2, none⟩ = some (.int .i64 ((zb l0 a2).f2)) ∧ w'.cell? (ad287.add (a2).toNat) = some (.int .i64 (rd l1 a2))) (ds := []) #[false, false, false, false, false, false, false, false, false, false, false] (by kernel_rfl) rfl rfl ⟨((HB.out.cell (World.block_lt_of_cell? w _ hw286_0)).trans hw286_0), ((HB.out.cell (World.block_lt_of_cell? w _ hw286_1)).trans hw286_1), ((HB.out.cell (World.block_lt_of_cell? w _ hw286_2)).trans hw286_2), ((HB.out.cell (World.block_lt_of_cell? w _ hw287_0)).trans hw287_0)⟩ (fun hHeld => ?_); refine zbu zi.tab1 zi.zd8 (fun HT_ HW_ => ?_);generalize w.drew = w45 at HB hx286_0 hx286_1 hx286_2 hx287_0 hHeld ⊢;refine zl (i := 0) (N := some 15) (v := ?_) (a' := ?_) #[true, false, false, false, false, false, false, false, false, false, false] rfl rfl (ze HT_.out (by kernel_rfl)) (fun _ _ _ h => h) (Or.inl ⟨by rfl, ?_⟩) ?_ ?_;rotate_left
          ·intro w'
           go_simp;with_reducible rfl
          rotate_left
          ·simp only [Act.put, Zs1, Zs2, Zs3, zg, zh]
           rfl
          refine zl (i := 1) (N := some 16) (v := ?_) (a' := ?_) #[true, true, false, false, false, false, false, false, false, false, false] rfl rfl (ze HT_.out (by kernel_rfl)) (fun _ _ _ h => h) (Or.inl ⟨by rfl, ?_⟩) ?_ ?_;rotate_left
          ·intro w'
           go_simp;with_reducible rfl
          rotate_left
          ·simp only [Act.put, Zs1, Zs2, Zs3, zg, zh]
           rfl
          refine zl (i := 2) (N := some 17) (v := ?_) (a' := ?_) #[true, true, true, false, false, false, false, false, false, false, false] rfl rfl (ze HT_.out (by kernel_rfl)) (fun _ _ _ h => h) (Or.inl ⟨by rfl, ?_⟩) ?_ ?_;rotate_left
          ·intro w'
           go_simp;with_reducible rfl
          rotate_left
          ·simp only [Act.put, Zs1, Zs2, Zs3, zg, zh]
           rfl
          refine zl (i := 4) (N := some 19) (v := ?_) (a' := ?_) #[true, true, true, false, true, false, false, false, false, false, false] rfl rfl (ze HT_.out (by kernel_rfl)) (fun _ _ _ h => h) (Or.inl ⟨by rfl, ?_⟩) ?_ ?_;rotate_left
          ·intro w'
           go_simp;with_reducible rfl
          rotate_left
          ·simp only [Act.put, Zs1, Zs2, Zs3, zg, zh]
           rfl
          refine zl (i := 5) (N := some 20) (v := ?_) (a' := ?_) #[true, true, true, false, true, true, false, false, false, false, false] rfl rfl (ze HT_.out (by kernel_rfl)) (fun _ _ _ h => h) (Or.inl ⟨by rfl, ?_⟩) ?_ ?_;rotate_left
          ·intro w'
           go_simp;with_reducible rfl
          rotate_left
          ·simp only [Act.put, Zs1, Zs2, Zs3, zg, zh]
           rfl
          refine zl (i := 6) (N := some 21) (v := ?_) (a' := ?_) #[true, true, true, false, true, true, true, false, false, false, false] rfl rfl (ze HT_.out (by kernel_rfl)) (fun _ _ _ h => h) (Or.inl ⟨by rfl, ?_⟩) ?_ ?_;rotate_left
          ·intro w'
           go_simp;with_reducible rfl
          rotate_left
          ·simp only [Act.put, Zs1, Zs2, Zs3, zg, zh]
           rfl
          refine zby (i := 3) (N := some 18) (v := ?_) (a' := ?_) #[true, true, true, true, true, true, true, false, false, false, false] rfl rfl (z8 HT_.out HW_.out (by kernel_rfl)) (fun _ _ _ h => h) (Or.inl ⟨by rfl, ?_⟩) hHeld ?_ ?_;rotate_left
          ·rintro w' ⟨s0, s1, s2, s3⟩
           go_simp;with_reducible rfl
          rotate_left
          ·simp only [Act.put, Zs1, Zs2, Zs3, zg, zh]
           rfl
          refine zby (i := 7) (N := some 22) (v := ?_) (a' := ?_) #[true, true, true, true, true, true, true, true, false, false, false] rfl rfl (z8 HT_.out HW_.out (by kernel_rfl)) (fun _ _ _ h => h) (Or.inl ⟨by rfl, ?_⟩) hHeld ?_ ?_;rotate_left
          ·rintro w' ⟨s0, s1, s2, s3⟩
           go_simp;with_reducible rfl
          rotate_left
          ·simp only [Act.put, Zs1, Zs2, Zs3, zg, zh]
           rfl
          refine one_ (i := 8) (N := some 23) #[true, true, true, true, true, true, true, true, true, false, false] rfl rfl (zb2 HT_.out (by kernel_rfl)) (by decide) (fun K hK => ?_);refine zce Try.func64 (by kernel_rfl) rfl #[.agg #[.int .i64 ((zb l0 a2).f0), .int .i64 ((zb l0 a2).f1), .int .i64 ((zb l0 a2).f2)], .int .i64 (rd l1 a2)] (by rfl) rfl rfl Zmt ?_;with_reducible refine (zy.calls ((zb l0 a2).f0) ((zb l0 a2).f1) ((zb l0 a2).f2) (rd l1 a2) t288 t289 _ A8.out).mono ?_
          rintro e w46 ⟨rfl, hb⟩;refine ⟨_, rfl, ?_⟩;have n0_ := za.mk (zk (Zq0 HB) hb);clear HB;have HB := n0_;clear n0_;(try clear hb);(try clear hb2);(try clear hk);(try clear hi);refine hK.out _ _ ⟨((HB.out.cell (World.block_lt_of_cell? w _ hw286_0)).trans hw286_0), ((HB.out.cell (World.block_lt_of_cell? w _ hw286_1)).trans hw286_1), ((HB.out.cell (World.block_lt_of_cell? w _ hw286_2)).trans hw286_2), ((HB.out.cell (World.block_lt_of_cell? w _ hw287_0)).trans hw287_0)⟩ (fun hHeld => ?_);clear hK K;refine zcd (a' := ?_) ?_ ?_;rotate_left
          ·show Act.put _ (some 23) _ = _
           simp only [Act.put, Zs1, Zs2, Zs3, zg, zh];rfl
          refine zl (i := 9) (N := some 24) (v := ?_) (a' := ?_) #[true, true, true, true, true, true, true, true, true, true, false] rfl rfl (ze HT_.out (by kernel_rfl)) (fun _ _ _ h => h) (Or.inl ⟨by rfl, ?_⟩) ?_ ?_;rotate_left
          ·intro w'
           go_simp;with_reducible rfl
          rotate_left
          ·simp only [Act.put, Zs1, Zs2, Zs3, zg, zh]
           rfl
          refine zl (i := 10) (N := some 9) (v := ?_) (a' := ?_) #[true, true, true, true, true, true, true, true, true, true, true] rfl rfl (ze HT_.out (by kernel_rfl)) (fun _ _ _ h => h) (Or.inl ⟨by rfl, ?_⟩) ?_ ?_;rotate_left
          ·intro w'
           go_simp;with_reducible rfl
          rotate_left
          ·simp only [Act.put, Zs1, Zs2, Zs3, zg, zh]
           rfl
          refine zcn (zb3 HT_.out (by kernel_rfl)) ?_
          try go_wp2
          have n0_ := za.mk (zbe HB.out);clear HB;have HB := n0_;clear n0_;have p290 : 0 ≤ (a3 : Int) := of_decide_eq_true Zas;have q290 : a3 < (l0.length : Int) := of_decide_eq_true Zas;obtain ⟨ad290, e290, hx290_0, hx290_1, hx290_2⟩ := zcc HR0.out a3 p290 q290;have hw290_2 := hx290_2;have hw290_1 := hx290_1;have hw290_0 := hx290_0;obtain rfl : ad286 = ad290 := (by injection e290);replace hx290_0 := (HB.out.cell (World.block_lt_of_cell? w _ hx290_0)).trans hx290_0;replace hx290_1 := (HB.out.cell (World.block_lt_of_cell? w _ hx290_1)).trans hx290_1;replace hx290_2 := (HB.out.cell (World.block_lt_of_cell? w _ hx290_2)).trans hx290_2;replace p290 := eq_true p290;replace q290 := eq_true q290;have p291 : 0 ≤ (a3 : Int) := of_decide_eq_true Zas;have q291 : a3 < (l1.length : Int) := of_decide_eq_true Zas;obtain ⟨ad291, e291, hx291_0⟩ := Kd.zcb HR1.out a3 p291 q291;have hw291_0 := hx291_0;obtain rfl : ad287 = ad291 := (by injection e291);replace hx291_0 := (HB.out.cell (World.block_lt_of_cell? w _ hx291_0)).trans hx291_0;replace p291 := eq_true p291;replace q291 := eq_true q291;refine zca (n := 11) (S := fun w' => w'.cell? (ad286.add ((a3).toNat * 3)) = some (.int .i64 ((zb l0 a3).f0)) ∧ w'.cell? ⟨(ad286.add ((a3).toNat * 3)).block, (ad286.add ((a3).toNat * 3)).off + 1, none⟩ = some (.int .i64 ((zb l0 a3).f1)) ∧ w'.cell? ⟨(ad286.add ((a3).toNat * 3)).block, (ad286.add ((a3).toNat * 3)).off + 2, none⟩ = some (.int .i64 ((zb l0 a3).f2)) ∧ w'.cell? (ad287.add (a3).toNat) = some (.int .i64 (rd l1 a3))) (ds := []) #[false, false, false, false, false, false, false, false, false, false, false] (by kernel_rfl) rfl rfl ⟨((HB.out.cell (World.block_lt_of_cell? w _ hw290_0)).trans hw290_0), ((HB.out.cell (World.block_lt_of_cell? w _ hw290_1)).trans hw290_1), ((HB.out.cell (World.block_lt_of_cell? w _ hw290_2)).trans hw290_2), ((HB.out.cell (World.block_lt_of_cell? w _ hw291_0)).trans hw291_0)⟩ (fun hHeld => ?_); refine zbu zi.tab2 zi.bits2 (fun HT_ HW_ => ?_);generalize w46.drew = w47 at HB hx290_0 hx290_1 hx290_2 hx291_0 hHeld ⊢;refine zl (i := 0) (N := some 25) (v := ?_) (a' := ?_) #[true, false, false, false, false, false, false, false, false, false, false] rfl rfl (ze HT_.out (by kernel_rfl)) (fun _ _ _ h => h) (Or.inl ⟨by rfl, ?_⟩) ?_ ?_;rotate_left
          ·intro w'
           go_simp;with_reducible rfl
          rotate_left
          ·simp only [Act.put, Zs1, Zs2, Zs3, zg, zh]
           rfl
          refine zl (i := 1) (N := some 26) (v := ?_) (a' := ?_) #[true, true, false, false, false, false, false, false, false, false, false] rfl rfl (ze HT_.out (by kernel_rfl)) (fun _ _ _ h => h) (Or.inl ⟨by rfl, ?_⟩) ?_ ?_;rotate_left
          ·intro w'
           go_simp;with_reducible rfl
          rotate_left
          ·simp only [Act.put, Zs1, Zs2, Zs3, zg, zh]
           rfl
          refine zl (i := 2) (N := some 27) (v := ?_) (a' := ?_) #[true, true, true, false, false, false, false, false, false, false, false] rfl rfl (ze HT_.out (by kernel_rfl)) (fun _ _ _ h => h) (Or.inl ⟨by rfl, ?_⟩) ?_ ?_;rotate_left
          ·intro w'
           go_simp;with_reducible rfl
          rotate_left
          ·simp only [Act.put, Zs1, Zs2, Zs3, zg, zh]
           rfl
          refine zl (i := 4) (N := some 29) (v := ?_) (a' := ?_) #[true, true, true, false, true, false, false, false, false, false, false] rfl rfl (ze HT_.out (by kernel_rfl)) (fun _ _ _ h => h) (Or.inl ⟨by rfl, ?_⟩) ?_ ?_;rotate_left
          ·intro w'
           go_simp;with_reducible rfl
          rotate_left
          ·simp only [Act.put, Zs1, Zs2, Zs3, zg, zh]
           rfl
          refine zl (i := 5) (N := some 30) (v := ?_) (a' := ?_) #[true, true, true, false, true, true, false, false, false, false, false] rfl rfl (ze HT_.out (by kernel_rfl)) (fun _ _ _ h => h) (Or.inl ⟨by rfl, ?_⟩) ?_ ?_;rotate_left
          ·intro w'
           go_simp;with_reducible rfl
          rotate_left
          ·simp only [Act.put, Zs1, Zs2, Zs3, zg, zh]
           rfl
          refine zl (i := 6) (N := some 31) (v := ?_) (a' := ?_) #[true, true, true, false, true, true, true, false, false, false, false] rfl rfl (ze HT_.out (by kernel_rfl)) (fun _ _ _ h => h) (Or.inl ⟨by rfl, ?_⟩) ?_ ?_;rotate_left
          ·intro w'
           go_simp;with_reducible rfl
          rotate_left
          ·simp only [Act.put, Zs1, Zs2, Zs3, zg, zh]
           rfl
          refine zby (i := 3) (N := some 28) (v := ?_) (a' := ?_) #[true, true, true, true, true, true, true, false, false, false, false] rfl rfl (z8 HT_.out HW_.out (by kernel_rfl)) (fun _ _ _ h => h) (Or.inl ⟨by rfl, ?_⟩) hHeld ?_ ?_;rotate_left
          ·rintro w' ⟨s0, s1, s2, s3⟩
           go_simp;with_reducible rfl
          rotate_left
          ·simp only [Act.put, Zs1, Zs2, Zs3, zg, zh]
           rfl
          refine zby (i := 7) (N := some 32) (v := ?_) (a' := ?_) #[true, true, true, true, true, true, true, true, false, false, false] rfl rfl (z8 HT_.out HW_.out (by kernel_rfl)) (fun _ _ _ h => h) (Or.inl ⟨by rfl, ?_⟩) hHeld ?_ ?_;rotate_left
          ·rintro w' ⟨s0, s1, s2, s3⟩
           go_simp;with_reducible rfl
          rotate_left
          ·simp only [Act.put, Zs1, Zs2, Zs3, zg, zh]
           rfl
          refine one_ (i := 8) (N := some 33) #[true, true, true, true, true, true, true, true, true, false, false] rfl rfl (zb2 HT_.out (by kernel_rfl)) (by decide) (fun K hK => ?_);refine zce Try.func64 (by kernel_rfl) rfl #[.agg #[.int .i64 ((zb l0 a3).f0), .int .i64 ((zb l0 a3).f1), .int .i64 ((zb l0 a3).f2)], .int .i64 (rd l1 a3)] (by rfl) rfl rfl Zmt ?_;with_reducible refine (zy.calls ((zb l0 a3).f0) ((zb l0 a3).f1) ((zb l0 a3).f2) (rd l1 a3) t292 t293 _ A12.out).mono ?_
          rintro e w48 ⟨rfl, hb⟩;refine ⟨_, rfl, ?_⟩;have n0_ := za.mk (zk (Zq0 HB) hb);clear HB;have HB := n0_;clear n0_;(try clear hb);(try clear hb2);(try clear hk);(try clear hi);refine hK.out _ _ ⟨((HB.out.cell (World.block_lt_of_cell? w _ hw290_0)).trans hw290_0), ((HB.out.cell (World.block_lt_of_cell? w _ hw290_1)).trans hw290_1), ((HB.out.cell (World.block_lt_of_cell? w _ hw290_2)).trans hw290_2), ((HB.out.cell (World.block_lt_of_cell? w _ hw291_0)).trans hw291_0)⟩ (fun hHeld => ?_);clear hK K;refine zcd (a' := ?_) ?_ ?_;rotate_left
          ·show Act.put _ (some 33) _ = _
           simp only [Act.put, Zs1, Zs2, Zs3, zg, zh];rfl
          refine zl (i := 9) (N := some 34) (v := ?_) (a' := ?_) #[true, true, true, true, true, true, true, true, true, true, false] rfl rfl (ze HT_.out (by kernel_rfl)) (fun _ _ _ h => h) (Or.inl ⟨by rfl, ?_⟩) ?_ ?_;rotate_left
          ·intro w'
           go_simp;with_reducible rfl
          rotate_left
          ·simp only [Act.put, Zs1, Zs2, Zs3, zg, zh]
           rfl
          refine zl (i := 10) (N := some 10) (v := ?_) (a' := ?_) #[true, true, true, true, true, true, true, true, true, true, true] rfl rfl (ze HT_.out (by kernel_rfl)) (fun _ _ _ h => h) (Or.inl ⟨by rfl, ?_⟩) ?_ ?_;rotate_left
          ·intro w'
           go_simp;with_reducible rfl
          rotate_left
          ·simp only [Act.put, Zs1, Zs2, Zs3, zg, zh]
           rfl
          refine zcn (zb3 HT_.out (by kernel_rfl)) ?_
          try go_wp2
          have n0_ := za.mk (zbe HB.out);clear HB;have HB := n0_;clear n0_;have p294 : 0 ≤ (a2 : Int) := of_decide_eq_true Zas;have q294 : a2 < (l0.length : Int) := of_decide_eq_true Zas;obtain ⟨ad294, e294, hx294_0, hx294_1, hx294_2⟩ := zcc HR0.out a2 p294 q294;have hw294_2 := hx294_2;have hw294_1 := hx294_1;have hw294_0 := hx294_0;obtain rfl : ad286 = ad294 := (by injection e294);replace hx294_0 := (HB.out.cell (World.block_lt_of_cell? w _ hx294_0)).trans hx294_0;replace hx294_1 := (HB.out.cell (World.block_lt_of_cell? w _ hx294_1)).trans hx294_1;replace hx294_2 := (HB.out.cell (World.block_lt_of_cell? w _ hx294_2)).trans hx294_2;replace p294 := eq_true p294;replace q294 := eq_true q294;have p295 : 0 ≤ (a2 : Int) := of_decide_eq_true Zas;have q295 : a2 < (l1.length : Int) := of_decide_eq_true Zas;obtain ⟨ad295, e295, hx295_0⟩ := Kd.zcb HR1.out a2 p295 q295;have hw295_0 := hx295_0;obtain rfl : ad287 = ad295 := (by injection e295);replace hx295_0 := (HB.out.cell (World.block_lt_of_cell? w _ hx295_0)).trans hx295_0;replace p295 := eq_true p295;replace q295 := eq_true q295;refine zca (n := 10) (S := fun w' => w'.cell? (ad286.add ((a2).toNat * 3)) = some (.int .i64 ((zb l0 a2).f0)) ∧ w'.cell? ⟨(ad286.add ((a2).toNat * 3)).block, (ad286.add ((a2).toNat * 3)).off + 1, none⟩ = some (.int .i64 ((zb l0 a2).f1)) ∧ w'.cell? ⟨(ad286.add ((a2).toNat * 3)).block, (ad286.add ((a2).toNat * 3)).off + 2, none⟩ = some (.int .i64 ((zb l0 a2).f2)) ∧ w'.cell? (ad287.add (a2).toNat) = some (.int .i64 (rd l1 a2))) (ds := []) #[false, false, false, false, false, false, false, false, false, false] (by kernel_rfl) rfl rfl ⟨((HB.out.cell (World.block_lt_of_cell? w _ hw294_0)).trans hw294_0), ((HB.out.cell (World.block_lt_of_cell? w _ hw294_1)).trans hw294_1), ((HB.out.cell (World.block_lt_of_cell? w _ hw294_2)).trans hw294_2), ((HB.out.cell (World.block_lt_of_cell? w _ hw295_0)).trans hw295_0)⟩ (fun hHeld => ?_); refine zbu zi.tab5 zi.bits5 (fun HT_ HW_ => ?_);generalize w48.drew = w49 at HB hx294_0 hx294_1 hx294_2 hx295_0 hHeld ⊢;refine zl (i := 0) (N := some 41) (v := ?_) (a' := ?_) #[true, false, false, false, false, false, false, false, false, false] rfl rfl (ze HT_.out (by kernel_rfl)) (fun _ _ _ h => h) (Or.inl ⟨by rfl, ?_⟩) ?_ ?_;rotate_left
          ·intro w'
           go_simp;with_reducible rfl
          rotate_left
          ·simp only [Act.put, Zs1, Zs2, Zs3, zg, zh]
           rfl
          refine zl (i := 1) (N := some 42) (v := ?_) (a' := ?_) #[true, true, false, false, false, false, false, false, false, false] rfl rfl (ze HT_.out (by kernel_rfl)) (fun _ _ _ h => h) (Or.inl ⟨by rfl, ?_⟩) ?_ ?_;rotate_left
          ·intro w'
           go_simp;with_reducible rfl
          rotate_left
          ·simp only [Act.put, Zs1, Zs2, Zs3, zg, zh]
           rfl
          refine zl (i := 2) (N := some 43) (v := ?_) (a' := ?_) #[true, true, true, false, false, false, false, false, false, false] rfl rfl (ze HT_.out (by kernel_rfl)) (fun _ _ _ h => h) (Or.inl ⟨by rfl, ?_⟩) ?_ ?_;rotate_left
          ·intro w'
           go_simp;with_reducible rfl
          rotate_left
          ·simp only [Act.put, Zs1, Zs2, Zs3, zg, zh]
           rfl
          refine zl (i := 4) (N := some 45) (v := ?_) (a' := ?_) #[true, true, true, false, true, false, false, false, false, false] rfl rfl (ze HT_.out (by kernel_rfl)) (fun _ _ _ h => h) (Or.inl ⟨by rfl, ?_⟩) ?_ ?_;rotate_left
          ·intro w'
           go_simp;with_reducible rfl
          rotate_left
          ·simp only [Act.put, Zs1, Zs2, Zs3, zg, zh]
           rfl
          refine zl (i := 5) (N := some 46) (v := ?_) (a' := ?_) #[true, true, true, false, true, true, false, false, false, false] rfl rfl (ze HT_.out (by kernel_rfl)) (fun _ _ _ h => h) (Or.inl ⟨by rfl, ?_⟩) ?_ ?_;rotate_left
          ·intro w'
           go_simp;with_reducible rfl
          rotate_left
          ·simp only [Act.put, Zs1, Zs2, Zs3, zg, zh]
           rfl
          refine zl (i := 6) (N := some 47) (v := ?_) (a' := ?_) #[true, true, true, false, true, true, true, false, false, false] rfl rfl (ze HT_.out (by kernel_rfl)) (fun _ _ _ h => h) (Or.inl ⟨by rfl, ?_⟩) ?_ ?_;rotate_left
          ·intro w'
           go_simp;with_reducible rfl
          rotate_left
          ·simp only [Act.put, Zs1, Zs2, Zs3, zg, zh]
           rfl
          refine zby (i := 3) (N := some 44) (v := ?_) (a' := ?_) #[true, true, true, true, true, true, true, false, false, false] rfl rfl (z8 HT_.out HW_.out (by kernel_rfl)) (fun _ _ _ h => h) (Or.inl ⟨by rfl, ?_⟩) hHeld ?_ ?_;rotate_left
          ·rintro w' ⟨s0, s1, s2, s3⟩
           go_simp;with_reducible rfl
          rotate_left
          ·simp only [Act.put, Zs1, Zs2, Zs3, zg, zh]
           rfl
          refine zby (i := 7) (N := some 48) (v := ?_) (a' := ?_) #[true, true, true, true, true, true, true, true, false, false] rfl rfl (z8 HT_.out HW_.out (by kernel_rfl)) (fun _ _ _ h => h) (Or.inl ⟨by rfl, ?_⟩) hHeld ?_ ?_;rotate_left
          ·rintro w' ⟨s0, s1, s2, s3⟩
           go_simp;with_reducible rfl
          rotate_left
          ·simp only [Act.put, Zs1, Zs2, Zs3, zg, zh]
           rfl
          refine one_ (i := 8) (N := some 49) #[true, true, true, true, true, true, true, true, true, false] rfl rfl (zb2 HT_.out (by kernel_rfl)) (by decide) (fun K hK => ?_);refine zce Try.func76 (by kernel_rfl) rfl #[.agg #[.int .i64 ((zb l0 a2).f0), .int .i64 ((zb l0 a2).f1), .int .i64 ((zb l0 a2).f2)], .int .i64 (rd l1 a2)] (by rfl) rfl rfl Zmt ?_;with_reducible refine (zbd.calls ((zb l0 a2).f0) ((zb l0 a2).f1) ((zb l0 a2).f2) (rd l1 a2) t296 _ A14.out).mono ?_
          rintro e w50 ⟨rfl, hb⟩;refine ⟨_, rfl, ?_⟩;have n0_ := za.mk (zk (Zq0 HB) hb);clear HB;have HB := n0_;clear n0_;(try clear hb);(try clear hb2);(try clear hk);(try clear hi);refine hK.out _ _ ⟨((HB.out.cell (World.block_lt_of_cell? w _ hw294_0)).trans hw294_0), ((HB.out.cell (World.block_lt_of_cell? w _ hw294_1)).trans hw294_1), ((HB.out.cell (World.block_lt_of_cell? w _ hw294_2)).trans hw294_2), ((HB.out.cell (World.block_lt_of_cell? w _ hw295_0)).trans hw295_0)⟩ (fun hHeld => ?_);clear hK K;refine zcd (a' := ?_) ?_ ?_;rotate_left
          ·show Act.put _ (some 49) _ = _
           simp only [Act.put, Zs1, Zs2, Zs3, zg, zh];rfl
          refine zl (i := 9) (N := some 11) (v := ?_) (a' := ?_) #[true, true, true, true, true, true, true, true, true, true] rfl rfl (ze HT_.out (by kernel_rfl)) (fun _ _ _ h => h) (Or.inl ⟨by rfl, ?_⟩) ?_ ?_;rotate_left
          ·intro w'
           go_simp;with_reducible rfl
          rotate_left
          ·simp only [Act.put, Zs1, Zs2, Zs3, zg, zh]
           rfl
          refine zcn (zb3 HT_.out (by kernel_rfl)) ?_
          try go_wp2
          have n0_ := za.mk (zbe HB.out);clear HB;have HB := n0_;clear n0_;have p297 : 0 ≤ (a3 : Int) := of_decide_eq_true Zas;have q297 : a3 < (l0.length : Int) := of_decide_eq_true Zas;obtain ⟨ad297, e297, hx297_0, hx297_1, hx297_2⟩ := zcc HR0.out a3 p297 q297;have hw297_2 := hx297_2;have hw297_1 := hx297_1;have hw297_0 := hx297_0;obtain rfl : ad286 = ad297 := (by injection e297);replace hx297_0 := (HB.out.cell (World.block_lt_of_cell? w _ hx297_0)).trans hx297_0;replace hx297_1 := (HB.out.cell (World.block_lt_of_cell? w _ hx297_1)).trans hx297_1;replace hx297_2 := (HB.out.cell (World.block_lt_of_cell? w _ hx297_2)).trans hx297_2;replace p297 := eq_true p297;replace q297 := eq_true q297;have p298 : 0 ≤ (a3 : Int) := of_decide_eq_true Zas;have q298 : a3 < (l1.length : Int) := of_decide_eq_true Zas;obtain ⟨ad298, e298, hx298_0⟩ := Kd.zcb HR1.out a3 p298 q298;have hw298_0 := hx298_0;obtain rfl : ad287 = ad298 := (by injection e298);replace hx298_0 := (HB.out.cell (World.block_lt_of_cell? w _ hx298_0)).trans hx298_0;replace p298 := eq_true p298;replace q298 := eq_true q298;refine zca (n := 10) (S := fun w' => w'.cell? (ad286.add ((a3).toNat * 3)) = some (.int .i64 ((zb l0 a3).f0)) ∧ w'.cell? ⟨(ad286.add ((a3).toNat * 3)).block, (ad286.add ((a3).toNat * 3)).off + 1, none⟩ = some (.int .i64 ((zb l0 a3).f1)) ∧ w'.cell? ⟨(ad286.add ((a3).toNat * 3)).block, (ad286.add ((a3).toNat * 3)).off + 2, none⟩ = some (.int .i64 ((zb l0 a3).f2)) ∧ w'.cell? (ad287.add (a3).toNat) = some (.int .i64 (rd l1 a3))) (ds := []) #[false, false, false, false, false, false, false, false, false, false] (by kernel_rfl) rfl rfl ⟨((HB.out.cell (World.block_lt_of_cell? w _ hw297_0)).trans hw297_0), ((HB.out.cell (World.block_lt_of_cell? w _ hw297_1)).trans hw297_1), ((HB.out.cell (World.block_lt_of_cell? w _ hw297_2)).trans hw297_2), ((HB.out.cell (World.block_lt_of_cell? w _ hw298_0)).trans hw298_0)⟩ (fun hHeld => ?_); refine zbu zi.tab6 zi.zil (fun HT_ HW_ => ?_);generalize w50.drew = w51 at HB hx297_0 hx297_1 hx297_2 hx298_0 hHeld ⊢;refine zl (i := 0) (N := some 50) (v := ?_) (a' := ?_) #[true, false, false, false, false, false, false, false, false, false] rfl rfl (ze HT_.out (by kernel_rfl)) (fun _ _ _ h => h) (Or.inl ⟨by rfl, ?_⟩) ?_ ?_;rotate_left
          ·intro w'
           go_simp;with_reducible rfl
          rotate_left
          ·simp only [Act.put, Zs1, Zs2, Zs3, zg, zh]
           rfl
          refine zl (i := 1) (N := some 51) (v := ?_) (a' := ?_) #[true, true, false, false, false, false, false, false, false, false] rfl rfl (ze HT_.out (by kernel_rfl)) (fun _ _ _ h => h) (Or.inl ⟨by rfl, ?_⟩) ?_ ?_;rotate_left
          ·intro w'
           go_simp;with_reducible rfl
          rotate_left
          ·simp only [Act.put, Zs1, Zs2, Zs3, zg, zh]
           rfl
          refine zl (i := 2) (N := some 52) (v := ?_) (a' := ?_) #[true, true, true, false, false, false, false, false, false, false] rfl rfl (ze HT_.out (by kernel_rfl)) (fun _ _ _ h => h) (Or.inl ⟨by rfl, ?_⟩) ?_ ?_;rotate_left
          ·intro w'
           go_simp;with_reducible rfl
          rotate_left
          ·simp only [Act.put, Zs1, Zs2, Zs3, zg, zh]
           rfl
          refine zl (i := 4) (N := some 54) (v := ?_) (a' := ?_) #[true, true, true, false, true, false, false, false, false, false] rfl rfl (ze HT_.out (by kernel_rfl)) (fun _ _ _ h => h) (Or.inl ⟨by rfl, ?_⟩) ?_ ?_;rotate_left
          ·intro w'
           go_simp;with_reducible rfl
          rotate_left
          ·simp only [Act.put, Zs1, Zs2, Zs3, zg, zh]
           rfl
          refine zl (i := 5) (N := some 55) (v := ?_) (a' := ?_) #[true, true, true, false, true, true, false, false, false, false] rfl rfl (ze HT_.out (by kernel_rfl)) (fun _ _ _ h => h) (Or.inl ⟨by rfl, ?_⟩) ?_ ?_;rotate_left
          ·intro w'
           go_simp;with_reducible rfl
          rotate_left
          ·simp only [Act.put, Zs1, Zs2, Zs3, zg, zh]
           rfl
          refine zl (i := 6) (N := some 56) (v := ?_) (a' := ?_) #[true, true, true, false, true, true, true, false, false, false] rfl rfl (ze HT_.out (by kernel_rfl)) (fun _ _ _ h => h) (Or.inl ⟨by rfl, ?_⟩) ?_ ?_;rotate_left
          ·intro w'
           go_simp;with_reducible rfl
          rotate_left
          ·simp only [Act.put, Zs1, Zs2, Zs3, zg, zh]
           rfl
          refine zby (i := 3) (N := some 53) (v := ?_) (a' := ?_) #[true, true, true, true, true, true, true, false, false, false] rfl rfl (z8 HT_.out HW_.out (by kernel_rfl)) (fun _ _ _ h => h) (Or.inl ⟨by rfl, ?_⟩) hHeld ?_ ?_;rotate_left
          ·rintro w' ⟨s0, s1, s2, s3⟩
           go_simp;with_reducible rfl
          rotate_left
          ·simp only [Act.put, Zs1, Zs2, Zs3, zg, zh]
           rfl
          refine zby (i := 7) (N := some 57) (v := ?_) (a' := ?_) #[true, true, true, true, true, true, true, true, false, false] rfl rfl (z8 HT_.out HW_.out (by kernel_rfl)) (fun _ _ _ h => h) (Or.inl ⟨by rfl, ?_⟩) hHeld ?_ ?_;rotate_left
          ·rintro w' ⟨s0, s1, s2, s3⟩
           go_simp;with_reducible rfl
          rotate_left
          ·simp only [Act.put, Zs1, Zs2, Zs3, zg, zh]
           rfl
          refine one_ (i := 8) (N := some 58) #[true, true, true, true, true, true, true, true, true, false] rfl rfl (zb2 HT_.out (by kernel_rfl)) (by decide) (fun K hK => ?_);refine zce Try.func76 (by kernel_rfl) rfl #[.agg #[.int .i64 ((zb l0 a3).f0), .int .i64 ((zb l0 a3).f1), .int .i64 ((zb l0 a3).f2)], .int .i64 (rd l1 a3)] (by rfl) rfl rfl Zmt ?_;with_reducible refine (zbd.calls ((zb l0 a3).f0) ((zb l0 a3).f1) ((zb l0 a3).f2) (rd l1 a3) t299 _ A15.out).mono ?_
          rintro e w52 ⟨rfl, hb⟩;refine ⟨_, rfl, ?_⟩;have n0_ := za.mk (zk (Zq0 HB) hb);clear HB;have HB := n0_;clear n0_;(try clear hb);(try clear hb2);(try clear hk);(try clear hi);refine hK.out _ _ ⟨((HB.out.cell (World.block_lt_of_cell? w _ hw297_0)).trans hw297_0), ((HB.out.cell (World.block_lt_of_cell? w _ hw297_1)).trans hw297_1), ((HB.out.cell (World.block_lt_of_cell? w _ hw297_2)).trans hw297_2), ((HB.out.cell (World.block_lt_of_cell? w _ hw298_0)).trans hw298_0)⟩ (fun hHeld => ?_);clear hK K;refine zcd (a' := ?_) ?_ ?_;rotate_left
          ·show Act.put _ (some 58) _ = _
           simp only [Act.put, Zs1, Zs2, Zs3, zg, zh];rfl
          refine zl (i := 9) (N := some 12) (v := ?_) (a' := ?_) #[true, true, true, true, true, true, true, true, true, true] rfl rfl (ze HT_.out (by kernel_rfl)) (fun _ _ _ h => h) (Or.inl ⟨by rfl, ?_⟩) ?_ ?_;rotate_left
          ·intro w'
           go_simp;with_reducible rfl
          rotate_left
          ·simp only [Act.put, Zs1, Zs2, Zs3, zg, zh]
           rfl
          refine zcn (zb3 HT_.out (by kernel_rfl)) ?_
          try go_wp2
          go_ret;exact ⟨by first | rfl | (simp [zn, zo] <;> rfl) | (simp [*, zn, zo] <;> rfl), Zq0 HB⟩
        ·rw [if_neg c16] at H
         have c16b0 : (t296 == t299) = false := beq_eq_false_iff_ne.mpr c16;have c16b1 : (t296 != t299) = true := bne_iff_ne.mpr c16;obtain rfl := Option.some.inj H;go_enter Try.func66, Try.ntmps66
         try go_wp2
         have n0_ := za.mk (zbe HB.out);clear HB;have HB := n0_;clear n0_;have p286 : 0 ≤ (a2 : Int) := of_decide_eq_true Zas;have q286 : a2 < (l0.length : Int) := of_decide_eq_true Zas;obtain ⟨ad286, e286, hx286_0, hx286_1, hx286_2⟩ := zcc HR0.out a2 p286 q286;have hw286_2 := hx286_2;have hw286_1 := hx286_1;have hw286_0 := hx286_0
         cases e286
         replace hx286_0 := (HB.out.cell (World.block_lt_of_cell? w _ hx286_0)).trans hx286_0;replace hx286_1 := (HB.out.cell (World.block_lt_of_cell? w _ hx286_1)).trans hx286_1;replace hx286_2 := (HB.out.cell (World.block_lt_of_cell? w _ hx286_2)).trans hx286_2;replace p286 := eq_true p286;replace q286 := eq_true q286;have p287 : 0 ≤ (a2 : Int) := of_decide_eq_true Zas;have q287 : a2 < (l1.length : Int) := of_decide_eq_true Zas;obtain ⟨ad287, e287, hx287_0⟩ := Kd.zcb HR1.out a2 p287 q287;have hw287_0 := hx287_0
         cases e287
         replace hx287_0 := (HB.out.cell (World.block_lt_of_cell? w _ hx287_0)).trans hx287_0;replace p287 := eq_true p287;replace q287 := eq_true q287;refine zca (n := 11) (S := fun w' => w'.cell? (ad286.add ((a2).toNat * 3)) = some (.int .i64 ((zb l0 a2).f0)) ∧ w'.cell? ⟨(ad286.add ((a2).toNat * 3)).block, (ad286.add ((a2).toNat * 3)).off + 1, none⟩ = some (.int .i64 ((zb l0 a2).f1)) ∧ w'.cell? ⟨(ad286.add ((a2).toNat * 3)).block, (ad286.add ((a2).toNat * 3)).off + 2, none⟩ = some (.int .i64 ((zb l0 a2).f2)) ∧ w'.cell? (ad287.add (a2).toNat) = some (.int .i64 (rd l1 a2))) (ds := []) #[false, false, false, false, false, false, false, false, false, false, false] (by kernel_rfl) rfl rfl ⟨((HB.out.cell (World.block_lt_of_cell? w _ hw286_0)).trans hw286_0), ((HB.out.cell (World.block_lt_of_cell? w _ hw286_1)).trans hw286_1), ((HB.out.cell (World.block_lt_of_cell? w _ hw286_2)).trans hw286_2), ((HB.out.cell (World.block_lt_of_cell? w _ hw287_0)).trans hw287_0)⟩ (fun hHeld => ?_); refine zbu zi.tab1 zi.zd8 (fun HT_ HW_ => ?_);generalize w.drew = w53 at HB hx286_0 hx286_1 hx286_2 hx287_0 hHeld ⊢;refine zl (i := 0) (N := some 15) (v := ?_) (a' := ?_) #[true, false, false, false, false, false, false, false, false, false, false] rfl rfl (ze HT_.out (by kernel_rfl)) (fun _ _ _ h => h) (Or.inl ⟨by rfl, ?_⟩) ?_ ?_;rotate_left
         ·intro w'
          go_simp;with_reducible rfl
         rotate_left
         ·simp only [Act.put, Zs1, Zs2, Zs3, zg, zh]
          rfl
         refine zl (i := 1) (N := some 16) (v := ?_) (a' := ?_) #[true, true, false, false, false, false, false, false, false, false, false] rfl rfl (ze HT_.out (by kernel_rfl)) (fun _ _ _ h => h) (Or.inl ⟨by rfl, ?_⟩) ?_ ?_;rotate_left
         ·intro w'
          go_simp;with_reducible rfl
         rotate_left
         ·simp only [Act.put, Zs1, Zs2, Zs3, zg, zh]
          rfl
         refine zl (i := 2) (N := some 17) (v := ?_) (a' := ?_) #[true, true, true, false, false, false, false, false, false, false, false] rfl rfl (ze HT_.out (by kernel_rfl)) (fun _ _ _ h => h) (Or.inl ⟨by rfl, ?_⟩) ?_ ?_;rotate_left
         ·intro w'
          go_simp;with_reducible rfl
         rotate_left
         ·simp only [Act.put, Zs1, Zs2, Zs3, zg, zh]
          rfl
         refine zl (i := 4) (N := some 19) (v := ?_) (a' := ?_) #[true, true, true, false, true, false, false, false, false, false, false] rfl rfl (ze HT_.out (by kernel_rfl)) (fun _ _ _ h => h) (Or.inl ⟨by rfl, ?_⟩) ?_ ?_;rotate_left
         ·intro w'
          go_simp;with_reducible rfl
         rotate_left
         ·simp only [Act.put, Zs1, Zs2, Zs3, zg, zh]
          rfl
         refine zl (i := 5) (N := some 20) (v := ?_) (a' := ?_) #[true, true, true, false, true, true, false, false, false, false, false] rfl rfl (ze HT_.out (by kernel_rfl)) (fun _ _ _ h => h) (Or.inl ⟨by rfl, ?_⟩) ?_ ?_;rotate_left
         ·intro w'
          go_simp;with_reducible rfl
         rotate_left
         ·simp only [Act.put, Zs1, Zs2, Zs3, zg, zh]
          rfl
         refine zl (i := 6) (N := some 21) (v := ?_) (a' := ?_) #[true, true, true, false, true, true, true, false, false, false, false] rfl rfl (ze HT_.out (by kernel_rfl)) (fun _ _ _ h => h) (Or.inl ⟨by rfl, ?_⟩) ?_ ?_;rotate_left
         ·intro w'
          go_simp;with_reducible rfl
         rotate_left
         ·simp only [Act.put, Zs1, Zs2, Zs3, zg, zh]
          rfl
         refine zby (i := 3) (N := some 18) (v := ?_) (a' := ?_) #[true, true, true, true, true, true, true, false, false, false, false] rfl rfl (z8 HT_.out HW_.out (by kernel_rfl)) (fun _ _ _ h => h) (Or.inl ⟨by rfl, ?_⟩) hHeld ?_ ?_;rotate_left
         ·rintro w' ⟨s0, s1, s2, s3⟩
          go_simp;with_reducible rfl
         rotate_left
         ·simp only [Act.put, Zs1, Zs2, Zs3, zg, zh]
          rfl
         refine zby (i := 7) (N := some 22) (v := ?_) (a' := ?_) #[true, true, true, true, true, true, true, true, false, false, false] rfl rfl (z8 HT_.out HW_.out (by kernel_rfl)) (fun _ _ _ h => h) (Or.inl ⟨by rfl, ?_⟩) hHeld ?_ ?_;rotate_left
         ·rintro w' ⟨s0, s1, s2, s3⟩
          go_simp;with_reducible rfl
         rotate_left
         ·simp only [Act.put, Zs1, Zs2, Zs3, zg, zh]
          rfl
         refine one_ (i := 8) (N := some 23) #[true, true, true, true, true, true, true, true, true, false, false] rfl rfl (zb2 HT_.out (by kernel_rfl)) (by decide) (fun K hK => ?_);refine zce Try.func64 (by kernel_rfl) rfl #[.agg #[.int .i64 ((zb l0 a2).f0), .int .i64 ((zb l0 a2).f1), .int .i64 ((zb l0 a2).f2)], .int .i64 (rd l1 a2)] (by rfl) rfl rfl Zmt ?_;with_reducible refine (zy.calls ((zb l0 a2).f0) ((zb l0 a2).f1) ((zb l0 a2).f2) (rd l1 a2) t288 t289 _ A8.out).mono ?_
         rintro e w54 ⟨rfl, hb⟩;refine ⟨_, rfl, ?_⟩;have n0_ := za.mk (zk (Zq0 HB) hb);clear HB;have HB := n0_;clear n0_;(try clear hb);(try clear hb2);(try clear hk);(try clear hi);refine hK.out _ _ ⟨((HB.out.cell (World.block_lt_of_cell? w _ hw286_0)).trans hw286_0), ((HB.out.cell (World.block_lt_of_cell? w _ hw286_1)).trans hw286_1), ((HB.out.cell (World.block_lt_of_cell? w _ hw286_2)).trans hw286_2), ((HB.out.cell (World.block_lt_of_cell? w _ hw287_0)).trans hw287_0)⟩ (fun hHeld => ?_);clear hK K;refine zcd (a' := ?_) ?_ ?_;rotate_left
         ·show Act.put _ (some 23) _ = _
          simp only [Act.put, Zs1, Zs2, Zs3, zg, zh];rfl
         refine zl (i := 9) (N := some 24) (v := ?_) (a' := ?_) #[true, true, true, true, true, true, true, true, true, true, false] rfl rfl (ze HT_.out (by kernel_rfl)) (fun _ _ _ h => h) (Or.inl ⟨by rfl, ?_⟩) ?_ ?_;rotate_left
         ·intro w'
          go_simp;with_reducible rfl
         rotate_left
         ·simp only [Act.put, Zs1, Zs2, Zs3, zg, zh]
          rfl
         refine zl (i := 10) (N := some 9) (v := ?_) (a' := ?_) #[true, true, true, true, true, true, true, true, true, true, true] rfl rfl (ze HT_.out (by kernel_rfl)) (fun _ _ _ h => h) (Or.inl ⟨by rfl, ?_⟩) ?_ ?_;rotate_left
         ·intro w'
          go_simp;with_reducible rfl
         rotate_left
         ·simp only [Act.put, Zs1, Zs2, Zs3, zg, zh]
          rfl
         refine zcn (zb3 HT_.out (by kernel_rfl)) ?_
         try go_wp2
         have n0_ := za.mk (zbe HB.out);clear HB;have HB := n0_;clear n0_;have p290 : 0 ≤ (a3 : Int) := of_decide_eq_true Zas;have q290 : a3 < (l0.length : Int) := of_decide_eq_true Zas;obtain ⟨ad290, e290, hx290_0, hx290_1, hx290_2⟩ := zcc HR0.out a3 p290 q290;have hw290_2 := hx290_2;have hw290_1 := hx290_1;have hw290_0 := hx290_0;obtain rfl : ad286 = ad290 := (by injection e290);replace hx290_0 := (HB.out.cell (World.block_lt_of_cell? w _ hx290_0)).trans hx290_0;replace hx290_1 := (HB.out.cell (World.block_lt_of_cell? w _ hx290_1)).trans hx290_1;replace hx290_2 := (HB.out.cell (World.block_lt_of_cell? w _ hx290_2)).trans hx290_2;replace p290 := eq_true p290;replace q290 := eq_true q290;have p291 : 0 ≤ (a3 : Int) := of_decide_eq_true Zas;have q291 : a3 < (l1.length : Int) := of_decide_eq_true Zas;obtain ⟨ad291, e291, hx291_0⟩ := Kd.zcb HR1.out a3 p291 q291;have hw291_0 := hx291_0;obtain rfl : ad287 = ad291 := (by injection e291);replace hx291_0 := (HB.out.cell (World.block_lt_of_cell? w _ hx291_0)).trans hx291_0;replace p291 := eq_true p291;replace q291 := eq_true q291;refine zca (n := 11) (S := fun w' => w'.cell? (ad286.add ((a3).toNat * 3)) = some (.int .i64 ((zb l0 a3).f0)) ∧ w'.cell? ⟨(ad286.add ((a3).toNat * 3)).block, (ad286.add ((a3).toNat * 3)).off + 1, none⟩ = some (.int .i64 ((zb l0 a3).f1)) ∧ w'.cell? ⟨(ad286.add ((a3).toNat * 3)).block, (ad286.add ((a3).toNat * 3)).off + 2, none⟩ = some (.int .i64 ((zb l0 a3).f2)) ∧ w'.cell? (ad287.add (a3).toNat) = some (.int .i64 (rd l1 a3))) (ds := []) #[false, false, false, false, false, false, false, false, false, false, false] (by kernel_rfl) rfl rfl ⟨((HB.out.cell (World.block_lt_of_cell? w _ hw290_0)).trans hw290_0), ((HB.out.cell (World.block_lt_of_cell? w _ hw290_1)).trans hw290_1), ((HB.out.cell (World.block_lt_of_cell? w _ hw290_2)).trans hw290_2), ((HB.out.cell (World.block_lt_of_cell? w _ hw291_0)).trans hw291_0)⟩ (fun hHeld => ?_); refine zbu zi.tab2 zi.bits2 (fun HT_ HW_ => ?_);generalize w54.drew = w55 at HB hx290_0 hx290_1 hx290_2 hx291_0 hHeld ⊢;refine zl (i := 0) (N := some 25) (v := ?_) (a' := ?_) #[true, false, false, false, false, false, false, false, false, false, false] rfl rfl (ze HT_.out (by kernel_rfl)) (fun _ _ _ h => h) (Or.inl ⟨by rfl, ?_⟩) ?_ ?_;rotate_left
         ·intro w'
          go_simp;with_reducible rfl
         rotate_left
         ·simp only [Act.put, Zs1, Zs2, Zs3, zg, zh]
          rfl
         refine zl (i := 1) (N := some 26) (v := ?_) (a' := ?_) #[true, true, false, false, false, false, false, false, false, false, false] rfl rfl (ze HT_.out (by kernel_rfl)) (fun _ _ _ h => h) (Or.inl ⟨by rfl, ?_⟩) ?_ ?_;rotate_left
         ·intro w'
          go_simp;with_reducible rfl
         rotate_left
         ·simp only [Act.put, Zs1, Zs2, Zs3, zg, zh]
          rfl
         refine zl (i := 2) (N := some 27) (v := ?_) (a' := ?_) #[true, true, true, false, false, false, false, false, false, false, false] rfl rfl (ze HT_.out (by kernel_rfl)) (fun _ _ _ h => h) (Or.inl ⟨by rfl, ?_⟩) ?_ ?_;rotate_left
         ·intro w'
          go_simp;with_reducible rfl
         rotate_left
         ·simp only [Act.put, Zs1, Zs2, Zs3, zg, zh]
          rfl
         refine zl (i := 4) (N := some 29) (v := ?_) (a' := ?_) #[true, true, true, false, true, false, false, false, false, false, false] rfl rfl (ze HT_.out (by kernel_rfl)) (fun _ _ _ h => h) (Or.inl ⟨by rfl, ?_⟩) ?_ ?_;rotate_left
         ·intro w'
          go_simp;with_reducible rfl
         rotate_left
         ·simp only [Act.put, Zs1, Zs2, Zs3, zg, zh]
          rfl
         refine zl (i := 5) (N := some 30) (v := ?_) (a' := ?_) #[true, true, true, false, true, true, false, false, false, false, false] rfl rfl (ze HT_.out (by kernel_rfl)) (fun _ _ _ h => h) (Or.inl ⟨by rfl, ?_⟩) ?_ ?_;rotate_left
         ·intro w'
          go_simp;with_reducible rfl
         rotate_left
         ·simp only [Act.put, Zs1, Zs2, Zs3, zg, zh]
          rfl
         refine zl (i := 6) (N := some 31) (v := ?_) (a' := ?_) #[true, true, true, false, true, true, true, false, false, false, false] rfl rfl (ze HT_.out (by kernel_rfl)) (fun _ _ _ h => h) (Or.inl ⟨by rfl, ?_⟩) ?_ ?_;rotate_left
         ·intro w'
          go_simp;with_reducible rfl
         rotate_left
         ·simp only [Act.put, Zs1, Zs2, Zs3, zg, zh]
          rfl
         refine zby (i := 3) (N := some 28) (v := ?_) (a' := ?_) #[true, true, true, true, true, true, true, false, false, false, false] rfl rfl (z8 HT_.out HW_.out (by kernel_rfl)) (fun _ _ _ h => h) (Or.inl ⟨by rfl, ?_⟩) hHeld ?_ ?_;rotate_left
         ·rintro w' ⟨s0, s1, s2, s3⟩
          go_simp;with_reducible rfl
         rotate_left
         ·simp only [Act.put, Zs1, Zs2, Zs3, zg, zh]
          rfl
         refine zby (i := 7) (N := some 32) (v := ?_) (a' := ?_) #[true, true, true, true, true, true, true, true, false, false, false] rfl rfl (z8 HT_.out HW_.out (by kernel_rfl)) (fun _ _ _ h => h) (Or.inl ⟨by rfl, ?_⟩) hHeld ?_ ?_;rotate_left
         ·rintro w' ⟨s0, s1, s2, s3⟩
          go_simp;with_reducible rfl
         rotate_left
         ·simp only [Act.put, Zs1, Zs2, Zs3, zg, zh]
          rfl
         refine one_ (i := 8) (N := some 33) #[true, true, true, true, true, true, true, true, true, false, false] rfl rfl (zb2 HT_.out (by kernel_rfl)) (by decide) (fun K hK => ?_);refine zce Try.func64 (by kernel_rfl) rfl #[.agg #[.int .i64 ((zb l0 a3).f0), .int .i64 ((zb l0 a3).f1), .int .i64 ((zb l0 a3).f2)], .int .i64 (rd l1 a3)] (by rfl) rfl rfl Zmt ?_;with_reducible refine (zy.calls ((zb l0 a3).f0) ((zb l0 a3).f1) ((zb l0 a3).f2) (rd l1 a3) t292 t293 _ A12.out).mono ?_
         rintro e w56 ⟨rfl, hb⟩;refine ⟨_, rfl, ?_⟩;have n0_ := za.mk (zk (Zq0 HB) hb);clear HB;have HB := n0_;clear n0_;(try clear hb);(try clear hb2);(try clear hk);(try clear hi);refine hK.out _ _ ⟨((HB.out.cell (World.block_lt_of_cell? w _ hw290_0)).trans hw290_0), ((HB.out.cell (World.block_lt_of_cell? w _ hw290_1)).trans hw290_1), ((HB.out.cell (World.block_lt_of_cell? w _ hw290_2)).trans hw290_2), ((HB.out.cell (World.block_lt_of_cell? w _ hw291_0)).trans hw291_0)⟩ (fun hHeld => ?_);clear hK K;refine zcd (a' := ?_) ?_ ?_;rotate_left
         ·show Act.put _ (some 33) _ = _
          simp only [Act.put, Zs1, Zs2, Zs3, zg, zh];rfl
         refine zl (i := 9) (N := some 34) (v := ?_) (a' := ?_) #[true, true, true, true, true, true, true, true, true, true, false] rfl rfl (ze HT_.out (by kernel_rfl)) (fun _ _ _ h => h) (Or.inl ⟨by rfl, ?_⟩) ?_ ?_;rotate_left
         ·intro w'
          go_simp;with_reducible rfl
         rotate_left
         ·simp only [Act.put, Zs1, Zs2, Zs3, zg, zh]
          rfl
         refine zl (i := 10) (N := some 10) (v := ?_) (a' := ?_) #[true, true, true, true, true, true, true, true, true, true, true] rfl rfl (ze HT_.out (by kernel_rfl)) (fun _ _ _ h => h) (Or.inl ⟨by rfl, ?_⟩) ?_ ?_;rotate_left
         ·intro w'
          go_simp;with_reducible rfl
         rotate_left
         ·simp only [Act.put, Zs1, Zs2, Zs3, zg, zh]
          rfl
         refine zcn (zb3 HT_.out (by kernel_rfl)) ?_
         try go_wp2
         have n0_ := za.mk (zbe HB.out);clear HB;have HB := n0_;clear n0_;have p294 : 0 ≤ (a2 : Int) := of_decide_eq_true Zas;have q294 : a2 < (l0.length : Int) := of_decide_eq_true Zas;obtain ⟨ad294, e294, hx294_0, hx294_1, hx294_2⟩ := zcc HR0.out a2 p294 q294;have hw294_2 := hx294_2;have hw294_1 := hx294_1;have hw294_0 := hx294_0;obtain rfl : ad286 = ad294 := (by injection e294);replace hx294_0 := (HB.out.cell (World.block_lt_of_cell? w _ hx294_0)).trans hx294_0;replace hx294_1 := (HB.out.cell (World.block_lt_of_cell? w _ hx294_1)).trans hx294_1;replace hx294_2 := (HB.out.cell (World.block_lt_of_cell? w _ hx294_2)).trans hx294_2;replace p294 := eq_true p294;replace q294 := eq_true q294;have p295 : 0 ≤ (a2 : Int) := of_decide_eq_true Zas;have q295 : a2 < (l1.length : Int) := of_decide_eq_true Zas;obtain ⟨ad295, e295, hx295_0⟩ := Kd.zcb HR1.out a2 p295 q295;have hw295_0 := hx295_0;obtain rfl : ad287 = ad295 := (by injection e295);replace hx295_0 := (HB.out.cell (World.block_lt_of_cell? w _ hx295_0)).trans hx295_0;replace p295 := eq_true p295;replace q295 := eq_true q295;refine zca (n := 10) (S := fun w' => w'.cell? (ad286.add ((a2).toNat * 3)) = some (.int .i64 ((zb l0 a2).f0)) ∧ w'.cell? ⟨(ad286.add ((a2).toNat * 3)).block, (ad286.add ((a2).toNat * 3)).off + 1, none⟩ = some (.int .i64 ((zb l0 a2).f1)) ∧ w'.cell? ⟨(ad286.add ((a2).toNat * 3)).block, (ad286.add ((a2).toNat * 3)).off + 2, none⟩ = some (.int .i64 ((zb l0 a2).f2)) ∧ w'.cell? (ad287.add (a2).toNat) = some (.int .i64 (rd l1 a2))) (ds := []) #[false, false, false, false, false, false, false, false, false, false] (by kernel_rfl) rfl rfl ⟨((HB.out.cell (World.block_lt_of_cell? w _ hw294_0)).trans hw294_0), ((HB.out.cell (World.block_lt_of_cell? w _ hw294_1)).trans hw294_1), ((HB.out.cell (World.block_lt_of_cell? w _ hw294_2)).trans hw294_2), ((HB.out.cell (World.block_lt_of_cell? w _ hw295_0)).trans hw295_0)⟩ (fun hHeld => ?_); refine zbu zi.tab5 zi.bits5 (fun HT_ HW_ => ?_);generalize w56.drew = w57 at HB hx294_0 hx294_1 hx294_2 hx295_0 hHeld ⊢;refine zl (i := 0) (N := some 41) (v := ?_) (a' := ?_) #[true, false, false, false, false, false, false, false, false, false] rfl rfl (ze HT_.out (by kernel_rfl)) (fun _ _ _ h => h) (Or.inl ⟨by rfl, ?_⟩) ?_ ?_;rotate_left
         ·intro w'
          go_simp;with_reducible rfl
         rotate_left
         ·simp only [Act.put, Zs1, Zs2, Zs3, zg, zh]
          rfl
         refine zl (i := 1) (N := some 42) (v := ?_) (a' := ?_) #[true, true, false, false, false, false, false, false, false, false] rfl rfl (ze HT_.out (by kernel_rfl)) (fun _ _ _ h => h) (Or.inl ⟨by rfl, ?_⟩) ?_ ?_;rotate_left
         ·intro w'
          go_simp;with_reducible rfl
         rotate_left
         ·simp only [Act.put, Zs1, Zs2, Zs3, zg, zh]
          rfl
         refine zl (i := 2) (N := some 43) (v := ?_) (a' := ?_) #[true, true, true, false, false, false, false, false, false, false] rfl rfl (ze HT_.out (by kernel_rfl)) (fun _ _ _ h => h) (Or.inl ⟨by rfl, ?_⟩) ?_ ?_;rotate_left
         ·intro w'
          go_simp;with_reducible rfl
         rotate_left
         ·simp only [Act.put, Zs1, Zs2, Zs3, zg, zh]
          rfl
         refine zl (i := 4) (N := some 45) (v := ?_) (a' := ?_) #[true, true, true, false, true, false, false, false, false, false] rfl rfl (ze HT_.out (by kernel_rfl)) (fun _ _ _ h => h) (Or.inl ⟨by rfl, ?_⟩) ?_ ?_;rotate_left
         ·intro w'
          go_simp;with_reducible rfl
         rotate_left
         ·simp only [Act.put, Zs1, Zs2, Zs3, zg, zh]
          rfl
         refine zl (i := 5) (N := some 46) (v := ?_) (a' := ?_) #[true, true, true, false, true, true, false, false, false, false] rfl rfl (ze HT_.out (by kernel_rfl)) (fun _ _ _ h => h) (Or.inl ⟨by rfl, ?_⟩) ?_ ?_;rotate_left
         ·intro w'
          go_simp;with_reducible rfl
         rotate_left
         ·simp only [Act.put, Zs1, Zs2, Zs3, zg, zh]
          rfl
         refine zl (i := 6) (N := some 47) (v := ?_) (a' := ?_) #[true, true, true, false, true, true, true, false, false, false] rfl rfl (ze HT_.out (by kernel_rfl)) (fun _ _ _ h => h) (Or.inl ⟨by rfl, ?_⟩) ?_ ?_;rotate_left
         ·intro w'
          go_simp;with_reducible rfl
         rotate_left
         ·simp only [Act.put, Zs1, Zs2, Zs3, zg, zh]
          rfl
         refine zby (i := 3) (N := some 44) (v := ?_) (a' := ?_) #[true, true, true, true, true, true, true, false, false, false] rfl rfl (z8 HT_.out HW_.out (by kernel_rfl)) (fun _ _ _ h => h) (Or.inl ⟨by rfl, ?_⟩) hHeld ?_ ?_;rotate_left
         ·rintro w' ⟨s0, s1, s2, s3⟩
          go_simp;with_reducible rfl
         rotate_left
         ·simp only [Act.put, Zs1, Zs2, Zs3, zg, zh]
          rfl
         refine zby (i := 7) (N := some 48) (v := ?_) (a' := ?_) #[true, true, true, true, true, true, true, true, false, false] rfl rfl (z8 HT_.out HW_.out (by kernel_rfl)) (fun _ _ _ h => h) (Or.inl ⟨by rfl, ?_⟩) hHeld ?_ ?_;rotate_left
         ·rintro w' ⟨s0, s1, s2, s3⟩
          go_simp;with_reducible rfl
         rotate_left
         ·simp only [Act.put, Zs1, Zs2, Zs3, zg, zh]
          rfl
         refine one_ (i := 8) (N := some 49) #[true, true, true, true, true, true, true, true, true, false] rfl rfl (zb2 HT_.out (by kernel_rfl)) (by decide) (fun K hK => ?_);refine zce Try.func76 (by kernel_rfl) rfl #[.agg #[.int .i64 ((zb l0 a2).f0), .int .i64 ((zb l0 a2).f1), .int .i64 ((zb l0 a2).f2)], .int .i64 (rd l1 a2)] (by rfl) rfl rfl Zmt ?_;with_reducible refine (zbd.calls ((zb l0 a2).f0) ((zb l0 a2).f1) ((zb l0 a2).f2) (rd l1 a2) t296 _ A14.out).mono ?_
         rintro e w58 ⟨rfl, hb⟩;refine ⟨_, rfl, ?_⟩;have n0_ := za.mk (zk (Zq0 HB) hb);clear HB;have HB := n0_;clear n0_;(try clear hb);(try clear hb2);(try clear hk);(try clear hi);refine hK.out _ _ ⟨((HB.out.cell (World.block_lt_of_cell? w _ hw294_0)).trans hw294_0), ((HB.out.cell (World.block_lt_of_cell? w _ hw294_1)).trans hw294_1), ((HB.out.cell (World.block_lt_of_cell? w _ hw294_2)).trans hw294_2), ((HB.out.cell (World.block_lt_of_cell? w _ hw295_0)).trans hw295_0)⟩ (fun hHeld => ?_);clear hK K;refine zcd (a' := ?_) ?_ ?_;rotate_left
         ·show Act.put _ (some 49) _ = _
          simp only [Act.put, Zs1, Zs2, Zs3, zg, zh];rfl
         refine zl (i := 9) (N := some 11) (v := ?_) (a' := ?_) #[true, true, true, true, true, true, true, true, true, true] rfl rfl (ze HT_.out (by kernel_rfl)) (fun _ _ _ h => h) (Or.inl ⟨by rfl, ?_⟩) ?_ ?_;rotate_left
         ·intro w'
          go_simp;with_reducible rfl
         rotate_left
         ·simp only [Act.put, Zs1, Zs2, Zs3, zg, zh]
          rfl
         refine zcn (zb3 HT_.out (by kernel_rfl)) ?_
         try go_wp2
         have n0_ := za.mk (zbe HB.out);clear HB;have HB := n0_;clear n0_;have p297 : 0 ≤ (a3 : Int) := of_decide_eq_true Zas;have q297 : a3 < (l0.length : Int) := of_decide_eq_true Zas;obtain ⟨ad297, e297, hx297_0, hx297_1, hx297_2⟩ := zcc HR0.out a3 p297 q297;have hw297_2 := hx297_2;have hw297_1 := hx297_1;have hw297_0 := hx297_0;obtain rfl : ad286 = ad297 := (by injection e297);replace hx297_0 := (HB.out.cell (World.block_lt_of_cell? w _ hx297_0)).trans hx297_0;replace hx297_1 := (HB.out.cell (World.block_lt_of_cell? w _ hx297_1)).trans hx297_1;replace hx297_2 := (HB.out.cell (World.block_lt_of_cell? w _ hx297_2)).trans hx297_2;replace p297 := eq_true p297;replace q297 := eq_true q297;have p298 : 0 ≤ (a3 : Int) := of_decide_eq_true Zas;have q298 : a3 < (l1.length : Int) := of_decide_eq_true Zas;obtain ⟨ad298, e298, hx298_0⟩ := Kd.zcb HR1.out a3 p298 q298;have hw298_0 := hx298_0;obtain rfl : ad287 = ad298 := (by injection e298);replace hx298_0 := (HB.out.cell (World.block_lt_of_cell? w _ hx298_0)).trans hx298_0;replace p298 := eq_true p298;replace q298 := eq_true q298;refine zca (n := 10) (S := fun w' => w'.cell? (ad286.add ((a3).toNat * 3)) = some (.int .i64 ((zb l0 a3).f0)) ∧ w'.cell? ⟨(ad286.add ((a3).toNat * 3)).block, (ad286.add ((a3).toNat * 3)).off + 1, none⟩ = some (.int .i64 ((zb l0 a3).f1)) ∧ w'.cell? ⟨(ad286.add ((a3).toNat * 3)).block, (ad286.add ((a3).toNat * 3)).off + 2, none⟩ = some (.int .i64 ((zb l0 a3).f2)) ∧ w'.cell? (ad287.add (a3).toNat) = some (.int .i64 (rd l1 a3))) (ds := []) #[false, false, false, false, false, false, false, false, false, false] (by kernel_rfl) rfl rfl ⟨((HB.out.cell (World.block_lt_of_cell? w _ hw297_0)).trans hw297_0), ((HB.out.cell (World.block_lt_of_cell? w _ hw297_1)).trans hw297_1), ((HB.out.cell (World.block_lt_of_cell? w _ hw297_2)).trans hw297_2), ((HB.out.cell (World.block_lt_of_cell? w _ hw298_0)).trans hw298_0)⟩ (fun hHeld => ?_); refine zbu zi.tab6 zi.zil (fun HT_ HW_ => ?_);generalize w58.drew = w59 at HB hx297_0 hx297_1 hx297_2 hx298_0 hHeld ⊢;refine zl (i := 0) (N := some 50) (v := ?_) (a' := ?_) #[true, false, false, false, false, false, false, false, false, false] rfl rfl (ze HT_.out (by kernel_rfl)) (fun _ _ _ h => h) (Or.inl ⟨by rfl, ?_⟩) ?_ ?_;rotate_left
         ·intro w'
          go_simp;with_reducible rfl
         rotate_left
         ·simp only [Act.put, Zs1, Zs2, Zs3, zg, zh]
          rfl
         refine zl (i := 1) (N := some 51) (v := ?_) (a' := ?_) #[true, true, false, false, false, false, false, false, false, false] rfl rfl (ze HT_.out (by kernel_rfl)) (fun _ _ _ h => h) (Or.inl ⟨by rfl, ?_⟩) ?_ ?_;rotate_left
         ·intro w'
          go_simp;with_reducible rfl
         rotate_left
         ·simp only [Act.put, Zs1, Zs2, Zs3, zg, zh]
          rfl
         refine zl (i := 2) (N := some 52) (v := ?_) (a' := ?_) #[true, true, true, false, false, false, false, false, false, false] rfl rfl (ze HT_.out (by kernel_rfl)) (fun _ _ _ h => h) (Or.inl ⟨by rfl, ?_⟩) ?_ ?_;rotate_left
         ·intro w'
          go_simp;with_reducible rfl
         rotate_left
         ·simp only [Act.put, Zs1, Zs2, Zs3, zg, zh]
          rfl
         refine zl (i := 4) (N := some 54) (v := ?_) (a' := ?_) #[true, true, true, false, true, false, false, false, false, false] rfl rfl (ze HT_.out (by kernel_rfl)) (fun _ _ _ h => h) (Or.inl ⟨by rfl, ?_⟩) ?_ ?_;rotate_left
         ·intro w'
          go_simp;with_reducible rfl
         rotate_left
         ·simp only [Act.put, Zs1, Zs2, Zs3, zg, zh]
          rfl
         refine zl (i := 5) (N := some 55) (v := ?_) (a' := ?_) #[true, true, true, false, true, true, false, false, false, false] rfl rfl (ze HT_.out (by kernel_rfl)) (fun _ _ _ h => h) (Or.inl ⟨by rfl, ?_⟩) ?_ ?_;rotate_left
         ·intro w'
          go_simp;with_reducible rfl
         rotate_left
         ·simp only [Act.put, Zs1, Zs2, Zs3, zg, zh]
          rfl
         refine zl (i := 6) (N := some 56) (v := ?_) (a' := ?_) #[true, true, true, false, true, true, true, false, false, false] rfl rfl (ze HT_.out (by kernel_rfl)) (fun _ _ _ h => h) (Or.inl ⟨by rfl, ?_⟩) ?_ ?_;rotate_left
         ·intro w'
          go_simp;with_reducible rfl
         rotate_left
         ·simp only [Act.put, Zs1, Zs2, Zs3, zg, zh]
          rfl
         refine zby (i := 3) (N := some 53) (v := ?_) (a' := ?_) #[true, true, true, true, true, true, true, false, false, false] rfl rfl (z8 HT_.out HW_.out (by kernel_rfl)) (fun _ _ _ h => h) (Or.inl ⟨by rfl, ?_⟩) hHeld ?_ ?_;rotate_left
         ·rintro w' ⟨s0, s1, s2, s3⟩
          go_simp;with_reducible rfl
         rotate_left
         ·simp only [Act.put, Zs1, Zs2, Zs3, zg, zh]
          rfl
         refine zby (i := 7) (N := some 57) (v := ?_) (a' := ?_) #[true, true, true, true, true, true, true, true, false, false] rfl rfl (z8 HT_.out HW_.out (by kernel_rfl)) (fun _ _ _ h => h) (Or.inl ⟨by rfl, ?_⟩) hHeld ?_ ?_;rotate_left
         ·rintro w' ⟨s0, s1, s2, s3⟩
          go_simp;with_reducible rfl
         rotate_left
         ·simp only [Act.put, Zs1, Zs2, Zs3, zg, zh]
          rfl
         refine one_ (i := 8) (N := some 58) #[true, true, true, true, true, true, true, true, true, false] rfl rfl (zb2 HT_.out (by kernel_rfl)) (by decide) (fun K hK => ?_);refine zce Try.func76 (by kernel_rfl) rfl #[.agg #[.int .i64 ((zb l0 a3).f0), .int .i64 ((zb l0 a3).f1), .int .i64 ((zb l0 a3).f2)], .int .i64 (rd l1 a3)] (by rfl) rfl rfl Zmt ?_;with_reducible refine (zbd.calls ((zb l0 a3).f0) ((zb l0 a3).f1) ((zb l0 a3).f2) (rd l1 a3) t299 _ A15.out).mono ?_
         rintro e w60 ⟨rfl, hb⟩;refine ⟨_, rfl, ?_⟩;have n0_ := za.mk (zk (Zq0 HB) hb);clear HB;have HB := n0_;clear n0_;(try clear hb);(try clear hb2);(try clear hk);(try clear hi);refine hK.out _ _ ⟨((HB.out.cell (World.block_lt_of_cell? w _ hw297_0)).trans hw297_0), ((HB.out.cell (World.block_lt_of_cell? w _ hw297_1)).trans hw297_1), ((HB.out.cell (World.block_lt_of_cell? w _ hw297_2)).trans hw297_2), ((HB.out.cell (World.block_lt_of_cell? w _ hw298_0)).trans hw298_0)⟩ (fun hHeld => ?_);clear hK K;refine zcd (a' := ?_) ?_ ?_;rotate_left
         ·show Act.put _ (some 58) _ = _
          simp only [Act.put, Zs1, Zs2, Zs3, zg, zh];rfl
         refine zl (i := 9) (N := some 12) (v := ?_) (a' := ?_) #[true, true, true, true, true, true, true, true, true, true] rfl rfl (ze HT_.out (by kernel_rfl)) (fun _ _ _ h => h) (Or.inl ⟨by rfl, ?_⟩) ?_ ?_;rotate_left
         ·intro w'
          go_simp;with_reducible rfl
         rotate_left
         ·simp only [Act.put, Zs1, Zs2, Zs3, zg, zh]
          rfl
         refine zcn (zb3 HT_.out (by kernel_rfl)) ?_
         try go_wp2
         go_ret;exact ⟨by first | rfl | (simp [zn, zo] <;> rfl) | (simp [*, zn, zo] <;> rfl), Zq0 HB⟩
       ·rw [if_neg c13] at H
        have c13b0 : (t289 == t293) = false := beq_eq_false_iff_ne.mpr c13;have c13b1 : (t289 != t293) = true := bne_iff_ne.mpr c13;obtain rfl := Option.some.inj H;go_enter Try.func66, Try.ntmps66
        try go_wp2
        have n0_ := za.mk (zbe HB.out);clear HB;have HB := n0_;clear n0_;have p286 : 0 ≤ (a2 : Int) := of_decide_eq_true Zas;have q286 : a2 < (l0.length : Int) := of_decide_eq_true Zas;obtain ⟨ad286, e286, hx286_0, hx286_1, hx286_2⟩ := zcc HR0.out a2 p286 q286;have hw286_2 := hx286_2;have hw286_1 := hx286_1;have hw286_0 := hx286_0
        cases e286
        replace hx286_0 := (HB.out.cell (World.block_lt_of_cell? w _ hx286_0)).trans hx286_0;replace hx286_1 := (HB.out.cell (World.block_lt_of_cell? w _ hx286_1)).trans hx286_1;replace hx286_2 := (HB.out.cell (World.block_lt_of_cell? w _ hx286_2)).trans hx286_2;replace p286 := eq_true p286;replace q286 := eq_true q286;have p287 : 0 ≤ (a2 : Int) := of_decide_eq_true Zas;have q287 : a2 < (l1.length : Int) := of_decide_eq_true Zas;obtain ⟨ad287, e287, hx287_0⟩ := Kd.zcb HR1.out a2 p287 q287;have hw287_0 := hx287_0
        cases e287
        replace hx287_0 := (HB.out.cell (World.block_lt_of_cell? w _ hx287_0)).trans hx287_0;replace p287 := eq_true p287;replace q287 := eq_true q287;refine zca (n := 11) (S := fun w' => w'.cell? (ad286.add ((a2).toNat * 3)) = some (.int .i64 ((zb l0 a2).f0)) ∧ w'.cell? ⟨(ad286.add ((a2).toNat * 3)).block, (ad286.add ((a2).toNat * 3)).off + 1, none⟩ = some (.int .i64 ((zb l0 a2).f1)) ∧ w'.cell? ⟨(ad286.add ((a2).toNat * 3)).block, (ad286.add ((a2).toNat * 3)).off + 2, none⟩ = some (.int .i64 ((zb l0 a2).f2)) ∧ w'.cell? (ad287.add (a2).toNat) = some (.int .i64 (rd l1 a2))) (ds := []) #[false, false, false, false, false, false, false, false, false, false, false] (by kernel_rfl) rfl rfl ⟨((HB.out.cell (World.block_lt_of_cell? w _ hw286_0)).trans hw286_0), ((HB.out.cell (World.block_lt_of_cell? w _ hw286_1)).trans hw286_1), ((HB.out.cell (World.block_lt_of_cell? w _ hw286_2)).trans hw286_2), ((HB.out.cell (World.block_lt_of_cell? w _ hw287_0)).trans hw287_0)⟩ (fun hHeld => ?_); refine zbu zi.tab1 zi.zd8 (fun HT_ HW_ => ?_);generalize w.drew = w61 at HB hx286_0 hx286_1 hx286_2 hx287_0 hHeld ⊢;refine zl (i := 0) (N := some 15) (v := ?_) (a' := ?_) #[true, false, false, false, false, false, false, false, false, false, false] rfl rfl (ze HT_.out (by kernel_rfl)) (fun _ _ _ h => h) (Or.inl ⟨by rfl, ?_⟩) ?_ ?_;rotate_left
        ·intro w'
         go_simp;with_reducible rfl
        rotate_left
        ·simp only [Act.put, Zs1, Zs2, Zs3, zg, zh]
         rfl
        refine zl (i := 1) (N := some 16) (v := ?_) (a' := ?_) #[true, true, false, false, false, false, false, false, false, false, false] rfl rfl (ze HT_.out (by kernel_rfl)) (fun _ _ _ h => h) (Or.inl ⟨by rfl, ?_⟩) ?_ ?_;rotate_left
        ·intro w'
         go_simp;with_reducible rfl
        rotate_left
        ·simp only [Act.put, Zs1, Zs2, Zs3, zg, zh]
         rfl
        refine zl (i := 2) (N := some 17) (v := ?_) (a' := ?_) #[true, true, true, false, false, false, false, false, false, false, false] rfl rfl (ze HT_.out (by kernel_rfl)) (fun _ _ _ h => h) (Or.inl ⟨by rfl, ?_⟩) ?_ ?_;rotate_left
        ·intro w'
         go_simp;with_reducible rfl
        rotate_left
        ·simp only [Act.put, Zs1, Zs2, Zs3, zg, zh]
         rfl
        refine zl (i := 4) (N := some 19) (v := ?_) (a' := ?_) #[true, true, true, false, true, false, false, false, false, false, false] rfl rfl (ze HT_.out (by kernel_rfl)) (fun _ _ _ h => h) (Or.inl ⟨by rfl, ?_⟩) ?_ ?_;rotate_left
        ·intro w'
         go_simp;with_reducible rfl
        rotate_left
        ·simp only [Act.put, Zs1, Zs2, Zs3, zg, zh]
         rfl
        refine zl (i := 5) (N := some 20) (v := ?_) (a' := ?_) #[true, true, true, false, true, true, false, false, false, false, false] rfl rfl (ze HT_.out (by kernel_rfl)) (fun _ _ _ h => h) (Or.inl ⟨by rfl, ?_⟩) ?_ ?_;rotate_left
        ·intro w'
         go_simp;with_reducible rfl
        rotate_left
        ·simp only [Act.put, Zs1, Zs2, Zs3, zg, zh]
         rfl
        refine zl (i := 6) (N := some 21) (v := ?_) (a' := ?_) #[true, true, true, false, true, true, true, false, false, false, false] rfl rfl (ze HT_.out (by kernel_rfl)) (fun _ _ _ h => h) (Or.inl ⟨by rfl, ?_⟩) ?_ ?_;rotate_left
        ·intro w'
         go_simp;with_reducible rfl
        rotate_left
        ·simp only [Act.put, Zs1, Zs2, Zs3, zg, zh]
         rfl
        refine zby (i := 3) (N := some 18) (v := ?_) (a' := ?_) #[true, true, true, true, true, true, true, false, false, false, false] rfl rfl (z8 HT_.out HW_.out (by kernel_rfl)) (fun _ _ _ h => h) (Or.inl ⟨by rfl, ?_⟩) hHeld ?_ ?_;rotate_left
        ·rintro w' ⟨s0, s1, s2, s3⟩
         go_simp;with_reducible rfl
        rotate_left
        ·simp only [Act.put, Zs1, Zs2, Zs3, zg, zh]
         rfl
        refine zby (i := 7) (N := some 22) (v := ?_) (a' := ?_) #[true, true, true, true, true, true, true, true, false, false, false] rfl rfl (z8 HT_.out HW_.out (by kernel_rfl)) (fun _ _ _ h => h) (Or.inl ⟨by rfl, ?_⟩) hHeld ?_ ?_;rotate_left
        ·rintro w' ⟨s0, s1, s2, s3⟩
         go_simp;with_reducible rfl
        rotate_left
        ·simp only [Act.put, Zs1, Zs2, Zs3, zg, zh]
         rfl
        refine one_ (i := 8) (N := some 23) #[true, true, true, true, true, true, true, true, true, false, false] rfl rfl (zb2 HT_.out (by kernel_rfl)) (by decide) (fun K hK => ?_);refine zce Try.func64 (by kernel_rfl) rfl #[.agg #[.int .i64 ((zb l0 a2).f0), .int .i64 ((zb l0 a2).f1), .int .i64 ((zb l0 a2).f2)], .int .i64 (rd l1 a2)] (by rfl) rfl rfl Zmt ?_;with_reducible refine (zy.calls ((zb l0 a2).f0) ((zb l0 a2).f1) ((zb l0 a2).f2) (rd l1 a2) t288 t289 _ A8.out).mono ?_
        rintro e w62 ⟨rfl, hb⟩;refine ⟨_, rfl, ?_⟩;have n0_ := za.mk (zk (Zq0 HB) hb);clear HB;have HB := n0_;clear n0_;(try clear hb);(try clear hb2);(try clear hk);(try clear hi);refine hK.out _ _ ⟨((HB.out.cell (World.block_lt_of_cell? w _ hw286_0)).trans hw286_0), ((HB.out.cell (World.block_lt_of_cell? w _ hw286_1)).trans hw286_1), ((HB.out.cell (World.block_lt_of_cell? w _ hw286_2)).trans hw286_2), ((HB.out.cell (World.block_lt_of_cell? w _ hw287_0)).trans hw287_0)⟩ (fun hHeld => ?_);clear hK K;refine zcd (a' := ?_) ?_ ?_;rotate_left
        ·show Act.put _ (some 23) _ = _
         simp only [Act.put, Zs1, Zs2, Zs3, zg, zh];rfl
        refine zl (i := 9) (N := some 24) (v := ?_) (a' := ?_) #[true, true, true, true, true, true, true, true, true, true, false] rfl rfl (ze HT_.out (by kernel_rfl)) (fun _ _ _ h => h) (Or.inl ⟨by rfl, ?_⟩) ?_ ?_;rotate_left
        ·intro w'
         go_simp;with_reducible rfl
        rotate_left
        ·simp only [Act.put, Zs1, Zs2, Zs3, zg, zh]
         rfl
        refine zl (i := 10) (N := some 9) (v := ?_) (a' := ?_) #[true, true, true, true, true, true, true, true, true, true, true] rfl rfl (ze HT_.out (by kernel_rfl)) (fun _ _ _ h => h) (Or.inl ⟨by rfl, ?_⟩) ?_ ?_;rotate_left
        ·intro w'
         go_simp;with_reducible rfl
        rotate_left
        ·simp only [Act.put, Zs1, Zs2, Zs3, zg, zh]
         rfl
        refine zcn (zb3 HT_.out (by kernel_rfl)) ?_
        try go_wp2
        have n0_ := za.mk (zbe HB.out);clear HB;have HB := n0_;clear n0_;have p290 : 0 ≤ (a3 : Int) := of_decide_eq_true Zas;have q290 : a3 < (l0.length : Int) := of_decide_eq_true Zas;obtain ⟨ad290, e290, hx290_0, hx290_1, hx290_2⟩ := zcc HR0.out a3 p290 q290;have hw290_2 := hx290_2;have hw290_1 := hx290_1;have hw290_0 := hx290_0;obtain rfl : ad286 = ad290 := (by injection e290);replace hx290_0 := (HB.out.cell (World.block_lt_of_cell? w _ hx290_0)).trans hx290_0;replace hx290_1 := (HB.out.cell (World.block_lt_of_cell? w _ hx290_1)).trans hx290_1;replace hx290_2 := (HB.out.cell (World.block_lt_of_cell? w _ hx290_2)).trans hx290_2;replace p290 := eq_true p290;replace q290 := eq_true q290;have p291 : 0 ≤ (a3 : Int) := of_decide_eq_true Zas;have q291 : a3 < (l1.length : Int) := of_decide_eq_true Zas;obtain ⟨ad291, e291, hx291_0⟩ := Kd.zcb HR1.out a3 p291 q291;have hw291_0 := hx291_0;obtain rfl : ad287 = ad291 := (by injection e291);replace hx291_0 := (HB.out.cell (World.block_lt_of_cell? w _ hx291_0)).trans hx291_0;replace p291 := eq_true p291;replace q291 := eq_true q291;refine zca (n := 11) (S := fun w' => w'.cell? (ad286.add ((a3).toNat * 3)) = some (.int .i64 ((zb l0 a3).f0)) ∧ w'.cell? ⟨(ad286.add ((a3).toNat * 3)).block, (ad286.add ((a3).toNat * 3)).off + 1, none⟩ = some (.int .i64 ((zb l0 a3).f1)) ∧ w'.cell? ⟨(ad286.add ((a3).toNat * 3)).block, (ad286.add ((a3).toNat * 3)).off + 2, none⟩ = some (.int .i64 ((zb l0 a3).f2)) ∧ w'.cell? (ad287.add (a3).toNat) = some (.int .i64 (rd l1 a3))) (ds := []) #[false, false, false, false, false, false, false, false, false, false, false] (by kernel_rfl) rfl rfl ⟨((HB.out.cell (World.block_lt_of_cell? w _ hw290_0)).trans hw290_0), ((HB.out.cell (World.block_lt_of_cell? w _ hw290_1)).trans hw290_1), ((HB.out.cell (World.block_lt_of_cell? w _ hw290_2)).trans hw290_2), ((HB.out.cell (World.block_lt_of_cell? w _ hw291_0)).trans hw291_0)⟩ (fun hHeld => ?_); refine zbu zi.tab2 zi.bits2 (fun HT_ HW_ => ?_);generalize w62.drew = w63 at HB hx290_0 hx290_1 hx290_2 hx291_0 hHeld ⊢;refine zl (i := 0) (N := some 25) (v := ?_) (a' := ?_) #[true, false, false, false, false, false, false, false, false, false, false] rfl rfl (ze HT_.out (by kernel_rfl)) (fun _ _ _ h => h) (Or.inl ⟨by rfl, ?_⟩) ?_ ?_;rotate_left
        ·intro w'
         go_simp;with_reducible rfl
        rotate_left
        ·simp only [Act.put, Zs1, Zs2, Zs3, zg, zh]
         rfl
        refine zl (i := 1) (N := some 26) (v := ?_) (a' := ?_) #[true, true, false, false, false, false, false, false, false, false, false] rfl rfl (ze HT_.out (by kernel_rfl)) (fun _ _ _ h => h) (Or.inl ⟨by rfl, ?_⟩) ?_ ?_;rotate_left
        ·intro w'
         go_simp;with_reducible rfl
        rotate_left
        ·simp only [Act.put, Zs1, Zs2, Zs3, zg, zh]
         rfl
        refine zl (i := 2) (N := some 27) (v := ?_) (a' := ?_) #[true, true, true, false, false, false, false, false, false, false, false] rfl rfl (ze HT_.out (by kernel_rfl)) (fun _ _ _ h => h) (Or.inl ⟨by rfl, ?_⟩) ?_ ?_;rotate_left
        ·intro w'
         go_simp;with_reducible rfl
        rotate_left
        ·simp only [Act.put, Zs1, Zs2, Zs3, zg, zh]
         rfl
        refine zl (i := 4) (N := some 29) (v := ?_) (a' := ?_) #[true, true, true, false, true, false, false, false, false, false, false] rfl rfl (ze HT_.out (by kernel_rfl)) (fun _ _ _ h => h) (Or.inl ⟨by rfl, ?_⟩) ?_ ?_;rotate_left
        ·intro w'
         go_simp;with_reducible rfl
        rotate_left
        ·simp only [Act.put, Zs1, Zs2, Zs3, zg, zh]
         rfl
        refine zl (i := 5) (N := some 30) (v := ?_) (a' := ?_) #[true, true, true, false, true, true, false, false, false, false, false] rfl rfl (ze HT_.out (by kernel_rfl)) (fun _ _ _ h => h) (Or.inl ⟨by rfl, ?_⟩) ?_ ?_;rotate_left
        ·intro w'
         go_simp;with_reducible rfl
        rotate_left
        ·simp only [Act.put, Zs1, Zs2, Zs3, zg, zh]
         rfl
        refine zl (i := 6) (N := some 31) (v := ?_) (a' := ?_) #[true, true, true, false, true, true, true, false, false, false, false] rfl rfl (ze HT_.out (by kernel_rfl)) (fun _ _ _ h => h) (Or.inl ⟨by rfl, ?_⟩) ?_ ?_;rotate_left
        ·intro w'
         go_simp;with_reducible rfl
        rotate_left
        ·simp only [Act.put, Zs1, Zs2, Zs3, zg, zh]
         rfl
        refine zby (i := 3) (N := some 28) (v := ?_) (a' := ?_) #[true, true, true, true, true, true, true, false, false, false, false] rfl rfl (z8 HT_.out HW_.out (by kernel_rfl)) (fun _ _ _ h => h) (Or.inl ⟨by rfl, ?_⟩) hHeld ?_ ?_;rotate_left
        ·rintro w' ⟨s0, s1, s2, s3⟩
         go_simp;with_reducible rfl
        rotate_left
        ·simp only [Act.put, Zs1, Zs2, Zs3, zg, zh]
         rfl
        refine zby (i := 7) (N := some 32) (v := ?_) (a' := ?_) #[true, true, true, true, true, true, true, true, false, false, false] rfl rfl (z8 HT_.out HW_.out (by kernel_rfl)) (fun _ _ _ h => h) (Or.inl ⟨by rfl, ?_⟩) hHeld ?_ ?_;rotate_left
        ·rintro w' ⟨s0, s1, s2, s3⟩
         go_simp;with_reducible rfl
        rotate_left
        ·simp only [Act.put, Zs1, Zs2, Zs3, zg, zh]
         rfl
        refine one_ (i := 8) (N := some 33) #[true, true, true, true, true, true, true, true, true, false, false] rfl rfl (zb2 HT_.out (by kernel_rfl)) (by decide) (fun K hK => ?_);refine zce Try.func64 (by kernel_rfl) rfl #[.agg #[.int .i64 ((zb l0 a3).f0), .int .i64 ((zb l0 a3).f1), .int .i64 ((zb l0 a3).f2)], .int .i64 (rd l1 a3)] (by rfl) rfl rfl Zmt ?_;with_reducible refine (zy.calls ((zb l0 a3).f0) ((zb l0 a3).f1) ((zb l0 a3).f2) (rd l1 a3) t292 t293 _ A12.out).mono ?_
        rintro e w64 ⟨rfl, hb⟩;refine ⟨_, rfl, ?_⟩;have n0_ := za.mk (zk (Zq0 HB) hb);clear HB;have HB := n0_;clear n0_;(try clear hb);(try clear hb2);(try clear hk);(try clear hi);refine hK.out _ _ ⟨((HB.out.cell (World.block_lt_of_cell? w _ hw290_0)).trans hw290_0), ((HB.out.cell (World.block_lt_of_cell? w _ hw290_1)).trans hw290_1), ((HB.out.cell (World.block_lt_of_cell? w _ hw290_2)).trans hw290_2), ((HB.out.cell (World.block_lt_of_cell? w _ hw291_0)).trans hw291_0)⟩ (fun hHeld => ?_);clear hK K;refine zcd (a' := ?_) ?_ ?_;rotate_left
        ·show Act.put _ (some 33) _ = _
         simp only [Act.put, Zs1, Zs2, Zs3, zg, zh];rfl
        refine zl (i := 9) (N := some 34) (v := ?_) (a' := ?_) #[true, true, true, true, true, true, true, true, true, true, false] rfl rfl (ze HT_.out (by kernel_rfl)) (fun _ _ _ h => h) (Or.inl ⟨by rfl, ?_⟩) ?_ ?_;rotate_left
        ·intro w'
         go_simp;with_reducible rfl
        rotate_left
        ·simp only [Act.put, Zs1, Zs2, Zs3, zg, zh]
         rfl
        refine zl (i := 10) (N := some 10) (v := ?_) (a' := ?_) #[true, true, true, true, true, true, true, true, true, true, true] rfl rfl (ze HT_.out (by kernel_rfl)) (fun _ _ _ h => h) (Or.inl ⟨by rfl, ?_⟩) ?_ ?_;rotate_left
        ·intro w'
         go_simp;with_reducible rfl
        rotate_left
        ·simp only [Act.put, Zs1, Zs2, Zs3, zg, zh]
         rfl
        refine zcn (zb3 HT_.out (by kernel_rfl)) ?_
        try go_wp2
        go_ret;exact ⟨by first | rfl | (simp [zn, zo] <;> rfl) | (simp [*, zn, zo] <;> rfl), Zq0 HB⟩
      ·rw [if_neg c11] at H
       exact absurd H (by simp)
     ·rw [if_neg c10] at H
      exact absurd H (by simp)
    ·rw [if_neg c9] at H
     exact absurd H (by simp)
   ·rw [if_neg c7] at H
    exact absurd H (by simp)
  ·rw [if_neg c6] at H
   exact absurd H (by simp)
 ·rw [if_neg c5] at H
  exact absurd H (by simp)
end Go.Proofs.Ytnilnaabjpcfjaa.P
