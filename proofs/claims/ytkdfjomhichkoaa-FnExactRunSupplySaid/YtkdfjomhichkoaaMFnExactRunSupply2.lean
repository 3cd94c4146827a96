/- The law FnExactRunSupply for every input, part 2 of its proof: what the program's functions answer, and the plain law. No condition. -/
import Derived.Test.YtkdfjomhichkoaaMFnExactRunSupply1
import Derived.Maps.OwnSet
import Derived.Maps.OwnOps
import Derived.Carry
set_option maxRecDepth 100000
namespace Go.Proofs.Ytkdfjomhichkoaa.P
open Go.RowKit Go.Proofs.YtkdfjomhichkoaaW.PrintWords Go.Proofs.YtkdfjomhichkoaaW.PrintLast Go.Proofs.YtkdfjomhichkoaaW.PrintMore
attribute [local go_sem] zfi zfj zgk zgl zez ze0 zfk zfl
set_option linter.unusedVariables false
set_option linter.unusedSimpArgs false
def zbp.l0 : Nat → List (S34) → List (S34) → Int → Option (Bool)
 | 0, _, _, _ => none
 | k + 1, x0, x1, x5 => if x5 < (x0.length : Int) then (if 0 ≤ x5 then (if x5 < (x1.length : Int) then ((zd7.f ((ze x0 x5).f0) ((ze x0 x5).f1) ((ze x0 x5).f2) ((ze x0 x5).f3) ((ze x1 x5).f0) ((ze x1 x5).f1) ((ze x1 x5).f2) ((ze x1 x5).f3)).bind fun t139 => (if t139 = true then (zbp.l0 k x0 x1 (wrap64 (x5 + 1))) else (some false))) else (none)) else (none)) else (some true)
def zbp.f (k : Nat) (l0 : List (S34)) (l1 : List (S34)) : Option (Bool) := if (l0.length : Int) = (l1.length : Int) then (zbp.l0 k l0 l1 0) else (some false)
def zbp.T6 : Bool × List (List Nat × List Nat) := (true, [([], []), ([], []), ([0, 1], [0, 1]), ([2], [2]), ([], []), ([], []), ([4, 5], [4, 5]), ([6], [6]), ([3, 7], [3, 7]), ([8], [8])])
def zbp.B6 : List Nat := [0, 0, 3, 7, 0, 0, 48, 112, 255, 511]
theorem zbp.tab6 : rtab .any (opsOf Try.f23 6) = zbp.T6 := by kernel_rfl
theorem zbp.bits6 : zey zbp.T6.2 zbp.B6 = true := by kernel_rfl
set_option maxHeartbeats 8000000 in
theorem zbp.calls (k : Nat) (A0 : Option Addr) (c0 : Nat) (l0 : List (S34)) (A1 : Option Addr) (c1 : Nat) (l1 : List (S34)) (r : Bool) (w : World) (hr0 : Kd.C k34 w A0 l0.length l0) (hc0 : l0.length ≤ c0) (hr1 : Kd.C k34 w A1 l1.length l1) (hc1 : l1.length ≤ c1) (h : zbp.f k l0 l1 = some r) :
  Calls Try.prog 23 #[.slice A0 l0.length c0, .slice A1 l1.length c1] w fun e w' => e = .returned (.bool r) ∧ Below w.heap.size w w' := by
 have hu34 := Try.underlying34
 have HR0 := za.mk hr0
 have HC0 := za.mk hc0
 clear hr0 hc0
 have HR1 := za.mk hr1
 have HC1 := za.mk hc1
 clear hr1 hc1
 have HB := za.mk (Below.refl w.heap.size w)
 have H : (if (l0.length : Int) = (l1.length : Int) then (zbp.l0 k l0 l1 0) else (some false)) = some r := h
 clear h
 by_cases c3 : (l0.length : Int) = (l1.length : Int)
 ·rw [if_pos c3] at H
  have c3b0 : ((l0.length : Int) == (l1.length : Int)) = true := beq_iff_eq.mpr c3;have c3b1 : ((l0.length : Int) != (l1.length : Int)) = false := bne_eq_false_iff_eq.mpr c3;have c3b2 : (l0.length == l1.length) = true := by first | simpa using c3 | (simp at c3 ⊢; omega)
  clear c3;have H' := za.mk H;clear H;go_enter Try.func23, Try.ntmps23;go_wp2
  go_loopg [5] k (fun kq v5 w' => ∃ (x5_1 : Int), v5 = .int .i64 x5_1 ∧ za (zbp.l0 kq l0 l1 x5_1 = some r) ∧ za (kq ≤ k) ∧ za (Below w.heap.size w w'))
  case atStart => exact ⟨(0), Zrs, H', ⟨Nat.le_refl _⟩, ⟨Zq0 HB⟩⟩
  case round =>
   clear H'
   (try clear c1);(try clear c2);(try clear p2);(try clear c3);(try clear c3b0);(try clear c3b1);(try clear c3b2)
   obtain ⟨x5_1, rfl, HA, HK1, HB⟩ := hrel
   cases gk with
   | zero => exact absurd HA.out (by simp [zbp.l0])
   | succ k1 =>
    have H := HA.out;clear HA;simp only [zbp.l0] at H;by_cases c4 : x5_1 < (l0.length : Int)
    ·rw [if_pos c4] at H
     have c4b0 : decide (x5_1 < (l0.length : Int)) = true := decide_eq_true c4;clear c4;by_cases c5 : 0 ≤ x5_1
     ·rw [if_pos c5] at H
      have c5b0 : decide (0 ≤ x5_1) = true := decide_eq_true c5;clear c5;by_cases c6 : x5_1 < (l1.length : Int)
      ·rw [if_pos c6] at H
       have c6b0 : decide (x5_1 < (l1.length : Int)) = true := decide_eq_true c6;clear c6;replace H := Option.bind_eq_some_iff.mp H;obtain ⟨t139, A70, H⟩ := H;replace H : (if t139 = true then (zbp.l0 k1 l0 l1 (wrap64 (x5_1 + 1))) else (some false)) = some r := H;have A7 := za.mk A70;clear A70;by_cases c8 : t139 = true
       ·subst c8
        have H1 : (zbp.l0 k1 l0 l1 (wrap64 (x5_1 + 1))) = some r := by rw [if_pos rfl] at H; exact H
        clear H;have H := H1;clear H1;have H' := za.mk H;clear H
        try go_wp2
        have n0_ := za.mk (zb9 HB.out);clear HB;have HB := n0_;clear n0_;have p137 : 0 ≤ (x5_1 : Int) := of_decide_eq_true Zas;have q137 : x5_1 < (l0.length : Int) := of_decide_eq_true Zas;obtain ⟨ad137, e137, hx137_0, hx137_1, hx137_2, hx137_3⟩ := zc4 HR0.out x5_1 p137 q137;have hw137_3 := hx137_3;have hw137_2 := hx137_2;have hw137_1 := hx137_1;have hw137_0 := hx137_0
        cases e137
        replace hx137_0 := (HB.out.cell (World.block_lt_of_cell? w _ hx137_0)).trans hx137_0;replace hx137_1 := (HB.out.cell (World.block_lt_of_cell? w _ hx137_1)).trans hx137_1;replace hx137_2 := (HB.out.cell (World.block_lt_of_cell? w _ hx137_2)).trans hx137_2;replace hx137_3 := (HB.out.cell (World.block_lt_of_cell? w _ hx137_3)).trans hx137_3;replace p137 := eq_true p137;replace q137 := eq_true q137;have p138 : 0 ≤ (x5_1 : Int) := of_decide_eq_true Zas;have q138 : x5_1 < (l1.length : Int) := of_decide_eq_true Zas;obtain ⟨ad138, e138, hx138_0, hx138_1, hx138_2, hx138_3⟩ := zc4 HR1.out x5_1 p138 q138;have hw138_3 := hx138_3;have hw138_2 := hx138_2;have hw138_1 := hx138_1;have hw138_0 := hx138_0
        cases e138
        replace hx138_0 := (HB.out.cell (World.block_lt_of_cell? w _ hx138_0)).trans hx138_0;replace hx138_1 := (HB.out.cell (World.block_lt_of_cell? w _ hx138_1)).trans hx138_1;replace hx138_2 := (HB.out.cell (World.block_lt_of_cell? w _ hx138_2)).trans hx138_2;replace hx138_3 := (HB.out.cell (World.block_lt_of_cell? w _ hx138_3)).trans hx138_3;replace p138 := eq_true p138;replace q138 := eq_true q138;refine zg5 (n := 10) (S := fun w' => w'.cell? (ad137.add ((x5_1).toNat * 4)) = some (.int .i64 ((ze l0 x5_1).f0)) ∧ w'.cell? ⟨(ad137.add ((x5_1).toNat * 4)).block, (ad137.add ((x5_1).toNat * 4)).off + 1, none⟩ = some (.int .i64 ((ze l0 x5_1).f1)) ∧ w'.cell? ⟨(ad137.add ((x5_1).toNat * 4)).block, (ad137.add ((x5_1).toNat * 4)).off + 2, none⟩ = some (.int .i64 ((ze l0 x5_1).f2)) ∧ w'.cell? ⟨(ad137.add ((x5_1).toNat * 4)).block, (ad137.add ((x5_1).toNat * 4)).off + 3, none⟩ = some (.int .i64 ((ze l0 x5_1).f3)) ∧ w'.cell? (ad138.add ((x5_1).toNat * 4)) = some (.int .i64 ((ze l1 x5_1).f0)) ∧ w'.cell? ⟨(ad138.add ((x5_1).toNat * 4)).block, (ad138.add ((x5_1).toNat * 4)).off + 1, none⟩ = some (.int .i64 ((ze l1 x5_1).f1)) ∧ w'.cell? ⟨(ad138.add ((x5_1).toNat * 4)).block, (ad138.add ((x5_1).toNat * 4)).off + 2, none⟩ = some (.int .i64 ((ze l1 x5_1).f2)) ∧ w'.cell? ⟨(ad138.add ((x5_1).toNat * 4)).block, (ad138.add ((x5_1).toNat * 4)).off + 3, none⟩ = some (.int .i64 ((ze l1 x5_1).f3))) (ds := []) #[false, false, false, false, false, false, false, false, false, false] (by kernel_rfl) rfl rfl ⟨((HB.out.cell (World.block_lt_of_cell? w _ hw137_0)).trans hw137_0), ((HB.out.cell (World.block_lt_of_cell? w _ hw137_1)).trans hw137_1), ((HB.out.cell (World.block_lt_of_cell? w _ hw137_2)).trans hw137_2), ((HB.out.cell (World.block_lt_of_cell? w _ hw137_3)).trans hw137_3), ((HB.out.cell (World.block_lt_of_cell? w _ hw138_0)).trans hw138_0), ((HB.out.cell (World.block_lt_of_cell? w _ hw138_1)).trans hw138_1), ((HB.out.cell (World.block_lt_of_cell? w _ hw138_2)).trans hw138_2), ((HB.out.cell (World.block_lt_of_cell? w _ hw138_3)).trans hw138_3)⟩ (fun hHeld => ?_); refine zej zbp.tab6 zbp.bits6 (fun HT_ HW_ => ?_);generalize wr.drew = w9 at HB hx137_0 hx137_1 hx137_2 hx137_3 hx138_0 hx138_1 hx138_2 hx138_3 hHeld ⊢;refine zdi (i := 0) (N := some 17) (v := ?_) (a' := ?_) #[true, false, false, false, false, false, false, false, false, false] rfl rfl (zcw HT_.out (by kernel_rfl)) (fun _ _ _ h => h) (Or.inl ⟨by rfl, ?_⟩) ?_ ?_;rotate_left
        ·intro w'
         go_simp;with_reducible rfl
        rotate_left
        ·simp only [Act.put, Zs1, Zs2, Zs3, zck, zcl]
         rfl
        refine zdi (i := 1) (N := some 18) (v := ?_) (a' := ?_) #[true, true, false, false, false, false, false, false, false, false] rfl rfl (zcw HT_.out (by kernel_rfl)) (fun _ _ _ h => h) (Or.inl ⟨by rfl, ?_⟩) ?_ ?_;rotate_left
        ·intro w'
         go_simp;with_reducible rfl
        rotate_left
        ·simp only [Act.put, Zs1, Zs2, Zs3, zck, zcl]
         rfl
        refine zdi (i := 2) (N := some 19) (v := ?_) (a' := ?_) #[true, true, true, false, false, false, false, false, false, false] rfl rfl (zcw HT_.out (by kernel_rfl)) (fun _ _ _ h => h) (Or.inl ⟨by rfl, ?_⟩) ?_ ?_;rotate_left
        ·intro w'
         go_simp;with_reducible rfl
        rotate_left
        ·simp only [Act.put, Zs1, Zs2, Zs3, zck, zcl]
         rfl
        refine zdi (i := 4) (N := some 21) (v := ?_) (a' := ?_) #[true, true, true, false, true, false, false, false, false, false] rfl rfl (zcw HT_.out (by kernel_rfl)) (fun _ _ _ h => h) (Or.inl ⟨by rfl, ?_⟩) ?_ ?_;rotate_left
        ·intro w'
         go_simp;with_reducible rfl
        rotate_left
        ·simp only [Act.put, Zs1, Zs2, Zs3, zck, zcl]
         rfl
        refine zdi (i := 5) (N := some 22) (v := ?_) (a' := ?_) #[true, true, true, false, true, true, false, false, false, false] rfl rfl (zcw HT_.out (by kernel_rfl)) (fun _ _ _ h => h) (Or.inl ⟨by rfl, ?_⟩) ?_ ?_;rotate_left
        ·intro w'
         go_simp;with_reducible rfl
        rotate_left
        ·simp only [Act.put, Zs1, Zs2, Zs3, zck, zcl]
         rfl
        refine zdi (i := 6) (N := some 23) (v := ?_) (a' := ?_) #[true, true, true, false, true, true, true, false, false, false] rfl rfl (zcw HT_.out (by kernel_rfl)) (fun _ _ _ h => h) (Or.inl ⟨by rfl, ?_⟩) ?_ ?_;rotate_left
        ·intro w'
         go_simp;with_reducible rfl
        rotate_left
        ·simp only [Act.put, Zs1, Zs2, Zs3, zck, zcl]
         rfl
        refine zfv (i := 3) (N := some 20) (v := ?_) (a' := ?_) #[true, true, true, true, true, true, true, false, false, false] rfl rfl (zd0 HT_.out HW_.out (by kernel_rfl)) (fun _ _ _ h => h) (Or.inl ⟨by rfl, ?_⟩) hHeld ?_ ?_;rotate_left
        ·rintro w' ⟨s0, s1, s2, s3, s4, s5, s6, s7⟩
         go_simp;with_reducible rfl
        rotate_left
        ·simp only [Act.put, Zs1, Zs2, Zs3, zck, zcl]
         rfl
        refine zfv (i := 7) (N := some 24) (v := ?_) (a' := ?_) #[true, true, true, true, true, true, true, true, false, false] rfl rfl (zd0 HT_.out HW_.out (by kernel_rfl)) (fun _ _ _ h => h) (Or.inl ⟨by rfl, ?_⟩) hHeld ?_ ?_;rotate_left
        ·rintro w' ⟨s0, s1, s2, s3, s4, s5, s6, s7⟩
         go_simp;with_reducible rfl
        rotate_left
        ·simp only [Act.put, Zs1, Zs2, Zs3, zck, zcl]
         rfl
        refine one_ (i := 8) (N := some 25) #[true, true, true, true, true, true, true, true, true, false] rfl rfl (zdt HT_.out (by kernel_rfl)) (by decide) (fun K hK => ?_);refine zd4 Try.func63 (by kernel_rfl) rfl #[.agg #[.int .i64 ((ze l0 x5_1).f0), .int .i64 ((ze l0 x5_1).f1), .int .i64 ((ze l0 x5_1).f2), .int .i64 ((ze l0 x5_1).f3)], .agg #[.int .i64 ((ze l1 x5_1).f0), .int .i64 ((ze l1 x5_1).f1), .int .i64 ((ze l1 x5_1).f2), .int .i64 ((ze l1 x5_1).f3)]] (by rfl) rfl rfl Zmt ?_;with_reducible refine (zd7.calls ((ze l0 x5_1).f0) ((ze l0 x5_1).f1) ((ze l0 x5_1).f2) ((ze l0 x5_1).f3) ((ze l1 x5_1).f0) ((ze l1 x5_1).f1) ((ze l1 x5_1).f2) ((ze l1 x5_1).f3) true _ A7.out).mono ?_
        rintro e w10 ⟨rfl, hb⟩;refine ⟨_, rfl, ?_⟩;have n0_ := za.mk (zh (Zq0 HB) hb);clear HB;have HB := n0_;clear n0_;(try clear hb);(try clear hb2);(try clear hk);(try clear hi);refine hK.out _ _ ⟨((HB.out.cell (World.block_lt_of_cell? w _ hw137_0)).trans hw137_0), ((HB.out.cell (World.block_lt_of_cell? w _ hw137_1)).trans hw137_1), ((HB.out.cell (World.block_lt_of_cell? w _ hw137_2)).trans hw137_2), ((HB.out.cell (World.block_lt_of_cell? w _ hw137_3)).trans hw137_3), ((HB.out.cell (World.block_lt_of_cell? w _ hw138_0)).trans hw138_0), ((HB.out.cell (World.block_lt_of_cell? w _ hw138_1)).trans hw138_1), ((HB.out.cell (World.block_lt_of_cell? w _ hw138_2)).trans hw138_2), ((HB.out.cell (World.block_lt_of_cell? w _ hw138_3)).trans hw138_3)⟩ (fun hHeld => ?_);clear hK K;refine zci (a' := ?_) ?_ ?_;rotate_left
        ·show Act.put _ (some 25) _ = _
         simp only [Act.put, Zs1, Zs2, Zs3, zck, zcl];rfl
        refine zdi (i := 9) (N := some 26) (v := ?_) (a' := ?_) #[true, true, true, true, true, true, true, true, true, true] rfl rfl (zcw HT_.out (by kernel_rfl)) (fun _ _ _ h => h) (Or.inl ⟨by rfl, ?_⟩) ?_ ?_;rotate_left
        ·intro w'
         go_simp;with_reducible rfl
        rotate_left
        ·simp only [Act.put, Zs1, Zs2, Zs3, zck, zcl]
         rfl
        refine done_ (zfy HT_.out (by kernel_rfl)) ?_
        try go_wp2
        go_roundg k1
        case measure => have := HK1.out; omega
        case rel => exact ⟨(wrap64 (x5_1 + 1)), Zrs, H', ⟨by have := HK1.out; omega⟩, ⟨Zq0 HB⟩⟩
       ·replace c8 := Bool.eq_false_iff.mpr c8
        subst c8;have H1 : (some false) = some r := by rw [if_neg (show ¬ (false = true) by decide)] at H; exact H
        clear H;have H := H1;clear H1;obtain rfl := Option.some.inj H
        try go_wp2
        have n0_ := za.mk (zb9 HB.out);clear HB;have HB := n0_;clear n0_;have p137 : 0 ≤ (x5_1 : Int) := of_decide_eq_true Zas;have q137 : x5_1 < (l0.length : Int) := of_decide_eq_true Zas;obtain ⟨ad137, e137, hx137_0, hx137_1, hx137_2, hx137_3⟩ := zc4 HR0.out x5_1 p137 q137;have hw137_3 := hx137_3;have hw137_2 := hx137_2;have hw137_1 := hx137_1;have hw137_0 := hx137_0
        cases e137
        replace hx137_0 := (HB.out.cell (World.block_lt_of_cell? w _ hx137_0)).trans hx137_0;replace hx137_1 := (HB.out.cell (World.block_lt_of_cell? w _ hx137_1)).trans hx137_1;replace hx137_2 := (HB.out.cell (World.block_lt_of_cell? w _ hx137_2)).trans hx137_2;replace hx137_3 := (HB.out.cell (World.block_lt_of_cell? w _ hx137_3)).trans hx137_3;replace p137 := eq_true p137;replace q137 := eq_true q137;have p138 : 0 ≤ (x5_1 : Int) := of_decide_eq_true Zas;have q138 : x5_1 < (l1.length : Int) := of_decide_eq_true Zas;obtain ⟨ad138, e138, hx138_0, hx138_1, hx138_2, hx138_3⟩ := zc4 HR1.out x5_1 p138 q138;have hw138_3 := hx138_3;have hw138_2 := hx138_2;have hw138_1 := hx138_1;have hw138_0 := hx138_0
        cases e138
        replace hx138_0 := (HB.out.cell (World.block_lt_of_cell? w _ hx138_0)).trans hx138_0;replace hx138_1 := (HB.out.cell (World.block_lt_of_cell? w _ hx138_1)).trans hx138_1;replace hx138_2 := (HB.out.cell (World.block_lt_of_cell? w _ hx138_2)).trans hx138_2;replace hx138_3 := (HB.out.cell (World.block_lt_of_cell? w _ hx138_3)).trans hx138_3;replace p138 := eq_true p138;replace q138 := eq_true q138;refine zg5 (n := 10) (S := fun w' => w'.cell? (ad137.add ((x5_1).toNat * 4)) = some (.int .i64 ((ze l0 x5_1).f0)) ∧ w'.cell? ⟨(ad137.add ((x5_1).toNat * 4)).block, (ad137.add ((x5_1).toNat * 4)).off + 1, none⟩ = some (.int .i64 ((ze l0 x5_1).f1)) ∧ w'.cell? ⟨(ad137.add ((x5_1).toNat * 4)).block, (ad137.add ((x5_1).toNat * 4)).off + 2, none⟩ = some (.int .i64 ((ze l0 x5_1).f2)) ∧ w'.cell? ⟨(ad137.add ((x5_1).toNat * 4)).block, (ad137.add ((x5_1).toNat * 4)).off + 3, none⟩ = some (.int .i64 ((ze l0 x5_1).f3)) ∧ w'.cell? (ad138.add ((x5_1).toNat * 4)) = some (.int .i64 ((ze l1 x5_1).f0)) ∧ w'.cell? ⟨(ad138.add ((x5_1).toNat * 4)).block, (ad138.add ((x5_1).toNat * 4)).off + 1, none⟩ = some (.int .i64 ((ze l1 x5_1).f1)) ∧ w'.cell? ⟨(ad138.add ((x5_1).toNat * 4)).block, (ad138.add ((x5_1).toNat * 4)).off + 2, none⟩ = some (.int .i64 ((ze l1 x5_1).f2)) ∧ w'.cell? ⟨(ad138.add ((x5_1).toNat * 4)).block, (ad138.add ((x5_1).toNat * 4)).off + 3, none⟩ = some (.int .i64 ((ze l1 x5_1).f3))) (ds := []) #[false, false, false, false, false, false, false, false, false, false] (by kernel_rfl) rfl rfl ⟨((HB.out.cell (World.block_lt_of_cell? w _ hw137_0)).trans hw137_0), ((HB.out.cell (World.block_lt_of_cell? w _ hw137_1)).trans hw137_1), ((HB.out.cell (World.block_lt_of_cell? w _ hw137_2)).trans hw137_2), ((HB.out.cell (World.block_lt_of_cell? w _ hw137_3)).trans hw137_3), ((HB.out.cell (World.block_lt_of_cell? w _ hw138_0)).trans hw138_0), ((HB.out.cell (World.block_lt_of_cell? w _ hw138_1)).trans hw138_1), ((HB.out.cell (World.block_lt_of_cell? w _ hw138_2)).trans hw138_2), ((HB.out.cell (World.block_lt_of_cell? w _ hw138_3)).trans hw138_3)⟩ (fun hHeld => ?_); refine zej zbp.tab6 zbp.bits6 (fun HT_ HW_ => ?_);generalize wr.drew = w11 at HB hx137_0 hx137_1 hx137_2 hx137_3 hx138_0 hx138_1 hx138_2 hx138_3 hHeld ⊢;refine zdi (i := 0) (N := some 17) (v := ?_) (a' := ?_) #[true, false, false, false, false, false, false, false, false, false] rfl rfl (zcw HT_.out (by kernel_rfl)) (fun _ _ _ h => h) (Or.inl ⟨by rfl, ?_⟩) ?_ ?_;rotate_left
        ·intro w'
         go_simp;with_reducible rfl
        rotate_left
        ·simp only [Act.put, Zs1, Zs2, Zs3, zck, zcl]
         rfl
        refine zdi (i := 1) (N := some 18) (v := ?_) (a' := ?_) #[true, true, false, false, false, false, false, false, false, false] rfl rfl (zcw HT_.out (by kernel_rfl)) (fun _ _ _ h => h) (Or.inl ⟨by rfl, ?_⟩) ?_ ?_;rotate_left
        ·intro w'
         go_simp;with_reducible rfl
        rotate_left
        ·simp only [Act.put, Zs1, Zs2, Zs3, zck, zcl]
         rfl
        refine zdi (i := 2) (N := some 19) (v := ?_) (a' := ?_) #[true, true, true, false, false, false, false, false, false, false] rfl rfl (zcw HT_.out (by kernel_rfl)) (fun _ _ _ h => h) (Or.inl ⟨by rfl, ?_⟩) ?_ ?_;rotate_left
        ·intro w'
         go_simp;with_reducible rfl
        rotate_left
        ·simp only [Act.put, Zs1, Zs2, Zs3, zck, zcl]
         rfl
        refine zdi (i := 4) (N := some 21) (v := ?_) (a' := ?_) #[true, true, true, false, true, false, false, false, false, false] rfl rfl (zcw HT_.out (by kernel_rfl)) (fun _ _ _ h => h) (Or.inl ⟨by rfl, ?_⟩) ?_ ?_;rotate_left
        ·intro w'
         go_simp;with_reducible rfl
        rotate_left
        ·simp only [Act.put, Zs1, Zs2, Zs3, zck, zcl]
         rfl
        refine zdi (i := 5) (N := some 22) (v := ?_) (a' := ?_) #[true, true, true, false, true, true, false, false, false, false] rfl rfl (zcw HT_.out (by kernel_rfl)) (fun _ _ _ h => h) (Or.inl ⟨by rfl, ?_⟩) ?_ ?_;rotate_left
        ·intro w'
         go_simp;with_reducible rfl
        rotate_left
        ·simp only [Act.put, Zs1, Zs2, Zs3, zck, zcl]
         rfl
        refine zdi (i := 6) (N := some 23) (v := ?_) (a' := ?_) #[true, true, true, false, true, true, true, false, false, false] rfl rfl (zcw HT_.out (by kernel_rfl)) (fun _ _ _ h => h) (Or.inl ⟨by rfl, ?_⟩) ?_ ?_;rotate_left
        ·intro w'
         go_simp;with_reducible rfl
        rotate_left
        ·simp only [Act.put, Zs1, Zs2, Zs3, zck, zcl]
         rfl
        refine zfv (i := 3) (N := some 20) (v := ?_) (a' := ?_) #[true, true, true, true, true, true, true, false, false, false] rfl rfl (zd0 HT_.out HW_.out (by kernel_rfl)) (fun _ _ _ h => h) (Or.inl ⟨by rfl, ?_⟩) hHeld ?_ ?_;rotate_left
        ·rintro w' ⟨s0, s1, s2, s3, s4, s5, s6, s7⟩
         go_simp;with_reducible rfl
        rotate_left
        ·simp only [Act.put, Zs1, Zs2, Zs3, zck, zcl]
         rfl
        refine zfv (i := 7) (N := some 24) (v := ?_) (a' := ?_) #[true, true, true, true, true, true, true, true, false, false] rfl rfl (zd0 HT_.out HW_.out (by kernel_rfl)) (fun _ _ _ h => h) (Or.inl ⟨by rfl, ?_⟩) hHeld ?_ ?_;rotate_left
        ·rintro w' ⟨s0, s1, s2, s3, s4, s5, s6, s7⟩
         go_simp;with_reducible rfl
        rotate_left
        ·simp only [Act.put, Zs1, Zs2, Zs3, zck, zcl]
         rfl
        refine one_ (i := 8) (N := some 25) #[true, true, true, true, true, true, true, true, true, false] rfl rfl (zdt HT_.out (by kernel_rfl)) (by decide) (fun K hK => ?_);refine zd4 Try.func63 (by kernel_rfl) rfl #[.agg #[.int .i64 ((ze l0 x5_1).f0), .int .i64 ((ze l0 x5_1).f1), .int .i64 ((ze l0 x5_1).f2), .int .i64 ((ze l0 x5_1).f3)], .agg #[.int .i64 ((ze l1 x5_1).f0), .int .i64 ((ze l1 x5_1).f1), .int .i64 ((ze l1 x5_1).f2), .int .i64 ((ze l1 x5_1).f3)]] (by rfl) rfl rfl Zmt ?_;with_reducible refine (zd7.calls ((ze l0 x5_1).f0) ((ze l0 x5_1).f1) ((ze l0 x5_1).f2) ((ze l0 x5_1).f3) ((ze l1 x5_1).f0) ((ze l1 x5_1).f1) ((ze l1 x5_1).f2) ((ze l1 x5_1).f3) false _ A7.out).mono ?_
        rintro e w12 ⟨rfl, hb⟩;refine ⟨_, rfl, ?_⟩;have n0_ := za.mk (zh (Zq0 HB) hb);clear HB;have HB := n0_;clear n0_;(try clear hb);(try clear hb2);(try clear hk);(try clear hi);refine hK.out _ _ ⟨((HB.out.cell (World.block_lt_of_cell? w _ hw137_0)).trans hw137_0), ((HB.out.cell (World.block_lt_of_cell? w _ hw137_1)).trans hw137_1), ((HB.out.cell (World.block_lt_of_cell? w _ hw137_2)).trans hw137_2), ((HB.out.cell (World.block_lt_of_cell? w _ hw137_3)).trans hw137_3), ((HB.out.cell (World.block_lt_of_cell? w _ hw138_0)).trans hw138_0), ((HB.out.cell (World.block_lt_of_cell? w _ hw138_1)).trans hw138_1), ((HB.out.cell (World.block_lt_of_cell? w _ hw138_2)).trans hw138_2), ((HB.out.cell (World.block_lt_of_cell? w _ hw138_3)).trans hw138_3)⟩ (fun hHeld => ?_);clear hK K;refine zci (a' := ?_) ?_ ?_;rotate_left
        ·show Act.put _ (some 25) _ = _
         simp only [Act.put, Zs1, Zs2, Zs3, zck, zcl];rfl
        refine zdi (i := 9) (N := some 26) (v := ?_) (a' := ?_) #[true, true, true, true, true, true, true, true, true, true] rfl rfl (zcw HT_.out (by kernel_rfl)) (fun _ _ _ h => h) (Or.inl ⟨by rfl, ?_⟩) ?_ ?_;rotate_left
        ·intro w'
         go_simp;with_reducible rfl
        rotate_left
        ·simp only [Act.put, Zs1, Zs2, Zs3, zck, zcl]
         rfl
        refine done_ (zfy HT_.out (by kernel_rfl)) ?_
        try go_wp2
        go_ret;exact ⟨by first | rfl | (simp [zq, zt] <;> rfl) | (simp [*, zq, zt] <;> rfl), Zq0 HB⟩
      ·rw [if_neg c6] at H
       exact absurd H (by simp)
     ·rw [if_neg c5] at H
      exact absurd H (by simp)
    ·rw [if_neg c4] at H
     have c4b0 : decide (x5_1 < (l0.length : Int)) = false := decide_eq_false c4;clear c4;obtain rfl := Option.some.inj H;go_wp2;go_ret;exact ⟨by first | rfl | (simp [zq, zt] <;> rfl) | (simp [*, zq, zt] <;> rfl), Zq0 HB⟩
 ·rw [if_neg c3] at H
  have c3b0 : ((l0.length : Int) == (l1.length : Int)) = false := beq_eq_false_iff_ne.mpr c3;have c3b1 : ((l0.length : Int) != (l1.length : Int)) = true := bne_iff_ne.mpr c3;have c3b2 : (l0.length == l1.length) = false := by first | simpa using c3 | (simp at c3 ⊢; omega)
  obtain rfl := Option.some.inj H;go_enter Try.func23, Try.ntmps23;go_wp2;go_ret;exact ⟨by first | rfl | (simp [zq, zt] <;> rfl) | (simp [*, zq, zt] <;> rfl), Zq0 HB⟩
theorem Zq11 {X0 P : Prop} (x0 : za X0) (h : X0 → P := by intro x0; repeat (first | (with_reducible first | exact x0 | apply Kept.alloc | apply Kept.drewN | apply Kept.drew) | exact x0)) : P := h x0.out
def zbf.l0 : Nat → List (S88) → Int → Int → Option (Int × (List (S88)))
 | 0, _, _, _ => none
 | k + 1, x0, x1, x5 => if x5 < (x0.length : Int) then (if 0 ≤ x5 then ((some (x0.set (x5 : Int).toNat (⟨x1, (zu x0 x5).f1, (zu x0 x5).f2⟩ : S88) : List (S88))).bind fun y140 => ((some (y140.set (x5 : Int).toNat (⟨(zu y140 x5).f0, wrap64 (x1 + 1), (zu y140 x5).f2⟩ : S88) : List (S88))).bind fun y141 => (zbf.l0 k (y141.set (x5 : Int).toNat (⟨(zu y141 x5).f0, (zu y141 x5).f1, wrap64 ((wrap64 (x1 + 1)) + 1)⟩ : S88)) (wrap64 ((wrap64 ((wrap64 (x1 + 1)) + 1)) + 1)) (wrap64 (x5 + 1))))) else (none)) else (some (x1, x0))
def zbf.f (k : Nat) (l0 : List (S88)) (a1 : Int) : Option (Int × (List (S88))) := zbf.l0 k l0 a1 0
set_option maxHeartbeats 8000000 in
theorem zbf.calls (k : Nat) (P0_ : Nat → Prop) (u9000_ : Value) (l0 : List (S88)) (a1 : Int) (r1 : Int) (r2 : List (S88)) (w0 w : World) (hB : Below w0.heap.size w0 w) (ho0 : Kd.R k88 88 w w0.heap.size P0_ u9000_ l0) (h : zbf.f k l0 a1 = some (r1, r2)) :
  Calls Try.prog 24 #[u9000_, .int .i64 a1] w fun e w' => e = .returned (.int .i64 r1) ∧ Kd.R k88 88 w' w0.heap.size (fun k_ => (P0_ k_ ∨ w.heap.size ≤ k_)) u9000_ r2 ∧ Below w0.heap.size w0 w' ∧ Kept w w' (fun k_ => P0_ k_) := by
 have HO0 := za.mk (show Kd.R k88 88 w w0.heap.size (fun k_ => (P0_ k_ ∨ w.heap.size ≤ k_)) u9000_ l0 from Kd.zbb ho0 (fun k_ hk => (.inl hk)))
 have HK := za.mk (Kept.refl w (fun k_ => P0_ k_))
 have HW0 := za.mk hB.size
 have HB := za.mk hB
 clear hB
 have H : (zbf.l0 k l0 a1 0) = some (r1, r2) := h
 clear h
 have H' := za.mk H
 clear H
 go_enter Try.func24, Try.ntmps24
 go_wp2
 go_loopg [1, 5] k (fun kq v1 v5 w' => ∃ (x0_1 : List (S88)) (x1_1 : Int) (x5_1 : Int), v1 = .int .i64 x1_1 ∧ v5 = .int .i64 x5_1 ∧ za (zbf.l0 kq x0_1 x1_1 x5_1 = some (r1, r2)) ∧ za (kq ≤ k) ∧ za (Kd.R k88 88 w' w0.heap.size (fun k_ => (P0_ k_ ∨ w.heap.size ≤ k_)) u9000_ x0_1) ∧ za (Kept w w' (fun k_ => P0_ k_)) ∧ za (Below w0.heap.size w0 w'))
 case atStart => exact ⟨(l0), (a1), (0), Zrs, Zrs, H', ⟨Nat.le_refl _⟩, ⟨Zq7 HO0⟩, ⟨Zq11 HK⟩, ⟨Zq0 HB⟩⟩
 case round =>
  clear H'
  (try clear c2);(try clear p2)
  obtain ⟨x0_1, x1_1, x5_1, rfl, rfl, HA, HK1, HO_0, HK, HB⟩ := hrel
  cases gk with
  | zero => exact absurd HA.out (by simp [zbf.l0])
  | succ k1 =>
   have H := HA.out;clear HA;simp only [zbf.l0] at H;by_cases c3 : x5_1 < (x0_1.length : Int)
   ·rw [if_pos c3] at H
    have c3b0 : decide (x5_1 < (x0_1.length : Int)) = true := decide_eq_true c3;clear c3;by_cases c4 : 0 ≤ x5_1
    ·rw [if_pos c4] at H
     have c4b0 : decide (0 ≤ x5_1) = true := decide_eq_true c4;clear c4;obtain ⟨y140, hy140⟩ : ∃ y_ : List (S88), y_ = (x0_1.set (x5_1 : Int).toNat (⟨x1_1, (zu x0_1 x5_1).f1, (zu x0_1 x5_1).f2⟩ : S88)) := ⟨_, rfl⟩;replace H : ((some (y140.set (x5_1 : Int).toNat (⟨(zu y140 x5_1).f0, wrap64 (x1_1 + 1), (zu y140 x5_1).f2⟩ : S88) : List (S88))).bind fun y141 => (zbf.l0 k1 (y141.set (x5_1 : Int).toNat (⟨(zu y141 x5_1).f0, (zu y141 x5_1).f1, wrap64 ((wrap64 (x1_1 + 1)) + 1)⟩ : S88)) (wrap64 ((wrap64 ((wrap64 (x1_1 + 1)) + 1)) + 1)) (wrap64 (x5_1 + 1)))) = some (r1, r2) := by first | (rw [hy140]; with_reducible exact H) | (have H2_ := (Option.bind_some _ _).symm.trans H; rw [hy140]; with_reducible exact H2_) | (have H2_ := (Option.bind_some _ _).symm.trans H; with_reducible exact H2_) | with_reducible exact H | (rw [hy140]; exact H) | exact H
     have Ny140 := za.mk hy140;clear hy140;obtain ⟨y141, hy141⟩ : ∃ y_ : List (S88), y_ = (y140.set (x5_1 : Int).toNat (⟨(zu y140 x5_1).f0, wrap64 (x1_1 + 1), (zu y140 x5_1).f2⟩ : S88)) := ⟨_, rfl⟩;replace H : (zbf.l0 k1 (y141.set (x5_1 : Int).toNat (⟨(zu y141 x5_1).f0, (zu y141 x5_1).f1, wrap64 ((wrap64 (x1_1 + 1)) + 1)⟩ : S88)) (wrap64 ((wrap64 ((wrap64 (x1_1 + 1)) + 1)) + 1)) (wrap64 (x5_1 + 1))) = some (r1, r2) := by first | (rw [hy141]; with_reducible exact H) | (have H2_ := (Option.bind_some _ _).symm.trans H; rw [hy141]; with_reducible exact H2_) | (have H2_ := (Option.bind_some _ _).symm.trans H; with_reducible exact H2_) | with_reducible exact H | (rw [hy141]; exact H) | exact H
     have Ny141 := za.mk hy141;clear hy141;obtain ⟨y142, hy142⟩ : ∃ y_ : List (S88), y_ = (y141.set (x5_1 : Int).toNat (⟨(zu y141 x5_1).f0, (zu y141 x5_1).f1, wrap64 ((wrap64 (x1_1 + 1)) + 1)⟩ : S88)) := ⟨_, rfl⟩;replace H : (zbf.l0 k1 y142 (wrap64 ((wrap64 ((wrap64 (x1_1 + 1)) + 1)) + 1)) (wrap64 (x5_1 + 1))) = some (r1, r2) := by first | (rw [hy142]; with_reducible exact H) | (have H2_ := (Option.bind_some _ _).symm.trans H; rw [hy142]; with_reducible exact H2_) | (have H2_ := (Option.bind_some _ _).symm.trans H; with_reducible exact H2_) | with_reducible exact H | (rw [hy142]; exact H) | exact H
     have Ny142 := za.mk hy142;clear hy142;have H' := za.mk H;clear H;obtain ⟨Ao8, co8, eo8⟩ := Kd.zb8 HO_0.out;subst eo8;have p5 : 0 ≤ (x5_1 : Int) := of_decide_eq_true Zas;have q5 : (x5_1 : Int) < ((x0_1.length : Int) : Int) := of_decide_eq_true Zas;obtain ⟨go5, co5, eo5, gb5, gl5, cl5, HG5⟩ := Kd.zd1 HO_0.out (by omega);(first | cases eo5 | (injection eo5 with ea_ en_ ec_; (first | subst ea_ | (injection ea_ with ea_; subst ea_)); subst ec_; clear en_));have GB5 := za.mk gb5;have GG5 := za.mk HG5;clear gb5 gl5 HG5;have HMgo5 := za.mk (show (P0_ go5 ∨ w.heap.size ≤ go5) from (HO_0.out.1 _ rfl));obtain ⟨ce5, hcl5, hM5, hcc5, hfr5⟩ := Kd.zds HO_0.out z88 (x5_1 : Int) p5 q5;obtain rfl := zd2 hM5;have hx5_0 : wr.cell? ⟨go5, (x5_1 : Int).toNat * 3, none⟩ = some (.int .i64 ((zu x0_1 x5_1).f0)) := hcc5 0 _ rfl;have hx5_1 : wr.cell? ⟨go5, (x5_1 : Int).toNat * 3 + 1, none⟩ = some (.int .i64 ((zu x0_1 x5_1).f1)) := hcc5 1 _ rfl;have hx5_2 : wr.cell? ⟨go5, (x5_1 : Int).toNat * 3 + 2, none⟩ = some (.int .i64 ((zu x0_1 x5_1).f2)) := hcc5 2 _ rfl;have hf5_0 : wr.frozen? ⟨go5, (x5_1 : Int).toNat * 3, none⟩ = false := hfr5 0;have hf5_1 : wr.frozen? ⟨go5, (x5_1 : Int).toNat * 3 + 1, none⟩ = false := hfr5 1;have hf5_2 : wr.frozen? ⟨go5, (x5_1 : Int).toNat * 3 + 2, none⟩ = false := hfr5 2;clear hcl5 hcc5 hfr5 hM5;replace p5 := eq_true p5;replace q5 := eq_true q5;have HX9 := za.mk (show Kd.R k88 88 wr w0.heap.size (fun k_ => (P0_ k_ ∨ w.heap.size ≤ k_)) (.slice (some ⟨go5, 0, none⟩) x0_1.length co8) x0_1 from (Zq7 HO_0));obtain ⟨ce9, hcl9, hM9, hcc9, hfr9⟩ := Kd.zds HX9.out z88 (x5_1 : Int) (of_decide_eq_true Zas) (by have h_ : (x5_1 : Int) < ((x0_1.length : Int) : Int) := of_decide_eq_true Zas; first | exact h_ | (have e_ := (Kd.zba HO_0.out).1; omega) | simpa using h_);obtain rfl := zd2 hM9;have HP9 := Kd.zhc HX9.out (x5_1 : Int) (of_decide_eq_true Zas) (by have h_ : (x5_1 : Int) < ((x0_1.length : Int) : Int) := of_decide_eq_true Zas; first | exact h_ | (have e_ := (Kd.zba HO_0.out).1; omega) | simpa using h_) (seg := [.int .i64 x1_1]) (j := 0) hcl9 hcc9 (show 1 ≤ 3 from by decide) (x' := (⟨x1_1, (zu x0_1 x5_1).f1, (zu x0_1 x5_1).f2⟩ : S88)) (zgn _ _ _ (⟨x1_1, (zu x0_1 x5_1).f1, (zu x0_1 x5_1).f2⟩ : S88) ) (fun _ hk => hk);have hx9_0 := hcc9 0 _ rfl;(try simp only [show (k88).sz = 3 from rfl, Nat.mul_one, Nat.add_zero] at hx9_0);have hf9_0 := hfr9 0;(try simp only [show (k88).sz = 3 from rfl, Nat.mul_one, Nat.add_zero] at hf9_0);clear hcl9 hcc9 hfr9 hM9
     go_wp2_with (first | ((with_reducible refine zcf (t := 3) (p := 16) rfl ?_); refine zca (t := 3) (p := 16) (v := ?vo_w10) (w1 := (wr.setCell ⟨go5, (x5_1 : Int).toNat * 3, none⟩ (.int .i64 x1_1))) ?hg ?ho ?hn ?hr ?_; (case ho => rfl); (case hg => rfl); (case hn => rfl); (case hr => first | (go_simp; done) | (go_simp; rfl)); intro w10 hw; have hg : wr.grownBy w10 (some go5) := (by rw [hw]; exact HP9.2); have hp_ : Kd.R k88 88 w10 w0.heap.size (fun k_ => (P0_ k_ ∨ w.heap.size ≤ k_)) (.slice (some ⟨go5, 0, none⟩) x0_1.length co8) y140 := (by rw [hw, Ny140.out]; exact HP9.1); clear HP9; have n0_ := za.mk (hp_); have n1_ := za.mk ((by rw [hw]; exact zbw (HB.out) GB5.out : Below w0.heap.size w0 w10)); have n2_ := za.mk (Kept.zdy (S := (fun k_ => P0_ k_)) hg (Zq11 HK) (fun k_ e_ => (HO_0.out.1 k_ e_))); clear HO_0; clear HB; clear HK; have HO_0 := n0_; have HB := n1_; have HK := n2_; clear n0_ n1_ n2_; clear hg hw hp_; have p6 : 0 ≤ (x5_1 : Int) := of_decide_eq_true Zas; have q6 : (x5_1 : Int) < ((x0_1.length : Int) : Int) := of_decide_eq_true Zas; obtain ⟨ce6, hcl6, hM6, hcc6, hfr6⟩ := Kd.zds HO_0.out z88 (x5_1 : Int) p6 q6; obtain rfl := zd2 hM6; have hx6_0 : w10.cell? ⟨go5, (x5_1 : Int).toNat * 3, none⟩ = some (.int .i64 ((zu y140 x5_1).f0)) := hcc6 0 _ rfl; have hx6_1 : w10.cell? ⟨go5, (x5_1 : Int).toNat * 3 + 1, none⟩ = some (.int .i64 ((zu y140 x5_1).f1)) := hcc6 1 _ rfl; have hx6_2 : w10.cell? ⟨go5, (x5_1 : Int).toNat * 3 + 2, none⟩ = some (.int .i64 ((zu y140 x5_1).f2)) := hcc6 2 _ rfl; have hf6_0 : w10.frozen? ⟨go5, (x5_1 : Int).toNat * 3, none⟩ = false := hfr6 0; have hf6_1 : w10.frozen? ⟨go5, (x5_1 : Int).toNat * 3 + 1, none⟩ = false := hfr6 1; have hf6_2 : w10.frozen? ⟨go5, (x5_1 : Int).toNat * 3 + 2, none⟩ = false := hfr6 2; (try clear hcl6); (try clear hcc6); (try clear hfr6); (try clear hM6); replace p6 := eq_true p6; replace q6 := eq_true q6; have HX11 := za.mk (show Kd.R k88 88 w10 w0.heap.size (fun k_ => (P0_ k_ ∨ w.heap.size ≤ k_)) (.slice (some ⟨go5, 0, none⟩) x0_1.length co8) y140 from (Zq7 HO_0)); obtain ⟨ce11, hcl11, hM11, hcc11, hfr11⟩ := Kd.zds HX11.out z88 (x5_1 : Int) (of_decide_eq_true Zas) (by have h_ : (x5_1 : Int) < ((x0_1.length : Int) : Int) := of_decide_eq_true Zas; first | exact h_ | (have e_ := (Kd.zba HO_0.out).1; omega) | simpa using h_); obtain rfl := zd2 hM11; have HP11 := Kd.zhc HX11.out (x5_1 : Int) (of_decide_eq_true Zas) (by have h_ : (x5_1 : Int) < ((x0_1.length : Int) : Int) := of_decide_eq_true Zas; first | exact h_ | (have e_ := (Kd.zba HO_0.out).1; omega) | simpa using h_) (seg := [.int .i64 (wrap64 (x1_1 + 1))]) (j := 1) hcl11 hcc11 (show 2 ≤ 3 from by decide) (x' := (⟨(zu y140 x5_1).f0, wrap64 (x1_1 + 1), (zu y140 x5_1).f2⟩ : S88)) (zgn _ _ _ (⟨(zu y140 x5_1).f0, wrap64 (x1_1 + 1), (zu y140 x5_1).f2⟩ : S88) ) (fun _ hk => hk); have hx11_1 := hcc11 1 _ rfl; (try simp only [show (k88).sz = 3 from rfl, Nat.mul_one, Nat.add_zero] at hx11_1); have hf11_1 := hfr11 1; (try simp only [show (k88).sz = 3 from rfl, Nat.mul_one, Nat.add_zero] at hf11_1); (try clear hcl11); (try clear hcc11); (try clear hfr11); (try clear hM11)) | ((with_reducible refine zcf (t := 3) (p := 23) rfl ?_); refine zca (t := 3) (p := 23) (v := ?vo_w12) (w1 := (w10.setCell ⟨go5, (x5_1 : Int).toNat * 3 + 1, none⟩ (.int .i64 (wrap64 (x1_1 + 1))))) ?hg ?ho ?hn ?hr ?_; (case ho => rfl); (case hg => rfl); (case hn => rfl); (case hr => first | (go_simp; done) | (go_simp; rfl)); intro w12 hw; have hg : w10.grownBy w12 (some go5) := (by rw [hw]; exact HP11.2); have hp_ : Kd.R k88 88 w12 w0.heap.size (fun k_ => (P0_ k_ ∨ w.heap.size ≤ k_)) (.slice (some ⟨go5, 0, none⟩) x0_1.length co8) y141 := (by rw [hw, Ny141.out]; exact HP11.1); clear HP11; have n0_ := za.mk (hp_); have n1_ := za.mk ((by rw [hw]; exact zbw (HB.out) GB5.out : Below w0.heap.size w0 w12)); have n2_ := za.mk (Kept.zdy (S := (fun k_ => P0_ k_)) hg (Zq11 HK) (fun k_ e_ => (HO_0.out.1 k_ e_))); clear HO_0; clear HB; clear HK; have HO_0 := n0_; have HB := n1_; have HK := n2_; clear n0_ n1_ n2_; clear hg hw hp_; have p7 : 0 ≤ (x5_1 : Int) := of_decide_eq_true Zas; have q7 : (x5_1 : Int) < ((x0_1.length : Int) : Int) := of_decide_eq_true Zas; obtain ⟨ce7, hcl7, hM7, hcc7, hfr7⟩ := Kd.zds HO_0.out z88 (x5_1 : Int) p7 q7; obtain rfl := zd2 hM7; have hx7_0 : w12.cell? ⟨go5, (x5_1 : Int).toNat * 3, none⟩ = some (.int .i64 ((zu y141 x5_1).f0)) := hcc7 0 _ rfl; have hx7_1 : w12.cell? ⟨go5, (x5_1 : Int).toNat * 3 + 1, none⟩ = some (.int .i64 ((zu y141 x5_1).f1)) := hcc7 1 _ rfl; have hx7_2 : w12.cell? ⟨go5, (x5_1 : Int).toNat * 3 + 2, none⟩ = some (.int .i64 ((zu y141 x5_1).f2)) := hcc7 2 _ rfl; have hf7_0 : w12.frozen? ⟨go5, (x5_1 : Int).toNat * 3, none⟩ = false := hfr7 0; have hf7_1 : w12.frozen? ⟨go5, (x5_1 : Int).toNat * 3 + 1, none⟩ = false := hfr7 1; have hf7_2 : w12.frozen? ⟨go5, (x5_1 : Int).toNat * 3 + 2, none⟩ = false := hfr7 2; (try clear hcl7); (try clear hcc7); (try clear hfr7); (try clear hM7); replace p7 := eq_true p7; replace q7 := eq_true q7; have HX13 := za.mk (show Kd.R k88 88 w12 w0.heap.size (fun k_ => (P0_ k_ ∨ w.heap.size ≤ k_)) (.slice (some ⟨go5, 0, none⟩) x0_1.length co8) y141 from (Zq7 HO_0)); obtain ⟨ce13, hcl13, hM13, hcc13, hfr13⟩ := Kd.zds HX13.out z88 (x5_1 : Int) (of_decide_eq_true Zas) (by have h_ : (x5_1 : Int) < ((x0_1.length : Int) : Int) := of_decide_eq_true Zas; first | exact h_ | (have e_ := (Kd.zba HO_0.out).1; omega) | simpa using h_); obtain rfl := zd2 hM13; have HP13 := Kd.zhc HX13.out (x5_1 : Int) (of_decide_eq_true Zas) (by have h_ : (x5_1 : Int) < ((x0_1.length : Int) : Int) := of_decide_eq_true Zas; first | exact h_ | (have e_ := (Kd.zba HO_0.out).1; omega) | simpa using h_) (seg := [.int .i64 (wrap64 ((wrap64 (x1_1 + 1)) + 1))]) (j := 2) hcl13 hcc13 (show 3 ≤ 3 from by decide) (x' := (⟨(zu y141 x5_1).f0, (zu y141 x5_1).f1, wrap64 ((wrap64 (x1_1 + 1)) + 1)⟩ : S88)) (zgn _ _ _ (⟨(zu y141 x5_1).f0, (zu y141 x5_1).f1, wrap64 ((wrap64 (x1_1 + 1)) + 1)⟩ : S88) ) (fun _ hk => hk); have hx13_2 := hcc13 2 _ rfl; (try simp only [show (k88).sz = 3 from rfl, Nat.mul_one, Nat.add_zero] at hx13_2); have hf13_2 := hfr13 2; (try simp only [show (k88).sz = 3 from rfl, Nat.mul_one, Nat.add_zero] at hf13_2); (try clear hcl13); (try clear hcc13); (try clear hfr13); (try clear hM13)) | ((with_reducible refine zcf (t := 3) (p := 30) rfl ?_); refine zca (t := 3) (p := 30) (v := ?vo_w14) (w1 := (w12.setCell ⟨go5, (x5_1 : Int).toNat * 3 + 2, none⟩ (.int .i64 (wrap64 ((wrap64 (x1_1 + 1)) + 1))))) ?hg ?ho ?hn ?hr ?_; (case ho => rfl); (case hg => rfl); (case hn => rfl); (case hr => first | (go_simp; done) | (go_simp; rfl)); intro w14 hw; have hg : w12.grownBy w14 (some go5) := (by rw [hw]; exact HP13.2); have hp_ : Kd.R k88 88 w14 w0.heap.size (fun k_ => (P0_ k_ ∨ w.heap.size ≤ k_)) (.slice (some ⟨go5, 0, none⟩) x0_1.length co8) y142 := (by rw [hw, Ny142.out]; exact HP13.1); clear HP13; have n0_ := za.mk (hp_); have n1_ := za.mk ((by rw [hw]; exact zbw (HB.out) GB5.out : Below w0.heap.size w0 w14)); have n2_ := za.mk (Kept.zdy (S := (fun k_ => P0_ k_)) hg (Zq11 HK) (fun k_ e_ => (HO_0.out.1 k_ e_))); clear HO_0; clear HB; clear HK; have HO_0 := n0_; have HB := n1_; have HK := n2_; clear n0_ n1_ n2_; clear hg hw hp_))
     go_roundg k1
     case measure => have := HK1.out; omega
     case rel => exact ⟨(y142), (wrap64 ((wrap64 ((wrap64 (x1_1 + 1)) + 1)) + 1)), (wrap64 (x5_1 + 1)), Zrs, Zrs, H', ⟨by have := HK1.out; omega⟩, ⟨Zq7 HO_0⟩, ⟨Zq11 HK⟩, ⟨Zq0 HB⟩⟩
    ·rw [if_neg c4] at H
     exact absurd H (by simp)
   ·rw [if_neg c3] at H
    have c3b0 : decide (x5_1 < (x0_1.length : Int)) = false := decide_eq_false c3;clear c3;simp only [Option.some.injEq, Prod.mk.injEq] at H;obtain ⟨rfl, rfl⟩ := H;obtain ⟨Ao15, co15, eo15⟩ := Kd.zb8 HO_0.out;subst eo15;go_wp2;go_ret;exact ⟨by first | rfl | (simp [zq, zt] <;> rfl) | (simp [*, zq, zt] <;> rfl), Zq7 HO_0, Zq0 HB, Zq11 HK⟩
def zbh.l0 : Nat → List (S34) → Int → Int → Option (Int × (List (S34)))
 | 0, _, _, _ => none
 | k + 1, x0, x1, x5 => if x5 < (x0.length : Int) then (if 0 ≤ x5 then ((some (x0.set (x5 : Int).toNat (⟨x1, (ze x0 x5).f1, (ze x0 x5).f2, (ze x0 x5).f3⟩ : S34) : List (S34))).bind fun y143 => ((some (y143.set (x5 : Int).toNat (⟨(ze y143 x5).f0, wrap64 (x1 + 1), (ze y143 x5).f2, (ze y143 x5).f3⟩ : S34) : List (S34))).bind fun y144 => ((some (y144.set (x5 : Int).toNat (⟨(ze y144 x5).f0, (ze y144 x5).f1, wrap64 ((wrap64 (x1 + 1)) + 1), (ze y144 x5).f3⟩ : S34) : List (S34))).bind fun y145 => (zbh.l0 k (y145.set (x5 : Int).toNat (⟨(ze y145 x5).f0, (ze y145 x5).f1, (ze y145 x5).f2, wrap64 ((wrap64 ((wrap64 (x1 + 1)) + 1)) + 1)⟩ : S34)) (wrap64 ((wrap64 ((wrap64 ((wrap64 (x1 + 1)) + 1)) + 1)) + 1)) (wrap64 (x5 + 1)))))) else (none)) else (some (x1, x0))
def zbh.f (k : Nat) (l0 : List (S34)) (a1 : Int) : Option (Int × (List (S34))) := zbh.l0 k l0 a1 0
set_option maxHeartbeats 8000000 in
theorem zbh.calls (k : Nat) (P0_ : Nat → Prop) (u9000_ : Value) (l0 : List (S34)) (a1 : Int) (r1 : Int) (r2 : List (S34)) (w0 w : World) (hB : Below w0.heap.size w0 w) (ho0 : Kd.R k34 34 w w0.heap.size P0_ u9000_ l0) (h : zbh.f k l0 a1 = some (r1, r2)) :
  Calls Try.prog 25 #[u9000_, .int .i64 a1] w fun e w' => e = .returned (.int .i64 r1) ∧ Kd.R k34 34 w' w0.heap.size (fun k_ => (P0_ k_ ∨ w.heap.size ≤ k_)) u9000_ r2 ∧ Below w0.heap.size w0 w' ∧ Kept w w' (fun k_ => P0_ k_) := by
 have HO0 := za.mk (show Kd.R k34 34 w w0.heap.size (fun k_ => (P0_ k_ ∨ w.heap.size ≤ k_)) u9000_ l0 from Kd.zbb ho0 (fun k_ hk => (.inl hk)))
 have HK := za.mk (Kept.refl w (fun k_ => P0_ k_))
 have HW0 := za.mk hB.size
 have HB := za.mk hB
 clear hB
 have H : (zbh.l0 k l0 a1 0) = some (r1, r2) := h
 clear h
 have H' := za.mk H
 clear H
 go_enter Try.func25, Try.ntmps25
 go_wp2
 go_loopg [1, 5] k (fun kq v1 v5 w' => ∃ (x0_1 : List (S34)) (x1_1 : Int) (x5_1 : Int), v1 = .int .i64 x1_1 ∧ v5 = .int .i64 x5_1 ∧ za (zbh.l0 kq x0_1 x1_1 x5_1 = some (r1, r2)) ∧ za (kq ≤ k) ∧ za (Kd.R k34 34 w' w0.heap.size (fun k_ => (P0_ k_ ∨ w.heap.size ≤ k_)) u9000_ x0_1) ∧ za (Kept w w' (fun k_ => P0_ k_)) ∧ za (Below w0.heap.size w0 w'))
 case atStart => exact ⟨(l0), (a1), (0), Zrs, Zrs, H', ⟨Nat.le_refl _⟩, ⟨Zq7 HO0⟩, ⟨Zq11 HK⟩, ⟨Zq0 HB⟩⟩
 case round =>
  clear H'
  (try clear c2);(try clear p2)
  obtain ⟨x0_1, x1_1, x5_1, rfl, rfl, HA, HK1, HO_0, HK, HB⟩ := hrel
  cases gk with
  | zero => exact absurd HA.out (by simp [zbh.l0])
  | succ k1 =>
   have H := HA.out;clear HA;simp only [zbh.l0] at H;by_cases c3 : x5_1 < (x0_1.length : Int)
   ·rw [if_pos c3] at H
    have c3b0 : decide (x5_1 < (x0_1.length : Int)) = true := decide_eq_true c3;clear c3;by_cases c4 : 0 ≤ x5_1
    ·rw [if_pos c4] at H
     have c4b0 : decide (0 ≤ x5_1) = true := decide_eq_true c4;clear c4;obtain ⟨y143, hy143⟩ : ∃ y_ : List (S34), y_ = (x0_1.set (x5_1 : Int).toNat (⟨x1_1, (ze x0_1 x5_1).f1, (ze x0_1 x5_1).f2, (ze x0_1 x5_1).f3⟩ : S34)) := ⟨_, rfl⟩;replace H : ((some (y143.set (x5_1 : Int).toNat (⟨(ze y143 x5_1).f0, wrap64 (x1_1 + 1), (ze y143 x5_1).f2, (ze y143 x5_1).f3⟩ : S34) : List (S34))).bind fun y144 => ((some (y144.set (x5_1 : Int).toNat (⟨(ze y144 x5_1).f0, (ze y144 x5_1).f1, wrap64 ((wrap64 (x1_1 + 1)) + 1), (ze y144 x5_1).f3⟩ : S34) : List (S34))).bind fun y145 => (zbh.l0 k1 (y145.set (x5_1 : Int).toNat (⟨(ze y145 x5_1).f0, (ze y145 x5_1).f1, (ze y145 x5_1).f2, wrap64 ((wrap64 ((wrap64 (x1_1 + 1)) + 1)) + 1)⟩ : S34)) (wrap64 ((wrap64 ((wrap64 ((wrap64 (x1_1 + 1)) + 1)) + 1)) + 1)) (wrap64 (x5_1 + 1))))) = some (r1, r2) := by first | (rw [hy143]; with_reducible exact H) | (have H2_ := (Option.bind_some _ _).symm.trans H; rw [hy143]; with_reducible exact H2_) | (have H2_ := (Option.bind_some _ _).symm.trans H; with_reducible exact H2_) | with_reducible exact H | (rw [hy143]; exact H) | exact H
     have Ny143 := za.mk hy143;clear hy143;obtain ⟨y144, hy144⟩ : ∃ y_ : List (S34), y_ = (y143.set (x5_1 : Int).toNat (⟨(ze y143 x5_1).f0, wrap64 (x1_1 + 1), (ze y143 x5_1).f2, (ze y143 x5_1).f3⟩ : S34)) := ⟨_, rfl⟩;replace H : ((some (y144.set (x5_1 : Int).toNat (⟨(ze y144 x5_1).f0, (ze y144 x5_1).f1, wrap64 ((wrap64 (x1_1 + 1)) + 1), (ze y144 x5_1).f3⟩ : S34) : List (S34))).bind fun y145 => (zbh.l0 k1 (y145.set (x5_1 : Int).toNat (⟨(ze y145 x5_1).f0, (ze y145 x5_1).f1, (ze y145 x5_1).f2, wrap64 ((wrap64 ((wrap64 (x1_1 + 1)) + 1)) + 1)⟩ : S34)) (wrap64 ((wrap64 ((wrap64 ((wrap64 (x1_1 + 1)) + 1)) + 1)) + 1)) (wrap64 (x5_1 + 1)))) = some (r1, r2) := by first | (rw [hy144]; with_reducible exact H) | (have H2_ := (Option.bind_some _ _).symm.trans H; rw [hy144]; with_reducible exact H2_) | (have H2_ := (Option.bind_some _ _).symm.trans H; with_reducible exact H2_) | with_reducible exact H | (rw [hy144]; exact H) | exact H
     have Ny144 := za.mk hy144;clear hy144;obtain ⟨y145, hy145⟩ : ∃ y_ : List (S34), y_ = (y144.set (x5_1 : Int).toNat (⟨(ze y144 x5_1).f0, (ze y144 x5_1).f1, wrap64 ((wrap64 (x1_1 + 1)) + 1), (ze y144 x5_1).f3⟩ : S34)) := ⟨_, rfl⟩;replace H : (zbh.l0 k1 (y145.set (x5_1 : Int).toNat (⟨(ze y145 x5_1).f0, (ze y145 x5_1).f1, (ze y145 x5_1).f2, wrap64 ((wrap64 ((wrap64 (x1_1 + 1)) + 1)) + 1)⟩ : S34)) (wrap64 ((wrap64 ((wrap64 ((wrap64 (x1_1 + 1)) + 1)) + 1)) + 1)) (wrap64 (x5_1 + 1))) = some (r1, r2) := by first | (rw [hy145]; with_reducible exact H) | (have H2_ := (Option.bind_some _ _).symm.trans H; rw [hy145]; with_reducible exact H2_) | (have H2_ := (Option.bind_some _ _).symm.trans H; with_reducible exact H2_) | with_reducible exact H | (rw [hy145]; exact H) | exact H
     have Ny145 := za.mk hy145;clear hy145;obtain ⟨y146, hy146⟩ : ∃ y_ : List (S34), y_ = (y145.set (x5_1 : Int).toNat (⟨(ze y145 x5_1).f0, (ze y145 x5_1).f1, (ze y145 x5_1).f2, wrap64 ((wrap64 ((wrap64 (x1_1 + 1)) + 1)) + 1)⟩ : S34)) := ⟨_, rfl⟩;replace H : (zbh.l0 k1 y146 (wrap64 ((wrap64 ((wrap64 ((wrap64 (x1_1 + 1)) + 1)) + 1)) + 1)) (wrap64 (x5_1 + 1))) = some (r1, r2) := by first | (rw [hy146]; with_reducible exact H) | (have H2_ := (Option.bind_some _ _).symm.trans H; rw [hy146]; with_reducible exact H2_) | (have H2_ := (Option.bind_some _ _).symm.trans H; with_reducible exact H2_) | with_reducible exact H | (rw [hy146]; exact H) | exact H
     have Ny146 := za.mk hy146;clear hy146;have H' := za.mk H;clear H;obtain ⟨Ao9, co9, eo9⟩ := Kd.zb8 HO_0.out;subst eo9;have p5 : 0 ≤ (x5_1 : Int) := of_decide_eq_true Zas;have q5 : (x5_1 : Int) < ((x0_1.length : Int) : Int) := of_decide_eq_true Zas;obtain ⟨go5, co5, eo5, gb5, gl5, cl5, HG5⟩ := Kd.zd1 HO_0.out (by omega);(first | cases eo5 | (injection eo5 with ea_ en_ ec_; (first | subst ea_ | (injection ea_ with ea_; subst ea_)); subst ec_; clear en_));have GB5 := za.mk gb5;have GG5 := za.mk HG5;clear gb5 gl5 HG5;have HMgo5 := za.mk (show (P0_ go5 ∨ w.heap.size ≤ go5) from (HO_0.out.1 _ rfl));obtain ⟨ce5, hcl5, hM5, hcc5, hfr5⟩ := Kd.zds HO_0.out z34 (x5_1 : Int) p5 q5;obtain rfl := zdl hM5;have hx5_0 : wr.cell? ⟨go5, (x5_1 : Int).toNat * 4, none⟩ = some (.int .i64 ((ze x0_1 x5_1).f0)) := hcc5 0 _ rfl;have hx5_1 : wr.cell? ⟨go5, (x5_1 : Int).toNat * 4 + 1, none⟩ = some (.int .i64 ((ze x0_1 x5_1).f1)) := hcc5 1 _ rfl;have hx5_2 : wr.cell? ⟨go5, (x5_1 : Int).toNat * 4 + 2, none⟩ = some (.int .i64 ((ze x0_1 x5_1).f2)) := hcc5 2 _ rfl;have hx5_3 : wr.cell? ⟨go5, (x5_1 : Int).toNat * 4 + 3, none⟩ = some (.int .i64 ((ze x0_1 x5_1).f3)) := hcc5 3 _ rfl;have hf5_0 : wr.frozen? ⟨go5, (x5_1 : Int).toNat * 4, none⟩ = false := hfr5 0;have hf5_1 : wr.frozen? ⟨go5, (x5_1 : Int).toNat * 4 + 1, none⟩ = false := hfr5 1;have hf5_2 : wr.frozen? ⟨go5, (x5_1 : Int).toNat * 4 + 2, none⟩ = false := hfr5 2;have hf5_3 : wr.frozen? ⟨go5, (x5_1 : Int).toNat * 4 + 3, none⟩ = false := hfr5 3;clear hcl5 hcc5 hfr5 hM5;replace p5 := eq_true p5;replace q5 := eq_true q5;have HX10 := za.mk (show Kd.R k34 34 wr w0.heap.size (fun k_ => (P0_ k_ ∨ w.heap.size ≤ k_)) (.slice (some ⟨go5, 0, none⟩) x0_1.length co9) x0_1 from (Zq7 HO_0));obtain ⟨ce10, hcl10, hM10, hcc10, hfr10⟩ := Kd.zds HX10.out z34 (x5_1 : Int) (of_decide_eq_true Zas) (by have h_ : (x5_1 : Int) < ((x0_1.length : Int) : Int) := of_decide_eq_true Zas; first | exact h_ | (have e_ := (Kd.zba HO_0.out).1; omega) | simpa using h_);obtain rfl := zdl hM10;have HP10 := Kd.zhc HX10.out (x5_1 : Int) (of_decide_eq_true Zas) (by have h_ : (x5_1 : Int) < ((x0_1.length : Int) : Int) := of_decide_eq_true Zas; first | exact h_ | (have e_ := (Kd.zba HO_0.out).1; omega) | simpa using h_) (seg := [.int .i64 x1_1]) (j := 0) hcl10 hcc10 (show 1 ≤ 4 from by decide) (x' := (⟨x1_1, (ze x0_1 x5_1).f1, (ze x0_1 x5_1).f2, (ze x0_1 x5_1).f3⟩ : S34)) (zfz _ _ _ (⟨x1_1, (ze x0_1 x5_1).f1, (ze x0_1 x5_1).f2, (ze x0_1 x5_1).f3⟩ : S34) ) (fun _ hk => hk);have hx10_0 := hcc10 0 _ rfl;(try simp only [show (k34).sz = 4 from rfl, Nat.mul_one, Nat.add_zero] at hx10_0);have hf10_0 := hfr10 0;(try simp only [show (k34).sz = 4 from rfl, Nat.mul_one, Nat.add_zero] at hf10_0);clear hcl10 hcc10 hfr10 hM10
     go_wp2_with (first | ((with_reducible refine zcf (t := 3) (p := 16) rfl ?_); refine zca (t := 3) (p := 16) (v := ?vo_w11) (w1 := (wr.setCell ⟨go5, (x5_1 : Int).toNat * 4, none⟩ (.int .i64 x1_1))) ?hg ?ho ?hn ?hr ?_; (case ho => rfl); (case hg => rfl); (case hn => rfl); (case hr => first | (go_simp; done) | (go_simp; rfl)); intro w11 hw; have hg : wr.grownBy w11 (some go5) := (by rw [hw]; exact HP10.2); have hp_ : Kd.R k34 34 w11 w0.heap.size (fun k_ => (P0_ k_ ∨ w.heap.size ≤ k_)) (.slice (some ⟨go5, 0, none⟩) x0_1.length co9) y143 := (by rw [hw, Ny143.out]; exact HP10.1); clear HP10; have n0_ := za.mk (hp_); have n1_ := za.mk ((by rw [hw]; exact zbw (HB.out) GB5.out : Below w0.heap.size w0 w11)); have n2_ := za.mk (Kept.zdy (S := (fun k_ => P0_ k_)) hg (Zq11 HK) (fun k_ e_ => (HO_0.out.1 k_ e_))); clear HO_0; clear HB; clear HK; have HO_0 := n0_; have HB := n1_; have HK := n2_; clear n0_ n1_ n2_; clear hg hw hp_; have p6 : 0 ≤ (x5_1 : Int) := of_decide_eq_true Zas; have q6 : (x5_1 : Int) < ((x0_1.length : Int) : Int) := of_decide_eq_true Zas; obtain ⟨ce6, hcl6, hM6, hcc6, hfr6⟩ := Kd.zds HO_0.out z34 (x5_1 : Int) p6 q6; obtain rfl := zdl hM6; have hx6_0 : w11.cell? ⟨go5, (x5_1 : Int).toNat * 4, none⟩ = some (.int .i64 ((ze y143 x5_1).f0)) := hcc6 0 _ rfl; have hx6_1 : w11.cell? ⟨go5, (x5_1 : Int).toNat * 4 + 1, none⟩ = some (.int .i64 ((ze y143 x5_1).f1)) := hcc6 1 _ rfl; have hx6_2 : w11.cell? ⟨go5, (x5_1 : Int).toNat * 4 + 2, none⟩ = some (.int .i64 ((ze y143 x5_1).f2)) := hcc6 2 _ rfl; have hx6_3 : w11.cell? ⟨go5, (x5_1 : Int).toNat * 4 + 3, none⟩ = some (.int .i64 ((ze y143 x5_1).f3)) := hcc6 3 _ rfl; have hf6_0 : w11.frozen? ⟨go5, (x5_1 : Int).toNat * 4, none⟩ = false := hfr6 0; have hf6_1 : w11.frozen? ⟨go5, (x5_1 : Int).toNat * 4 + 1, none⟩ = false := hfr6 1; have hf6_2 : w11.frozen? ⟨go5, (x5_1 : Int).toNat * 4 + 2, none⟩ = false := hfr6 2; have hf6_3 : w11.frozen? ⟨go5, (x5_1 : Int).toNat * 4 + 3, none⟩ = false := hfr6 3; (try clear hcl6); (try clear hcc6); (try clear hfr6); (try clear hM6); replace p6 := eq_true p6; replace q6 := eq_true q6; have HX12 := za.mk (show Kd.R k34 34 w11 w0.heap.size (fun k_ => (P0_ k_ ∨ w.heap.size ≤ k_)) (.slice (some ⟨go5, 0, none⟩) x0_1.length co9) y143 from (Zq7 HO_0)); obtain ⟨ce12, hcl12, hM12, hcc12, hfr12⟩ := Kd.zds HX12.out z34 (x5_1 : Int) (of_decide_eq_true Zas) (by have h_ : (x5_1 : Int) < ((x0_1.length : Int) : Int) := of_decide_eq_true Zas; first | exact h_ | (have e_ := (Kd.zba HO_0.out).1; omega) | simpa using h_); obtain rfl := zdl hM12; have HP12 := Kd.zhc HX12.out (x5_1 : Int) (of_decide_eq_true Zas) (by have h_ : (x5_1 : Int) < ((x0_1.length : Int) : Int) := of_decide_eq_true Zas; first | exact h_ | (have e_ := (Kd.zba HO_0.out).1; omega) | simpa using h_) (seg := [.int .i64 (wrap64 (x1_1 + 1))]) (j := 1) hcl12 hcc12 (show 2 ≤ 4 from by decide) (x' := (⟨(ze y143 x5_1).f0, wrap64 (x1_1 + 1), (ze y143 x5_1).f2, (ze y143 x5_1).f3⟩ : S34)) (zfz _ _ _ (⟨(ze y143 x5_1).f0, wrap64 (x1_1 + 1), (ze y143 x5_1).f2, (ze y143 x5_1).f3⟩ : S34) ) (fun _ hk => hk); have hx12_1 := hcc12 1 _ rfl; (try simp only [show (k34).sz = 4 from rfl, Nat.mul_one, Nat.add_zero] at hx12_1); have hf12_1 := hfr12 1; (try simp only [show (k34).sz = 4 from rfl, Nat.mul_one, Nat.add_zero] at hf12_1); (try clear hcl12); (try clear hcc12); (try clear hfr12); (try clear hM12)) | ((with_reducible refine zcf (t := 3) (p := 23) rfl ?_); refine zca (t := 3) (p := 23) (v := ?vo_w13) (w1 := (w11.setCell ⟨go5, (x5_1 : Int).toNat * 4 + 1, none⟩ (.int .i64 (wrap64 (x1_1 + 1))))) ?hg ?ho ?hn ?hr ?_; (case ho => rfl); (case hg => rfl); (case hn => rfl); (case hr => first | (go_simp; done) | (go_simp; rfl)); intro w13 hw; have hg : w11.grownBy w13 (some go5) := (by rw [hw]; exact HP12.2); have hp_ : Kd.R k34 34 w13 w0.heap.size (fun k_ => (P0_ k_ ∨ w.heap.size ≤ k_)) (.slice (some ⟨go5, 0, none⟩) x0_1.length co9) y144 := (by rw [hw, Ny144.out]; exact HP12.1); clear HP12; have n0_ := za.mk (hp_); have n1_ := za.mk ((by rw [hw]; exact zbw (HB.out) GB5.out : Below w0.heap.size w0 w13)); have n2_ := za.mk (Kept.zdy (S := (fun k_ => P0_ k_)) hg (Zq11 HK) (fun k_ e_ => (HO_0.out.1 k_ e_))); clear HO_0; clear HB; clear HK; have HO_0 := n0_; have HB := n1_; have HK := n2_; clear n0_ n1_ n2_; clear hg hw hp_; have p7 : 0 ≤ (x5_1 : Int) := of_decide_eq_true Zas; have q7 : (x5_1 : Int) < ((x0_1.length : Int) : Int) := of_decide_eq_true Zas; obtain ⟨ce7, hcl7, hM7, hcc7, hfr7⟩ := Kd.zds HO_0.out z34 (x5_1 : Int) p7 q7; obtain rfl := zdl hM7; have hx7_0 : w13.cell? ⟨go5, (x5_1 : Int).toNat * 4, none⟩ = some (.int .i64 ((ze y144 x5_1).f0)) := hcc7 0 _ rfl; have hx7_1 : w13.cell? ⟨go5, (x5_1 : Int).toNat * 4 + 1, none⟩ = some (.int .i64 ((ze y144 x5_1).f1)) := hcc7 1 _ rfl; have hx7_2 : w13.cell? ⟨go5, (x5_1 : Int).toNat * 4 + 2, none⟩ = some (.int .i64 ((ze y144 x5_1).f2)) := hcc7 2 _ rfl; have hx7_3 : w13.cell? ⟨go5, (x5_1 : Int).toNat * 4 + 3, none⟩ = some (.int .i64 ((ze y144 x5_1).f3)) := hcc7 3 _ rfl; have hf7_0 : w13.frozen? ⟨go5, (x5_1 : Int).toNat * 4, none⟩ = false := hfr7 0; have hf7_1 : w13.frozen? ⟨go5, (x5_1 : Int).toNat * 4 + 1, none⟩ = false := hfr7 1; have hf7_2 : w13.frozen? ⟨go5, (x5_1 : Int).toNat * 4 + 2, none⟩ = false := hfr7 2; have hf7_3 : w13.frozen? ⟨go5, (x5_1 : Int).toNat * 4 + 3, none⟩ = false := hfr7 3; (try clear hcl7); (try clear hcc7); (try clear hfr7); (try clear hM7); replace p7 := eq_true p7; replace q7 := eq_true q7; have HX14 := za.mk (show Kd.R k34 34 w13 w0.heap.size (fun k_ => (P0_ k_ ∨ w.heap.size ≤ k_)) (.slice (some ⟨go5, 0, none⟩) x0_1.length co9) y144 from (Zq7 HO_0)); obtain ⟨ce14, hcl14, hM14, hcc14, hfr14⟩ := Kd.zds HX14.out z34 (x5_1 : Int) (of_decide_eq_true Zas) (by have h_ : (x5_1 : Int) < ((x0_1.length : Int) : Int) := of_decide_eq_true Zas; first | exact h_ | (have e_ := (Kd.zba HO_0.out).1; omega) | simpa using h_); obtain rfl := zdl hM14; have HP14 := Kd.zhc HX14.out (x5_1 : Int) (of_decide_eq_true Zas) (by have h_ : (x5_1 : Int) < ((x0_1.length : Int) : Int) := of_decide_eq_true Zas; first | exact h_ | (have e_ := (Kd.zba HO_0.out).1; omega) | simpa using h_) (seg := [.int .i64 (wrap64 ((wrap64 (x1_1 + 1)) + 1))]) (j := 2) hcl14 hcc14 (show 3 ≤ 4 from by decide) (x' := (⟨(ze y144 x5_1).f0, (ze y144 x5_1).f1, wrap64 ((wrap64 (x1_1 + 1)) + 1), (ze y144 x5_1).f3⟩ : S34)) (zfz _ _ _ (⟨(ze y144 x5_1).f0, (ze y144 x5_1).f1, wrap64 ((wrap64 (x1_1 + 1)) + 1), (ze y144 x5_1).f3⟩ : S34) ) (fun _ hk => hk); have hx14_2 := hcc14 2 _ rfl; (try simp only [show (k34).sz = 4 from rfl, Nat.mul_one, Nat.add_zero] at hx14_2); have hf14_2 := hfr14 2; (try simp only [show (k34).sz = 4 from rfl, Nat.mul_one, Nat.add_zero] at hf14_2); (try clear hcl14); (try clear hcc14); (try clear hfr14); (try clear hM14)) | ((with_reducible refine zcf (t := 3) (p := 30) rfl ?_); refine zca (t := 3) (p := 30) (v := ?vo_w15) (w1 := (w13.setCell ⟨go5, (x5_1 : Int).toNat * 4 + 2, none⟩ (.int .i64 (wrap64 ((wrap64 (x1_1 + 1)) + 1))))) ?hg ?ho ?hn ?hr ?_; (case ho => rfl); (case hg => rfl); (case hn => rfl); (case hr => first | (go_simp; done) | (go_simp; rfl)); intro w15 hw; have hg : w13.grownBy w15 (some go5) := (by rw [hw]; exact HP14.2); have hp_ : Kd.R k34 34 w15 w0.heap.size (fun k_ => (P0_ k_ ∨ w.heap.size ≤ k_)) (.slice (some ⟨go5, 0, none⟩) x0_1.length co9) y145 := (by rw [hw, Ny145.out]; exact HP14.1); clear HP14; have n0_ := za.mk (hp_); have n1_ := za.mk ((by rw [hw]; exact zbw (HB.out) GB5.out : Below w0.heap.size w0 w15)); have n2_ := za.mk (Kept.zdy (S := (fun k_ => P0_ k_)) hg (Zq11 HK) (fun k_ e_ => (HO_0.out.1 k_ e_))); clear HO_0; clear HB; clear HK; have HO_0 := n0_; have HB := n1_; have HK := n2_; clear n0_ n1_ n2_; clear hg hw hp_; have p8 : 0 ≤ (x5_1 : Int) := of_decide_eq_true Zas; have q8 : (x5_1 : Int) < ((x0_1.length : Int) : Int) := of_decide_eq_true Zas; obtain ⟨ce8, hcl8, hM8, hcc8, hfr8⟩ := Kd.zds HO_0.out z34 (x5_1 : Int) p8 q8; obtain rfl := zdl hM8; have hx8_0 : w15.cell? ⟨go5, (x5_1 : Int).toNat * 4, none⟩ = some (.int .i64 ((ze y145 x5_1).f0)) := hcc8 0 _ rfl; have hx8_1 : w15.cell? ⟨go5, (x5_1 : Int).toNat * 4 + 1, none⟩ = some (.int .i64 ((ze y145 x5_1).f1)) := hcc8 1 _ rfl; have hx8_2 : w15.cell? ⟨go5, (x5_1 : Int).toNat * 4 + 2, none⟩ = some (.int .i64 ((ze y145 x5_1).f2)) := hcc8 2 _ rfl; have hx8_3 : w15.cell? ⟨go5, (x5_1 : Int).toNat * 4 + 3, none⟩ = some (.int .i64 ((ze y145 x5_1).f3)) := hcc8 3 _ rfl; have hf8_0 : w15.frozen? ⟨go5, (x5_1 : Int).toNat * 4, none⟩ = false := hfr8 0; have hf8_1 : w15.frozen? ⟨go5, (x5_1 : Int).toNat * 4 + 1, none⟩ = false := hfr8 1; have hf8_2 : w15.frozen? ⟨go5, (x5_1 : Int).toNat * 4 + 2, none⟩ = false := hfr8 2; have hf8_3 : w15.frozen? ⟨go5, (x5_1 : Int).toNat * 4 + 3, none⟩ = false := hfr8 3; (try clear hcl8); (try clear hcc8); (try clear hfr8); (try clear hM8); replace p8 := eq_true p8; replace q8 := eq_true q8; have HX16 := za.mk (show Kd.R k34 34 w15 w0.heap.size (fun k_ => (P0_ k_ ∨ w.heap.size ≤ k_)) (.slice (some ⟨go5, 0, none⟩) x0_1.length co9) y145 from (Zq7 HO_0)); obtain ⟨ce16, hcl16, hM16, hcc16, hfr16⟩ := Kd.zds HX16.out z34 (x5_1 : Int) (of_decide_eq_true Zas) (by have h_ : (x5_1 : Int) < ((x0_1.length : Int) : Int) := of_decide_eq_true Zas; first | exact h_ | (have e_ := (Kd.zba HO_0.out).1; omega) | simpa using h_); obtain rfl := zdl hM16; have HP16 := Kd.zhc HX16.out (x5_1 : Int) (of_decide_eq_true Zas) (by have h_ : (x5_1 : Int) < ((x0_1.length : Int) : Int) := of_decide_eq_true Zas; first | exact h_ | (have e_ := (Kd.zba HO_0.out).1; omega) | simpa using h_) (seg := [.int .i64 (wrap64 ((wrap64 ((wrap64 (x1_1 + 1)) + 1)) + 1))]) (j := 3) hcl16 hcc16 (show 4 ≤ 4 from by decide) (x' := (⟨(ze y145 x5_1).f0, (ze y145 x5_1).f1, (ze y145 x5_1).f2, wrap64 ((wrap64 ((wrap64 (x1_1 + 1)) + 1)) + 1)⟩ : S34)) (zfz _ _ _ (⟨(ze y145 x5_1).f0, (ze y145 x5_1).f1, (ze y145 x5_1).f2, wrap64 ((wrap64 ((wrap64 (x1_1 + 1)) + 1)) + 1)⟩ : S34) ) (fun _ hk => hk); have hx16_3 := hcc16 3 _ rfl; (try simp only [show (k34).sz = 4 from rfl, Nat.mul_one, Nat.add_zero] at hx16_3); have hf16_3 := hfr16 3; (try simp only [show (k34).sz = 4 from rfl, Nat.mul_one, Nat.add_zero] at hf16_3); (try clear hcl16); (try clear hcc16); (try clear hfr16); (try clear hM16)) | ((with_reducible refine zcf (t := 3) (p := 37) rfl ?_); refine zca (t := 3) (p := 37) (v := ?vo_w17) (w1 := (w15.setCell ⟨go5, (x5_1 : Int).toNat * 4 + 3, none⟩ (.int .i64 (wrap64 ((wrap64 ((wrap64 (x1_1 + 1)) + 1)) + 1))))) ?hg ?ho ?hn ?hr ?_; (case ho => rfl); (case hg => rfl); (case hn => rfl); (case hr => first | (go_simp; done) | (go_simp; rfl)); intro w17 hw; have hg : w15.grownBy w17 (some go5) := (by rw [hw]; exact HP16.2); have hp_ : Kd.R k34 34 w17 w0.heap.size (fun k_ => (P0_ k_ ∨ w.heap.size ≤ k_)) (.slice (some ⟨go5, 0, none⟩) x0_1.length co9) y146 := (by rw [hw, Ny146.out]; exact HP16.1); clear HP16; have n0_ := za.mk (hp_); have n1_ := za.mk ((by rw [hw]; exact zbw (HB.out) GB5.out : Below w0.heap.size w0 w17)); have n2_ := za.mk (Kept.zdy (S := (fun k_ => P0_ k_)) hg (Zq11 HK) (fun k_ e_ => (HO_0.out.1 k_ e_))); clear HO_0; clear HB; clear HK; have HO_0 := n0_; have HB := n1_; have HK := n2_; clear n0_ n1_ n2_; clear hg hw hp_))
     go_roundg k1
     case measure => have := HK1.out; omega
     case rel => exact ⟨(y146), (wrap64 ((wrap64 ((wrap64 ((wrap64 (x1_1 + 1)) + 1)) + 1)) + 1)), (wrap64 (x5_1 + 1)), Zrs, Zrs, H', ⟨by have := HK1.out; omega⟩, ⟨Zq7 HO_0⟩, ⟨Zq11 HK⟩, ⟨Zq0 HB⟩⟩
    ·rw [if_neg c4] at H
     exact absurd H (by simp)
   ·rw [if_neg c3] at H
    have c3b0 : decide (x5_1 < (x0_1.length : Int)) = false := decide_eq_false c3;clear c3;simp only [Option.some.injEq, Prod.mk.injEq] at H;obtain ⟨rfl, rfl⟩ := H;obtain ⟨Ao18, co18, eo18⟩ := Kd.zb8 HO_0.out;subst eo18;go_wp2;go_ret;exact ⟨by first | rfl | (simp [zq, zt] <;> rfl) | (simp [*, zq, zt] <;> rfl), Zq7 HO_0, Zq0 HB, Zq11 HK⟩
def zb6.l0 : Nat → List Int → Int → Int → Option (Int × List Int)
 | 0, _, _, _ => none
 | k + 1, x0, x1, x5 => if x5 < (x0.length : Int) then (if 0 ≤ x5 then (zb6.l0 k (x0.set (x5 : Int).toNat x1) (wrap64 (x1 + 1)) (wrap64 (x5 + 1))) else (none)) else (some (x1, x0))
def zb6.f (k : Nat) (l0 : List Int) (a1 : Int) : Option (Int × List Int) := zb6.l0 k l0 a1 0
set_option maxHeartbeats 8000000 in
theorem zb6.calls (k : Nat) (P0_ : Nat → Prop) (u9000_ : Value) (l0 : List Int) (a1 : Int) (r1 : Int) (r2 : List Int) (w0 w : World) (hB : Below w0.heap.size w0 w) (ho0 : Kd.R (Kd.int .i64) 3 w w0.heap.size P0_ u9000_ l0) (h : zb6.f k l0 a1 = some (r1, r2)) :
  Calls Try.prog 42 #[u9000_, .int .i64 a1] w fun e w' => e = .returned (.int .i64 r1) ∧ Kd.R (Kd.int .i64) 3 w' w0.heap.size (fun k_ => (P0_ k_ ∨ w.heap.size ≤ k_)) u9000_ r2 ∧ Below w0.heap.size w0 w' ∧ Kept w w' (fun k_ => P0_ k_) := by
 have HO0 := za.mk (show Kd.R (Kd.int .i64) 3 w w0.heap.size (fun k_ => (P0_ k_ ∨ w.heap.size ≤ k_)) u9000_ l0 from Kd.zbb ho0 (fun k_ hk => (.inl hk)))
 have HK := za.mk (Kept.refl w (fun k_ => P0_ k_))
 have HW0 := za.mk hB.size
 have HB := za.mk hB
 clear hB
 have H : (zb6.l0 k l0 a1 0) = some (r1, r2) := h
 clear h
 have H' := za.mk H
 clear H
 go_enter Try.func42, Try.ntmps42
 go_wp2
 go_loopg [1, 5] k (fun kq v1 v5 w' => ∃ (x0_1 : List Int) (x1_1 : Int) (x5_1 : Int), v1 = .int .i64 x1_1 ∧ v5 = .int .i64 x5_1 ∧ za (zb6.l0 kq x0_1 x1_1 x5_1 = some (r1, r2)) ∧ za (kq ≤ k) ∧ za (Kd.R (Kd.int .i64) 3 w' w0.heap.size (fun k_ => (P0_ k_ ∨ w.heap.size ≤ k_)) u9000_ x0_1) ∧ za (Kept w w' (fun k_ => P0_ k_)) ∧ za (Below w0.heap.size w0 w'))
 case atStart => exact ⟨(l0), (a1), (0), Zrs, Zrs, H', ⟨Nat.le_refl _⟩, ⟨Zq7 HO0⟩, ⟨Zq11 HK⟩, ⟨Zq0 HB⟩⟩
 case round =>
  clear H'
  try clear p2
  obtain ⟨x0_1, x1_1, x5_1, rfl, rfl, HA, HK1, HO_0, HK, HB⟩ := hrel
  cases gk with
  | zero => exact absurd HA.out (by simp [zb6.l0])
  | succ k1 =>
   have H := HA.out;clear HA;simp only [zb6.l0] at H;by_cases c3 : x5_1 < (x0_1.length : Int)
   ·rw [if_pos c3] at H
    have c3b0 : decide (x5_1 < (x0_1.length : Int)) = true := decide_eq_true c3;clear c3;by_cases c4 : 0 ≤ x5_1
    ·rw [if_pos c4] at H
     have c4b0 : decide (0 ≤ x5_1) = true := decide_eq_true c4;clear c4;obtain ⟨y147, hy147⟩ : ∃ y_ : List Int, y_ = (x0_1.set (x5_1 : Int).toNat x1_1) := ⟨_, rfl⟩;replace H : (zb6.l0 k1 y147 (wrap64 (x1_1 + 1)) (wrap64 (x5_1 + 1))) = some (r1, r2) := by first | (rw [hy147]; with_reducible exact H) | (have H2_ := (Option.bind_some _ _).symm.trans H; rw [hy147]; with_reducible exact H2_) | (have H2_ := (Option.bind_some _ _).symm.trans H; with_reducible exact H2_) | with_reducible exact H | (rw [hy147]; exact H) | exact H
     have Ny147 := za.mk hy147;clear hy147;have H' := za.mk H;clear H;obtain ⟨Ao6, co6, eo6⟩ := Kd.zb8 HO_0.out;subst eo6;have p5 : 0 ≤ (x5_1 : Int) := of_decide_eq_true Zas;have q5 : (x5_1 : Int) < ((x0_1.length : Int) : Int) := of_decide_eq_true Zas;obtain ⟨go5, co5, eo5, gb5, gl5, cl5, HG5⟩ := Kd.zd1 HO_0.out (by omega);(first | cases eo5 | (injection eo5 with ea_ en_ ec_; (first | subst ea_ | (injection ea_ with ea_; subst ea_)); subst ec_; clear en_));have GB5 := za.mk gb5;have GG5 := za.mk HG5;clear gb5 gl5 HG5;have HMgo5 := za.mk (show (P0_ go5 ∨ w.heap.size ≤ go5) from (HO_0.out.1 _ rfl));obtain ⟨hx5_0, hf5_0⟩ := Kd.zdd 0 HO_0.out (x5_1 : Int) p5 q5;replace p5 := eq_true p5;replace q5 := eq_true q5;have HP7 := Kd.zc3 HO_0.out (x5_1 : Int) x1_1;go_wp2_with (first | ((with_reducible refine zcf (t := 3) (p := 15) rfl ?_); refine zca (t := 3) (p := 15) (v := ?vo_w8) (w1 := (wr.setCell ⟨go5, (x5_1 : Int).toNat, none⟩ (.int .i64 x1_1))) ?hg ?ho ?hn ?hr ?_; (case ho => rfl); (case hg => rfl); (case hn => rfl); (case hr => first | (go_simp; done) | (go_simp; rfl)); intro w8 hw; have hg : wr.grownBy w8 (some go5) := (by rw [hw]; exact HP7.2); have hp_ : Kd.R (Kd.int .i64) 3 w8 w0.heap.size (fun k_ => (P0_ k_ ∨ w.heap.size ≤ k_)) (.slice (some ⟨go5, 0, none⟩) x0_1.length co6) y147 := (by rw [hw, Ny147.out]; exact HP7.1); clear HP7; have n0_ := za.mk (hp_); have n1_ := za.mk ((by rw [hw]; exact zbw (HB.out) GB5.out : Below w0.heap.size w0 w8)); have n2_ := za.mk (Kept.zdy (S := (fun k_ => P0_ k_)) hg (Zq11 HK) (fun k_ e_ => (HO_0.out.1 k_ e_))); clear HO_0; clear HB; clear HK; have HO_0 := n0_; have HB := n1_; have HK := n2_; clear n0_ n1_ n2_; clear hg hw hp_));go_roundg k1
     case measure => have := HK1.out; omega
     case rel => exact ⟨(y147), (wrap64 (x1_1 + 1)), (wrap64 (x5_1 + 1)), Zrs, Zrs, H', ⟨by have := HK1.out; omega⟩, ⟨Zq7 HO_0⟩, ⟨Zq11 HK⟩, ⟨Zq0 HB⟩⟩
    ·rw [if_neg c4] at H
     exact absurd H (by simp)
   ·rw [if_neg c3] at H
    have c3b0 : decide (x5_1 < (x0_1.length : Int)) = false := decide_eq_false c3;clear c3;simp only [Option.some.injEq, Prod.mk.injEq] at H;obtain ⟨rfl, rfl⟩ := H;obtain ⟨Ao9, co9, eo9⟩ := Kd.zb8 HO_0.out;subst eo9;go_wp2;go_ret;exact ⟨by first | rfl | (simp [zq, zt] <;> rfl) | (simp [*, zq, zt] <;> rfl), Zq7 HO_0, Zq0 HB, Zq11 HK⟩
def zct.f (k : Nat) (l0_0 : List Int) (l0_1 : List Int) (a1 : Int) : Option (Int × List Int × List Int) := (zb6.f k l0_0 a1).bind fun bt149 => ((zb6.f k l0_1 bt149.1).bind fun bt151 => (some (bt151.1, bt149.2, bt151.2)))
set_option maxHeartbeats 8000000 in
theorem zct.calls (k : Nat) (P0_0_ : Nat → Prop) (u9000_ : Value) (l0_0 : List Int) (P0_1_ : Nat → Prop) (u9001_ : Value) (l0_1 : List Int) (a1 : Int) (r1 : Int) (r2 : List Int) (r3 : List Int) (w0 w : World) (hB : Below w0.heap.size w0 w) (ho0_0 : Kd.R (Kd.int .i64) 3 w w0.heap.size P0_0_ u9000_ l0_0) (hp0_0_0_1 : ∀ k_, P0_0_ k_ → ¬ P0_1_ k_) (ho0_1 : Kd.R (Kd.int .i64) 3 w w0.heap.size P0_1_ u9001_ l0_1) (hp0_1_0_0 : ∀ k_, P0_1_ k_ → ¬ P0_0_ k_) (h : zct.f k l0_0 l0_1 a1 = some (r1, r2, r3)) :
  Calls Try.prog 26 #[.agg #[u9000_, u9001_], .int .i64 a1] w fun e w' => e = .returned (.int .i64 r1) ∧ Kd.R (Kd.int .i64) 3 w' w0.heap.size (fun k_ => ((P0_0_ k_ ∨ P0_1_ k_) ∨ w.heap.size ≤ k_)) u9000_ r2 ∧ Kd.R (Kd.int .i64) 3 w' w0.heap.size (fun k_ => ((P0_0_ k_ ∨ P0_1_ k_) ∨ w.heap.size ≤ k_)) u9001_ r3 ∧ Below w0.heap.size w0 w' ∧ Kept w w' (fun k_ => P0_0_ k_ ∨ P0_1_ k_) := by
 have hu29 := Try.underlying29
 have HO0_0 := za.mk (show Kd.R (Kd.int .i64) 3 w w0.heap.size (fun k_ => ((P0_0_ k_ ∨ P0_1_ k_) ∨ w.heap.size ≤ k_) ∧ some k_ ≠ (u9001_ : Value).ownBlock) u9000_ l0_0 from Kd.zbb ho0_0 (fun k_ hk => ⟨(.inl (.inl hk)), fun e_ => hp0_0_0_1 k_ hk (ho0_1.1 k_ e_.symm)⟩))
 have HO0_1 := za.mk (show Kd.R (Kd.int .i64) 3 w w0.heap.size (fun k_ => ((P0_0_ k_ ∨ P0_1_ k_) ∨ w.heap.size ≤ k_) ∧ some k_ ≠ (u9000_ : Value).ownBlock) u9001_ l0_1 from Kd.zbb ho0_1 (fun k_ hk => ⟨(.inl (.inr hk)), fun e_ => hp0_1_0_0 k_ hk (ho0_0.1 k_ e_.symm)⟩))
 have HK := za.mk (Kept.refl w (fun k_ => P0_0_ k_ ∨ P0_1_ k_))
 have HW0 := za.mk hB.size
 have HB := za.mk hB
 clear hB
 have H : ((zb6.f k l0_0 a1).bind fun bt149 => ((zb6.f k l0_1 bt149.1).bind fun bt151 => (some (bt151.1, bt149.2, bt151.2)))) = some (r1, r2, r3) := h
 clear h
 replace H := Option.bind_eq_some_iff.mp H
 obtain ⟨⟨t149, t150⟩, A30, H⟩ := H
 replace H : ((zb6.f k l0_1 t149).bind fun bt151 => (some (bt151.1, t150, bt151.2))) = some (r1, r2, r3) := H
 have A3 := za.mk A30
 clear A30
 replace H := Option.bind_eq_some_iff.mp H
 obtain ⟨⟨t151, t152⟩, A40, H⟩ := H
 replace H : (some (t151, t150, t152)) = some (r1, r2, r3) := H
 have A4 := za.mk A40
 clear A40
 simp only [Option.some.injEq, Prod.mk.injEq] at H
 obtain ⟨rfl, rfl, rfl⟩ := H
 obtain ⟨Ao5, co5, eo5⟩ := Kd.zb8 HO0_0.out
 subst eo5
 obtain ⟨Ao6, co6, eo6⟩ := Kd.zb8 HO0_1.out
 subst eo6
 go_enter Try.func26, Try.ntmps26
 go_wp2_with (first | ((with_reducible refine zbn (N := 2) rfl ?_); refine zbm ?hg (N := 2) ?hd (cs := #[.slice Ao5 l0_0.length co5, .slice Ao6 l0_1.length co6]) (t := 29) ?hr ?_; (case hd => rfl); (case hg => rfl); (case hr => first | (go_simp; done) | (go_simp; rfl)); intro gb148 hg w7 hbox hb; have n0_ := za.mk (Kd.zi (Zq7 HO0_0) hb); have n1_ := za.mk (Kd.zi (Zq7 HO0_1) hb); have n2_ := za.mk (Kept.below (S := (fun k_ => P0_0_ k_ ∨ P0_1_ k_)) (Zq11 HK) hb); have n3_ := za.mk (zh (Zq0 HB) hb); have n4_ := za.mk (hbox); have n5_ := za.mk ((by rw [hg]; exact (by first | exact HK.out.1 | exact (show Kept w _ (fun k_ => P0_0_ k_ ∨ P0_1_ k_) from Zq11 HK).1) : w.heap.size ≤ gb148)); have n6_ := za.mk ((by rw [hg]; exact (zg (Zq0 HB)) : w0.heap.size ≤ gb148)); clear HO0_0; clear HO0_1; clear HK; clear HB; have HO0_0 := n0_; have HO0_1 := n1_; have HK := n2_; have HB := n3_; have BK148 := n4_; have GW148 := n5_; have GE148 := n6_; clear n0_ n1_ n2_ n3_ n4_ n5_ n6_; clear hb hbox hg; have hcz8_0 : w7.cell? ⟨gb148, 0, none⟩ = some (.slice Ao5 l0_0.length co5) := (zf BK148.out 0).trans rfl; have hcz8_1 : w7.cell? ⟨gb148, 1, none⟩ = some (.slice Ao6 l0_1.length co6) := (zf BK148.out 1).trans rfl; have hfz8_0 := zb BK148.out 0; have hfz8_1 := zb BK148.out 1) | ((with_reducible refine zbe (f := 42) rfl ?_); refine zch (some 8) rfl rfl Try.func42 (by kernel_rfl) rfl #[.slice Ao5 l0_0.length co5, .int .i64 a1] rfl Zmt ?_; (with_reducible refine (zb6.calls k (fun k_ => some k_ = (.slice Ao5 l0_0.length co5 : Value).ownBlock) (.slice Ao5 l0_0.length co5) l0_0 a1 t149 t150 w0 _ ?side1 ?side2 A3.out).mono ?_); (case side1 => exact Zq2 HB GE148); (case side2 => exact Kd.zd3 rfl HO0_0.out); rintro e w9 ⟨rfl, hy0, hb, hkp⟩; refine ⟨_, rfl, ?_⟩; have n0_ := za.mk (Kd.zgm rfl hy0 (fun k_ e_ => HO0_0.out.1 k_ e_)); have n1_ := za.mk (Kd.zbb (ok' := fun k_ => ((P0_0_ k_ ∨ P0_1_ k_) ∨ w.heap.size ≤ k_) ∧ some k_ ≠ (.slice Ao5 l0_0.length co5 : Value).ownBlock) (Kd.zcm (HO0_1.out) hkp (fun k_ hk_ hs_ => (hk_.2) hs_)) (fun k_ hk_ => ⟨hk_.1.1, hk_.1.2⟩)); have n2_ := za.mk (zdc (Zq1 BK148) hkp (fun hs_ => (fun e_ => (Kd.R_ne HO0_0.out BK148.out (by decide)) e_) hs_)); have n3_ := za.mk (Kept.then_ (S := (fun k_ => P0_0_ k_ ∨ P0_1_ k_)) (by repeat (first | (with_reducible first | exact HK.out | apply Kept.alloc | apply Kept.drewN | apply Kept.drew | refine Kept.setCell ?_ (.inr GW148.out) _) | exact HK.out)) hkp (fun k_ hs_ => (fun e_ => (HO0_0.out.1 k_ e_.symm).1) hs_)); have n4_ := za.mk (hb); clear HO0_0; clear HO0_1; clear BK148; clear HK; clear HB; have HO0_0 := n0_; have HO0_1 := n1_; have BK148 := n2_; have HK := n3_; have HB := n4_; clear n0_ n1_ n2_ n3_ n4_; (try clear hb); (try clear hkp); (try clear hy0); have hcz10_0 : w9.cell? ⟨gb148, 0, none⟩ = some (.slice Ao5 l0_0.length co5) := (zf BK148.out 0).trans rfl; have hcz10_1 : w9.cell? ⟨gb148, 1, none⟩ = some (.slice Ao6 l0_1.length co6) := (zf BK148.out 1).trans rfl; have hfz10_0 := zb BK148.out 0; have hfz10_1 := zb BK148.out 1) | ((with_reducible refine zbe (f := 42) rfl ?_); refine zch (some 12) rfl rfl Try.func42 (by kernel_rfl) rfl #[.slice Ao6 l0_1.length co6, .int .i64 t149] rfl Zmt ?_; (with_reducible refine (zb6.calls k (fun k_ => some k_ = (.slice Ao6 l0_1.length co6 : Value).ownBlock) (.slice Ao6 l0_1.length co6) l0_1 t149 t151 t152 w0 _ ?side1 ?side2 A4.out).mono ?_); (case side1 => exact Zq2 HB GE148); (case side2 => exact Kd.zd3 rfl HO0_1.out); rintro e w11 ⟨rfl, hy0, hb, hkp⟩; refine ⟨_, rfl, ?_⟩; have n0_ := za.mk (Kd.zbb (ok' := fun k_ => ((P0_0_ k_ ∨ P0_1_ k_) ∨ w.heap.size ≤ k_) ∧ some k_ ≠ (.slice Ao6 l0_1.length co6 : Value).ownBlock) (Kd.zcm (HO0_0.out) hkp (fun k_ hk_ hs_ => (hk_.2) hs_)) (fun k_ hk_ => ⟨hk_.1.1, hk_.1.2⟩)); have n1_ := za.mk (Kd.zgm rfl hy0 (fun k_ e_ => HO0_1.out.1 k_ e_)); have n2_ := za.mk (zdc (Zq1 BK148) hkp (fun hs_ => (fun e_ => (Kd.R_ne HO0_1.out BK148.out (by decide)) e_) hs_)); have n3_ := za.mk (Kept.then_ (S := (fun k_ => P0_0_ k_ ∨ P0_1_ k_)) (by repeat (first | (with_reducible first | exact HK.out | apply Kept.alloc | apply Kept.drewN | apply Kept.drew | refine Kept.setCell ?_ (.inr GW148.out) _) | exact HK.out)) hkp (fun k_ hs_ => (fun e_ => (HO0_1.out.1 k_ e_.symm).1) hs_)); have n4_ := za.mk (hb); clear HO0_0; clear HO0_1; clear BK148; clear HK; clear HB; have HO0_0 := n0_; have HO0_1 := n1_; have BK148 := n2_; have HK := n3_; have HB := n4_; clear n0_ n1_ n2_ n3_ n4_; (try clear hb); (try clear hkp); (try clear hy0)))
 go_ret
 exact ⟨by first | rfl | (simp [zq, zt] <;> rfl) | (simp [*, zq, zt] <;> rfl), by (with_reducible repeat (first | apply Kd.zbj | apply Kd.zbi | apply Kd.zbs)); exact Kd.zbb HO0_0.out (fun _ hk => hk.1), by (with_reducible repeat (first | apply Kd.zbj | apply Kd.zbi | apply Kd.zbs)); exact Kd.zbb HO0_1.out (fun _ hk => hk.1), Zq2 HB GE148, by repeat (first | (with_reducible first | exact HK.out | apply Kept.alloc | apply Kept.drewN | apply Kept.drew | refine Kept.setCell ?_ (.inr GW148.out) _) | exact HK.out)⟩
def zb2.l0 : Nat → List Int → Int → Int → Option (Int)
 | 0, _, _, _ => none
 | k + 1, x0, x1, x5 => if x5 < (x0.length : Int) then (if 0 ≤ x5 then (if (rd x0 x5) = x1 then (zb2.l0 k x0 (wrap64 (x1 + 1)) (wrap64 (x5 + 1))) else (some (-1))) else (none)) else (some x1)
def zb2.f (k : Nat) (l0 : List Int) (a1 : Int) : Option (Int) := zb2.l0 k l0 a1 0
set_option maxHeartbeats 8000000 in
theorem zb2.calls (k : Nat) (A0 : Option Addr) (c0 : Nat) (l0 : List Int) (a1 : Int) (r : Int) (w : World) (hr0 : Kd.C (Kd.int .i64) w A0 l0.length l0) (hc0 : l0.length ≤ c0) (h : zb2.f k l0 a1 = some r) :
  Calls Try.prog 43 #[.slice A0 l0.length c0, .int .i64 a1] w fun e w' => e = .returned (.int .i64 r) ∧ zbz w w' := by
 have HR0 := za.mk hr0
 have HC0 := za.mk hc0
 clear hr0 hc0
 have H : (zb2.l0 k l0 a1 0) = some r := h
 clear h
 have H' := za.mk H
 clear H
 go_enter Try.func43, Try.ntmps43
 go_wp2
 go_loopg [1, 5] k (fun kq v1 v5 w' => ∃ (x1_1 : Int) (x5_1 : Int), v1 = .int .i64 x1_1 ∧ v5 = .int .i64 x5_1 ∧ za (zb2.l0 kq l0 x1_1 x5_1 = some r) ∧ za (kq ≤ k) ∧ zbz w w')
 case atStart => exact ⟨(a1), (0), Zrs, Zrs, H', ⟨Nat.le_refl _⟩, by repeat (first | exact zbz.refl _ | apply zbz.step)⟩
 case round =>
  clear H'
  try clear p2
  obtain ⟨x1_1, x5_1, rfl, rfl, HA, HK1, ⟨m1, rfl⟩⟩ := hrel
  cases gk with
  | zero => exact absurd HA.out (by simp [zb2.l0])
  | succ k1 =>
   have H := HA.out;clear HA;simp only [zb2.l0] at H;by_cases c3 : x5_1 < (l0.length : Int)
   ·rw [if_pos c3] at H
    have c3b0 : decide (x5_1 < (l0.length : Int)) = true := decide_eq_true c3;clear c3;by_cases c4 : 0 ≤ x5_1
    ·rw [if_pos c4] at H
     have c4b0 : decide (0 ≤ x5_1) = true := decide_eq_true c4;clear c4;by_cases c5 : (rd l0 x5_1) = x1_1
     ·rw [if_pos c5] at H
      have c5b0 : ((rd l0 x5_1) == x1_1) = true := beq_iff_eq.mpr c5;have c5b1 : ((rd l0 x5_1) != x1_1) = false := bne_eq_false_iff_eq.mpr c5;clear c5;have H' := za.mk H;clear H;have p153 : 0 ≤ (x5_1 : Int) := of_decide_eq_true Zas;have q153 : x5_1 < (l0.length : Int) := of_decide_eq_true Zas;obtain ⟨ad153, e153, hx153_0⟩ := Kd.zdj HR0.out x5_1 p153 q153
      cases e153
      replace p153 := eq_true p153;replace q153 := eq_true q153;go_wp2;go_roundg k1
      case measure => have := HK1.out; omega
      case rel => exact ⟨(wrap64 (x1_1 + 1)), (wrap64 (x5_1 + 1)), Zrs, Zrs, H', ⟨by have := HK1.out; omega⟩, by repeat (first | exact zbz.refl _ | apply zbz.step)⟩
     ·rw [if_neg c5] at H
      have c5b0 : ((rd l0 x5_1) == x1_1) = false := beq_eq_false_iff_ne.mpr c5;have c5b1 : ((rd l0 x5_1) != x1_1) = true := bne_iff_ne.mpr c5;obtain rfl := Option.some.inj H;have p153 : 0 ≤ (x5_1 : Int) := of_decide_eq_true Zas;have q153 : x5_1 < (l0.length : Int) := of_decide_eq_true Zas;obtain ⟨ad153, e153, hx153_0⟩ := Kd.zdj HR0.out x5_1 p153 q153
      cases e153
      replace p153 := eq_true p153;replace q153 := eq_true q153;go_wp2;go_ret;exact ⟨by first | rfl | (simp; done) | (simp [*]; done), by repeat (first | exact zbz.refl _ | apply zbz.step)⟩
    ·rw [if_neg c4] at H
     exact absurd H (by simp)
   ·rw [if_neg c3] at H
    have c3b0 : decide (x5_1 < (l0.length : Int)) = false := decide_eq_false c3;clear c3;obtain rfl := Option.some.inj H;go_wp2;go_ret;exact ⟨by first | rfl | (simp; done) | (simp [*]; done), by repeat (first | exact zbz.refl _ | apply zbz.step)⟩
def zby.f (k : Nat) (l0_0 : List Int) (l0_1 : List Int) (a1 : Int) : Option (Int) := (zb2.f k l0_0 a1).bind fun t155 => (if t155 < 0 then (some (-1)) else ((zb2.f k l0_1 t155).bind fun t156 => (if t156 < 0 then (some (-1)) else (some t156))))
set_option maxHeartbeats 8000000 in
theorem zby.calls (k : Nat) (A0_0 : Option Addr) (c0_0 : Nat) (l0_0 : List Int) (A0_1 : Option Addr) (c0_1 : Nat) (l0_1 : List Int) (a1 : Int) (r : Int) (w : World) (hr0_0 : Kd.C (Kd.int .i64) w A0_0 l0_0.length l0_0) (hc0_0 : l0_0.length ≤ c0_0) (hr0_1 : Kd.C (Kd.int .i64) w A0_1 l0_1.length l0_1) (hc0_1 : l0_1.length ≤ c0_1) (h : zby.f k l0_0 l0_1 a1 = some r) :
  Calls Try.prog 27 #[.agg #[.slice A0_0 l0_0.length c0_0, .slice A0_1 l0_1.length c0_1], .int .i64 a1] w fun e w' => e = .returned (.int .i64 r) ∧ Below w.heap.size w w' := by
 have hu29 := Try.underlying29
 have HR0_0 := za.mk hr0_0
 have HC0_0 := za.mk hc0_0
 clear hr0_0 hc0_0
 have HR0_1 := za.mk hr0_1
 have HC0_1 := za.mk hc0_1
 clear hr0_1 hc0_1
 have HB := za.mk (Below.refl w.heap.size w)
 have H : ((zb2.f k l0_0 a1).bind fun t155 => (if t155 < 0 then (some (-1)) else ((zb2.f k l0_1 t155).bind fun t156 => (if t156 < 0 then (some (-1)) else (some t156))))) = some r := h
 clear h
 replace H := Option.bind_eq_some_iff.mp H
 obtain ⟨t155, A30, H⟩ := H
 replace H : (if t155 < 0 then (some (-1)) else ((zb2.f k l0_1 t155).bind fun t156 => (if t156 < 0 then (some (-1)) else (some t156)))) = some r := H
 have A3 := za.mk A30
 clear A30
 by_cases c4 : t155 < 0
 ·rw [if_pos c4] at H
  have c4b0 : decide (t155 < 0) = true := decide_eq_true c4;clear c4;obtain rfl := Option.some.inj H;go_enter Try.func27, Try.ntmps27;go_wp2_with (first | ((with_reducible refine zbn (N := 2) rfl ?_); refine zbm ?hg (N := 2) ?hd (cs := #[.slice A0_0 l0_0.length c0_0, .slice A0_1 l0_1.length c0_1]) (t := 29) ?hr ?_; (case hd => rfl); (case hg => rfl); (case hr => first | (go_simp; done) | (go_simp; rfl)); intro gb154 hg w5 hbox hb; have n0_ := za.mk (zh (Zq0 HB) hb); have n1_ := za.mk (hbox); have n2_ := za.mk ((by rw [hg]; exact (zg (Zq0 HB)) : w.heap.size ≤ gb154)); have n3_ := za.mk ((by rw [hg]; exact (zg (Zq0 HB)) : w.heap.size ≤ gb154)); clear HB; have HB := n0_; have BK154 := n1_; have GW154 := n2_; have GE154 := n3_; clear n0_ n1_ n2_ n3_; clear hb hbox hg; have hcz6_0 : w5.cell? ⟨gb154, 0, none⟩ = some (.slice A0_0 l0_0.length c0_0) := (zf BK154.out 0).trans rfl; have hcz6_1 : w5.cell? ⟨gb154, 1, none⟩ = some (.slice A0_1 l0_1.length c0_1) := (zf BK154.out 1).trans rfl; have hfz6_0 := zb BK154.out 0; have hfz6_1 := zb BK154.out 1) | ((with_reducible refine zbe (f := 43) rfl ?_); refine zch (some 8) rfl rfl Try.func43 (by kernel_rfl) rfl #[.slice A0_0 l0_0.length c0_0, .int .i64 a1] rfl Zmt ?_; (with_reducible refine (zb2.calls k _ _ l0_0 a1 t155 _ ?side1 ?side2 A3.out).mono ?_); (case side1 => exact Zq9 (Kd.zbr HR0_0.out HB.out)); (case side2 => exact HC0_0.out); rintro e w' ⟨rfl, ⟨nd, rfl⟩⟩; refine ⟨_, rfl, ?_⟩));go_ret;exact ⟨by first | rfl | (simp [zq, zt] <;> rfl) | (simp [*, zq, zt] <;> rfl), Zq2 HB GE154⟩
 ·rw [if_neg c4] at H
  have c4b0 : decide (t155 < 0) = false := decide_eq_false c4;clear c4;replace H := Option.bind_eq_some_iff.mp H;obtain ⟨t156, A70, H⟩ := H;replace H : (if t156 < 0 then (some (-1)) else (some t156)) = some r := H;have A7 := za.mk A70;clear A70;by_cases c8 : t156 < 0
  ·rw [if_pos c8] at H
   have c8b0 : decide (t156 < 0) = true := decide_eq_true c8;clear c8;obtain rfl := Option.some.inj H;go_enter Try.func27, Try.ntmps27;go_wp2_with (first | ((with_reducible refine zbn (N := 2) rfl ?_); refine zbm ?hg (N := 2) ?hd (cs := #[.slice A0_0 l0_0.length c0_0, .slice A0_1 l0_1.length c0_1]) (t := 29) ?hr ?_; (case hd => rfl); (case hg => rfl); (case hr => first | (go_simp; done) | (go_simp; rfl)); intro gb154 hg w9 hbox hb; have n0_ := za.mk (zh (Zq0 HB) hb); have n1_ := za.mk (hbox); have n2_ := za.mk ((by rw [hg]; exact (zg (Zq0 HB)) : w.heap.size ≤ gb154)); have n3_ := za.mk ((by rw [hg]; exact (zg (Zq0 HB)) : w.heap.size ≤ gb154)); clear HB; have HB := n0_; have BK154 := n1_; have GW154 := n2_; have GE154 := n3_; clear n0_ n1_ n2_ n3_; clear hb hbox hg; have hcz10_0 : w9.cell? ⟨gb154, 0, none⟩ = some (.slice A0_0 l0_0.length c0_0) := (zf BK154.out 0).trans rfl; have hcz10_1 : w9.cell? ⟨gb154, 1, none⟩ = some (.slice A0_1 l0_1.length c0_1) := (zf BK154.out 1).trans rfl; have hfz10_0 := zb BK154.out 0; have hfz10_1 := zb BK154.out 1) | ((with_reducible refine zbe (f := 43) rfl ?_); refine zch (some 8) rfl rfl Try.func43 (by kernel_rfl) rfl #[.slice A0_0 l0_0.length c0_0, .int .i64 a1] rfl Zmt ?_; (with_reducible refine (zb2.calls k _ _ l0_0 a1 t155 _ ?side1 ?side2 A3.out).mono ?_); (case side1 => exact Zq9 (Kd.zbr HR0_0.out HB.out)); (case side2 => exact HC0_0.out); rintro e w' ⟨rfl, ⟨nd, rfl⟩⟩; refine ⟨_, rfl, ?_⟩) | ((with_reducible refine zbe (f := 43) rfl ?_); refine zch (some 14) rfl rfl Try.func43 (by kernel_rfl) rfl #[.slice A0_1 l0_1.length c0_1, .int .i64 t155] rfl Zmt ?_; (with_reducible refine (zb2.calls k _ _ l0_1 t155 t156 _ ?side1 ?side2 A7.out).mono ?_); (case side1 => repeat (first | exact (Kd.zbr HR0_1.out (Zq2 HB GE154)) | (with_reducible refine Kd.zeh ?_ _) | (with_reducible refine Kd.zem ?_ _) | (with_reducible refine Kd.zfd ?_))); (case side2 => exact HC0_1.out); rintro e w' ⟨rfl, ⟨nd, rfl⟩⟩; refine ⟨_, rfl, ?_⟩));go_ret;exact ⟨by first | rfl | (simp [zq, zt] <;> rfl) | (simp [*, zq, zt] <;> rfl), Zq2 HB GE154⟩
  ·rw [if_neg c8] at H
   have c8b0 : decide (t156 < 0) = false := decide_eq_false c8;clear c8;obtain rfl := Option.some.inj H;go_enter Try.func27, Try.ntmps27;go_wp2_with (first | ((with_reducible refine zbn (N := 2) rfl ?_); refine zbm ?hg (N := 2) ?hd (cs := #[.slice A0_0 l0_0.length c0_0, .slice A0_1 l0_1.length c0_1]) (t := 29) ?hr ?_; (case hd => rfl); (case hg => rfl); (case hr => first | (go_simp; done) | (go_simp; rfl)); intro gb154 hg w11 hbox hb; have n0_ := za.mk (zh (Zq0 HB) hb); have n1_ := za.mk (hbox); have n2_ := za.mk ((by rw [hg]; exact (zg (Zq0 HB)) : w.heap.size ≤ gb154)); have n3_ := za.mk ((by rw [hg]; exact (zg (Zq0 HB)) : w.heap.size ≤ gb154)); clear HB; have HB := n0_; have BK154 := n1_; have GW154 := n2_; have GE154 := n3_; clear n0_ n1_ n2_ n3_; clear hb hbox hg; have hcz12_0 : w11.cell? ⟨gb154, 0, none⟩ = some (.slice A0_0 l0_0.length c0_0) := (zf BK154.out 0).trans rfl; have hcz12_1 : w11.cell? ⟨gb154, 1, none⟩ = some (.slice A0_1 l0_1.length c0_1) := (zf BK154.out 1).trans rfl; have hfz12_0 := zb BK154.out 0; have hfz12_1 := zb BK154.out 1) | ((with_reducible refine zbe (f := 43) rfl ?_); refine zch (some 8) rfl rfl Try.func43 (by kernel_rfl) rfl #[.slice A0_0 l0_0.length c0_0, .int .i64 a1] rfl Zmt ?_; (with_reducible refine (zb2.calls k _ _ l0_0 a1 t155 _ ?side1 ?side2 A3.out).mono ?_); (case side1 => exact Zq9 (Kd.zbr HR0_0.out HB.out)); (case side2 => exact HC0_0.out); rintro e w' ⟨rfl, ⟨nd, rfl⟩⟩; refine ⟨_, rfl, ?_⟩) | ((with_reducible refine zbe (f := 43) rfl ?_); refine zch (some 14) rfl rfl Try.func43 (by kernel_rfl) rfl #[.slice A0_1 l0_1.length c0_1, .int .i64 t155] rfl Zmt ?_; (with_reducible refine (zb2.calls k _ _ l0_1 t155 t156 _ ?side1 ?side2 A7.out).mono ?_); (case side1 => repeat (first | exact (Kd.zbr HR0_1.out (Zq2 HB GE154)) | (with_reducible refine Kd.zeh ?_ _) | (with_reducible refine Kd.zem ?_ _) | (with_reducible refine Kd.zfd ?_))); (case side2 => exact HC0_1.out); rintro e w' ⟨rfl, ⟨nd, rfl⟩⟩; refine ⟨_, rfl, ?_⟩));go_ret;exact ⟨by first | rfl | (simp [zq, zt] <;> rfl) | (simp [*, zq, zt] <;> rfl), Zq2 HB GE154⟩
abbrev JobT := S34
structure Mach (W : World) (g : Nat) (A : Option Addr) (c : Nat) (js : List JobT) (D : Option Addr) (cd : Nat) (dn : List Int) (now : Int) : Prop where
  jobs : W.cell? ⟨g, 0, none⟩ = some (.slice A js.length c)
  done : W.cell? ⟨g, 1, none⟩ = some (.slice D dn.length cd)
  time : W.cell? ⟨g, 2, none⟩ = some (.int .i64 now)
  row : Kd.C k34 W A js.length js
  drow : Kd.C (Kd.int .i64) W D dn.length dn
  len : dn.length = js.length
theorem Mach.below {W W' : World} {g : Nat} {A : Option Addr} {c : Nat} {js : List JobT} {D : Option Addr} {cd : Nat} {dn : List Int} {now : Int} (h : Mach W g A c js D cd dn now) (hb : Below W.heap.size W W') : Mach W' g A c js D cd dn now :=
  ⟨(hb.cell (World.block_lt_of_cell? _ _ h.jobs)).trans h.jobs, (hb.cell (World.block_lt_of_cell? _ _ h.done)).trans h.done, (hb.cell (World.block_lt_of_cell? _ _ h.time)).trans h.time, Kd.zbr h.row hb, Kd.zbr h.drow hb, h.len⟩
def jrd (js : List JobT) (i : Nat) : JobT := ze js (i : Int)
def rdyD (js : List JobT) (dn : List Int) (now : Int) (i : Nat) : Bool := decide ((jrd js i).f1 ≤ now) && decide (rd dn (i : Int) < (jrd js i).f3)
set_option maxHeartbeats 4000000 in
theorem zeb (g : Nat) (A : Option Addr) (c : Nat) (js : List JobT) (D : Option Addr) (cd : Nat) (dn : List Int) (now : Int) (i : Nat) (hi : i < js.length) (w : World) (h : Mach w g A c js D cd dn now) :
    Calls Try.prog 100 #[.pointer (some ⟨g, 0, none⟩), .int .i64 i] w fun e w' => e = .returned (.bool (rdyD js dn now i)) ∧ Below w.heap.size w w' := by
  obtain ⟨h0, h1, h2, hr, hd, hl⟩ := h
  have hi0 : (0 : Int) ≤ (i : Int) := by omega
  have hi1 : (i : Int) < (js.length : Int) := by omega
  have hi2 : (i : Int) < (dn.length : Int) := by omega
  obtain ⟨ad, ea, hx0, hx1, hx2, hx3⟩ := zc4 hr (i : Int) hi0 hi1
  obtain ⟨ad2, ea2, hy⟩ := Kd.zdj hd (i : Int) hi0 hi2
  cases ea
  cases ea2
  unfold rdyD jrd
  rw [Int.toNat_natCast] at hx1 hx3 hy
  clear hr hd hx0 hx2
  generalize (ze js (i : Int)).f1 = x at hx1 ⊢
  generalize (ze js (i : Int)).f3 = y at hx3 ⊢
  generalize rd dn (i : Int) = z at hy ⊢
  by_cases hc : x ≤ now
  · have hc1 : decide (x ≤ now) = true := decide_eq_true hc
    go_enter Try.func100, Try.ntmps100
    go_wp2_with fail
    go_big_region
    all_goals go_wp2
    go_ret
    refine ⟨?_, zb9 (Below.refl _ _)⟩
    simp [hc]
  · have hc1 : decide (x ≤ now) = false := decide_eq_false hc
    have hc2 : ¬ x ≤ now := hc
    go_enter Try.func100, Try.ntmps100
    go_wp2_with fail
    go_big_region
    all_goals go_wp2
    go_ret
    refine ⟨?_, zb9 (Below.refl _ _)⟩
    rw [hc1]; rfl
set_option maxHeartbeats 4000000 in
theorem zg0 (g : Nat) (A : Option Addr) (c : Nat) (js : List JobT) (D : Option Addr) (cd : Nat) (dn : List Int) (now : Int) (i : Nat) (hi : i < js.length) (w : World) (h : Mach w g A c js D cd dn now) :
    Calls Try.prog 52 #[.pointer (some ⟨g, 0, none⟩), .int .i64 i] w fun e w' => e = .returned (.int .i64 (jrd js i).f2) ∧ Below w.heap.size w w' := by
  obtain ⟨h0, h1, h2, hr, hd, hl⟩ := h
  have hi0 : (0 : Int) ≤ (i : Int) := by omega
  have hi1 : (i : Int) < (js.length : Int) := by omega
  obtain ⟨ad, ea, hx0, hx1, hx2, hx3⟩ := zc4 hr (i : Int) hi0 hi1
  cases ea
  unfold jrd
  rw [Int.toNat_natCast] at hx2
  clear hr hd hx0 hx1 hx3 h1 h2
  generalize (ze js (i : Int)).f2 = x at hx2 ⊢
  go_enter Try.func52, Try.ntmps52
  go_wp2
  go_ret
  exact ⟨rfl, Below.refl _ _⟩
set_option maxHeartbeats 4000000 in
theorem any_calls (g : Nat) (i : Nat) (w : World) :
    Calls Try.prog 101 #[.pointer (some ⟨g, 0, none⟩), .int .i64 i] w fun e w' => e = .returned (.bool true) ∧ Below w.heap.size w w' := by
  go_enter Try.func101, Try.ntmps101
  go_wp2
  go_ret
  exact ⟨rfl, Below.refl _ _⟩
def zfm (ok : Nat → Bool) (key : Nat → Int) : Nat → Int
  | 0 => -1
  | n + 1 => if ok n = true ∧ (zfm ok key n < 0 ∨ key n < key (zfm ok key n).toNat) then (n : Int) else zfm ok key n
theorem zgo (ok : Nat → Bool) (key : Nat → Int) : ∀ n, zfm ok key n = -1 ∨ ∃ b : Nat, b < n ∧ zfm ok key n = (b : Int)
  | 0 => Or.inl rfl
  | n + 1 => by
    rw [zfm]
    split
    · exact Or.inr ⟨n, by omega, rfl⟩
    · rcases zgo ok key n with h | ⟨b, hb, h⟩
      · exact Or.inl h
      · exact Or.inr ⟨b, by omega, h⟩
set_option maxHeartbeats 8000000 in
theorem best_calls (key : Nat → Int) (may : Nat → Bool) (kn mn : Nat) (kb kl mb ml : Array Value) (ek : ∀ args w, (callFunc kn args).run Try.prog w = .ok (.enter kn args) w) (em : ∀ args w, (callFunc mn args).run Try.prog w = .ok (.enter mn args) w) (hne : kn ≠ mn)
    (g : Nat) (A : Option Addr) (c : Nat) (js : List JobT) (D : Option Addr) (cd : Nat) (dn : List Int) (now : Int) (w : World) (h : Mach w g A c js D cd dn now)
    (hk : ∀ (W : World) (i : Nat), Below w.heap.size w W → i < js.length → Calls Try.prog kn (kb ++ #[.int .i64 i] ++ kl) W fun e w' => e = .returned (.int .i64 (key i)) ∧ Below W.heap.size W w')
    (hm : ∀ (W : World) (i : Nat), Below w.heap.size w W → i < js.length → Calls Try.prog mn (mb ++ #[.int .i64 i] ++ ml) W fun e w' => e = .returned (.bool (may i)) ∧ Below W.heap.size W w') :
    Calls Try.prog 51 #[.pointer (some ⟨g, 0, none⟩), .func (.func kn) kb kl, .func (.func mn) mb ml] w fun e w' => e = .returned (.int .i64 (zfm (fun i => rdyD js dn now i && may i) key js.length)) ∧ Below w.heap.size w w' := by
  have HM := za.mk h
  have HKY := za.mk hk
  have HMY := za.mk hm
  have hj := h.jobs
  have hjl : js.length ≤ 9223372036854775807 := h.row.2.1
  clear h hk hm
  go_enter Try.func51, Try.ntmps51
  go_wp2
  go_loopg [7, 14] js.length (fun gg v7 v14 wr => ∃ i : Nat, v14 = .int .i64 i ∧ i ≤ js.length ∧ js.length - i ≤ gg ∧ v7 = .int .i64 (zfm (fun i => rdyD js dn now i && may i) key i) ∧ za (Below w.heap.size w wr))
  case atStart => exact ⟨0, by go_num, by omega, by omega, rfl, ⟨Below.refl _ _⟩⟩
  case round =>
    obtain ⟨i, rfl, hil, hgg, rfl, BW⟩ := hrel
    by_cases hlt : i < js.length
    · have hltz : (i : Int) < (js.length : Int) := by omega
      obtain ⟨b, hb⟩ : ∃ b, zfm (fun i => rdyD js dn now i && may i) key i = b := ⟨_, rfl⟩
      have hrng := zgo (fun i => rdyD js dn now i && may i) key i
      have hnext : ∀ v : Bool, (rdyD js dn now i && may i) = v → zfm (fun i => rdyD js dn now i && may i) key (i + 1) = if v = true ∧ (b < 0 ∨ key i < key b.toNat) then (i : Int) else b := fun v hv => by
        rw [zfm, hb]
        simp only [hv]
      rw [hb] at hrng ⊢
      have HN := za.mk hnext
      clear hnext hb
      cases hr : rdyD js dn now i with
      | false =>
        have hv := HN.out false (by rw [hr]; rfl)
        rw [if_neg (by simp)] at hv
        have HV := za.mk hv
        clear hv hrng
        go_wp2_with (go_at_call 100; refine (zeb g A c js D cd dn now i hlt _ (HM.out.below BW.out)).mono ?_; rw [hr]; rintro e w1 ⟨rfl, hb1⟩; have BW1 := za.mk (zh BW.out hb1); clear hb1)
        go_roundg (js.length - (i + 1))
        case measure => omega
        case rel => exact ⟨i + 1, by go_num, by omega, by omega, by rw [HV.out], BW1⟩
      | true =>
        cases hmm : may i with
        | false =>
          have hv := HN.out false (by rw [hr, hmm]; rfl)
          rw [if_neg (by simp)] at hv
          have HV := za.mk hv
          clear hv hrng
          go_wp2_with (first | (go_at_call 100; refine (zeb g A c js D cd dn now i hlt _ (HM.out.below BW.out)).mono ?_; rw [hr]; rintro e w1 ⟨rfl, hb1⟩; have BW1 := za.mk (zh BW.out hb1); clear hb1) | (go_at_fn mn; refine (HMY.out _ i BW1.out hlt).mono ?_; rw [hmm]; rintro e w2 ⟨rfl, hb2⟩; have BW2 := za.mk (zh BW1.out hb2); clear hb2))
          go_roundg (js.length - (i + 1))
          case measure => omega
          case rel => exact ⟨i + 1, by go_num, by omega, by omega, by rw [HV.out], BW2⟩
        | true =>
          have hv := HN.out true (by rw [hr, hmm]; rfl)
          rcases hrng with rfl | ⟨bn, hbn, rfl⟩
          · rw [if_pos ⟨rfl, Or.inl (by omega)⟩] at hv
            have HV := za.mk hv
            clear hv
            go_wp2_with (first | (go_at_call 100; refine (zeb g A c js D cd dn now i hlt _ (HM.out.below BW.out)).mono ?_; rw [hr]; rintro e w1 ⟨rfl, hb1⟩; have BW1 := za.mk (zh BW.out hb1); clear hb1) | (go_at_fn mn; refine (HMY.out _ i BW1.out hlt).mono ?_; rw [hmm]; rintro e w2 ⟨rfl, hb2⟩; have BW2 := za.mk (zh BW1.out hb2); clear hb2))
            go_roundg (js.length - (i + 1))
            case measure => omega
            case rel => exact ⟨i + 1, by go_num, by omega, by omega, by rw [HV.out], BW2⟩
          · have hbl : bn < js.length := by omega
            have hb0 : ¬ (bn : Int) < 0 := by omega
            obtain ⟨ki, hki⟩ : ∃ ki, key i = ki := ⟨_, rfl⟩
            obtain ⟨kq, hkb⟩ : ∃ kq, key bn = kq := ⟨_, rfl⟩
            rw [Int.toNat_natCast, hki, hkb] at hv
            have tok1 : True := trivial
            by_cases hlk : ki < kq
            · rw [if_pos ⟨rfl, Or.inr hlk⟩] at hv
              have HV := za.mk hv
              clear hv
              go_wp2_with (first | (go_at_call 100; refine (zeb g A c js D cd dn now i hlt _ (HM.out.below BW.out)).mono ?_; rw [hr]; rintro e w1 ⟨rfl, hb1⟩; have BW1 := za.mk (zh BW.out hb1); clear hb1) | (go_at_fn mn; refine (HMY.out _ i BW1.out hlt).mono ?_; rw [hmm]; rintro e w2 ⟨rfl, hb2⟩; have BW2 := za.mk (zh BW1.out hb2); clear hb2) | (go_at_fn kn; have _t := tok1; refine (HKY.out _ i BW2.out hlt).mono ?_; rw [hki]; rintro e w3 ⟨rfl, hb3⟩; have BW3 := za.mk (zh BW2.out hb3); clear hb3 tok1) | (go_at_fn kn; refine (HKY.out _ bn BW3.out hbl).mono ?_; rw [hkb]; rintro e w4 ⟨rfl, hb4⟩; have BW4 := za.mk (zh BW3.out hb4); clear hb4))
              go_roundg (js.length - (i + 1))
              case measure => omega
              case rel => exact ⟨i + 1, by go_num, by omega, by omega, by rw [HV.out], BW4⟩
            · rw [if_neg (fun h => h.2.elim hb0 hlk)] at hv
              have HV := za.mk hv
              clear hv
              go_wp2_with (first | (go_at_call 100; refine (zeb g A c js D cd dn now i hlt _ (HM.out.below BW.out)).mono ?_; rw [hr]; rintro e w1 ⟨rfl, hb1⟩; have BW1 := za.mk (zh BW.out hb1); clear hb1) | (go_at_fn mn; refine (HMY.out _ i BW1.out hlt).mono ?_; rw [hmm]; rintro e w2 ⟨rfl, hb2⟩; have BW2 := za.mk (zh BW1.out hb2); clear hb2) | (go_at_fn kn; have _t := tok1; refine (HKY.out _ i BW2.out hlt).mono ?_; rw [hki]; rintro e w3 ⟨rfl, hb3⟩; have BW3 := za.mk (zh BW2.out hb3); clear hb3 tok1) | (go_at_fn kn; refine (HKY.out _ bn BW3.out hbl).mono ?_; rw [hkb]; rintro e w4 ⟨rfl, hb4⟩; have BW4 := za.mk (zh BW3.out hb4); clear hb4))
              go_roundg (js.length - (i + 1))
              case measure => omega
              case rel => exact ⟨i + 1, by go_num, by omega, by omega, by rw [HV.out], BW4⟩
    · have hltz : ¬ (i : Int) < (js.length : Int) := by omega
      go_wp2
      go_ret
      exact ⟨by rw [show i = js.length by omega]; rfl, BW.out⟩
def edfD (js : List JobT) (dn : List Int) (now : Int) : Int := zfm (fun i => rdyD js dn now i) (fun i => (jrd js i).f2) js.length
set_option maxHeartbeats 4000000 in
theorem edf_calls (g : Nat) (A : Option Addr) (c : Nat) (js : List JobT) (D : Option Addr) (cd : Nat) (dn : List Int) (now : Int) (w : World) (h : Mach w g A c js D cd dn now) :
    Calls Try.prog 54 #[.pointer (some ⟨g, 0, none⟩)] w fun e w' => e = .returned (.int .i64 (edfD js dn now)) ∧ Below w.heap.size w w' := by
  have HC := za.mk (fun W (hW : W = w) => best_calls (fun i => (jrd js i).f2) (fun _ => true) 52 101 #[.pointer (some ⟨g, 0, none⟩)] #[] #[.pointer (some ⟨g, 0, none⟩)] #[]
    (enters_of Try.func52 (by kernel_rfl) rfl) (enters_of Try.func101 (by kernel_rfl) rfl) (by decide)
    g A c js D cd dn now W (by subst hW; exact h) (fun W' i hb hi => zg0 g A c js D cd dn now i hi W' ((show Mach W g A c js D cd dn now by subst hW; exact h).below hb)) (fun W' i _ _ => any_calls g i W'))
  clear h
  go_enter Try.func54, Try.ntmps54
  go_wp2_with (go_at_call 51; refine (HC.out _ rfl).mono ?_; rintro e w1 ⟨rfl, hb⟩; have HB := za.mk hb; clear hb)
  go_ret
  exact ⟨rfl, HB.out⟩
def bits_Mul64.f (a0 : Int) (a1 : Int) : Option (Int × Int) := some (IntKind.u64.wrap ((IntKind.u64.wrap ((IntKind.u64.wrap ((a0 / 4294967296) * (a1 / 4294967296))) + ((IntKind.u64.wrap ((IntKind.u64.wrap ((a0 / 4294967296) * (Go.bits .and .u64 a1 4294967295))) + ((IntKind.u64.wrap ((Go.bits .and .u64 a0 4294967295) * (Go.bits .and .u64 a1 4294967295))) / 4294967296))) / 4294967296))) + ((IntKind.u64.wrap ((Go.bits .and .u64 (IntKind.u64.wrap ((IntKind.u64.wrap ((a0 / 4294967296) * (Go.bits .and .u64 a1 4294967295))) + ((IntKind.u64.wrap ((Go.bits .and .u64 a0 4294967295) * (Go.bits .and .u64 a1 4294967295))) / 4294967296))) 4294967295) + (IntKind.u64.wrap ((Go.bits .and .u64 a0 4294967295) * (a1 / 4294967296))))) / 4294967296)), IntKind.u64.wrap (a0 * a1))
set_option maxHeartbeats 8000000 in
theorem bits_Mul64.calls (a0 : Int) (a1 : Int) (r1 : Int) (r2 : Int) (w : World) (h : bits_Mul64.f a0 a1 = some (r1, r2)) :
  Calls Try.prog 118 #[.int .u64 a0, .int .u64 a1] w fun e w' => e = .returned (.tuple #[.int .u64 r1, .int .u64 r2]) ∧ zbz w w' := by
 have H : (some (IntKind.u64.wrap ((IntKind.u64.wrap ((IntKind.u64.wrap ((a0 / 4294967296) * (a1 / 4294967296))) + ((IntKind.u64.wrap ((IntKind.u64.wrap ((a0 / 4294967296) * (Go.bits .and .u64 a1 4294967295))) + ((IntKind.u64.wrap ((Go.bits .and .u64 a0 4294967295) * (Go.bits .and .u64 a1 4294967295))) / 4294967296))) / 4294967296))) + ((IntKind.u64.wrap ((Go.bits .and .u64 (IntKind.u64.wrap ((IntKind.u64.wrap ((a0 / 4294967296) * (Go.bits .and .u64 a1 4294967295))) + ((IntKind.u64.wrap ((Go.bits .and .u64 a0 4294967295) * (Go.bits .and .u64 a1 4294967295))) / 4294967296))) 4294967295) + (IntKind.u64.wrap ((Go.bits .and .u64 a0 4294967295) * (a1 / 4294967296))))) / 4294967296)), IntKind.u64.wrap (a0 * a1))) = some (r1, r2) := h
 clear h
 simp only [Option.some.injEq, Prod.mk.injEq] at H
 obtain ⟨rfl, rfl⟩ := H
 go_enter Try.func118, Try.ntmps118
 go_wp2
 go_ret2
 exact ⟨by first | rfl | (simp; done) | (simp [*]; done), by repeat (first | exact zbz.refl _ | apply zbz.step)⟩
def bits_Mul.f (a0 : Int) (a1 : Int) : Option (Int × Int) := (bits_Mul64.f a0 a1).bind fun bt175 => (some (bt175.1, bt175.2))
set_option maxHeartbeats 8000000 in
theorem bits_Mul.calls (a0 : Int) (a1 : Int) (r1 : Int) (r2 : Int) (w : World) (h : bits_Mul.f a0 a1 = some (r1, r2)) :
  Calls Try.prog 116 #[.int .u64 a0, .int .u64 a1] w fun e w' => e = .returned (.tuple #[.int .u64 r1, .int .u64 r2]) ∧ zbz w w' := by
 have H : ((bits_Mul64.f a0 a1).bind fun bt175 => (some (bt175.1, bt175.2))) = some (r1, r2) := h
 clear h
 replace H := Option.bind_eq_some_iff.mp H
 obtain ⟨⟨t175, t176⟩, A30, H⟩ := H
 replace H : (some (t175, t176)) = some (r1, r2) := H
 have A3 := za.mk A30
 clear A30
 simp only [Option.some.injEq, Prod.mk.injEq] at H
 obtain ⟨rfl, rfl⟩ := H
 go_enter Try.func116, Try.ntmps116
 go_wp2_with (first | ((with_reducible refine zbe (f := 118) rfl ?_); refine zch (some 25) rfl rfl Try.func118 (by kernel_rfl) rfl #[.int .u64 a0, .int .u64 a1] rfl Zmt ?_; (with_reducible refine (bits_Mul64.calls a0 a1 t175 t176 _ A3.out).mono ?_); rintro e w' ⟨rfl, ⟨nd, rfl⟩⟩; refine ⟨_, rfl, ?_⟩))
 go_ret2
 exact ⟨by first | rfl | (simp; done) | (simp [*]; done), by repeat (first | exact zbz.refl _ | apply zbz.step)⟩
theorem and_lo (x : Int) (h0 : 0 ≤ x) (h1 : x < 4294967296) : Go.bits .and .u64 x 4294967295 = x := by
  obtain ⟨a, rfl⟩ := Int.eq_ofNat_of_zero_le h0
  have ha : a < 4294967296 := by omega
  have hb : (4294967295 : Int) = ((4294967295 : Nat) : Int) := rfl
  simp only [Go.bits]
  rw [show IntKind.u64.bits = 64 from rfl, hb, BitVec.toNat_and, BitVec.ofInt_natCast, BitVec.ofInt_natCast, BitVec.toNat_ofNat, BitVec.toNat_ofNat, Nat.mod_eq_of_lt (show a < 2 ^ 64 by omega), Nat.mod_eq_of_lt (show 4294967295 < 2 ^ 64 by omega)]
  rw [show (4294967295 : Nat) = 2 ^ 32 - 1 by decide, Nat.and_two_pow_sub_one_eq_mod, Nat.mod_eq_of_lt (by omega)]
  rw [IntKind.wrap_u64]
  omega
theorem zhz (n : Int) (h0 : 0 ≤ n) (h1 : n ≤ 1000000) : bits_Mul.f 1 n = some (0, n) := by
  have hd : n / 4294967296 = 0 := Int.ediv_eq_zero_of_lt h0 (by omega)
  have w0 : ∀ x : Int, 0 ≤ x → x ≤ 1000000 → IntKind.u64.wrap x = x := fun x h h' => by rw [IntKind.wrap_u64]; omega
  unfold bits_Mul.f bits_Mul64.f
  rw [and_lo 1 (by omega) (by omega), and_lo n h0 (by omega), hd]
  simp only [Int.one_mul, show (1 : Int) / 4294967296 = 0 by decide, Int.zero_mul, w0 0 (by omega) (by omega), w0 n h0 h1, hd, Int.add_zero, Int.mul_zero, and_lo 0 (by omega) (by omega), show (0 : Int) / 4294967296 = 0 by decide, Option.bind_some]
def rowAt (n m : Nat) : List Int := List.replicate m (-1) ++ List.replicate (n - m) 0
theorem rowAt_set (n m : Nat) (h : m < n) : (rowAt n m).set m (-1) = rowAt n (m + 1) := by
  unfold rowAt
  rw [List.set_append_right _ _ (by simp), List.length_replicate, Nat.sub_self, show n - m = (n - (m + 1)) + 1 by omega, List.replicate_succ, List.set_cons_zero, List.replicate_succ', List.append_assoc, List.singleton_append]
theorem rowAt_rd (n m i : Nat) (h : i < m) (hm : m ≤ n) : rdOf 0 (rowAt n m) (i : Int) = -1 := by
  unfold rdOf rowAt
  rw [List.getD_eq_getElem?_getD, Int.toNat_natCast, List.getElem?_append_left (by simpa using h), List.getElem?_replicate, if_pos h]
  rfl
theorem R_rowAt {e base : Nat} {ok : Nat → Prop} {g n cap : Nat} : ∀ (q m : Nat) (W : World), m + q ≤ n → Kd.R (Kd.int .i64) e W base ok (.slice (some ⟨g, 0, none⟩) n cap) (rowAt n m) → Kd.R (Kd.int .i64) e (W.setCells g m (List.replicate q (.int .i64 (-1)))) base ok (.slice (some ⟨g, 0, none⟩) n cap) (rowAt n (m + q))
  | 0, m, W, _, h => h
  | q + 1, m, W, hq, h => by
    rw [List.replicate_succ, World.setCells]
    have h1 := (Kd.zc3 h (m : Int) (-1)).1
    rw [Int.toNat_natCast, rowAt_set n m (by omega)] at h1
    have := R_rowAt q (m + 1) _ (by omega) h1
    rwa [show m + 1 + q = m + (q + 1) by omega] at this
theorem below_setCells {base : Nat} {w : World} {g : Nat} (hg : base ≤ g) : ∀ (vs : List Value) (o : Nat) (W : World), Below base w W → Below base w (W.setCells g o vs)
  | [], _, _, h => h
  | v :: vs, o, W, h => below_setCells hg vs (o + 1) _ (h.setCell hg _)
theorem self_copy {base : Nat} {ok : Nat → Prop} {g n cap m : Nat} {W : World} (hm : 1 ≤ m) (hmn : m ≤ n) (h : Kd.R (Kd.int .i64) 3 W base ok (.slice (some ⟨g, 0, none⟩) n cap) (rowAt n m)) (ty dc sc : Nat) :
    (Builtin.copy_ #[27, 27] ty #[.slice (some ⟨g, m, none⟩) (n - m) dc, .slice (some ⟨g, 0, none⟩) m sc]).run Try.prog W = .ok (goInt ((List.replicate (min m (n - m)) (Value.int .i64 (-1))).length)) (W.setCells g m (List.replicate (min m (n - m)) (.int .i64 (-1)))) := by
  have hc := fun (i : Nat) (hi : i < n) => Kd.zdd 0 h (i : Int) (by omega) (by omega)
  refine run_copy_cells W 27 27 ty 3 g m (n - m) dc ⟨g, 0, none⟩ m sc _ Try.underlying27 (by kernel_rfl) (by rw [List.length_replicate]) (fun j v hj => ?_) (fun j hj => ?_) (fun j hj => ?_) (fun v hv => ?_)
  · rw [List.getElem?_replicate] at hj
    split at hj
    · rename_i hlt
      have := (hc j (by omega)).1
      rw [rowAt_rd n m j (by omega) hmn, Int.toNat_natCast] at this
      injection hj with hj
      rw [← hj, ← this]
      simp only [Addr.add]
      split
      · rename_i h0; subst h0; rfl
      · simp
    · cases hj
  · rw [List.length_replicate] at hj
    have := (hc (m + j) (by omega)).1
    rw [Int.toNat_natCast] at this
    rw [this]; rfl
  · rw [List.length_replicate] at hj
    have := (hc (m + j) (by omega)).2
    rwa [Int.toNat_natCast] at this
  · rw [List.eq_of_mem_replicate hv]; rfl
theorem zh0 {P : Program} (w : World) {o : Oper} {a : Act} {K : Act → World → Prop} {Q : Exit → Act → World → Prop} (d s : Operand) (t t' : TypeId)
    (ho : o.op = .call { callee := .builtin .copy, args := #[d, s], argTypes := #[t, t'] }) (v u : Value) (hd : a.eval d = v) (hs : a.eval s = u) {v' : Value} {w' : World}
    (hr : (Builtin.copy_ #[t, t'] o.type #[v, u]).run P w = .ok v' w') (h : K (a.put o.dst v') w') : o.wp P a w K Q := by
  unfold Oper.wp execOp
  simp only [ho, resolve, invoke, builtin, Sem.run_bind, Sem.run_pure, Result.andThen_ok, List.map_toArray, List.map_cons, List.map_nil, hd, hs, hr]
  exact h
theorem zg1 {P : Program} {ops : Array Oper} {o : Oper} {a : Act} {w : World} {K : Act → World → Prop} {Q : Exit → Act → World → Prop} {E : Prop}
    (hg : o.guard = none) (d x : Operand) (dT sT : TypeId) (hop : o.op = Op.call { callee := Callee.builtin Builtin.copy, args := #[d, x], argTypes := #[dT, sT] })
    (v u : Value) (hd : a.eval d = v) (hx : a.eval x = u) {v' : Value} {w' : World} (hr : (Builtin.copy_ #[dT, sT] o.type #[v, u]).run P w = .ok v' w') (hK : K (a.put o.dst v') w') :
    if Region.wanted o (yielded ops a.tmps) = true then Oper.wp P o a w K Q else E := by
  have hw : Region.wanted o (yielded ops a.tmps) = true := by simp [Region.wanted, hg]
  rw [if_pos hw]
  exact zh0 w d x dT sT hop v u hd hx hr hK
set_option maxHeartbeats 4000000 in
theorem zh1 (n : Nat) (hn : n ≤ 1000000) (hpos : 0 < n) (A : Option Addr) (c : Nat) (w : World) (hr : Kd.C (Kd.int .i64) w A 1 [-1]) :
    Calls Try.prog 114 #[.slice A 1 c, .int .i64 n] w fun e w' => ∃ v0_ : Value, e = .returned v0_ ∧ Kd.R (Kd.int .i64) 3 w' w.heap.size (fun _ => True) v0_ (List.replicate n (-1)) ∧ Below w.heap.size w w' := by
  have HR := za.mk hr
  clear hr
  have hM := za.mk (zhz (n : Int) (by omega) (by omega))
  have hn0 : ¬ (n : Int) < 0 := by omega
  have hn1 : IntKind.u64.wrap (n : Int) = (n : Int) := by rw [IntKind.wrap_u64]; omega
  have hn2 : IntKind.i64.wrap (n : Int) = (n : Int) := by rw [IntKind.wrap_i64]; omega
  have hn3 : ¬ (n : Int) > 9223372036854775807 := by omega
  have hn4 : decide ((n : Int) > 9223372036854775807) = false := decide_eq_false (by omega)
  go_enter Try.func114, Try.ntmps114
  go_wp2_with (first
    | (go_at_call 116; refine (bits_Mul.calls 1 (n : Int) 0 (n : Int) _ hM.out).mono ?_; rintro e w' ⟨rfl, ⟨nq, rfl⟩⟩)
    | ((with_reducible refine zbn (N := 30) rfl ?_); refine Kd.zfe (Kd.int .i64) _ 3 rfl (N := 30) rfl 27 _ _ rfl (n : Int) rfl rfl Try.underlying27 (.int .i64 0) 8 info3 rfl (by decide) (by omega) 0 (ok := fun _ => True) (okp := fun _ => True) rfl (fun _ hk => hk) trivial (by omega) (by omega) (Below.refl _ _) (Nat.le_refl _) ?_; intro v w4 ho5 hb hg_ hnew_; rw [Int.toNat_natCast] at ho5; obtain ⟨gb, cap, ev, hgb, _, _, _⟩ := Kd.zd1 ho5 (by rw [List.length_replicate]; exact hpos); subst ev; rw [List.length_replicate] at ho5; have HO := za.mk ho5; have HB := za.mk hb; have GB := za.mk hgb; clear hg_ hnew_ ho5 hb hgb)
    | ((with_reducible refine zbn (N := 33) rfl ?_); refine Kd.R_copy (0 : Int) (w.drewN nq).heap.size rfl _ _ 27 27 3 rfl Try.underlying27 (by kernel_rfl) _ _ [-1] A 1 c (fun _ => True) rfl rfl HO.out (Kd.zbr HR.out ((zbk (Below.refl _ _) nq).trans HB.out)) HB.out HB.out.size ?_; intro w5 ho6 hb6 hg6; rw [show [(-1 : Int)].take (min 1 (List.replicate n (0 : Int)).length) ++ (List.replicate n (0 : Int)).drop (min 1 (List.replicate n (0 : Int)).length) = rowAt n 1 by rw [List.length_replicate, Nat.min_eq_left hpos]; simp [rowAt]] at ho6; have HO6 : za (Kd.R (Kd.int .i64) 3 w5 (w.drewN nq).heap.size (fun _ => True) (.slice (some ⟨gb, 0, none⟩) n cap) (rowAt n 1)) := ⟨ho6⟩; have HB6 := za.mk hb6; clear ho6 hb6 hg6))
  go_loopg [8] n (fun gg v8 wr => ∃ m : Nat, v8 = .int .i64 m ∧ 1 ≤ m ∧ m ≤ n ∧ n - m ≤ gg ∧ za (Kd.R (Kd.int .i64) 3 wr (w.drewN nq).heap.size (fun _ => True) (.slice (some ⟨gb, 0, none⟩) n cap) (rowAt n m)) ∧ za (Below (w.drewN nq).heap.size (w.drewN nq) wr))
  case atStart => exact ⟨1, by rw [Nat.min_eq_left hpos], by omega, by omega, by omega, HO6, HB6⟩
  case round =>
    obtain ⟨m, rfl, hm1, hmn, hgg, R7, B7⟩ := hrel
    by_cases hlt : m < n
    · have hltz : (m : Int) < (n : Int) := by omega
      have hmz : (m : Int) ≤ (n : Int) := by omega
      have hm0 : (0 : Int) ≤ (m : Int) := by omega
      have hcap : n ≤ cap := (Kd.zba R7.out).2.1
      have hmc : m ≤ cap := by omega
      have hcm : ¬ cap = m := by omega
      go_wp2_with fail
      go_region_law (refine zg1 rfl _ _ 27 27 rfl (.slice (some ⟨gb, m, none⟩) (n - m) (cap - m)) (.slice (some ⟨gb, 0, none⟩) m cap) (by simp [Act.eval, Act.put]) (by simp [Act.eval, Act.put]) (self_copy hm1 hmn (Kd.zbs R7.out) _ _ _) ?_)
      all_goals go_wp2
      go_roundg (n - (m + min m (n - m)))
      case measure => omega
      case rel =>
        refine ⟨m + min m (n - m), ?_, by omega, by omega, Nat.le_refl _, ⟨R_rowAt _ _ _ (by omega) (Kd.zbs R7.out)⟩, ⟨below_setCells GB.out _ _ _ (zb9 B7.out)⟩⟩
        first | rfl | (congr 1; unfold wrap64; omega) | (congr 1; rw [IntKind.wrap_i64]; omega)
    · have hltz : ¬ (m : Int) < (n : Int) := by omega
      go_wp2
      go_ret
      refine ⟨_, rfl, ?_, ?_⟩
      · have := R7.out
        rw [show m = n by omega] at this
        unfold rowAt at this
        rw [Nat.sub_self, List.replicate_zero, List.append_nil] at this
        exact Kd.zce this (Nat.le_refl _)
      · exact zb5 (zbk (Below.refl _ _) nq) (Nat.le_refl _) B7.out
set_option maxHeartbeats 4000000 in
theorem zil (A : Option Addr) (c : Nat) (w : World) (hr : Kd.C (Kd.int .i64) w A 1 [-1]) :
    Calls Try.prog 114 #[.slice A 1 c, .int .i64 0] w fun e w' => ∃ v0_ : Value, e = .returned v0_ ∧ Kd.R (Kd.int .i64) 3 w' w.heap.size (fun _ => True) v0_ [] ∧ Below w.heap.size w w' := by
  have HR := za.mk hr
  clear hr
  have hM := za.mk (zhz 0 (by omega) (by omega))
  go_enter Try.func114, Try.ntmps114
  go_wp2_with (first
    | (go_at_call 116; refine (bits_Mul.calls 1 0 0 0 _ hM.out).mono ?_; rintro e w' ⟨rfl, ⟨nq, rfl⟩⟩)
    | ((with_reducible refine zbn (N := 30) rfl ?_); refine Kd.zfe (Kd.int .i64) _ 3 rfl (N := 30) rfl 27 _ _ rfl 0 rfl rfl Try.underlying27 (.int .i64 0) 8 info3 rfl (by decide) (by omega) 0 (ok := fun _ => True) (okp := fun _ => True) rfl (fun _ hk => hk) trivial (by omega) (by omega) (Below.refl _ _) (Nat.le_refl _) ?_; intro v w4 ho5 hb hg_ hnew_; have HO := za.mk ho5; have HB := za.mk hb; clear hg_ hnew_ ho5 hb; obtain ⟨A2, c2, ev⟩ := Kd.zb8 HO.out; subst ev)
    | ((with_reducible refine zbn (N := 33) rfl ?_); refine Kd.R_copy (0 : Int) (w.drewN nq).heap.size rfl _ _ 27 27 3 rfl Try.underlying27 (by kernel_rfl) _ _ [-1] A 1 c (fun _ => True) rfl rfl HO.out (Kd.zbr HR.out ((zbk (Below.refl _ _) nq).trans HB.out)) HB.out HB.out.size ?_; intro w5 ho6 hb6 hg6; have HO6 : za (Kd.R (Kd.int .i64) 3 w5 (w.drewN nq).heap.size (fun _ => True) (.slice A2 0 c2) []) := ⟨ho6⟩; have HB6 := za.mk hb6; clear ho6 hb6 hg6))
  go_loopg [8] 0 (fun gg v8 wr => v8 = .int .i64 0 ∧ za (Kd.R (Kd.int .i64) 3 wr (w.drewN nq).heap.size (fun _ => True) (.slice A2 0 c2) []) ∧ za (Below (w.drewN nq).heap.size (w.drewN nq) wr))
  case atStart => exact ⟨rfl, HO6, HB6⟩
  case round =>
    obtain ⟨rfl, R7, B7⟩ := hrel
    go_wp2
    go_ret
    exact ⟨_, rfl, Kd.zce R7.out (Nat.le_refl _), zb5 (zbk (Below.refl _ _) nq) (Nat.le_refl _) B7.out⟩
theorem repeat_any (n : Nat) (hn : n ≤ 1000000) (A : Option Addr) (c : Nat) (w : World) (hr : Kd.C (Kd.int .i64) w A 1 [-1]) :
    Calls Try.prog 114 #[.slice A 1 c, .int .i64 n] w fun e w' => ∃ v0_ : Value, e = .returned v0_ ∧ Kd.R (Kd.int .i64) 3 w' w.heap.size (fun _ => True) v0_ (List.replicate n (-1)) ∧ Below w.heap.size w w' := by
  rcases Nat.eq_zero_or_pos n with rfl | h
  · exact zil A c w hr
  · exact zh1 n hn h A c w hr
def ze2.f (a0 : Int) : Option (List Int) := if 0 ≤ a0 ∧ a0 ≤ 1000000 then (some (List.replicate a0.toNat (-1))) else (none)
set_option maxHeartbeats 4000000 in
theorem ze2.calls (a0 : Int) (r : List Int) (w : World) (h : ze2.f a0 = some r) :
    Calls Try.prog 99 #[.int .i64 a0] w fun e w' => ∃ v0_ : Value, e = .returned (v0_) ∧ Kd.R (Kd.int .i64) 3 w' w.heap.size (fun _ => True) v0_ r ∧ Below w.heap.size w w' := by
  unfold ze2.f at h
  by_cases hc : 0 ≤ a0 ∧ a0 ≤ 1000000
  · rw [if_pos hc] at h
    obtain rfl := Option.some.inj h
    clear h
    obtain ⟨n, rfl⟩ := Int.eq_ofNat_of_zero_le hc.1
    rw [Int.toNat_natCast]
    have hn : n ≤ 1000000 := by omega
    clear hc
    go_enter Try.func99, Try.ntmps99
    go_wp2_with (go_at_call 114; refine (repeat_any n hn _ _ _ ?_).mono ?_)
    · refine ⟨rfl, by omega, fun _ => ⟨_, rfl, fun j p hj => ?_⟩⟩
      match j, hj with
      | 0, hj =>
        injection hj with hj
        subst hj
        refine ⟨[.int .i64 (-1)], rfl, rfl, fun i u hi => ?_⟩
        match i, hi with
        | 0, hi =>
          injection hi with hi
          subst hi
          show (w.alloc _).cell? (Addr.add _ 0) = _
          rw [Addr.add_zero']
          simp
        | i + 1, hi => simp at hi
      | j + 1, hj => simp at hj
    · rintro e w' ⟨v0_, rfl, hR, hB⟩
      have HR := za.mk hR
      have HB := za.mk hB
      clear hR hB
      go_wp2
      go_ret
      exact ⟨_, rfl, Kd.zce HR.out (by simp), zhu (zbo (Below.refl _ _) _) (by simp) HB.out⟩
  · rw [if_neg hc] at h
    cases h
def stepD (js : List JobT) (now : Int) (p : List Int × List Int) (i : Int) : List Int × List Int :=
  if i < 0 then p else (p.1.set i.toNat (wrap64 (rd p.1 i + 1)), if wrap64 (rd p.1 i + 1) = (jrd js i.toNat).f3 then p.2.set i.toNat (now + 1) else p.2)
def simT (pk : List Int → Int → Int) (js : List JobT) : Nat → List Int × List Int
  | 0 => (List.replicate js.length 0, List.replicate js.length (-1))
  | t + 1 => stepD js (t : Int) (simT pk js t) (pk (simT pk js t).1 (t : Int))
def runT (pk : List Int → Int → Int) (js : List JobT) (t : Nat) : Int := pk (simT pk js t).1 (t : Int)
def zfa (pk : List Int → Int → Int) (js : List JobT) (t : Nat) : List Int := (List.range t).map (runT pk js) ++ List.replicate (120 - t) (-1)
def simR (pk : List Int → Int → Int) (js : List JobT) : List Int × List Int := ((List.range 120).map (runT pk js), (simT pk js 120).2)
theorem stepD_len (js : List JobT) (now : Int) (p : List Int × List Int) (i : Int) : (stepD js now p i).1.length = p.1.length ∧ (stepD js now p i).2.length = p.2.length := by
  unfold stepD
  split
  · exact ⟨rfl, rfl⟩
  · refine ⟨by simp, ?_⟩
    simp only
    split <;> simp
theorem zfn (pk : List Int → Int → Int) (js : List JobT) : ∀ t, (simT pk js t).1.length = js.length ∧ (simT pk js t).2.length = js.length
  | 0 => by simp [simT]
  | t + 1 => by
    have h1 := stepD_len js (t : Int) (simT pk js t) (pk (simT pk js t).1 (t : Int))
    have h2 := zfn pk js t
    rw [simT]; omega
theorem runRow_len (pk : List Int → Int → Int) (js : List JobT) (t : Nat) (h : t ≤ 120) : (zfa pk js t).length = 120 := by simp [zfa]; omega
theorem zf0 (pk : List Int → Int → Int) (js : List JobT) (t : Nat) (h : t < 120) : (zfa pk js t).set t (runT pk js t) = zfa pk js (t + 1) := by
  unfold zfa
  rw [List.set_append_right _ _ (by simp), List.length_map, List.length_range, Nat.sub_self, show 120 - t = (120 - (t + 1)) + 1 by omega, List.replicate_succ, List.set_cons_zero, List.range_succ, List.map_append, List.append_assoc]
  rfl
theorem zh2 {pk : List Int → Int → Int} {js : List JobT} {t : Nat} (h : pk (simT pk js t).1 (t : Int) = -1) : simT pk js (t + 1) = simT pk js t := by
  rw [simT, h]
  rfl
theorem zh3 {pk : List Int → Int → Int} {js : List JobT} {t b : Nat} {x y : Int} (h : pk (simT pk js t).1 (t : Int) = (b : Int)) (hx : rd (simT pk js t).1 (b : Int) = x) (hy : (jrd js b).f3 = y) :
    simT pk js (t + 1) = ((simT pk js t).1.set b (wrap64 (x + 1)), if wrap64 (x + 1) = y then (simT pk js t).2.set b ((t : Int) + 1) else (simT pk js t).2) := by
  rw [simT, h]
  unfold stepD
  rw [if_neg (by omega), hx, Int.toNat_natCast, hy]
structure SimW (w : World) (n : Nat) (A : Option Addr) (c g go : Nat) (D R F : Option Addr) (cd cr cf : Nat) (dn rn fn : List Int) (now : Int) (W : World) : Prop where
  jobs : W.cell? ⟨g, 0, none⟩ = some (.slice A n c)
  done : W.cell? ⟨g, 1, none⟩ = some (.slice D n cd)
  time : W.cell? ⟨g, 2, none⟩ = some (.int .i64 now)
  ftime : W.frozen? ⟨g, 2, none⟩ = false
  o0 : W.cell? ⟨go, 0, none⟩ = some (.slice R 120 cr)
  o1 : W.cell? ⟨go, 1, none⟩ = some (.slice F n cf)
  dR : Kd.R (Kd.int .i64) 3 W w.heap.size (fun k => some k = (Value.slice D n cd).ownBlock) (.slice D n cd) dn
  rR : Kd.R (Kd.int .i64) 3 W w.heap.size (fun k => some k = (Value.slice R 120 cr).ownBlock) (.slice R 120 cr) rn
  fR : Kd.R (Kd.int .i64) 3 W w.heap.size (fun k => some k = (Value.slice F n cf).ownBlock) (.slice F n cf) fn
  bel : Below w.heap.size w W
structure SimNe (w : World) (n g go : Nat) (D R F : Option Addr) (cd cr cf : Nat) : Prop where
  gn : w.heap.size ≤ g
  gon : w.heap.size ≤ go
  ggo : g ≠ go
  gD : ∀ k, (Value.slice D n cd).ownBlock = some k → k ≠ g ∧ k ≠ go
  gR : ∀ k, (Value.slice R 120 cr).ownBlock = some k → k ≠ g ∧ k ≠ go
  gF : ∀ k, (Value.slice F n cf).ownBlock = some k → k ≠ g ∧ k ≠ go
  DR : ∀ k, (Value.slice D n cd).ownBlock = some k → some k ≠ (Value.slice R 120 cr).ownBlock
  DF : ∀ k, (Value.slice D n cd).ownBlock = some k → some k ≠ (Value.slice F n cf).ownBlock
  RF : ∀ k, (Value.slice R 120 cr).ownBlock = some k → some k ≠ (Value.slice F n cf).ownBlock
section
variable {w W W1 : World} {n : Nat} {A : Option Addr} {c g go : Nat} {D R F : Option Addr} {cd cr cf : Nat} {dn rn fn : List Int} {now : Int}
theorem SimW.below (h : SimW w n A c g go D R F cd cr cf dn rn fn now W) (hb : Below W.heap.size W W1) : SimW w n A c g go D R F cd cr cf dn rn fn now W1 :=
  ⟨(hb.cell (World.block_lt_of_cell? _ _ h.jobs)).trans h.jobs, (hb.cell (World.block_lt_of_cell? _ _ h.done)).trans h.done, (hb.cell (World.block_lt_of_cell? _ _ h.time)).trans h.time,
   (hb.frozen (World.block_lt_of_cell? _ _ h.time)).trans h.ftime, (hb.cell (World.block_lt_of_cell? _ _ h.o0)).trans h.o0, (hb.cell (World.block_lt_of_cell? _ _ h.o1)).trans h.o1,
   Kd.zi h.dR hb, Kd.zi h.rR hb, Kd.zi h.fR hb, zh h.bel hb⟩
theorem SimW.mach (h : SimW w n A c g go D R F cd cr cf dn rn fn now W) {js : List JobT} (hn : js.length = n) (hr : Kd.C k34 w A js.length js) (hl : dn.length = js.length) : Mach W g A c js D cd dn now := by
  subst hn
  refine ⟨h.jobs, by rw [hl]; exact h.done, h.time, Kd.zbr hr h.bel, (Kd.zba h.dR).2.2, hl⟩
theorem SimW.zim (h : SimW w n A c g go D R F cd cr cf dn rn fn now W) (ne : SimNe w n g go D R F cd cr cf) (x : Int) : SimW w n A c g go D R F cd cr cf dn rn fn x (W.setCell ⟨g, 2, none⟩ (.int .i64 x)) := by
  refine ⟨?_, ?_, World.cell?_setCell_same _ _ _ h.time, ?_, ?_, ?_, Kd.zb4 h.dR (fun k hk => (ne.gD k hk.symm).1) _, Kd.zb4 h.rR (fun k hk => (ne.gR k hk.symm).1) _, Kd.zb4 h.fR (fun k hk => (ne.gF k hk.symm).1) _, h.bel.setCell ne.gn _⟩
  · rw [World.cell?_setCell_other _ _ _ _ (by simp)]; exact h.jobs
  · rw [World.cell?_setCell_other _ _ _ _ (by simp)]; exact h.done
  · rw [World.frozen?_setCell]; exact h.ftime
  · rw [World.cell?_setCell_far _ _ _ _ ne.ggo]; exact h.o0
  · rw [World.cell?_setCell_far _ _ _ _ ne.ggo]; exact h.o1
theorem SimW.setRun {gr : Nat} (h : SimW w n A c g go D (some ⟨gr, 0, none⟩) F cd cr cf dn rn fn now W) (ne : SimNe w n g go D (some ⟨gr, 0, none⟩) F cd cr cf) (ho : (Value.slice (some ⟨gr, 0, none⟩) 120 cr).ownBlock = some gr) (i : Nat) (x : Int) :
    SimW w n A c g go D (some ⟨gr, 0, none⟩) F cd cr cf dn (rn.set i x) fn now (W.setCell ⟨gr, i, none⟩ (.int .i64 x)) := by
  have hg := ne.gR gr ho
  have h1 := (Kd.zc3 h.rR (i : Int) x).1
  rw [Int.toNat_natCast] at h1
  refine ⟨?_, ?_, ?_, ?_, ?_, ?_, Kd.zb4 h.dR (fun k hk e => ne.DR k hk.symm (by rw [ho]; exact congrArg some e)) _, h1, Kd.zb4 h.fR (fun k hk e => ne.RF gr ho (by rw [← hk]; exact congrArg some e.symm)) _, h.bel.setCell (Kd.zcq h.rR _ ho) _⟩
  · rw [World.cell?_setCell_far _ _ _ _ hg.1]; exact h.jobs
  · rw [World.cell?_setCell_far _ _ _ _ hg.1]; exact h.done
  · rw [World.cell?_setCell_far _ _ _ _ hg.1]; exact h.time
  · rw [World.frozen?_setCell]; exact h.ftime
  · rw [World.cell?_setCell_far _ _ _ _ hg.2]; exact h.o0
  · rw [World.cell?_setCell_far _ _ _ _ hg.2]; exact h.o1
theorem SimW.setFin {gr : Nat} (h : SimW w n A c g go D R (some ⟨gr, 0, none⟩) cd cr cf dn rn fn now W) (ne : SimNe w n g go D R (some ⟨gr, 0, none⟩) cd cr cf) (ho : (Value.slice (some ⟨gr, 0, none⟩) n cf).ownBlock = some gr) (i : Nat) (x : Int) :
    SimW w n A c g go D R (some ⟨gr, 0, none⟩) cd cr cf dn rn (fn.set i x) now (W.setCell ⟨gr, i, none⟩ (.int .i64 x)) := by
  have hg := ne.gF gr ho
  have h1 := (Kd.zc3 h.fR (i : Int) x).1
  rw [Int.toNat_natCast] at h1
  refine ⟨?_, ?_, ?_, ?_, ?_, ?_, Kd.zb4 h.dR (fun k hk e => ne.DF k hk.symm (by rw [ho]; exact congrArg some e)) _, Kd.zb4 h.rR (fun k hk e => ne.RF k hk.symm (by rw [ho]; exact congrArg some e)) _, h1, h.bel.setCell (Kd.zcq h.fR _ ho) _⟩
  · rw [World.cell?_setCell_far _ _ _ _ hg.1]; exact h.jobs
  · rw [World.cell?_setCell_far _ _ _ _ hg.1]; exact h.done
  · rw [World.cell?_setCell_far _ _ _ _ hg.1]; exact h.time
  · rw [World.frozen?_setCell]; exact h.ftime
  · rw [World.cell?_setCell_far _ _ _ _ hg.2]; exact h.o0
  · rw [World.cell?_setCell_far _ _ _ _ hg.2]; exact h.o1
theorem SimW.setDone {gr : Nat} (h : SimW w n A c g go (some ⟨gr, 0, none⟩) R F cd cr cf dn rn fn now W) (ne : SimNe w n g go (some ⟨gr, 0, none⟩) R F cd cr cf) (ho : (Value.slice (some ⟨gr, 0, none⟩) n cd).ownBlock = some gr) (i : Nat) (x : Int) :
    SimW w n A c g go (some ⟨gr, 0, none⟩) R F cd cr cf (dn.set i x) rn fn now (W.setCell ⟨gr, i, none⟩ (.int .i64 x)) := by
  have hg := ne.gD gr ho
  have h1 := (Kd.zc3 h.dR (i : Int) x).1
  rw [Int.toNat_natCast] at h1
  refine ⟨?_, ?_, ?_, ?_, ?_, ?_, h1, Kd.zb4 h.rR (fun k hk e => ne.DR gr ho (by rw [← hk]; exact congrArg some e.symm)) _, Kd.zb4 h.fR (fun k hk e => ne.DF gr ho (by rw [← hk]; exact congrArg some e.symm)) _, h.bel.setCell (Kd.zcq h.dR _ ho) _⟩
  · rw [World.cell?_setCell_far _ _ _ _ hg.1]; exact h.jobs
  · rw [World.cell?_setCell_far _ _ _ _ hg.1]; exact h.done
  · rw [World.cell?_setCell_far _ _ _ _ hg.1]; exact h.time
  · rw [World.frozen?_setCell]; exact h.ftime
  · rw [World.cell?_setCell_far _ _ _ _ hg.2]; exact h.o0
  · rw [World.cell?_setCell_far _ _ _ _ hg.2]; exact h.o1
end
set_option maxHeartbeats 4000000 in
theorem zf7 (A : Option Addr) (c : Nat) (n : Nat) (hn : n ≤ 1000000) (w : World) :
    Calls Try.prog 98 #[.slice A n c] w fun e w' => ∃ (g : Nat) (D : Option Addr) (cd : Nat), e = .returned (.pointer (some ⟨g, 0, none⟩)) ∧ w.heap.size ≤ g ∧ g < w'.heap.size ∧
      w'.cell? ⟨g, 0, none⟩ = some (.slice A n c) ∧ w'.cell? ⟨g, 1, none⟩ = some (.slice D n cd) ∧ w'.cell? ⟨g, 2, none⟩ = some (.int .i64 0) ∧ w'.frozen? ⟨g, 2, none⟩ = false ∧
      Kd.R (Kd.int .i64) 3 w' w.heap.size (fun k => k ≠ g) (.slice D n cd) (List.replicate n 0) ∧ Below w.heap.size w w' := by
  have hn2 : IntKind.i64.wrap (n : Int) = (n : Int) := by rw [IntKind.wrap_i64]; omega
  go_enter Try.func98, Try.ntmps98
  go_wp2_with (first
    | ((with_reducible refine zbn (N := 6) rfl ?_); refine Kd.zfe (Kd.int .i64) _ 3 rfl (N := 6) rfl 27 _ _ rfl (n : Int) rfl rfl Try.underlying27 (.int .i64 0) 8 info3 rfl (by decide) (by omega) 0 (ok := fun _ => True) (okp := fun _ => True) rfl (fun _ hk => hk) trivial (by omega) (by omega) (Below.refl _ _) (Nat.le_refl _) ?_; intro v w4 ho5 hb hg_ hnew_; have HO := za.mk ho5; have HB := za.mk hb; clear hg_ hnew_ ho5 hb; obtain ⟨A2, c2, ev⟩ := Kd.zb8 HO.out; subst ev))
  go_ret
  have hO := HO.out
  rw [List.length_replicate, Int.toNat_natCast] at hO
  refine ⟨_, A2, c2, rfl, HB.out.size, by simp, by simp, ?_, by simp, by simp, Kd.zbb (Kd.zbj (Kd.zeg hO) _) (fun k hk => by have := hk.2.2.1; omega), zbo HB.out _⟩
  simp [Int.toNat_natCast]
theorem none_sl (n : Nat) (hn : n ≤ 1000000) (x : Int) (hx : x = (n : Int)) (w : World) :
    Calls Try.prog 99 #[.int .i64 x] w fun e w' => ∃ (A : Option Addr) (c : Nat), e = .returned (.slice A n c) ∧ Kd.R (Kd.int .i64) 3 w' w.heap.size (fun _ => True) (.slice A n c) (List.replicate n (-1)) ∧ Below w.heap.size w w' := by
  subst hx
  refine (ze2.calls (n : Int) (List.replicate n (-1)) w (by unfold ze2.f; rw [if_pos (by omega)]; rfl)).mono ?_
  rintro e w' ⟨v, rfl, hr, hb⟩
  obtain ⟨A, c, ev⟩ := Kd.zb8 hr
  subst ev
  rw [List.length_replicate] at hr ⊢
  exact ⟨A, c, rfl, hr, hb⟩
set_option maxHeartbeats 16000000 in
theorem zg2 (pk : List Int → Int → Int) (pn : Nat) (pb pl : Array Value) (ep : ∀ args w, (callFunc pn args).run Try.prog w = .ok (.enter pn args) w)
    (A : Option Addr) (c : Nat) (js : List JobT) (w : World) (hr : Kd.C k34 w A js.length js) (hlen : js.length ≤ 1000)
    (hrng : ∀ dn now, pk dn now = -1 ∨ ∃ b : Nat, b < js.length ∧ pk dn now = (b : Int))
    (hp : ∀ (W : World) (g : Nat) (D : Option Addr) (cd : Nat) (dn : List Int) (t : Nat), t < 120 → Below w.heap.size w W → Mach W g A c js D cd dn (t : Int) → Calls Try.prog pn (pb ++ #[.pointer (some ⟨g, 0, none⟩)] ++ pl) W fun e w' => e = .returned (.int .i64 (pk dn (t : Int))) ∧ Below W.heap.size W w') :
    Calls Try.prog 49 #[.slice A js.length c, .func (.func pn) pb pl] w fun e w' => ∃ v0_ v1_ : Value, e = .returned (.agg #[v0_, v1_]) ∧ Kd.R (Kd.int .i64) 3 w' w.heap.size (fun k_ => some k_ ≠ (v1_ : Value).ownBlock) v0_ (simR pk js).1 ∧ Kd.R (Kd.int .i64) 3 w' w.heap.size (fun k_ => some k_ ≠ (v0_ : Value).ownBlock) v1_ (simR pk js).2 ∧ Below w.heap.size w w' := by
  have HR := za.mk hr
  have HP := za.mk hp
  have HG := za.mk hrng
  clear hr hp hrng
  have tok1 : True := trivial
  go_enter Try.func49, Try.ntmps49
  go_wp2_with (first
    | (go_at_call 98; refine (zf7 A c js.length (by omega) _).mono ?_; rintro e w1 ⟨g, D, cd, rfl, hg0, hg1, hj, hd, ht, hf, hdr, hb⟩; have N1 := za.mk (And.intro hg0 (And.intro hg1 (And.intro hj (And.intro hd (And.intro ht (And.intro hf (And.intro hdr hb))))))); clear hg0 hg1 hj hd ht hf hdr hb)
    | (go_at_call 99; have _t := tok1; refine (none_sl 120 (by omega) _ rfl _).mono ?_; rintro e w2 ⟨R, cr, rfl, hr2, hb2⟩; have N2 := za.mk (And.intro hr2 hb2); clear hr2 hb2 tok1)
    | (go_at_call 99; refine (none_sl js.length (by omega) _ rfl _).mono ?_; rintro e w3 ⟨F, cf, rfl, hr3, hb3⟩; have N3 := za.mk (And.intro hr3 hb3); clear hr3 hb3))
  have hne : SimNe (w.alloc (.cells #[.slice none 0 0, .slice none 0 0] 29)) js.length g w3.heap.size D R F cd cr cf ∧ SimW (w.alloc (.cells #[.slice none 0 0, .slice none 0 0] 29)) js.length A c g w3.heap.size D R F cd cr cf (simT pk js 0).1 (zfa pk js 0) (simT pk js 0).2 ((0 : Nat) : Int) (w3.alloc (.cells #[.slice R 120 cr, .slice F js.length cf] 29)) := by
    obtain ⟨hg0, hg1, hj, hd, ht, hf, hdr, hb⟩ := N1.out
    obtain ⟨hr2, hb2⟩ := N2.out
    obtain ⟨hr3, hb3⟩ := N3.out
    have s1 := hb.size
    have s2 := hb2.size
    have s3 := hb3.size
    have h14 : Below w1.heap.size w1 (w3.alloc (.cells #[.slice R 120 cr, .slice F js.length cf] 29)) := zbo (zh hb2 hb3) _
    have h24 : Below w2.heap.size w2 (w3.alloc (.cells #[.slice R 120 cr, .slice F js.length cf] 29)) := zbo hb3 _
    have h34 : Below w3.heap.size w3 (w3.alloc (.cells #[.slice R 120 cr, .slice F js.length cf] 29)) := zbo (Below.refl _ _) _
    have dlt := Kd.R_lt hdr
    have rlt := Kd.R_lt hr2
    have rge := Kd.zcq hr2
    have flt := Kd.R_lt hr3
    have fge := Kd.zcq hr3
    have dg := hdr.1
    refine ⟨⟨hg0, by omega, by omega, fun k hk => ⟨dg k hk, by have := dlt k hk; omega⟩, fun k hk => ?_, fun k hk => ?_, fun k hk e => ?_, fun k hk e => ?_, fun k hk e => ?_⟩, ?_⟩
    · have := rlt k hk; have := rge k hk; omega
    · have := flt k hk; have := fge k hk; omega
    · have := dlt k hk; have := rge k e.symm; omega
    · have := dlt k hk; have := fge k e.symm; omega
    · have := rlt k hk; have := fge k e.symm; omega
    · refine ⟨(h14.cell (World.block_lt_of_cell? _ _ hj)).trans hj, (h14.cell (World.block_lt_of_cell? _ _ hd)).trans hd, (h14.cell (World.block_lt_of_cell? _ _ ht)).trans ht, (h14.frozen (World.block_lt_of_cell? _ _ ht)).trans hf, by simp, by simp, Kd.zi (Kd.zd3 rfl hdr) h14, ?_, Kd.zi (Kd.zd3 rfl (Kd.zce hr3 (by omega))) h34, zh hb h14⟩
      have h := Kd.zi (Kd.zd3 rfl (Kd.zce hr2 (by omega : (w.alloc (.cells #[.slice none 0 0, .slice none 0 0] 29)).heap.size ≤ w1.heap.size))) h24
      simpa [zfa] using h
  have NE := za.mk hne.1
  have S0 := za.mk hne.2
  have HB0 : za (Below w.heap.size w (w.alloc (.cells #[.slice none 0 0, .slice none 0 0] 29))) := ⟨zbo (Below.refl _ _) _⟩
  clear hne N1 N2 N3
  generalize w3.heap.size = go at NE S0 ⊢
  go_loopg [7] 120 (fun gg _ wr => ∃ t : Nat, t ≤ 120 ∧ 120 - t ≤ gg ∧ za (SimW (w.alloc (.cells #[.slice none 0 0, .slice none 0 0] 29)) js.length A c g go D R F cd cr cf (simT pk js t).1 (zfa pk js t) (simT pk js t).2 (t : Int) wr))
  case atStart => exact ⟨0, by omega, by omega, S0⟩
  case round =>
    obtain ⟨t, ht, hgg, SI⟩ := hrel
    have tm := SI.out.time
    by_cases hlt : t < 120
    · have hltz : (t : Int) < 120 := by omega
      have hcall := HP.out wr g D cd (simT pk js t).1 t hlt (zb5 HB0.out HB0.out.size SI.out.bel) (SI.out.mach rfl (Kd.zeh HR.out _) (zfn pk js t).1)
      have hrl := runRow_len pk js t ht
      obtain ⟨gr, cr', er, _, _, _, _⟩ := Kd.zd1 SI.out.rR (by omega)
      injection er with er1 er2 er3
      subst er1
      clear er2 er3
      rcases HG.out (simT pk js t).1 (t : Int) with hi | ⟨b, hb, hi⟩
      · rw [hi] at hcall
        have HI := za.mk hi
        clear hi hrl
        go_wp2_with (go_at_fn pn; refine hcall.mono ?_; rintro e w5 ⟨rfl, hb5⟩; have S5 := za.mk (SI.out.below hb5); have tm5 := S5.out.time; have o05 := S5.out.o0; obtain ⟨cx, fx⟩ := Kd.zdd 0 S5.out.rR (t : Int) (by omega) hltz; rw [Int.toNat_natCast] at cx fx; clear hb5)
        go_big_region
        have S6 := za.mk ((S5.out.setRun NE.out rfl t (-1)).below (zb9 (Below.refl _ _)))
        have tm6 := S6.out.time
        have ft6 := S6.out.ftime
        clear tm5 o05 cx fx hcall S5
        generalize (w5.setCell ⟨gr, t, none⟩ (Value.int .i64 (-1))).drew = w6 at S6 tm6 ft6 ⊢
        go_wp2
        go_roundg (120 - (t + 1))
        case measure => omega
        case rel =>
          refine ⟨t + 1, by omega, by omega, ⟨?_⟩⟩
          have h := S6.out.zim NE.out ((t : Int) + 1)
          rw [show (-1 : Int) = runT pk js t from HI.out.symm, zf0 pk js t hlt] at h
          rw [zh2 HI.out]
          exact h
      · rw [hi] at hcall
        have HI := za.mk hi
        have hl := zfn pk js t
        obtain ⟨gd, cd', er, _, _, _, _⟩ := Kd.zd1 SI.out.dR (by omega)
        injection er with er1 er2 er3
        subst er1
        clear er2 er3
        obtain ⟨gf, cf', er, _, _, _, _⟩ := Kd.zd1 SI.out.fR (by omega)
        injection er with er1 er2 er3
        subst er1
        clear er2 er3
        have hbz : (b : Int) < (js.length : Int) := by omega
        obtain ⟨ad, ea, hx0, hx1, hx2, hx3⟩ := zc4 HR.out (b : Int) (by omega) hbz
        cases ea
        rw [Int.toNat_natCast] at hx3
        obtain ⟨y, hy⟩ : ∃ y, (jrd js b).f3 = y := ⟨_, rfl⟩
        obtain ⟨x, hx⟩ : ∃ x, rd (simT pk js t).1 (b : Int) = x := ⟨_, rfl⟩
        have hx3' := hx3
        rw [show (ze js (b : Int)).f3 = y from hy] at hx3'
        have HX3 := za.mk hx3'
        have STEP := za.mk (zh3 hi hx hy)
        have HX := za.mk hx
        have LEN := za.mk hl
        clear hi hrl hl hx0 hx1 hx2 hx3 hx3' hy hx
        go_wp2_with (go_at_fn pn; refine hcall.mono ?_; rintro e w5 ⟨rfl, hb5⟩; have S5 := za.mk (SI.out.below hb5); have tm5 := S5.out.time; have o05 := S5.out.o0; obtain ⟨cx, fx⟩ := Kd.zdd 0 S5.out.rR (t : Int) (by omega) hltz; rw [Int.toNat_natCast] at cx fx; clear hb5)
        go_big_region
        have S6 := za.mk ((S5.out.setRun NE.out rfl t (b : Int)).below (zb9 (Below.refl _ _)))
        have dn6 := S6.out.done
        obtain ⟨cd6, fd6⟩ := Kd.zdd 0 S6.out.dR (b : Int) (by omega) hbz
        rw [Int.toNat_natCast, show rdOf 0 (simT pk js t).1 (b : Int) = x from HX.out] at cd6
        rw [Int.toNat_natCast] at fd6
        clear tm5 o05 cx fx hcall S5
        generalize (w5.setCell ⟨gr, t, none⟩ (Value.int .i64 (b : Int))).drew = w6 at S6 dn6 cd6 fd6 ⊢
        go_wp2_with fail
        have S7 := za.mk (S6.out.setDone NE.out rfl b (wrap64 (x + 1)))
        have dn7 := S7.out.done
        have tm7 := S7.out.time
        have ft7 := S7.out.ftime
        have o17 := S7.out.o1
        have cd7 := World.cell?_setCell_same w6 ⟨gd, b, none⟩ (Value.int .i64 (wrap64 (x + 1))) cd6
        obtain ⟨cf7, ff7⟩ := Kd.zdd 0 S7.out.fR (b : Int) (by omega) hbz
        rw [Int.toNat_natCast] at cf7 ff7
        have hx7 := HX3.out
        have hx7 := (HB0.out.cell (World.block_lt_of_cell? _ _ hx7)).trans hx7
        have hx7 := (S7.out.bel.cell (World.block_lt_of_cell? _ _ hx7)).trans hx7
        clear dn6 cd6 fd6 S6
        generalize w6.setCell ⟨gd, b, none⟩ (Value.int .i64 (wrap64 (x + 1))) = w7 at S7 dn7 tm7 ft7 o17 cd7 cf7 ff7 hx7 ⊢
        generalize wrap64 (x + 1) = z at S7 cd7 STEP ⊢
        by_cases hq : z = y
        · subst hq
          rw [if_pos rfl] at STEP
          go_big_region
          go_wp2_with fail
          have S8 := za.mk (S7.out.below (zb9 (Below.refl _ _)))
          have tm8 := S8.out.time
          have o18 := S8.out.o1
          have cf8 : w7.drew.cell? ⟨gf, b, none⟩ = _ := cf7
          have ff8 : w7.drew.frozen? ⟨gf, b, none⟩ = false := ff7
          have hw : IntKind.i64.wrap ((t : Int) + 1) = (t : Int) + 1 := by rw [IntKind.wrap_i64]; omega
          clear dn7 tm7 ft7 o17 cd7 cf7 ff7 hx7 S7
          generalize w7.drew = w8 at S8 tm8 o18 cf8 ff8 ⊢
          go_big_region
          have S9 := za.mk ((S8.out.setFin NE.out rfl b ((t : Int) + 1)).below (zb9 (Below.refl _ _)))
          have tm9 := S9.out.time
          have ft9 := S9.out.ftime
          clear tm8 o18 cf8 ff8 hw S8
          generalize (w8.setCell ⟨gf, b, none⟩ (Value.int .i64 ((t : Int) + 1))).drew = w9 at S9 tm9 ft9 ⊢
          go_wp2
          go_roundg (120 - (t + 1))
          case measure => omega
          case rel =>
            refine ⟨t + 1, by omega, by omega, ⟨?_⟩⟩
            have h := S9.out.zim NE.out ((t : Int) + 1)
            rw [show (b : Int) = runT pk js t from HI.out.symm, zf0 pk js t hlt] at h
            rw [STEP.out]
            exact h
        · have hq2 : (z == y) = false := by simpa using hq
          have hq3 : decide (z = y) = false := by simpa using hq
          rw [if_neg hq] at STEP
          have QN := za.mk hq
          clear hq
          go_big_region
          have S8 := za.mk (S7.out.below (zb9 (Below.refl _ _)))
          have tm8 := S8.out.time
          have ft8 := S8.out.ftime
          clear dn7 tm7 ft7 o17 cd7 cf7 ff7 hx7 S7
          generalize w7.drew = w8 at S8 tm8 ft8 ⊢
          go_wp2
          go_roundg (120 - (t + 1))
          case measure => omega
          case rel =>
            refine ⟨t + 1, by omega, by omega, ⟨?_⟩⟩
            have h := S8.out.zim NE.out ((t : Int) + 1)
            rw [show (b : Int) = runT pk js t from HI.out.symm, zf0 pk js t hlt] at h
            rw [STEP.out]
            exact h
    · have hltz : ¬ (t : Int) < 120 := by omega
      obtain rfl : t = 120 := by omega
      have o0 := SI.out.o0
      have o1 := SI.out.o1
      have BKr : wr.heap[w.heap.size]? = some (.cells #[.slice none 0 0, .slice none 0 0] 29 (0, 0)) := (SI.out.bel.block w.heap.size (by simp)).trans (zfw w _)
      have r0 : wr.cell? ⟨w.heap.size, 0, none⟩ = some (.slice none 0 0) := (zf BKr 0).trans rfl
      have r1 : wr.cell? ⟨w.heap.size, 1, none⟩ = some (.slice none 0 0) := (zf BKr 1).trans rfl
      have f0 := zb BKr 0
      have f1 := zb BKr 1
      have BK := za.mk BKr
      clear BKr
      go_wp2
      refine bodyPost_ret (results_cell_row rfl _ _ w.heap.size 29 #[.slice R 120 cr, .slice F js.length cf] (0, 0) _ rfl (by refine zcb (cs := #[.slice R 120 cr, .slice none 0 0]) ?_ 1 _ rfl; refine zcb (cs := #[.slice none 0 0, .slice none 0 0]) ?_ 0 _ rfl; exact BK.out) Try.underlying29 rfl (by kernel_rfl)) rfl ?_
      have hsz : w.heap.size < (w.alloc (.cells #[.slice none 0 0, .slice none 0 0] 29)).heap.size := by simp
      have mv : ∀ {v : Value} {l : List Int}, Kd.R (Kd.int .i64) 3 wr (w.alloc (.cells #[.slice none 0 0, .slice none 0 0] 29)).heap.size (fun k => some k = v.ownBlock) v l → ∀ x y, Kd.R (Kd.int .i64) 3 ((wr.setCell ⟨w.heap.size, 0, none⟩ x).setCell ⟨w.heap.size, 1, none⟩ y) w.heap.size (fun k => some k = v.ownBlock) v l := fun h x y =>
        Kd.zce (Kd.zb4 (Kd.zb4 h (fun k hk e => by have := Kd.zcq h k hk.symm; simp only at e; omega) x) (fun k hk e => by have := Kd.zcq h k hk.symm; simp only at e; omega) y) (by omega)
      refine ⟨_, _, rfl, ?_, ?_, ?_⟩
      · have h := mv SI.out.rR (.slice R 120 cr) (.slice F js.length cf)
        have e : zfa pk js 120 = (simR pk js).1 := by simp [zfa, simR]
        rw [e] at h
        exact Kd.zbb h (fun k hk e2 => NE.out.RF k hk.symm e2)
      · exact Kd.zbb (mv SI.out.fR (.slice R 120 cr) (.slice F js.length cf)) (fun k hk e2 => NE.out.RF k e2.symm hk)
      · exact ((zb5 HB0.out HB0.out.size SI.out.bel).setCell (Nat.le_refl _) _).setCell (Nat.le_refl _) _
theorem zf9 {W : World} {b g : Nat} {ok : Nat → Prop} {v : Value} {l : List Int} (hg : g < b) (h : Kd.R (Kd.int .i64) 3 W b ok v l) (x y : Value) : Kd.R (Kd.int .i64) 3 ((W.setCell ⟨g, 0, none⟩ x).setCell ⟨g, 1, none⟩ y) b (fun k => some k = v.ownBlock ∧ ok k) v l :=
  Kd.zb4 (Kd.zb4 (Kd.R_tight2 rfl h) (fun k hk e => by have := Kd.zcq h k hk.1.symm; simp only at e; omega) x) (fun k hk e => by have := Kd.zcq h k hk.1.symm; simp only at e; omega) y
theorem edfD_rng (js : List JobT) (dn : List Int) (now : Int) : edfD js dn now = -1 ∨ ∃ b : Nat, b < js.length ∧ edfD js dn now = (b : Int) := zgo _ _ _
def pauD (js : List JobT) (tk : Int → Bool) (dn : List Int) (now : Int) : Int := if tk now = true then -1 else edfD js dn now
theorem pauD_rng (js : List JobT) (tk : Int → Bool) (dn : List Int) (now : Int) : pauD js tk dn now = -1 ∨ ∃ b : Nat, b < js.length ∧ pauD js tk dn now = (b : Int) := by
  unfold pauD
  split
  · exact Or.inl rfl
  · exact edfD_rng _ _ _
set_option maxHeartbeats 4000000 in
theorem zhg (tk : Int → Bool) (tn : Nat) (tl : Array Value) (et : ∀ args w, (callFunc tn args).run Try.prog w = .ok (.enter tn args) w) (g : Nat) (A : Option Addr) (c : Nat) (js : List JobT) (D : Option Addr) (cd : Nat) (dn : List Int) (t : Nat) (B : Addr) (w : World) (hB : w.cell? B = some (.func (.func tn) #[] tl)) (h : Mach w g A c js D cd dn (t : Int))
    (ht : ∀ q : Nat, Calls Try.prog tn (#[.int .i64 t] ++ tl) (w.drewN q) fun e w' => e = .returned (.bool (tk (t : Int))) ∧ ∃ n, w' = (w.drewN q).drewN n) :
    Calls Try.prog 108 #[.pointer (some ⟨g, 0, none⟩), .pointer (some B)] w fun e w' => e = .returned (.int .i64 (pauD js tk dn (t : Int))) ∧ Below w.heap.size w w' := by
  have HM := za.mk h
  have HT := za.mk ht
  have tm := h.time
  clear h ht
  cases hk : tk (t : Int) with
  | true =>
    have HT2 := HT.out
    rw [hk] at HT2
    have e : pauD js tk dn (t : Int) = -1 := by unfold pauD; rw [if_pos hk]
    rw [e]
    clear e HT hk
    go_enter Try.func108, Try.ntmps108
    go_wp2_with fail
    go_quiet (first | (go_at_fn tn; refine Calls.quiet_of (HT2 _)))
    go_wp2
    go_ret
    exact ⟨rfl, zbk (Below.refl _ _) _⟩
  | false =>
    have HT2 := HT.out
    rw [hk] at HT2
    have e : pauD js tk dn (t : Int) = edfD js dn (t : Int) := by unfold pauD; rw [if_neg (by rw [hk]; simp)]
    rw [e]
    clear e HT hk
    go_enter Try.func108, Try.ntmps108
    go_wp2_with fail
    go_quiet (first | (go_at_fn tn; refine Calls.quiet_of (HT2 _)))
    go_wp2_with (go_at_call 54; refine (edf_calls g A c js D cd dn (t : Int) _ (HM.out.below (zbk (Below.refl _ _) _))).mono ?_; rintro e w1 ⟨rfl, hb⟩; have HB := za.mk (zh (zbk (Below.refl w.heap.size w) _) hb); clear hb)
    go_ret
    exact ⟨rfl, HB.out⟩
set_option maxHeartbeats 4000000 in
theorem zh4 (tk : Int → Bool) (tn : Nat) (tl : Array Value) (et : ∀ args w, (callFunc tn args).run Try.prog w = .ok (.enter tn args) w) (A : Option Addr) (c : Nat) (js : List JobT) (w : World) (hr : Kd.C k34 w A js.length js) (hlen : js.length ≤ 1000)
    (ht : ∀ (W : World) (t : Nat), t < 120 → Below w.heap.size w W → Calls Try.prog tn (#[.int .i64 t] ++ tl) W fun e w' => e = .returned (.bool (tk (t : Int))) ∧ ∃ n, w' = W.drewN n) :
    Calls Try.prog 73 #[.slice A js.length c, .func (.func tn) #[] tl] w fun e w' => ∃ v0_ v1_ : Value, e = .returned (.agg #[v0_, v1_]) ∧ Kd.R (Kd.int .i64) 3 w' w.heap.size (fun k_ => some k_ ≠ (v1_ : Value).ownBlock) v0_ (simR (pauD js tk) js).1 ∧ Kd.R (Kd.int .i64) 3 w' w.heap.size (fun k_ => some k_ ≠ (v0_ : Value).ownBlock) v1_ (simR (pauD js tk) js).2 ∧ Below w.heap.size w w' := by
  obtain ⟨W0, hW0⟩ : ∃ W0 : World, W0 = (w.alloc (.cells #[.func (.func tn) #[] tl] 82)).alloc (.cells #[.slice none 0 0, .slice none 0 0] 29) := ⟨_, rfl⟩
  have B0 : Below w.heap.size w W0 := by rw [hW0]; exact zbo (zbo (Below.refl _ _) _) _
  have BK0 : W0.heap[w.heap.size + 1]? = some (.cells #[.slice none 0 0, .slice none 0 0] 29 (0, 0)) := by
    rw [hW0]
    have h := zfw (w.alloc (.cells #[.func (.func tn) #[] tl] 82)) (.cells #[.slice none 0 0, .slice none 0 0] 29)
    rwa [show (w.alloc (.cells #[.func (.func tn) #[] tl] 82)).heap.size = w.heap.size + 1 by simp] at h
  have CB : W0.cell? ⟨w.heap.size, 0, none⟩ = some (.func (.func tn) #[] tl) := by rw [hW0]; exact ((zbo (Below.refl _ _) _).cell (p := ⟨w.heap.size, 0, none⟩) (by simp)).trans (by simp)
  have S0 : w.heap.size + 1 < W0.heap.size := by rw [hW0]; simp
  have HS := za.mk (zg2 (pauD js tk) 108 #[] #[.pointer (some ⟨w.heap.size, 0, none⟩)] (enters_of Try.func108 (by kernel_rfl) rfl) A c js W0 (Kd.zbr hr B0) hlen (pauD_rng js tk)
    (fun W g D cd dn t htl hb hM => zhg tk tn tl et g A c js D cd dn t ⟨w.heap.size, 0, none⟩ W ((hb.cell (p := ⟨w.heap.size, 0, none⟩) (show w.heap.size < W0.heap.size by omega)).trans CB) hM (fun q => ht (W.drewN q) t htl (zbk (zb5 B0 B0.size hb) q))))
  have HB0 := za.mk B0
  have HBK := za.mk BK0
  have HS0 := za.mk S0
  have HW := za.mk hW0
  clear hr ht B0 BK0 CB S0 hW0
  go_enter Try.func73, Try.ntmps73
  go_wp2_with (go_at_call 49; (try rw [← HW.out]); refine HS.out.mono ?_; rintro e w1 ⟨v0, v1, rfl, hR0, hR1, hb⟩; obtain ⟨A0, c0, ev⟩ := Kd.zb8 hR0; subst ev; obtain ⟨A1, c1, ev⟩ := Kd.zb8 hR1; subst ev; have H0 := za.mk hR0; have H1 := za.mk hR1; have HB := za.mk (zb5 HB0.out HB0.out.size hb); have BK1 := zk HBK.out hb; have r0 := (zf BK1 0); have r1 := (zf BK1 1); have f0 := zb BK1 0; have f1 := zb BK1 1; have BK := za.mk BK1; clear hR0 hR1 hb BK1)
  refine bodyPost_ret (results_cell_row rfl _ _ (w.heap.size + 1) 29 #[.slice A0 (simR (pauD js tk) js).1.length c0, .slice A1 (simR (pauD js tk) js).2.length c1] (0, 0) _ rfl (by refine zcb (cs := #[.slice A0 (simR (pauD js tk) js).1.length c0, .slice none 0 0]) ?_ 1 _ rfl; refine zcb (cs := #[.slice none 0 0, .slice none 0 0]) ?_ 0 _ rfl; exact BK.out) Try.underlying29 rfl (by kernel_rfl)) rfl ?_
  exact ⟨_, _, rfl, Kd.zce (Kd.zbb (zf9 HS0.out H0.out _ _) (fun k hk => hk.2)) HB0.out.size, Kd.zce (Kd.zbb (zf9 HS0.out H1.out _ _) (fun k hk => hk.2)) HB0.out.size, (HB.out.setCell (by simp) _).setCell (by simp) _⟩
def zco.f (a0 : Int) (a1 : Int) (a2 : Int) : Option (Bool) := if a0 ≥ a1 then (some (decide (a0 ≤ a2))) else (some false)
set_option maxHeartbeats 8000000 in
theorem zco.calls (a0 : Int) (a1 : Int) (a2 : Int) (r : Bool) (w : World) (h : zco.f a0 a1 a2 = some r) :
  Calls Try.prog 103 #[.int .i64 a0, .int .i64 a1, .int .i64 a2] w fun e w' => e = .returned (.bool r) ∧ zbz w w' := by
 have H : (if a0 ≥ a1 then (some (decide (a0 ≤ a2))) else (some false)) = some r := h
 clear h
 by_cases c4 : a0 ≥ a1
 ·rw [if_pos c4] at H
  have c4b0 : decide (a1 ≤ a0) = true := decide_eq_true c4;clear c4;obtain rfl := Option.some.inj H;go_enter Try.func103, Try.ntmps103;go_wp2;go_ret;exact ⟨by first | rfl | (simp; done) | (simp [*]; done), by repeat (first | exact zbz.refl _ | apply zbz.step)⟩
 ·rw [if_neg c4] at H
  have c4b0 : decide (a1 ≤ a0) = false := decide_eq_false c4;clear c4;obtain rfl := Option.some.inj H;go_enter Try.func103, Try.ntmps103;go_wp2;go_ret;exact ⟨by first | rfl | (simp; done) | (simp [*]; done), by repeat (first | exact zbz.refl _ | apply zbz.step)⟩
abbrev ze8 := S88
def trd (l : List ze8) (i : Int) : ze8 := zu l i
def inRng (l : List ze8) (j : JobT) : Bool := decide (0 ≤ j.f0 ∧ j.f0 ≤ (l.length : Int) - 1)
def relOk (j : JobT) : Bool := decide (0 ≤ j.f1 ∧ j.f1 ≤ 119)
def exOk (l : List ze8) (j : JobT) : Bool := decide (1 ≤ j.f3 ∧ j.f3 ≤ (trd l j.f0).f0)
def bhd (p j : JobT) : Bool := decide (p.f1 > j.f1) || (decide (p.f1 = j.f1) && decide (p.f0 ≥ j.f0))
def zf1 (l : List ze8) (js : List JobT) (i : Nat) : Bool := inRng l (jrd js i) && relOk (jrd js i) && exOk l (jrd js i) && (decide (i = 0) || !(bhd (jrd js (i - 1)) (jrd js i)))
def allB (p : Nat → Bool) : Nat → Bool
  | 0 => true
  | n + 1 => allB p n && p n
theorem zf2 {p : Nat → Bool} {i : Nat} (h : p i = false) : ∀ n, i < n → allB p n = false
  | 0, hn => by omega
  | n + 1, hn => by
    rw [allB]
    by_cases e : i = n
    · subst e; rw [h]; simp
    · rw [zf2 h n (by omega)]; rfl
theorem zgp {p : Nat → Bool} : ∀ {n : Nat}, allB p n = true → ∀ i, i < n → p i = true
  | 0, _, i, hi => by omega
  | n + 1, h, i, hi => by
    rw [allB, Bool.and_eq_true] at h
    by_cases e : i = n
    · subst e; exact h.2
    · exact zgp h.1 i (by omega)
def ordB (l : List ze8) (js : List JobT) : Bool := allB (zf1 l js) js.length && decide ((js.length : Int) ≤ 60)
set_option maxHeartbeats 4000000 in
theorem jl1_calls (A0 : Option Addr) (c0 : Nat) (l0 : List ze8) (B : Addr) (a : Int) (h0 : 0 ≤ a) (h1 : a < (l0.length : Int)) (w : World) (hB : w.cell? B = some (.slice A0 l0.length c0)) (hr0 : Kd.C k88 w A0 l0.length l0) :
    Calls Try.prog 92 #[.int .i64 a, .pointer (some B)] w fun e w' => e = .returned (.int .i64 (trd l0 a).f0) ∧ zbz w w' := by
  obtain ⟨ad, ea, hx0, hx1, hx2⟩ := ze1 hr0 a h0 h1
  cases ea
  unfold trd
  clear hr0 hx1 hx2
  generalize (zu l0 a).f0 = x at hx0 ⊢
  go_enter Try.func92, Try.ntmps92
  go_wp2
  go_ret
  exact ⟨rfl, zbz.refl _⟩
set_option maxHeartbeats 4000000 in
theorem jl2_calls (A0 : Option Addr) (c0 : Nat) (l0 : List ze8) (B : Addr) (a : Int) (h0 : 0 ≤ a) (h1 : a < (l0.length : Int)) (w : World) (hB : w.cell? B = some (.slice A0 l0.length c0)) (hr0 : Kd.C k88 w A0 l0.length l0) :
    Calls Try.prog 95 #[.int .i64 a, .pointer (some B)] w fun e w' => e = .returned (.int .i64 (trd l0 a).f2) ∧ zbz w w' := by
  obtain ⟨ad, ea, hx0, hx1, hx2⟩ := ze1 hr0 a h0 h1
  cases ea
  unfold trd
  clear hr0 hx0 hx1
  generalize (zu l0 a).f2 = x at hx2 ⊢
  go_enter Try.func95, Try.ntmps95
  go_wp2
  go_ret
  exact ⟨rfl, zbz.refl _⟩
def zh5 (l : List ze8) (j : JobT) : Bool := j.f2 != wrap64 (j.f1 + (trd l j.f0).f1)
set_option maxHeartbeats 4000000 in
theorem jl3_calls (A0 : Option Addr) (c0 : Nat) (l0 : List ze8) (B : Addr) (j : JobT) (h0 : 0 ≤ j.f0) (h1 : j.f0 < (l0.length : Int)) (w : World) (hB : w.cell? B = some (.slice A0 l0.length c0)) (hr0 : Kd.C k88 w A0 l0.length l0) :
    Calls Try.prog 97 #[.agg #[.int .i64 j.f0, .int .i64 j.f1, .int .i64 j.f2, .int .i64 j.f3], .pointer (some B)] w fun e w' => e = .returned (.bool (zh5 l0 j)) ∧ Below w.heap.size w w' := by
  have hBl := World.block_lt_of_cell? _ _ hB
  have hB2 : ∀ o, (w.alloc o).cell? B = some (.slice A0 l0.length c0) := fun o => (World.cell?_alloc_lt _ _ _ hBl).trans hB
  obtain ⟨ad, ea, hx0, hx1, hx2⟩ := ze1 hr0 j.f0 h0 h1
  cases ea
  have hxl := World.block_lt_of_cell? _ _ hx1
  have hx3 := fun (o : Obj) => (show (w.alloc o).cell? _ = w.cell? _ from World.cell?_alloc_lt _ _ _ hxl).trans hx1
  unfold zh5 trd
  clear hr0 hx0 hx1 hx2 hBl hxl hB
  generalize (zu l0 j.f0).f1 = x at hx3 ⊢
  have hc2 := hB2 (.cells #[.int .i64 j.f0, .int .i64 j.f1, .int .i64 j.f2, .int .i64 j.f3] 34)
  have hx4 := hx3 (.cells #[.int .i64 j.f0, .int .i64 j.f1, .int .i64 j.f2, .int .i64 j.f3] 34)
  clear hB2 hx3
  go_enter Try.func97, Try.ntmps97
  go_wp2_with fail
  go_big_region
  all_goals go_wp2
  go_ret
  exact ⟨rfl, zb9 (zbo (Below.refl _ _) _)⟩
theorem in_is (a b c : Int) (v : Bool) (h : decide (b ≤ a ∧ a ≤ c) = v) : zco.f a b c = some v := by
  unfold zco.f
  subst h
  by_cases h1 : a ≥ b
  · rw [if_pos h1]; simp [show b ≤ a from h1]
  · rw [if_neg h1]; simp [show ¬ b ≤ a from h1]
set_option maxHeartbeats 16000000 in
theorem zhh (mn : Nat) (ml : Array Value) (em : ∀ args w, (callFunc mn args).run Try.prog w = .ok (.enter mn args) w) (l0 : List ze8) (A : Option Addr) (c : Nat) (js : List JobT) (hjl : js.length ≤ 1000000000) (hll : l0.length ≤ 1000000000) (w : World) (hm : ∀ (W : World) (a : Int), Below w.heap.size w W → 0 ≤ a → a < (l0.length : Int) → Calls Try.prog mn (#[.int .i64 a] ++ ml) W fun e w' => e = .returned (.int .i64 (trd l0 a).f0) ∧ ∃ q, w' = W.drewN q) (hr : Kd.C k34 w A js.length js) :
    Calls Try.prog 91 #[.slice A js.length c, .int .i64 (l0.length : Int), .func (.func mn) #[] ml] w fun e w' => e = .returned (.bool (ordB l0 js)) ∧ Below w.heap.size w w' := by
  have HMM := za.mk hm
  have HR := za.mk hr
  clear hm hr
  go_enter Try.func91, Try.ntmps91
  go_wp2
  go_loopg [11] js.length (fun gg v11 wr => ∃ i : Nat, v11 = .int .i64 i ∧ i ≤ js.length ∧ js.length - i ≤ gg ∧ za (Below w.heap.size w wr) ∧ za (allB (zf1 l0 js) i = true))
  case atStart => exact ⟨0, by go_num, by omega, by omega, ⟨Below.refl _ _⟩, ⟨rfl⟩⟩
  case round =>
    obtain ⟨i, rfl, hil, hgg, BW, OK⟩ := hrel
    by_cases hlt : i < js.length
    · have hltz : (i : Int) < (js.length : Int) := by omega
      obtain ⟨ad, ea, hx0, hx1, hx2, hx3⟩ := zc4 HR.out (i : Int) (by omega) hltz
      cases ea
      have hy0 := (BW.out.cell (World.block_lt_of_cell? w _ hx0)).trans hx0
      have hy1 := (BW.out.cell (World.block_lt_of_cell? w _ hx1)).trans hx1
      have hy2 := (BW.out.cell (World.block_lt_of_cell? w _ hx2)).trans hx2
      have hy3 := (BW.out.cell (World.block_lt_of_cell? w _ hx3)).trans hx3
      clear hx0 hx1 hx2 hx3
      rw [Int.toNat_natCast] at hy0 hy1 hy2 hy3
      obtain ⟨j, hj⟩ : ∃ j : JobT, j = jrd js i := ⟨_, rfl⟩
      rw [show ze js (i : Int) = j from hj.symm] at hy0 hy1 hy2 hy3
      have HJ := za.mk hj
      clear hj
      have hw : IntKind.i64.wrap ((l0.length : Int) - 1) = (l0.length : Int) - 1 := by rw [IntKind.wrap_i64]; omega
      have HW := za.mk hw
      clear hw
      have no : zf1 l0 js i = false → ordB l0 js = false := fun h => by unfold ordB; rw [zf2 h _ hlt]; rfl
      have NO := za.mk no
      clear no
      cases q1 : inRng l0 j with
      | false =>
        have H1 := za.mk (in_is j.f0 0 ((l0.length : Int) - 1) false q1)
        have F := za.mk (NO.out (by unfold zf1; rw [← HJ.out, q1]; rfl))
        clear q1
        go_wp2_with fail
        have hw := HW.out
        go_quiet ((first | (go_at_call 103; (with_reducible refine (zco.calls _ _ _ _ _ H1.out).mono ?_); rintro e w' ⟨rfl, ⟨nd, rfl⟩⟩; (try first | exact ⟨rfl, _, World.drewN_drewN _ _ _⟩ | exact ⟨rfl, _, Eq.trans (World.drewN_drewN _ _ _) (congrArg (World.drewN _) (Nat.add_assoc _ _ _))⟩ | exact ⟨rfl, _, rfl⟩))))
        clear hw
        go_wp2
        go_ret
        exact ⟨by rw [F.out]; rfl, by first | exact zbk (zbo BW.out _) _ | exact zb9 (zbo BW.out _) | exact zbo BW.out _⟩
      | true =>
        have H1 := za.mk (in_is j.f0 0 ((l0.length : Int) - 1) true q1)
        have Q1 := za.mk q1
        clear q1
        cases q2 : relOk j with
        | false =>
          have H2 := za.mk (in_is j.f1 0 119 false q2)
          have F := za.mk (NO.out (by unfold zf1; rw [← HJ.out, q2, Bool.and_false]; rfl))
          clear q2
          go_wp2_with fail
          have hw := HW.out
          go_quiet ((first | (go_at_call 103; (with_reducible refine (zco.calls _ _ _ _ _ H1.out).mono ?_); rintro e w' ⟨rfl, ⟨nd, rfl⟩⟩; (try first | exact ⟨rfl, _, World.drewN_drewN _ _ _⟩ | exact ⟨rfl, _, Eq.trans (World.drewN_drewN _ _ _) (congrArg (World.drewN _) (Nat.add_assoc _ _ _))⟩ | exact ⟨rfl, _, rfl⟩)) | (go_at_call 103; (with_reducible refine (zco.calls _ _ _ _ _ H2.out).mono ?_); rintro e w' ⟨rfl, ⟨nd, rfl⟩⟩; (try first | exact ⟨rfl, _, World.drewN_drewN _ _ _⟩ | exact ⟨rfl, _, Eq.trans (World.drewN_drewN _ _ _) (congrArg (World.drewN _) (Nat.add_assoc _ _ _))⟩ | exact ⟨rfl, _, rfl⟩))))
          clear hw
          go_wp2
          go_ret
          exact ⟨by rw [F.out]; rfl, by first | exact zbk (zbo BW.out _) _ | exact zb9 (zbo BW.out _) | exact zbo BW.out _⟩
        | true =>
          have H2 := za.mk (in_is j.f1 0 119 true q2)
          have Q2 := za.mk q2
          clear q2
          have hr1 := of_decide_eq_true Q1.out
          have HM := za.mk (fun (W : World) (hb : Below w.heap.size w W) => HMM.out W j.f0 hb (by omega) (by omega))
          clear hr1
          obtain ⟨z, hz⟩ : ∃ z, (trd l0 j.f0).f0 = z := ⟨_, rfl⟩
          rw [hz] at HM
          have HZ := za.mk hz
          clear hz
          cases q3 : exOk l0 j with
          | false =>
            have H3 := za.mk (in_is j.f3 1 z false (by have := q3; unfold exOk at this; rw [HZ.out] at this; exact this))
            have F := za.mk (NO.out (by unfold zf1; rw [← HJ.out, q3, Bool.and_false]; rfl))
            clear q3
            go_wp2_with fail
            have hw := HW.out
            go_quiet ((first | (go_at_call 103; (with_reducible refine (zco.calls _ _ _ _ _ H1.out).mono ?_); rintro e w' ⟨rfl, ⟨nd, rfl⟩⟩; (try first | exact ⟨rfl, _, World.drewN_drewN _ _ _⟩ | exact ⟨rfl, _, Eq.trans (World.drewN_drewN _ _ _) (congrArg (World.drewN _) (Nat.add_assoc _ _ _))⟩ | exact ⟨rfl, _, rfl⟩)) | (go_at_call 103; (with_reducible refine (zco.calls _ _ _ _ _ H2.out).mono ?_); rintro e w' ⟨rfl, ⟨nd, rfl⟩⟩; (try first | exact ⟨rfl, _, World.drewN_drewN _ _ _⟩ | exact ⟨rfl, _, Eq.trans (World.drewN_drewN _ _ _) (congrArg (World.drewN _) (Nat.add_assoc _ _ _))⟩ | exact ⟨rfl, _, rfl⟩)) | (go_at_call 103; (with_reducible refine (zco.calls _ _ _ _ _ H3.out).mono ?_); rintro e w' ⟨rfl, ⟨nd, rfl⟩⟩; (try first | exact ⟨rfl, _, World.drewN_drewN _ _ _⟩ | exact ⟨rfl, _, Eq.trans (World.drewN_drewN _ _ _) (congrArg (World.drewN _) (Nat.add_assoc _ _ _))⟩ | exact ⟨rfl, _, rfl⟩)) | (go_at_fn mn; refine Calls.quiet_of (HM.out _ (by first | exact zbk (zbo BW.out _) _ | exact zbo BW.out _)))))
            clear hw
            go_wp2
            go_ret
            exact ⟨by rw [F.out]; rfl, by first | exact zbk (zbo BW.out _) _ | exact zb9 (zbo BW.out _) | exact zbo BW.out _⟩
          | true =>
            have H3 := za.mk (in_is j.f3 1 z true (by have := q3; unfold exOk at this; rw [HZ.out] at this; exact this))
            have Q3 := za.mk q3
            clear q3
            go_wp2_with fail
            have hw := HW.out
            go_quiet ((first | (go_at_call 103; (with_reducible refine (zco.calls _ _ _ _ _ H1.out).mono ?_); rintro e w' ⟨rfl, ⟨nd, rfl⟩⟩; (try first | exact ⟨rfl, _, World.drewN_drewN _ _ _⟩ | exact ⟨rfl, _, Eq.trans (World.drewN_drewN _ _ _) (congrArg (World.drewN _) (Nat.add_assoc _ _ _))⟩ | exact ⟨rfl, _, rfl⟩)) | (go_at_call 103; (with_reducible refine (zco.calls _ _ _ _ _ H2.out).mono ?_); rintro e w' ⟨rfl, ⟨nd, rfl⟩⟩; (try first | exact ⟨rfl, _, World.drewN_drewN _ _ _⟩ | exact ⟨rfl, _, Eq.trans (World.drewN_drewN _ _ _) (congrArg (World.drewN _) (Nat.add_assoc _ _ _))⟩ | exact ⟨rfl, _, rfl⟩)) | (go_at_call 103; (with_reducible refine (zco.calls _ _ _ _ _ H3.out).mono ?_); rintro e w' ⟨rfl, ⟨nd, rfl⟩⟩; (try first | exact ⟨rfl, _, World.drewN_drewN _ _ _⟩ | exact ⟨rfl, _, Eq.trans (World.drewN_drewN _ _ _) (congrArg (World.drewN _) (Nat.add_assoc _ _ _))⟩ | exact ⟨rfl, _, rfl⟩)) | (go_at_fn mn; refine Calls.quiet_of (HM.out _ (by first | exact zbk (zbo BW.out _) _ | exact zbo BW.out _)))))
            clear hw
            go_wp2_with fail
            have B6 := za.mk (zbk (zbo BW.out (.cells #[.int .i64 j.f0, .int .i64 j.f1, .int .i64 j.f2, .int .i64 j.f3] 34)) nq)
            have cj0 : ((wr.alloc (.cells #[.int .i64 j.f0, .int .i64 j.f1, .int .i64 j.f2, .int .i64 j.f3] 34)).drewN nq).cell? ⟨wr.heap.size, 0, none⟩ = some (.int .i64 j.f0) := by simp
            have cj1 : ((wr.alloc (.cells #[.int .i64 j.f0, .int .i64 j.f1, .int .i64 j.f2, .int .i64 j.f3] 34)).drewN nq).cell? ⟨wr.heap.size, 1, none⟩ = some (.int .i64 j.f1) := by simp
            clear hy0 hy1 hy2 hy3
            generalize ((wr.alloc (.cells #[.int .i64 j.f0, .int .i64 j.f1, .int .i64 j.f2, .int .i64 j.f3] 34)).drewN nq) = w6 at B6 cj0 cj1 ⊢
            rcases Nat.eq_zero_or_pos i with h0 | h0
            · subst h0
              have ONE := za.mk (show zf1 l0 js 0 = true by unfold zf1; rw [← HJ.out, Q1.out, Q2.out, Q3.out]; rfl)
              go_quiet (fail)
              go_wp2
              go_roundg (js.length - (0 + 1))
              case measure => omega
              case rel => exact ⟨0 + 1, by go_num, by omega, by omega, ⟨zbk B6.out _⟩, ⟨by rw [allB, OK.out, ONE.out]; rfl⟩⟩
            · obtain ⟨k, hk⟩ : ∃ k : Nat, k = i - 1 := ⟨_, rfl⟩
              have hkl : (k : Int) < (js.length : Int) := by omega
              have hk0 : (0 : Int) ≤ (k : Int) := by omega
              have hi0 : (0 : Int) < (i : Int) := by omega
              obtain ⟨ad2, ea2, hp0, hp1, hp2, hp3⟩ := zc4 HR.out (k : Int) (by omega) hkl
              cases ea2
              have hp0 := (B6.out.cell (World.block_lt_of_cell? w _ hp0)).trans hp0
              have hp1 := (B6.out.cell (World.block_lt_of_cell? w _ hp1)).trans hp1
              clear hp2 hp3
              rw [Int.toNat_natCast] at hp0 hp1
              obtain ⟨p, hp⟩ : ∃ p : JobT, p = jrd js k := ⟨_, rfl⟩
              rw [show ze js (k : Int) = p from hp.symm] at hp0 hp1
              have HPK : za (p = jrd js (i - 1)) := ⟨by rw [hp, hk]⟩
              have hw2 : IntKind.i64.wrap ((i : Int) - 1) = (k : Int) := by rw [IntKind.wrap_i64]; omega
              have HW2 := za.mk hw2
              have Hi0 := za.mk (show decide (i = 0) = false from decide_eq_false (by omega))
              clear hp hw2 hk
              have two : ∀ b, bhd p j = b → zf1 l0 js i = !b := fun b hb => by unfold zf1; rw [← HJ.out, ← HPK.out, Q1.out, Q2.out, Q3.out, Hi0.out, hb]; simp
              have TWO := za.mk two
              clear two
              by_cases ha : p.f1 > j.f1
              · have F := za.mk (NO.out (TWO.out true (by unfold bhd; rw [decide_eq_true ha]; rfl)))
                have ha1 : decide (p.f1 > j.f1) = true := decide_eq_true ha
                have hw2 := HW2.out
                go_quiet (fail)
                clear hw2
                go_wp2
                go_ret
                exact ⟨by rw [F.out]; rfl, zbk B6.out _⟩
              · have ha1 : decide (p.f1 > j.f1) = false := decide_eq_false ha
                by_cases hb : p.f1 = j.f1
                · by_cases hc : p.f0 ≥ j.f0
                  · have F := za.mk (NO.out (TWO.out true (by unfold bhd; rw [decide_eq_true hb, decide_eq_true hc, Bool.and_self, Bool.or_true])))
                    have hb1 : (p.f1 == j.f1) = true := by simpa using hb
                    have hb2 : decide (p.f1 = j.f1) = true := decide_eq_true hb
                    have hc1 : decide (p.f0 ≥ j.f0) = true := decide_eq_true hc
                    clear hb
                    have hw2 := HW2.out
                    go_quiet (fail)
                    clear hw2
                    go_wp2
                    go_ret
                    exact ⟨by rw [F.out]; rfl, zbk B6.out _⟩
                  · have ONE := za.mk (TWO.out false (by unfold bhd; rw [decide_eq_false ha, decide_eq_false hc, Bool.and_false]; rfl))
                    have hb1 : (p.f1 == j.f1) = true := by simpa using hb
                    have hb2 : decide (p.f1 = j.f1) = true := decide_eq_true hb
                    have hc1 : decide (p.f0 ≥ j.f0) = false := decide_eq_false hc
                    clear hb
                    have hw2 := HW2.out
                    go_quiet (fail)
                    clear hw2
                    go_wp2
                    go_roundg (js.length - (i + 1))
                    case measure => omega
                    case rel => exact ⟨i + 1, by go_num, by omega, by omega, ⟨zbk B6.out _⟩, ⟨by rw [allB, OK.out, ONE.out]; rfl⟩⟩
                · have ONE := za.mk (TWO.out false (by unfold bhd; rw [decide_eq_false ha, decide_eq_false hb]; rfl))
                  have hb1 : (p.f1 == j.f1) = false := by simpa using hb
                  have hb2 : decide (p.f1 = j.f1) = false := decide_eq_false hb
                  have hw2 := HW2.out
                  go_quiet (fail)
                  clear hw2
                  go_wp2
                  go_roundg (js.length - (i + 1))
                  case measure => omega
                  case rel => exact ⟨i + 1, by go_num, by omega, by omega, ⟨zbk B6.out _⟩, ⟨by rw [allB, OK.out, ONE.out]; rfl⟩⟩
    · have hltz : ¬ (i : Int) < (js.length : Int) := by omega
      go_wp2
      go_ret
      exact ⟨by rw [show i = js.length by omega] at OK; unfold ordB; rw [OK.out]; rfl, BW.out⟩
theorem zgq : Go.Maps.Keyed Try.prog 3 := Go.Maps.int_keyed Try.underlying3
theorem zhi (w : World) : (zeroValue 3).run Try.prog w = .ok (.int .i64 0) w := by kernel_rfl
def lastOf (js : List JobT) : Nat → Int → Option Int
  | 0, _ => none
  | i + 1, k => if (jrd js i).f0 = k then some (jrd js i).f1 else lastOf js i k
def zg3 (l : List ze8) (js : List JobT) (i : Nat) : Bool :=
  match lastOf js i (jrd js i).f0 with
  | none => true
  | some b => !(decide (wrap64 ((jrd js i).f1 - b) < (trd l (jrd js i).f0).f2))
def spcB (l : List ze8) (js : List JobT) : Bool := allB (zg3 l js) js.length
def Ds (js : List JobT) : Nat → DataW Unit
  | 0 => .map []
  | i + 1 => (Ds js i).put (.int .i64 (jrd js i).f0) (.lit (.int .i64 (jrd js i).f1))
theorem zfo {w w1 : World} {P : Program} {k : TypeId} {R : Value → Option (DataW Unit × List MemPlace)} {b n : Nat} {D : DataW Unit} (h : w.ownsMap P k R b n D) (hb : Below w.heap.size w w1) : w1.ownsMap P k R b n D := by
  obtain ⟨es, clock, h1, h2⟩ := h
  exact ⟨es, clock, (hb.block b (Array.getElem?_eq_some_iff.1 h1).1).trans h1, h2⟩
theorem Ds_map (js : List JobT) : ∀ i, Go.Maps.IsMap (Ds js i)
  | 0 => Go.Maps.isMap_empty
  | i + 1 => (Ds_map js i).put _ _
theorem Ds_has (js : List JobT) (k : Int) : ∀ i, Go.Maps.has (Ds js i) (.int .i64 k) = (lastOf js i k).isSome
  | 0 => rfl
  | i + 1 => by
    rw [Ds, lastOf]
    by_cases h : (jrd js i).f0 = k
    · rw [if_pos h, h, Go.Maps.has_put_same (Ds_map js i) (show Go.WideAt.IsKeyLit (.int .i64 k) from trivial)]; rfl
    · rw [if_neg h, Go.Maps.has_put_other (fun e => h (by injection e with _ e; exact e.symm)), Ds_has js k i]
theorem Ds_at (js : List JobT) (k b : Int) (z : DataW Unit) : ∀ i, lastOf js i k = some b → (Ds js i).atKey (.int .i64 k) z = .lit (.int .i64 b)
  | 0, h => by simp [lastOf] at h
  | i + 1, h => by
    rw [lastOf] at h
    rw [Ds]
    by_cases e : (jrd js i).f0 = k
    · rw [if_pos e] at h
      rw [e, Go.Maps.atKey_put_same (Ds_map js i) (show Go.WideAt.IsKeyLit (.int .i64 k) from trivial), Option.some.inj h]
    · rw [if_neg e] at h
      rw [Go.Maps.atKey_put_other (fun e2 => e (by injection e2 with _ e2; exact e2.symm)), Ds_at js k b z i h]
set_option maxHeartbeats 16000000 in
theorem zh6 (tn mn : Nat) (ml : Array Value) (et : ∀ args w, (callFunc tn args).run Try.prog w = .ok (.enter tn args) w) (em : ∀ args w, (callFunc mn args).run Try.prog w = .ok (.enter mn args) w) (hne : tn ≠ mn) (l0 : List ze8) (A : Option Addr) (c : Nat) (js : List JobT) (hjl : js.length ≤ 1000000000)
    (hid : ∀ i, i < js.length → 0 ≤ (jrd js i).f0 ∧ (jrd js i).f0 < (l0.length : Int)) (hrel : ∀ i, i < js.length → 0 ≤ (jrd js i).f1 ∧ (jrd js i).f1 ≤ 119) (hll : l0.length ≤ 1000000000) (w : World)
    (ht : ∀ (W : World) (j : JobT), Below w.heap.size w W → Calls Try.prog tn #[.agg #[.int .i64 j.f0, .int .i64 j.f1, .int .i64 j.f2, .int .i64 j.f3]] W fun e w' => e = .returned (.int .i64 j.f1) ∧ Below W.heap.size W w')
    (hm : ∀ (W : World) (a : Int), Below w.heap.size w W → 0 ≤ a → a < (l0.length : Int) → Calls Try.prog mn (#[.int .i64 a] ++ ml) W fun e w' => e = .returned (.int .i64 (trd l0 a).f2) ∧ ∃ q, w' = W.drewN q) (hr : Kd.C k34 w A js.length js) :
    Calls Try.prog 93 #[.slice A js.length c, .func (.func tn) #[] #[], .func (.func mn) #[] ml] w fun e w' => e = .returned (.bool (spcB l0 js)) ∧ Below w.heap.size w w' := by
  have HT := za.mk ht
  have HMM := za.mk hm
  have HR := za.mk hr
  have HID := za.mk hid
  have HRL := za.mk hrel
  have hmm := @run_makeMap Try.prog
  clear ht hm hr hid hrel
  go_enter Try.func93, Try.ntmps93
  go_wp2
  go_loopg [16] js.length (fun gg v16 wr => ∃ i : Nat, v16 = .int .i64 i ∧ i ≤ js.length ∧ js.length - i ≤ gg ∧ za (Below w.heap.size w wr) ∧ za (wr.ownsMap Try.prog 3 (plainElem Try.prog 3) w.heap.size i (Ds js i)) ∧ za (allB (zg3 l0 js) i = true))
  case atStart => exact ⟨0, by go_num, by omega, by omega, ⟨(Below.refl _ _).alloc (Nat.le_refl _) _⟩, ⟨World.ownsMap_made _ _ _ _⟩, ⟨rfl⟩⟩
  case round =>
    obtain ⟨i, rfl, hil, hgg, BW, OM, OK⟩ := hrel
    by_cases hlt : i < js.length
    · have hltz : (i : Int) < (js.length : Int) := by omega
      obtain ⟨ad, ea, hx0, hx1, hx2, hx3⟩ := zc4 HR.out (i : Int) (by omega) hltz
      cases ea
      have hy0 := (BW.out.cell (World.block_lt_of_cell? w _ hx0)).trans hx0
      have hy1 := (BW.out.cell (World.block_lt_of_cell? w _ hx1)).trans hx1
      have hy2 := (BW.out.cell (World.block_lt_of_cell? w _ hx2)).trans hx2
      have hy3 := (BW.out.cell (World.block_lt_of_cell? w _ hx3)).trans hx3
      clear hx0 hx1 hx2 hx3
      rw [Int.toNat_natCast] at hy0 hy1 hy2 hy3
      have hb0 := HID.out i hlt
      have hb1 := HRL.out i hlt
      obtain ⟨j, hj⟩ : ∃ j : JobT, j = jrd js i := ⟨_, rfl⟩
      rw [show ze js (i : Int) = j from hj.symm] at hy0 hy1 hy2 hy3
      rw [← hj] at hb0 hb1
      have HJ := za.mk hj
      clear hj
      have WF := za.mk (show (Lit.int .i64 j.f0).wf = true from WalkArith.wf_i64 (by omega))
      have WF1 := za.mk (show (Lit.int .i64 j.f1).wf = true from WalkArith.wf_i64 (by omega))
      have KEY := za.mk (Go.Maps.keyOf_int_mk Try.underlying3 WF.out)
      obtain ⟨z, hz⟩ : ∃ z, (trd l0 j.f0).f2 = z := ⟨_, rfl⟩
      have HM := za.mk (fun (W : World) (hb : Below w.heap.size w W) => HMM.out W j.f0 hb hb0.1 hb0.2)
      rw [hz] at HM
      have HZ := za.mk hz
      clear hz hb0 hb1
      have no : zg3 l0 js i = false → spcB l0 js = false := fun h => by unfold spcB; exact zf2 h _ hlt
      have NO := za.mk no
      clear no
      cases hl : lastOf js i j.f0 with
      | none =>
        have HH := za.mk (show Go.Maps.has (Ds js i) (.int .i64 j.f0) = false by rw [Ds_has, hl]; rfl)
        have ONE := za.mk (show zg3 l0 js i = true by unfold zg3; rw [← HJ.out, hl])
        clear hl
        go_wp2_with (first | (go_at_fn tn; refine (HT.out _ j (zbo BW.out _)).mono ?_; rintro e w2 ⟨rfl, hb2⟩; have B2 := za.mk (zh (zbo BW.out _) hb2); have O2 := za.mk (zfo (OM.out.alloc _) hb2); have j0 : w2.cell? ⟨wr.heap.size, 0, none⟩ = some (.int .i64 j.f0) := (hb2.cell (p := ⟨wr.heap.size, 0, none⟩) (by simp)).trans (by simp); clear hb2) | (at_lookup; refine wpList_lookup_own_ok_int _ rfl _ _ 122 rfl 3 3 .i64 zgq Try.underlying122 Try.underlying3 (zhi _) w.heap.size i _ rfl O2.out _ _ rfl KEY.out ?_; intro c hat hwc; rw [HH.out]; clear hat hwc) | (at_mapUpdate; refine wpList_mapUpdate_own _ rfl _ _ _ 122 rfl 3 3 zgq Try.underlying122 _ w.heap.size i _ rfl O2.out (by unfold maxLen; omega) _ _ _ rfl rfl KEY.out _ [] (plainElem_int Try.underlying3 WF1.out) ?_; intro w4 hown4 hgrow4))
        · have B4 := za.mk ((B2.out).grown hgrow4 (B2.out).size (fun k hk => by cases hk; exact Nat.le_refl _))
          have O4 := za.mk hown4
          clear hown4 hgrow4
          go_wp2
          go_roundg (js.length - (i + 1))
          case measure => omega
          case rel => exact ⟨i + 1, by go_num, by omega, by omega, B4, ⟨by rw [Ds, ← HJ.out]; exact O4.out⟩, ⟨by rw [allB, OK.out, ONE.out]; rfl⟩⟩
      | some b =>
        have HH := za.mk (show Go.Maps.has (Ds js i) (.int .i64 j.f0) = true by rw [Ds_has, hl]; rfl)
        have HA := za.mk (Ds_at js j.f0 b (.lit (.int .i64 0)) i hl)
        by_cases hc : wrap64 (j.f1 - b) < z
        · have F := za.mk (NO.out (by unfold zg3; rw [← HJ.out, hl]; show (!(decide (wrap64 (j.f1 - b) < (trd l0 j.f0).f2))) = false; rw [HZ.out, decide_eq_true hc]; rfl))
          have hc1 : decide (wrap64 (j.f1 - b) < z) = true := decide_eq_true hc
          clear hl
          go_wp2_with (first | (go_at_fn tn; refine (HT.out _ j (zbo BW.out _)).mono ?_; rintro e w2 ⟨rfl, hb2⟩; have B2 := za.mk (zh (zbo BW.out _) hb2); have O2 := za.mk (zfo (OM.out.alloc _) hb2); have j0 : w2.cell? ⟨wr.heap.size, 0, none⟩ = some (.int .i64 j.f0) := (hb2.cell (p := ⟨wr.heap.size, 0, none⟩) (by simp)).trans (by simp); clear hb2) | (at_lookup; refine wpList_lookup_own_ok_int _ rfl _ _ 122 rfl 3 3 .i64 zgq Try.underlying122 Try.underlying3 (zhi _) w.heap.size i _ rfl O2.out _ _ rfl KEY.out ?_; intro c hat hwc; rw [HH.out]; (obtain rfl : c = b := by (have e := HA.out.symm.trans hat; injection e with e; injection e with _ e; exact e.symm)); clear hat hwc) | (go_at_fn mn; refine (HM.out _ B2.out).mono ?_; rintro e w3 ⟨rfl, ⟨q, rfl⟩⟩))
          go_ret
          exact ⟨by rw [F.out]; rfl, zbk B2.out _⟩
        · have ONE := za.mk (show zg3 l0 js i = true by unfold zg3; rw [← HJ.out, hl]; show (!(decide (wrap64 (j.f1 - b) < (trd l0 j.f0).f2))) = true; rw [HZ.out, decide_eq_false hc]; rfl)
          have hc1 : decide (wrap64 (j.f1 - b) < z) = false := decide_eq_false hc
          clear hl
          go_wp2_with (first | (go_at_fn tn; refine (HT.out _ j (zbo BW.out _)).mono ?_; rintro e w2 ⟨rfl, hb2⟩; have B2 := za.mk (zh (zbo BW.out _) hb2); have O2 := za.mk (zfo (OM.out.alloc _) hb2); have j0 : w2.cell? ⟨wr.heap.size, 0, none⟩ = some (.int .i64 j.f0) := (hb2.cell (p := ⟨wr.heap.size, 0, none⟩) (by simp)).trans (by simp); clear hb2) | (at_lookup; refine wpList_lookup_own_ok_int _ rfl _ _ 122 rfl 3 3 .i64 zgq Try.underlying122 Try.underlying3 (zhi _) w.heap.size i _ rfl O2.out _ _ rfl KEY.out ?_; intro c hat hwc; rw [HH.out]; (obtain rfl : c = b := by (have e := HA.out.symm.trans hat; injection e with e; injection e with _ e; exact e.symm)); clear hat hwc) | (go_at_fn mn; refine (HM.out _ B2.out).mono ?_; rintro e w3 ⟨rfl, ⟨q, rfl⟩⟩) | (at_mapUpdate; refine wpList_mapUpdate_own _ rfl _ _ _ 122 rfl 3 3 zgq Try.underlying122 _ w.heap.size i _ rfl (zfo O2.out (zbk (Below.refl _ _) _)) (by unfold maxLen; omega) _ _ _ rfl rfl KEY.out _ [] (plainElem_int Try.underlying3 WF1.out) ?_; intro w4 hown4 hgrow4))
          have B4 := za.mk ((zbk B2.out _).grown hgrow4 (zbk B2.out _).size (fun k hk => by cases hk; exact Nat.le_refl _))
          have O4 := za.mk hown4
          clear hown4 hgrow4
          go_wp2
          go_roundg (js.length - (i + 1))
          case measure => omega
          case rel => exact ⟨i + 1, by go_num, by omega, by omega, B4, ⟨by rw [Ds, ← HJ.out]; exact O4.out⟩, ⟨by rw [allB, OK.out, ONE.out]; rfl⟩⟩
    · have hltz : ¬ (i : Int) < (js.length : Int) := by omega
      go_wp2
      go_ret
      exact ⟨by rw [show i = js.length by omega] at OK; unfold spcB; rw [OK.out]; rfl, BW.out⟩
def idxOf {α : Type} (p : α → Bool) (l : List α) : Int := match l.findIdx? p with
  | some i => (i : Int)
  | none => -1
theorem idxOf_hit {α : Type} (p : α → Bool) (l : List α) (k : Nat) (hk : k < l.length) (hp : p l[k] = true) (hn : ∀ j (h : j < k), p (l[j]'(by omega)) = false) : idxOf p l = (k : Int) := by
  have : l.findIdx? p = some k := by
    rw [List.findIdx?_eq_some_iff_getElem]
    exact ⟨hk, hp, fun j hj => by simp [hn j hj]⟩
  unfold idxOf
  rw [this]
theorem idxOf_miss {α : Type} (p : α → Bool) (l : List α) (hn : ∀ j (h : j < l.length), p l[j] = false) : idxOf p l = -1 := by
  have : l.findIdx? p = none := by
    rw [List.findIdx?_eq_none_iff]
    intro x hx
    obtain ⟨j, hj, rfl⟩ := List.getElem_of_mem hx
    exact hn j hj
  unfold idxOf
  rw [this]
theorem zh7 {α : Type} (p : α → Bool) (l : List α) : decide (0 ≤ idxOf p l) = l.any p := by
  unfold idxOf
  cases h : l.findIdx? p with
  | none =>
    rw [List.findIdx?_eq_none_iff] at h
    have : l.any p = false := by
      rw [List.any_eq_false]
      intro x hx
      simp [h x hx]
    rw [this]
    rfl
  | some i =>
    rw [List.findIdx?_eq_some_iff_getElem] at h
    obtain ⟨hi, hp, _⟩ := h
    have : l.any p = true := List.any_eq_true.2 ⟨_, List.getElem_mem hi, hp⟩
    rw [this]
    exact decide_eq_true (show (0 : Int) ≤ (i : Int) by omega)
set_option maxHeartbeats 2000000 in
theorem zh8 (p : S34 → Bool) (g : Nat) (lb : Array Value) (eg : ∀ args w, (callFunc g args).run Try.prog w = .ok (.enter g args) w) (A : Option Addr) (c : Nat) (l : List S34) (w : World)
    (hp : ∀ (W : World) (x : S34), x ∈ l → Below w.heap.size w W → Calls Try.prog g (#[.agg #[.int .i64 x.f0, .int .i64 x.f1, .int .i64 x.f2, .int .i64 x.f3]] ++ lb) W fun e w' => e = .returned (.bool (p x)) ∧ Below W.heap.size W w')
    (hr : Kd.C k34 w A l.length l) :
    Calls Try.prog 113 #[.slice A l.length c, .func (.func g) #[] lb] w fun e w' => e = .returned (.int .i64 (idxOf p l)) ∧ Below w.heap.size w w' := by
  have hbig := za.mk (Kd.C_max hr)
  have HR := za.mk hr
  have HP := za.mk hp
  clear hr hp
  go_enter Try.func113, Try.ntmps113
  go_wp2
  go_loopg [5, 8] l.length (fun gg _ s8 wr => ∃ kk : Nat, kk ≤ l.length ∧ l.length - kk ≤ gg ∧ s8 = .int .i64 kk ∧ za (Below w.heap.size w wr) ∧ za (∀ j (h : j < kk) (h2 : j < l.length), p l[j] = false))
  case atStart => exact ⟨0, Nat.zero_le _, by omega, rfl, ⟨Below.refl _ w⟩, ⟨fun j hj => absurd hj (Nat.not_lt_zero _)⟩⟩
  case round =>
    obtain ⟨kk, hkk, hg, rfl, BW, N⟩ := hrel
    by_cases hlt : kk < l.length
    · have hltz : (kk : Int) < (l.length : Int) := by omega
      have hb1 := hbig.out
      obtain ⟨ad, ea, hx0, hx1, hx2, hx3⟩ := zc4 HR.out (kk : Int) (by omega) hltz
      cases ea
      have hy0 := (BW.out.cell (World.block_lt_of_cell? w _ hx0)).trans hx0
      have hy1 := (BW.out.cell (World.block_lt_of_cell? w _ hx1)).trans hx1
      have hy2 := (BW.out.cell (World.block_lt_of_cell? w _ hx2)).trans hx2
      have hy3 := (BW.out.cell (World.block_lt_of_cell? w _ hx3)).trans hx3
      have er : ze l (kk : Int) = l[kk] := by rw [ze, List.getD_eq_getElem?_getD, Int.toNat_natCast, List.getElem?_eq_getElem hlt]; rfl
      rw [er, Int.toNat_natCast] at hy0 hy1 hy2 hy3
      have hcall := HP.out wr l[kk] (List.getElem_mem hlt) BW.out
      generalize hy : l[kk] = y at hy0 hy1 hy2 hy3 hcall
      have Y := za.mk hy
      clear hy hx0 hx1 hx2 hx3 er
      cases hq : p y with
      | true =>
        rw [hq] at hcall
        go_wp2_with (go_at_fn g; refine hcall.mono ?_; rintro e w' ⟨rfl, hb'⟩)
        go_ret
        refine ⟨?_, Below.trans BW.out (hb'.mono BW.out.size)⟩
        rw [idxOf_hit p l kk hlt (by rw [Y.out]; exact hq) (fun j hj => N.out j hj (by omega))]
        rfl
      | false =>
        rw [hq] at hcall
        go_wp2_with (go_at_fn g; refine hcall.mono ?_; rintro e w' ⟨rfl, hb'⟩)
        go_roundg (l.length - (kk + 1))
        case measure => omega
        case rel =>
          refine ⟨kk + 1, by omega, by omega, by go_num, ⟨Below.trans BW.out (hb'.mono BW.out.size)⟩, ⟨fun j hj hj2 => ?_⟩⟩
          by_cases e : j = kk
          · subst e
            rw [Y.out]; exact hq
          · exact N.out j (by omega) hj2
    · have hltz : ¬ (kk : Int) < (l.length : Int) := by omega
      go_wp2
      go_ret
      refine ⟨?_, BW.out⟩
      rw [idxOf_miss p l (fun j hj => N.out j (by omega) hj)]
      rfl
set_option maxHeartbeats 2000000 in
theorem zh9 (p : S34 → Bool) (g : Nat) (lb : Array Value) (eg : ∀ args w, (callFunc g args).run Try.prog w = .ok (.enter g args) w) (A : Option Addr) (c : Nat) (l : List S34) (w : World)
    (hp : ∀ (W : World) (x : S34), x ∈ l → Below w.heap.size w W → Calls Try.prog g (#[.agg #[.int .i64 x.f0, .int .i64 x.f1, .int .i64 x.f2, .int .i64 x.f3]] ++ lb) W fun e w' => e = .returned (.bool (p x)) ∧ Below W.heap.size W w')
    (hr : Kd.C k34 w A l.length l) :
    Calls Try.prog 96 #[.slice A l.length c, .func (.func g) #[] lb] w fun e w' => e = .returned (.bool (l.any p)) ∧ Below w.heap.size w w' := by
  have Y := za.mk (zh7 p l)
  have h := za.mk (fun W (hW : W = w) => zh8 p g lb eg A c l W (by subst hW; exact hp) (by subst hW; exact hr))
  clear hp hr eg
  go_enter Try.func96, Try.ntmps96
  go_wp2_with (go_at_call 113; refine (h.out _ rfl).mono ?_; rintro e w' ⟨rfl, hb'⟩)
  go_ret
  exact ⟨by rw [← Y.out]; rfl, hb'⟩
set_option maxHeartbeats 2000000 in
theorem zhj (p : S88 → Bool) (g : Nat) (lb : Array Value) (eg : ∀ args w, (callFunc g args).run Try.prog w = .ok (.enter g args) w) (A : Option Addr) (c : Nat) (l : List S88) (w : World)
    (hp : ∀ (W : World) (x : S88), Below w.heap.size w W → Calls Try.prog g (#[.agg #[.int .i64 x.f0, .int .i64 x.f1, .int .i64 x.f2]] ++ lb) W fun e w' => e = .returned (.bool (p x)) ∧ Below W.heap.size W w')
    (hr : Kd.C k88 w A l.length l) :
    Calls Try.prog 115 #[.slice A l.length c, .func (.func g) #[] lb] w fun e w' => e = .returned (.int .i64 (idxOf p l)) ∧ Below w.heap.size w w' := by
  have hbig := za.mk (Kd.C_max hr)
  have HR := za.mk hr
  have HP := za.mk hp
  clear hr hp
  go_enter Try.func115, Try.ntmps115
  go_wp2
  go_loopg [5, 8] l.length (fun gg _ s8 wr => ∃ kk : Nat, kk ≤ l.length ∧ l.length - kk ≤ gg ∧ s8 = .int .i64 kk ∧ za (Below w.heap.size w wr) ∧ za (∀ j (h : j < kk) (h2 : j < l.length), p l[j] = false))
  case atStart => exact ⟨0, Nat.zero_le _, by omega, rfl, ⟨Below.refl _ w⟩, ⟨fun j hj => absurd hj (Nat.not_lt_zero _)⟩⟩
  case round =>
    obtain ⟨kk, hkk, hg, rfl, BW, N⟩ := hrel
    by_cases hlt : kk < l.length
    · have hltz : (kk : Int) < (l.length : Int) := by omega
      have hb1 := hbig.out
      obtain ⟨ad, ea, hx0, hx1, hx2⟩ := ze1 HR.out (kk : Int) (by omega) hltz
      cases ea
      have hy0 := (BW.out.cell (World.block_lt_of_cell? w _ hx0)).trans hx0
      have hy1 := (BW.out.cell (World.block_lt_of_cell? w _ hx1)).trans hx1
      have hy2 := (BW.out.cell (World.block_lt_of_cell? w _ hx2)).trans hx2
      have er : zu l (kk : Int) = l[kk] := by rw [zu, List.getD_eq_getElem?_getD, Int.toNat_natCast, List.getElem?_eq_getElem hlt]; rfl
      rw [er, Int.toNat_natCast] at hy0 hy1 hy2
      have hcall := HP.out wr l[kk] BW.out
      generalize hy : l[kk] = y at hy0 hy1 hy2 hcall
      have Y := za.mk hy
      clear hy hx0 hx1 hx2 er
      cases hq : p y with
      | true =>
        rw [hq] at hcall
        go_wp2_with (go_at_fn g; refine hcall.mono ?_; rintro e w' ⟨rfl, hb'⟩)
        go_ret
        refine ⟨?_, Below.trans BW.out (hb'.mono BW.out.size)⟩
        rw [idxOf_hit p l kk hlt (by rw [Y.out]; exact hq) (fun j hj => N.out j hj (by omega))]
        rfl
      | false =>
        rw [hq] at hcall
        go_wp2_with (go_at_fn g; refine hcall.mono ?_; rintro e w' ⟨rfl, hb'⟩)
        go_roundg (l.length - (kk + 1))
        case measure => omega
        case rel =>
          refine ⟨kk + 1, by omega, by omega, by go_num, ⟨Below.trans BW.out (hb'.mono BW.out.size)⟩, ⟨fun j hj hj2 => ?_⟩⟩
          by_cases e : j = kk
          · subst e
            rw [Y.out]; exact hq
          · exact N.out j (by omega) hj2
    · have hltz : ¬ (kk : Int) < (l.length : Int) := by omega
      go_wp2
      go_ret
      refine ⟨?_, BW.out⟩
      rw [idxOf_miss p l (fun j hj => N.out j (by omega) hj)]
      rfl
set_option maxHeartbeats 2000000 in
theorem zfp (p : S88 → Bool) (g : Nat) (lb : Array Value) (eg : ∀ args w, (callFunc g args).run Try.prog w = .ok (.enter g args) w) (A : Option Addr) (c : Nat) (l : List S88) (w : World)
    (hp : ∀ (W : World) (x : S88), Below w.heap.size w W → Calls Try.prog g (#[.agg #[.int .i64 x.f0, .int .i64 x.f1, .int .i64 x.f2]] ++ lb) W fun e w' => e = .returned (.bool (p x)) ∧ Below W.heap.size W w')
    (hr : Kd.C k88 w A l.length l) :
    Calls Try.prog 104 #[.slice A l.length c, .func (.func g) #[] lb] w fun e w' => e = .returned (.bool (l.any p)) ∧ Below w.heap.size w w' := by
  have Y := za.mk (zh7 p l)
  have h := za.mk (fun W (hW : W = w) => zhj p g lb eg A c l W (by subst hW; exact hp) (by subst hW; exact hr))
  clear hp hr eg
  go_enter Try.func104, Try.ntmps104
  go_wp2_with (go_at_call 115; refine (h.out _ rfl).mono ?_; rintro e w' ⟨rfl, hb'⟩)
  go_ret
  exact ⟨by rw [← Y.out]; rfl, hb'⟩
def zda.f (a0_0 : Int) (a0_1 : Int) (a0_2 : Int) : Option (Bool) := (zco.f a0_0 1 8).bind fun t158 => (if t158 = true then ((zco.f a0_1 a0_0 a0_2).bind fun t159 => (if t159 = true then (some (decide (a0_2 ≤ 12))) else (some false))) else (some false))
set_option maxHeartbeats 8000000 in
theorem zda.calls (a0_0 : Int) (a0_1 : Int) (a0_2 : Int) (r : Bool) (w : World) (h : zda.f a0_0 a0_1 a0_2 = some r) :
  Calls Try.prog 59 #[.agg #[.int .i64 a0_0, .int .i64 a0_1, .int .i64 a0_2]] w fun e w' => e = .returned (.bool r) ∧ Below w.heap.size w w' := by
 have hu88 := Try.underlying88
 have HB := za.mk (Below.refl w.heap.size w)
 have H : ((zco.f a0_0 1 8).bind fun t158 => (if t158 = true then ((zco.f a0_1 a0_0 a0_2).bind fun t159 => (if t159 = true then (some (decide (a0_2 ≤ 12))) else (some false))) else (some false))) = some r := h
 clear h
 replace H := Option.bind_eq_some_iff.mp H
 obtain ⟨t158, A20, H⟩ := H
 replace H : (if t158 = true then ((zco.f a0_1 a0_0 a0_2).bind fun t159 => (if t159 = true then (some (decide (a0_2 ≤ 12))) else (some false))) else (some false)) = some r := H
 have A2 := za.mk A20
 clear A20
 by_cases c3 : t158 = true
 ·subst c3
  have H1 : ((zco.f a0_1 a0_0 a0_2).bind fun t159 => (if t159 = true then (some (decide (a0_2 ≤ 12))) else (some false))) = some r := by rw [if_pos rfl] at H; exact H
  clear H;have H := H1;clear H1;replace H := Option.bind_eq_some_iff.mp H;obtain ⟨t159, A40, H⟩ := H;replace H : (if t159 = true then (some (decide (a0_2 ≤ 12))) else (some false)) = some r := H;have A4 := za.mk A40;clear A40;by_cases c5 : t159 = true
  ·subst c5
   have H1 : (some (decide (a0_2 ≤ 12))) = some r := by rw [if_pos rfl] at H; exact H
   clear H;have H := H1;clear H1;obtain rfl := Option.some.inj H;go_enter Try.func59, Try.ntmps59;go_wp2_with (first | ((with_reducible refine zbn (N := 1) rfl ?_); refine zbm ?hg (N := 1) ?hd (cs := #[.int .i64 a0_0, .int .i64 a0_1, .int .i64 a0_2]) (t := 88) ?hr ?_; (case hd => rfl); (case hg => rfl); (case hr => first | (go_simp; done) | (go_simp; rfl)); intro gb157 hg w6 hbox hb; have n0_ := za.mk (zh (Zq0 HB) hb); have n1_ := za.mk (hbox); have n2_ := za.mk ((by rw [hg]; exact (zg (Zq0 HB)) : w.heap.size ≤ gb157)); have n3_ := za.mk ((by rw [hg]; exact (zg (Zq0 HB)) : w.heap.size ≤ gb157)); clear HB; have HB := n0_; have BK157 := n1_; have GW157 := n2_; have GE157 := n3_; clear n0_ n1_ n2_ n3_; clear hb hbox hg; have hcz7_0 : w6.cell? ⟨gb157, 0, none⟩ = some (.int .i64 a0_0) := (zf BK157.out 0).trans rfl; have hcz7_1 : w6.cell? ⟨gb157, 1, none⟩ = some (.int .i64 a0_1) := (zf BK157.out 1).trans rfl; have hcz7_2 : w6.cell? ⟨gb157, 2, none⟩ = some (.int .i64 a0_2) := (zf BK157.out 2).trans rfl; have hfz7_0 := zb BK157.out 0; have hfz7_1 := zb BK157.out 1; have hfz7_2 := zb BK157.out 2) | ((with_reducible refine zbe (f := 103) rfl ?_); refine zch (some 5) rfl rfl Try.func103 (by kernel_rfl) rfl #[.int .i64 a0_0, .int .i64 1, .int .i64 8] rfl Zmt ?_; (with_reducible refine (zco.calls a0_0 1 8 true _ A2.out).mono ?_); rintro e w' ⟨rfl, ⟨nd, rfl⟩⟩; refine ⟨_, rfl, ?_⟩) | (go_at_call 103; (with_reducible refine (zco.calls a0_1 a0_0 a0_2 true _ A4.out).mono ?_); rintro e w' ⟨rfl, ⟨nd, rfl⟩⟩));go_ret;exact ⟨by first | rfl | (simp [zq, zt] <;> rfl) | (simp [*, zq, zt] <;> rfl), Zq2 HB GE157⟩
  ·replace c5 := Bool.eq_false_iff.mpr c5
   subst c5;have H1 : (some false) = some r := by rw [if_neg (show ¬ (false = true) by decide)] at H; exact H
   clear H;have H := H1;clear H1;obtain rfl := Option.some.inj H;go_enter Try.func59, Try.ntmps59;go_wp2_with (first | ((with_reducible refine zbn (N := 1) rfl ?_); refine zbm ?hg (N := 1) ?hd (cs := #[.int .i64 a0_0, .int .i64 a0_1, .int .i64 a0_2]) (t := 88) ?hr ?_; (case hd => rfl); (case hg => rfl); (case hr => first | (go_simp; done) | (go_simp; rfl)); intro gb157 hg w8 hbox hb; have n0_ := za.mk (zh (Zq0 HB) hb); have n1_ := za.mk (hbox); have n2_ := za.mk ((by rw [hg]; exact (zg (Zq0 HB)) : w.heap.size ≤ gb157)); have n3_ := za.mk ((by rw [hg]; exact (zg (Zq0 HB)) : w.heap.size ≤ gb157)); clear HB; have HB := n0_; have BK157 := n1_; have GW157 := n2_; have GE157 := n3_; clear n0_ n1_ n2_ n3_; clear hb hbox hg; have hcz9_0 : w8.cell? ⟨gb157, 0, none⟩ = some (.int .i64 a0_0) := (zf BK157.out 0).trans rfl; have hcz9_1 : w8.cell? ⟨gb157, 1, none⟩ = some (.int .i64 a0_1) := (zf BK157.out 1).trans rfl; have hcz9_2 : w8.cell? ⟨gb157, 2, none⟩ = some (.int .i64 a0_2) := (zf BK157.out 2).trans rfl; have hfz9_0 := zb BK157.out 0; have hfz9_1 := zb BK157.out 1; have hfz9_2 := zb BK157.out 2) | ((with_reducible refine zbe (f := 103) rfl ?_); refine zch (some 5) rfl rfl Try.func103 (by kernel_rfl) rfl #[.int .i64 a0_0, .int .i64 1, .int .i64 8] rfl Zmt ?_; (with_reducible refine (zco.calls a0_0 1 8 true _ A2.out).mono ?_); rintro e w' ⟨rfl, ⟨nd, rfl⟩⟩; refine ⟨_, rfl, ?_⟩) | (go_at_call 103; (with_reducible refine (zco.calls a0_1 a0_0 a0_2 false _ A4.out).mono ?_); rintro e w' ⟨rfl, ⟨nd, rfl⟩⟩));go_ret;exact ⟨by first | rfl | (simp [zq, zt] <;> rfl) | (simp [*, zq, zt] <;> rfl), Zq2 HB GE157⟩
 ·replace c3 := Bool.eq_false_iff.mpr c3
  subst c3;have H1 : (some false) = some r := by rw [if_neg (show ¬ (false = true) by decide)] at H; exact H
  clear H;have H := H1;clear H1;obtain rfl := Option.some.inj H;go_enter Try.func59, Try.ntmps59;go_wp2_with (first | ((with_reducible refine zbn (N := 1) rfl ?_); refine zbm ?hg (N := 1) ?hd (cs := #[.int .i64 a0_0, .int .i64 a0_1, .int .i64 a0_2]) (t := 88) ?hr ?_; (case hd => rfl); (case hg => rfl); (case hr => first | (go_simp; done) | (go_simp; rfl)); intro gb157 hg w10 hbox hb; have n0_ := za.mk (zh (Zq0 HB) hb); have n1_ := za.mk (hbox); have n2_ := za.mk ((by rw [hg]; exact (zg (Zq0 HB)) : w.heap.size ≤ gb157)); have n3_ := za.mk ((by rw [hg]; exact (zg (Zq0 HB)) : w.heap.size ≤ gb157)); clear HB; have HB := n0_; have BK157 := n1_; have GW157 := n2_; have GE157 := n3_; clear n0_ n1_ n2_ n3_; clear hb hbox hg; have hcz11_0 : w10.cell? ⟨gb157, 0, none⟩ = some (.int .i64 a0_0) := (zf BK157.out 0).trans rfl; have hcz11_1 : w10.cell? ⟨gb157, 1, none⟩ = some (.int .i64 a0_1) := (zf BK157.out 1).trans rfl; have hcz11_2 : w10.cell? ⟨gb157, 2, none⟩ = some (.int .i64 a0_2) := (zf BK157.out 2).trans rfl; have hfz11_0 := zb BK157.out 0; have hfz11_1 := zb BK157.out 1; have hfz11_2 := zb BK157.out 2) | ((with_reducible refine zbe (f := 103) rfl ?_); refine zch (some 5) rfl rfl Try.func103 (by kernel_rfl) rfl #[.int .i64 a0_0, .int .i64 1, .int .i64 8] rfl Zmt ?_; (with_reducible refine (zco.calls a0_0 1 8 false _ A2.out).mono ?_); rintro e w' ⟨rfl, ⟨nd, rfl⟩⟩; refine ⟨_, rfl, ?_⟩));go_ret;exact ⟨by first | rfl | (simp [zq, zt] <;> rfl) | (simp [*, zq, zt] <;> rfl), Zq2 HB GE157⟩
def zdg.f (a0_0 : Int) (a0_1 : Int) (a0_2 : Int) : Option (Bool) := (zda.f a0_0 a0_1 a0_2).bind fun t161 => (some (!t161))
set_option maxHeartbeats 8000000 in
theorem zdg.calls (a0_0 : Int) (a0_1 : Int) (a0_2 : Int) (r : Bool) (w : World) (h : zdg.f a0_0 a0_1 a0_2 = some r) :
  Calls Try.prog 109 #[.agg #[.int .i64 a0_0, .int .i64 a0_1, .int .i64 a0_2]] w fun e w' => e = .returned (.bool r) ∧ Below w.heap.size w w' := by
 have hu88 := Try.underlying88
 have HB := za.mk (Below.refl w.heap.size w)
 have H : ((zda.f a0_0 a0_1 a0_2).bind fun t161 => (some (!t161))) = some r := h
 clear h
 replace H := Option.bind_eq_some_iff.mp H
 obtain ⟨t161, A20, H⟩ := H
 replace H : (some (!t161)) = some r := H
 have A2 := za.mk A20
 clear A20
 obtain rfl := Option.some.inj H
 go_enter Try.func109, Try.ntmps109
 go_wp2_with (first | ((with_reducible refine zbn (N := 1) rfl ?_); refine zbm ?hg (N := 1) ?hd (cs := #[.int .i64 a0_0, .int .i64 a0_1, .int .i64 a0_2]) (t := 88) ?hr ?_; (case hd => rfl); (case hg => rfl); (case hr => first | (go_simp; done) | (go_simp; rfl)); intro gb160 hg w3 hbox hb; have n0_ := za.mk (zh (Zq0 HB) hb); have n1_ := za.mk (hbox); have n2_ := za.mk ((by rw [hg]; exact (zg (Zq0 HB)) : w.heap.size ≤ gb160)); have n3_ := za.mk ((by rw [hg]; exact (zg (Zq0 HB)) : w.heap.size ≤ gb160)); clear HB; have HB := n0_; have BK160 := n1_; have GW160 := n2_; have GE160 := n3_; clear n0_ n1_ n2_ n3_; clear hb hbox hg; have hcz4_0 : w3.cell? ⟨gb160, 0, none⟩ = some (.int .i64 a0_0) := (zf BK160.out 0).trans rfl; have hcz4_1 : w3.cell? ⟨gb160, 1, none⟩ = some (.int .i64 a0_1) := (zf BK160.out 1).trans rfl; have hcz4_2 : w3.cell? ⟨gb160, 2, none⟩ = some (.int .i64 a0_2) := (zf BK160.out 2).trans rfl; have hfz4_0 := zb BK160.out 0; have hfz4_1 := zb BK160.out 1; have hfz4_2 := zb BK160.out 2) | ((with_reducible refine zbe (f := 59) rfl ?_); refine zch (some 4) rfl rfl Try.func59 (by kernel_rfl) rfl #[.agg #[.int .i64 a0_0, .int .i64 a0_1, .int .i64 a0_2]] rfl Zmt ?_; (with_reducible refine (zda.calls a0_0 a0_1 a0_2 t161 _ A2.out).mono ?_); rintro e w5 ⟨rfl, hb⟩; refine ⟨_, rfl, ?_⟩; have n0_ := za.mk (zk (g := gb160) (o := .cells #[.int .i64 a0_0, .int .i64 a0_1, .int .i64 a0_2] 88 (0, 0)) (Zq1 BK160) hb); have n1_ := za.mk (zh (Zq2 HB GE160) hb); clear BK160; clear HB; have BK160 := n0_; have HB := n1_; clear n0_ n1_; (try clear hb); (try clear hb2); (try clear hk); (try clear hi)))
 go_ret
 exact ⟨by first | rfl | (simp [zq, zt] <;> rfl) | (simp [*, zq, zt] <;> rfl), Zq2 HB GE160⟩
def taskOk (x : S88) : Bool := decide (1 ≤ x.f0 ∧ x.f0 ≤ 8 ∧ x.f0 ≤ x.f1 ∧ x.f1 ≤ x.f2 ∧ x.f2 ≤ 12)
def zcx.bad (x : S88) : Bool := !(taskOk x)
theorem zcx.is (x : S88) : zdg.f x.f0 x.f1 x.f2 = some (zcx.bad x) := by
  unfold zdg.f zda.f zco.f zcx.bad taskOk
  by_cases h1 : x.f0 ≥ 1 <;> by_cases h2 : x.f0 ≤ 8 <;> by_cases h3 : x.f1 ≥ x.f0 <;> by_cases h4 : x.f1 ≤ x.f2 <;> by_cases h5 : x.f2 ≤ 12 <;> simp [h1, h2, h3, h4, h5]
  all_goals first | omega | (intros; omega) | skip
def zcx.f (l0 : List S88) : Option Bool := some (l0.any zcx.bad)
theorem zcx.calls (A0 : Option Addr) (c0 : Nat) (l0 : List S88) (r : Bool) (w : World) (hr0 : Kd.C k88 w A0 l0.length l0) (hc0 : l0.length ≤ c0) (h : zcx.f l0 = some r) :
    Calls Try.prog 104 #[.slice A0 l0.length c0, .func (.func 109) #[] #[]] w fun e w' => e = .returned (.bool r) ∧ Below w.heap.size w w' := by
  obtain rfl := Option.some.inj h
  exact zfp zcx.bad 109 #[] (enters_of Try.func109 (by kernel_rfl) rfl) A0 c0 l0 w (fun W' x _ => (zdg.calls x.f0 x.f1 x.f2 _ W' (zcx.is x)).mono fun e w' hh => ⟨hh.1, hh.2⟩) hr0
theorem Zq12 {X0 P : Prop} (x0 : za X0) (h : X0 → P := by intro x0; repeat (first | exact x0 | (with_reducible refine Kd.zeh ?_ _) | (with_reducible refine Kd.zem ?_ _) | (with_reducible refine Kd.zfd ?_))) : P := h x0.out
def zcu.f (l0 : List (S88)) : Option (Bool) := if (l0.length : Int) ≤ 5 then ((zcx.f l0).bind fun t162 => (some (!t162))) else (some false)
set_option maxHeartbeats 8000000 in
theorem zcu.calls (A0 : Option Addr) (c0 : Nat) (l0 : List (S88)) (r : Bool) (w : World) (hr0 : Kd.C k88 w A0 l0.length l0) (hc0 : l0.length ≤ c0) (h : zcu.f l0 = some r) :
  Calls Try.prog 76 #[.slice A0 l0.length c0] w fun e w' => e = .returned (.bool r) ∧ Below w.heap.size w w' := by
 have HR0 := za.mk hr0
 have HC0 := za.mk hc0
 clear hr0 hc0
 have HB := za.mk (Below.refl w.heap.size w)
 have H : (if (l0.length : Int) ≤ 5 then ((zcx.f l0).bind fun t162 => (some (!t162))) else (some false)) = some r := h
 clear h
 by_cases c2 : (l0.length : Int) ≤ 5
 ·rw [if_pos c2] at H
  have c2b0 : decide ((l0.length : Int) ≤ 5) = true := decide_eq_true c2;have c2b1 : decide (l0.length ≤ 5) = true := decide_eq_true (by omega);clear c2;replace H := Option.bind_eq_some_iff.mp H;obtain ⟨t162, A30, H⟩ := H;replace H : (some (!t162)) = some r := H;have A3 := za.mk A30;clear A30;obtain rfl := Option.some.inj H;go_enter Try.func76, Try.ntmps76;go_wp2_with (first | (go_at_call 104; (with_reducible refine (zcx.calls _ _ l0  t162 _ ?side1 ?side2 A3.out).mono ?_); (case side1 => exact Zq12 HR0); (case side2 => exact HC0.out); rintro e w4 ⟨rfl, hb⟩; have n0_ := za.mk (zh (Zq0 HB) hb); clear HB; have HB := n0_; clear n0_; (try clear hb); (try clear hb2); (try clear hk); (try clear hi)));go_ret;exact ⟨by first | rfl | (simp [zq, zt] <;> rfl) | (simp [*, zq, zt] <;> rfl), Zq0 HB⟩
 ·rw [if_neg c2] at H
  have c2b0 : decide ((l0.length : Int) ≤ 5) = false := decide_eq_false c2;have c2b1 : decide (l0.length ≤ 5) = false := decide_eq_false (by omega);clear c2;obtain rfl := Option.some.inj H;go_enter Try.func76, Try.ntmps76;go_wp2;go_ret;exact ⟨by first | rfl | (simp [zq, zt] <;> rfl) | (simp [*, zq, zt] <;> rfl), Zq0 HB⟩
def ze3.f (a0_0 : Int) (a0_1 : Int) (a0_2 : Int) (a0_3 : Int) : Option (Int) := some a0_1
set_option maxHeartbeats 8000000 in
theorem ze3.calls (a0_0 : Int) (a0_1 : Int) (a0_2 : Int) (a0_3 : Int) (r : Int) (w : World) (h : ze3.f a0_0 a0_1 a0_2 a0_3 = some r) :
  Calls Try.prog 94 #[.agg #[.int .i64 a0_0, .int .i64 a0_1, .int .i64 a0_2, .int .i64 a0_3]] w fun e w' => e = .returned (.int .i64 r) ∧ Below w.heap.size w w' := by
 have hu34 := Try.underlying34
 have HB := za.mk (Below.refl w.heap.size w)
 have H : (some a0_1) = some r := h
 clear h
 obtain rfl := Option.some.inj H
 go_enter Try.func94, Try.ntmps94
 go_wp2_with (first | ((with_reducible refine zbn (N := 1) rfl ?_); refine zbm ?hg (N := 1) ?hd (cs := #[.int .i64 a0_0, .int .i64 a0_1, .int .i64 a0_2, .int .i64 a0_3]) (t := 34) ?hr ?_; (case hd => rfl); (case hg => rfl); (case hr => first | (go_simp; done) | (go_simp; rfl)); intro gb163 hg w2 hbox hb; have n0_ := za.mk (zh (Zq0 HB) hb); have n1_ := za.mk (hbox); have n2_ := za.mk ((by rw [hg]; exact (zg (Zq0 HB)) : w.heap.size ≤ gb163)); have n3_ := za.mk ((by rw [hg]; exact (zg (Zq0 HB)) : w.heap.size ≤ gb163)); clear HB; have HB := n0_; have BK163 := n1_; have GW163 := n2_; have GE163 := n3_; clear n0_ n1_ n2_ n3_; clear hb hbox hg; have hcz3_0 : w2.cell? ⟨gb163, 0, none⟩ = some (.int .i64 a0_0) := (zf BK163.out 0).trans rfl; have hcz3_1 : w2.cell? ⟨gb163, 1, none⟩ = some (.int .i64 a0_1) := (zf BK163.out 1).trans rfl; have hcz3_2 : w2.cell? ⟨gb163, 2, none⟩ = some (.int .i64 a0_2) := (zf BK163.out 2).trans rfl; have hcz3_3 : w2.cell? ⟨gb163, 3, none⟩ = some (.int .i64 a0_3) := (zf BK163.out 3).trans rfl; have hfz3_0 := zb BK163.out 0; have hfz3_1 := zb BK163.out 1; have hfz3_2 := zb BK163.out 2; have hfz3_3 := zb BK163.out 3))
 go_ret
 exact ⟨by first | rfl | (simp [zq, zt] <;> rfl) | (simp [*, zq, zt] <;> rfl), Zq2 HB GE163⟩
def legB (l : List ze8) (js : List JobT) : Bool := if ordB l js = true then (if spcB l js = true then !(js.any (zh5 l)) else false) else false
theorem zhk {l : List ze8} {js : List JobT} (h : ordB l js = true) (i : Nat) (hi : i < js.length) : inRng l (jrd js i) = true ∧ relOk (jrd js i) = true := by
  unfold ordB at h
  rw [Bool.and_eq_true] at h
  have := zgp h.1 i hi
  unfold zf1 at this
  rw [Bool.and_eq_true, Bool.and_eq_true, Bool.and_eq_true] at this
  exact ⟨this.1.1.1, this.1.1.2⟩
def zcv.f (l0 : List S88) (l1 : List S34) : Option Bool := (zcu.f l0).bind fun t => (if t = true then (if l0.length ≤ 1000000000 ∧ l1.length ≤ 1000000000 then (some (legB l0 l1)) else (none)) else (some false))
set_option maxHeartbeats 16000000 in
theorem zcv.calls (A0 : Option Addr) (c0 : Nat) (l0 : List S88) (A1 : Option Addr) (c1 : Nat) (l1 : List S34) (r : Bool) (w : World) (hr0 : Kd.C k88 w A0 l0.length l0) (hc0 : l0.length ≤ c0) (hr1 : Kd.C k34 w A1 l1.length l1) (hc1 : l1.length ≤ c1) (h : zcv.f l0 l1 = some r) :
    Calls Try.prog 48 #[.slice A0 l0.length c0, .slice A1 l1.length c1] w fun e w' => e = .returned (.bool r) ∧ Below w.heap.size w w' := by
  unfold zcv.f at h
  have hlen0 : l0.length ≤ 9223372036854775807 := hr0.2.1
  have HR0 := za.mk hr0
  have HC0 := za.mk hc0
  have HR1 := za.mk hr1
  clear hr0 hc0 hr1 hc1
  cases hs : zcu.f l0 with
  | none => rw [hs] at h; simp at h
  | some t =>
    rw [hs] at h
    have HS := za.mk hs
    clear hs
    have B0 := za.mk (zbo (Below.refl w.heap.size w) (.cells #[.slice A0 l0.length c0] 23))
    cases t with
    | false =>
      simp at h
      subst h
      go_enter Try.func48, Try.ntmps48
      go_wp2_with (go_at_call 76; refine (zcu.calls A0 c0 l0 false _ (Kd.zbr HR0.out B0.out) HC0.out HS.out).mono ?_; rintro e w1 ⟨rfl, hb⟩; have HB := za.mk (zh B0.out hb); clear hb)
      go_ret
      exact ⟨rfl, HB.out⟩
    | true =>
      simp only [Option.bind_some, if_true] at h
      by_cases hl : l0.length ≤ 1000000000 ∧ l1.length ≤ 1000000000
      · rw [if_pos hl] at h
        obtain rfl := Option.some.inj h
        clear h
        obtain ⟨hl0, hl1⟩ := hl
        have cellB : ∀ W, Below (w.alloc (.cells #[.slice A0 l0.length c0] 23)).heap.size (w.alloc (.cells #[.slice A0 l0.length c0] 23)) W → W.cell? ⟨w.heap.size, 0, none⟩ = some (.slice A0 l0.length c0) := fun W hb => (hb.cell (p := ⟨w.heap.size, 0, none⟩) (by simp)).trans (by simp)
        have CB := za.mk cellB
        clear cellB
        have HO := za.mk (fun (W1 : World) (hb1 : Below (w.alloc (.cells #[.slice A0 l0.length c0] 23)).heap.size (w.alloc (.cells #[.slice A0 l0.length c0] 23)) W1) =>
          zhh 92 #[.pointer (some ⟨w.heap.size, 0, none⟩)] (enters_of Try.func92 (by kernel_rfl) rfl) l0 A1 c1 l1 hl1 hl0 W1
            (fun W a hb h0 h1 => (jl1_calls A0 c0 l0 ⟨w.heap.size, 0, none⟩ a h0 h1 W (CB.out W (zb5 hb1 hb1.size hb)) (Kd.zbr (Kd.zbr HR0.out B0.out) (zb5 hb1 hb1.size hb))).mono fun e w' hh => ⟨hh.1, hh.2.out⟩) (Kd.zbr (Kd.zbr HR1.out B0.out) hb1))
        have HP := za.mk (fun (hord : ordB l0 l1 = true) (W1 : World) (hb1 : Below (w.alloc (.cells #[.slice A0 l0.length c0] 23)).heap.size (w.alloc (.cells #[.slice A0 l0.length c0] 23)) W1) =>
          zh6 94 95 #[.pointer (some ⟨w.heap.size, 0, none⟩)] (enters_of Try.func94 (by kernel_rfl) rfl) (enters_of Try.func95 (by kernel_rfl) rfl) (by decide) l0 A1 c1 l1 hl1
            (fun i hi => by have h1 := (zhk hord i hi).1; unfold inRng at h1; have h1 := of_decide_eq_true h1; omega) (fun i hi => by have h1 := (zhk hord i hi).2; unfold relOk at h1; exact of_decide_eq_true h1) hl0 W1
            (fun W j _ => (ze3.calls j.f0 j.f1 j.f2 j.f3 _ W rfl).mono fun e w' hh => ⟨hh.1, hh.2⟩)
            (fun W a hb h0 h1 => (jl2_calls A0 c0 l0 ⟨w.heap.size, 0, none⟩ a h0 h1 W (CB.out W (zb5 hb1 hb1.size hb)) (Kd.zbr (Kd.zbr HR0.out B0.out) (zb5 hb1 hb1.size hb))).mono fun e w' hh => ⟨hh.1, hh.2.out⟩) (Kd.zbr (Kd.zbr HR1.out B0.out) hb1))
        have HL := za.mk (fun (hord : ordB l0 l1 = true) (W1 : World) (hb1 : Below (w.alloc (.cells #[.slice A0 l0.length c0] 23)).heap.size (w.alloc (.cells #[.slice A0 l0.length c0] 23)) W1) =>
          zh9 (zh5 l0) 97 #[.pointer (some ⟨w.heap.size, 0, none⟩)] (enters_of Try.func97 (by kernel_rfl) rfl) A1 c1 l1 W1
            (fun W x hx hb => by
              obtain ⟨i, hi, rfl⟩ := List.getElem_of_mem hx
              have h1 := (zhk hord i hi).1
              have e : jrd l1 i = l1[i] := by unfold jrd ze; rw [List.getD_eq_getElem?_getD, Int.toNat_natCast, List.getElem?_eq_getElem hi]; rfl
              rw [e] at h1
              unfold inRng at h1
              have h1 := of_decide_eq_true h1
              exact jl3_calls A0 c0 l0 ⟨w.heap.size, 0, none⟩ l1[i] h1.1 (by omega) W (CB.out W (zb5 hb1 hb1.size hb)) (Kd.zbr (Kd.zbr HR0.out B0.out) (zb5 hb1 hb1.size hb))) (Kd.zbr (Kd.zbr HR1.out B0.out) hb1))
        unfold legB
        cases ho : ordB l0 l1 with
        | false =>
          rw [ho] at HO
          rw [if_neg (by simp)]
          clear ho HP HL
          go_enter Try.func48, Try.ntmps48
          go_wp2_with (first
            | (go_at_call 76; refine (zcu.calls A0 c0 l0 true _ (Kd.zbr HR0.out B0.out) HC0.out HS.out).mono ?_; rintro e w1 ⟨rfl, hb⟩; have HB := za.mk hb; have hcell := CB.out w1 hb; clear hb)
            | (go_at_call 91; refine (HO.out _ HB.out).mono ?_; rintro e w2 ⟨rfl, hb⟩; have HB2 := za.mk (zb5 HB.out HB.out.size hb); have hcell2 := CB.out w2 HB2.out; clear hb))
          go_ret
          exact ⟨rfl, zb5 B0.out B0.out.size HB2.out⟩
        | true =>
          rw [ho] at HO
          rw [if_pos rfl]
          have HP2 := za.mk (HP.out ho)
          have HL2 := za.mk (HL.out ho)
          clear ho HP HL
          cases hp : spcB l0 l1 with
          | false =>
            rw [hp] at HP2
            rw [if_neg (by simp)]
            clear hp
            go_enter Try.func48, Try.ntmps48
            go_wp2_with (first
              | (go_at_call 76; refine (zcu.calls A0 c0 l0 true _ (Kd.zbr HR0.out B0.out) HC0.out HS.out).mono ?_; rintro e w1 ⟨rfl, hb⟩; have HB := za.mk hb; have hcell := CB.out w1 hb; clear hb)
              | (go_at_call 91; refine (HO.out _ HB.out).mono ?_; rintro e w2 ⟨rfl, hb⟩; have HB2 := za.mk (zb5 HB.out HB.out.size hb); have hcell2 := CB.out w2 HB2.out; clear hb)
              | (go_at_call 93; refine (HP2.out _ HB2.out).mono ?_; rintro e w3 ⟨rfl, hb⟩; have HB3 := za.mk (zb5 HB2.out HB2.out.size hb); have hcell3 := CB.out w3 HB3.out; clear hb))
            go_ret
            exact ⟨rfl, zb5 B0.out B0.out.size HB3.out⟩
          | true =>
            rw [hp] at HP2
            rw [if_pos rfl]
            clear hp
            obtain ⟨v, hv⟩ : ∃ v, l1.any (zh5 l0) = v := ⟨_, rfl⟩
            rw [hv] at HL2 ⊢
            clear hv
            go_enter Try.func48, Try.ntmps48
            go_wp2_with (first
              | (go_at_call 76; refine (zcu.calls A0 c0 l0 true _ (Kd.zbr HR0.out B0.out) HC0.out HS.out).mono ?_; rintro e w1 ⟨rfl, hb⟩; have HB := za.mk hb; have hcell := CB.out w1 hb; clear hb)
              | (go_at_call 91; refine (HO.out _ HB.out).mono ?_; rintro e w2 ⟨rfl, hb⟩; have HB2 := za.mk (zb5 HB.out HB.out.size hb); have hcell2 := CB.out w2 HB2.out; clear hb)
              | (go_at_call 93; refine (HP2.out _ HB2.out).mono ?_; rintro e w3 ⟨rfl, hb⟩; have HB3 := za.mk (zb5 HB2.out HB2.out.size hb); have hcell3 := CB.out w3 HB3.out; clear hb)
              | (go_at_call 96; refine (HL2.out _ HB3.out).mono ?_; rintro e w4 ⟨rfl, hb⟩; have HB4 := za.mk (zb5 HB3.out HB3.out.size hb); clear hb))
            go_ret
            exact ⟨rfl, zb5 B0.out B0.out.size HB4.out⟩
      · rw [if_neg hl] at h
        cases h
def zcr.f (a0_0 : Int) (a0_1 : Int) : Option (Bool) := (zco.f a0_0 1 a0_1).bind fun t166 => (if t166 = true then (some (decide (a0_1 ≤ 12))) else (some false))
set_option maxHeartbeats 8000000 in
theorem zcr.calls (a0_0 : Int) (a0_1 : Int) (r : Bool) (w : World) (h : zcr.f a0_0 a0_1 = some r) :
  Calls Try.prog 77 #[.agg #[.int .i64 a0_0, .int .i64 a0_1]] w fun e w' => e = .returned (.bool r) ∧ Below w.heap.size w w' := by
 have hu51 := Try.underlying51
 have HB := za.mk (Below.refl w.heap.size w)
 have H : ((zco.f a0_0 1 a0_1).bind fun t166 => (if t166 = true then (some (decide (a0_1 ≤ 12))) else (some false))) = some r := h
 clear h
 replace H := Option.bind_eq_some_iff.mp H
 obtain ⟨t166, A20, H⟩ := H
 replace H : (if t166 = true then (some (decide (a0_1 ≤ 12))) else (some false)) = some r := H
 have A2 := za.mk A20
 clear A20
 by_cases c3 : t166 = true
 ·subst c3
  have H1 : (some (decide (a0_1 ≤ 12))) = some r := by rw [if_pos rfl] at H; exact H
  clear H;have H := H1;clear H1;obtain rfl := Option.some.inj H;go_enter Try.func77, Try.ntmps77;go_wp2_with (first | ((with_reducible refine zbn (N := 1) rfl ?_); refine zbm ?hg (N := 1) ?hd (cs := #[.int .i64 a0_0, .int .i64 a0_1]) (t := 51) ?hr ?_; (case hd => rfl); (case hg => rfl); (case hr => first | (go_simp; done) | (go_simp; rfl)); intro gb165 hg w4 hbox hb; have n0_ := za.mk (zh (Zq0 HB) hb); have n1_ := za.mk (hbox); have n2_ := za.mk ((by rw [hg]; exact (zg (Zq0 HB)) : w.heap.size ≤ gb165)); have n3_ := za.mk ((by rw [hg]; exact (zg (Zq0 HB)) : w.heap.size ≤ gb165)); clear HB; have HB := n0_; have BK165 := n1_; have GW165 := n2_; have GE165 := n3_; clear n0_ n1_ n2_ n3_; clear hb hbox hg; have hcz5_0 : w4.cell? ⟨gb165, 0, none⟩ = some (.int .i64 a0_0) := (zf BK165.out 0).trans rfl; have hcz5_1 : w4.cell? ⟨gb165, 1, none⟩ = some (.int .i64 a0_1) := (zf BK165.out 1).trans rfl; have hfz5_0 := zb BK165.out 0; have hfz5_1 := zb BK165.out 1) | ((with_reducible refine zbe (f := 103) rfl ?_); refine zch (some 7) rfl rfl Try.func103 (by kernel_rfl) rfl #[.int .i64 a0_0, .int .i64 1, .int .i64 a0_1] rfl Zmt ?_; (with_reducible refine (zco.calls a0_0 1 a0_1 true _ A2.out).mono ?_); rintro e w' ⟨rfl, ⟨nd, rfl⟩⟩; refine ⟨_, rfl, ?_⟩));go_ret;exact ⟨by first | rfl | (simp [zq, zt] <;> rfl) | (simp [*, zq, zt] <;> rfl), Zq2 HB GE165⟩
 ·replace c3 := Bool.eq_false_iff.mpr c3
  subst c3;have H1 : (some false) = some r := by rw [if_neg (show ¬ (false = true) by decide)] at H; exact H
  clear H;have H := H1;clear H1;obtain rfl := Option.some.inj H;go_enter Try.func77, Try.ntmps77;go_wp2_with (first | ((with_reducible refine zbn (N := 1) rfl ?_); refine zbm ?hg (N := 1) ?hd (cs := #[.int .i64 a0_0, .int .i64 a0_1]) (t := 51) ?hr ?_; (case hd => rfl); (case hg => rfl); (case hr => first | (go_simp; done) | (go_simp; rfl)); intro gb165 hg w6 hbox hb; have n0_ := za.mk (zh (Zq0 HB) hb); have n1_ := za.mk (hbox); have n2_ := za.mk ((by rw [hg]; exact (zg (Zq0 HB)) : w.heap.size ≤ gb165)); have n3_ := za.mk ((by rw [hg]; exact (zg (Zq0 HB)) : w.heap.size ≤ gb165)); clear HB; have HB := n0_; have BK165 := n1_; have GW165 := n2_; have GE165 := n3_; clear n0_ n1_ n2_ n3_; clear hb hbox hg; have hcz7_0 : w6.cell? ⟨gb165, 0, none⟩ = some (.int .i64 a0_0) := (zf BK165.out 0).trans rfl; have hcz7_1 : w6.cell? ⟨gb165, 1, none⟩ = some (.int .i64 a0_1) := (zf BK165.out 1).trans rfl; have hfz7_0 := zb BK165.out 0; have hfz7_1 := zb BK165.out 1) | ((with_reducible refine zbe (f := 103) rfl ?_); refine zch (some 7) rfl rfl Try.func103 (by kernel_rfl) rfl #[.int .i64 a0_0, .int .i64 1, .int .i64 a0_1] rfl Zmt ?_; (with_reducible refine (zco.calls a0_0 1 a0_1 false _ A2.out).mono ?_); rintro e w' ⟨rfl, ⟨nd, rfl⟩⟩; refine ⟨_, rfl, ?_⟩));go_ret;exact ⟨by first | rfl | (simp [zq, zt] <;> rfl) | (simp [*, zq, zt] <;> rfl), Zq2 HB GE165⟩
mutual
def zo.j0 : Nat → List Bool → Bool → Int → Int → Option (Bool)
 | 0, _, _, _, _ => none
 | k + 1, x1, x16, x168000, x168001 => if x16 = true then (some false) else (zo.l0 k x1 0 x168000 x168001)
def zo.l0 : Nat → List Bool → Int → Int → Int → Option (Bool)
 | 0, _, _, _, _ => none
 | k + 1, x1, x5, x168000, x168001 => if (wrap64 (x5 + x168001)) ≤ 120 then (if 0 ≤ x5 then (if x5 ≤ (wrap64 (x5 + x168001)) then (if (wrap64 (x5 + x168001)) ≤ (x1.length : Int) then (zo.l1 k x1 x5 0 ((x1.take ((wrap64 (x5 + x168001)) : Int).toNat).drop (x5 : Int).toNat) (((x1.take ((wrap64 (x5 + x168001)) : Int).toNat).drop (x5 : Int).toNat).length : Int) 0 x168000 x168001) else (none)) else (none)) else (none)) else (some true)
def zo.l1 : Nat → List Bool → Int → Int → List Bool → Int → Int → Int → Int → Option (Bool)
 | 0, _, _, _, _, _, _, _, _ => none
 | k + 1, x1, x5, x6, x32, x33, x34, x168000, x168001 => if x34 < x33 then (if 0 ≤ x34 then (if x34 < (x32.length : Int) then (if rdOf false x32 x34 = true then (zo.l1 k x1 x5 (wrap64 (x6 + 1)) x32 x33 (wrap64 (x34 + 1)) x168000 x168001) else (zo.l1 k x1 x5 x6 x32 x33 (wrap64 (x34 + 1)) x168000 x168001)) else (none)) else (none)) else (if x6 = x168000 then (zo.l0 k x1 (wrap64 (x5 + x168001)) x168000 x168001) else (some false))
end
def zo.f (k : Nat) (a0_0 : Int) (a0_1 : Int) (l1 : List Bool) : Option (Bool) := (zcr.f a0_0 a0_1).bind fun t168 => (if t168 = true then (zo.j0 k l1 ((l1.length : Int) != 120) a0_0 a0_1) else (zo.j0 k l1 true a0_0 a0_1))
set_option maxHeartbeats 8000000 in
theorem zo.calls (k : Nat) (a0_0 : Int) (a0_1 : Int) (A1 : Option Addr) (c1 : Nat) (l1 : List Bool) (r : Bool) (w : World) (hr1 : Kd.C Kd.bool w A1 l1.length l1) (hc1 : l1.length ≤ c1) (h : zo.f k a0_0 a0_1 l1 = some r) :
  Calls Try.prog 72 #[.agg #[.int .i64 a0_0, .int .i64 a0_1], .slice A1 l1.length c1] w fun e w' => e = .returned (.bool r) ∧ Below w.heap.size w w' := by
 have hu51 := Try.underlying51
 have HR1 := za.mk hr1
 have HC1 := za.mk hc1
 clear hr1 hc1
 have HB := za.mk (Below.refl w.heap.size w)
 have H : ((zcr.f a0_0 a0_1).bind fun t168 => (if t168 = true then (zo.j0 k l1 ((l1.length : Int) != 120) a0_0 a0_1) else (zo.j0 k l1 true a0_0 a0_1))) = some r := h
 clear h
 have HC3 := za.mk H
 clear H
 go_enter Try.func72, Try.ntmps72
 go_upto_region 1 with (first | ((with_reducible refine zbn (N := 2) rfl ?_); (try (refine zc7 (by rfl) ?_; dsimp only)); refine zbm ?hg (N := 2) ?hd (cs := #[.int .i64 a0_0, .int .i64 a0_1]) (t := 51) ?hr ?_; (case hd => rfl); (case hg => rfl); (case hr => first | (go_simp; done) | (go_simp; rfl)); intro gb167 hg w4 hbox hb; have n0_ := za.mk (zh (Zq0 HB) hb); have n1_ := za.mk (hbox); have n2_ := za.mk ((by rw [hg]; exact (zg (Zq0 HB)) : w.heap.size ≤ gb167)); have n3_ := za.mk ((by rw [hg]; exact (zg (Zq0 HB)) : w.heap.size ≤ gb167)); clear HB; have HB := n0_; have BK167 := n1_; have GW167 := n2_; have GE167 := n3_; clear n0_ n1_ n2_ n3_; clear hb hbox hg))
 (try simp only [Act.put, Zs1, Zs2, Zs3])
 go_cut [16] (fun v16 wc => ∃ (kq : Nat) (x16_2 : Bool), v16 = .bool x16_2 ∧ za (zo.j0 kq l1 x16_2 a0_0 a0_1 = some r) ∧ za (kq ≤ k) ∧ za (wc.heap[gb167]? = some (.cells #[.int .i64 a0_0, .int .i64 a0_1] 51 (0, 0))) ∧ za (Below w.heap.size w wc))
 case first =>
  have H := HC3.out;clear HC3;replace H := Option.bind_eq_some_iff.mp H;obtain ⟨t168, A50, H⟩ := H;replace H : (if t168 = true then (zo.j0 k l1 ((l1.length : Int) != 120) a0_0 a0_1) else (zo.j0 k l1 true a0_0 a0_1)) = some r := H;have A5 := za.mk A50;clear A50;by_cases c6 : t168 = true
  ·subst c6
   have H1 : (zo.j0 k l1 ((l1.length : Int) != 120) a0_0 a0_1) = some r := by rw [if_pos rfl] at H; exact H
   clear H;have H := H1;clear H1;have H' := za.mk H;clear H;have hcz7_0 : w4.cell? ⟨gb167, 0, none⟩ = some (.int .i64 a0_0) := (zf BK167.out 0).trans rfl;have hcz7_1 : w4.cell? ⟨gb167, 1, none⟩ = some (.int .i64 a0_1) := (zf BK167.out 1).trans rfl;have hfz7_0 := zb BK167.out 0;have hfz7_1 := zb BK167.out 1;go_wp2_with (first | ((with_reducible refine zbe (f := 77) rfl ?_); refine zch (some 10) rfl rfl Try.func77 (by kernel_rfl) rfl #[.agg #[.int .i64 a0_0, .int .i64 a0_1]] rfl Zmt ?_; (with_reducible refine (zcr.calls a0_0 a0_1 true _ A5.out).mono ?_); rintro e w8 ⟨rfl, hb⟩; refine ⟨_, rfl, ?_⟩; have n0_ := za.mk (zk (g := gb167) (o := .cells #[.int .i64 a0_0, .int .i64 a0_1] 51 (0, 0)) (Zq1 BK167) hb); have n1_ := za.mk (zh (Zq2 HB GE167) hb); clear BK167; clear HB; have BK167 := n0_; have HB := n1_; clear n0_ n1_; (try clear hb); (try clear hb2); (try clear hk); (try clear hi)));go_meet
   case rel => exact ⟨_, (((l1.length : Int) != 120)), Zrs, H', ⟨by first | omega | exact Nat.le_refl _⟩, ⟨Zq1 BK167⟩, ⟨Zq2 HB GE167⟩⟩
  ·replace c6 := Bool.eq_false_iff.mpr c6
   subst c6;have H1 : (zo.j0 k l1 true a0_0 a0_1) = some r := by rw [if_neg (show ¬ (false = true) by decide)] at H; exact H
   clear H;have H := H1;clear H1;have H' := za.mk H;clear H;have hcz9_0 : w4.cell? ⟨gb167, 0, none⟩ = some (.int .i64 a0_0) := (zf BK167.out 0).trans rfl;have hcz9_1 : w4.cell? ⟨gb167, 1, none⟩ = some (.int .i64 a0_1) := (zf BK167.out 1).trans rfl;have hfz9_0 := zb BK167.out 0;have hfz9_1 := zb BK167.out 1;go_wp2_with (first | ((with_reducible refine zbe (f := 77) rfl ?_); refine zch (some 10) rfl rfl Try.func77 (by kernel_rfl) rfl #[.agg #[.int .i64 a0_0, .int .i64 a0_1]] rfl Zmt ?_; (with_reducible refine (zcr.calls a0_0 a0_1 false _ A5.out).mono ?_); rintro e w10 ⟨rfl, hb⟩; refine ⟨_, rfl, ?_⟩; have n0_ := za.mk (zk (g := gb167) (o := .cells #[.int .i64 a0_0, .int .i64 a0_1] 51 (0, 0)) (Zq1 BK167) hb); have n1_ := za.mk (zh (Zq2 HB GE167) hb); clear BK167; clear HB; have BK167 := n0_; have HB := n1_; clear n0_ n1_; (try clear hb); (try clear hb2); (try clear hk); (try clear hi)));go_meet
   case rel => exact ⟨_, (true), Zrs, H', ⟨by first | omega | exact Nat.le_refl _⟩, ⟨Zq1 BK167⟩, ⟨Zq2 HB GE167⟩⟩
 case rest =>
  clear HC3
  (try clear c1);(try clear p2);(try clear c6);(try clear c7);(try clear hcz7_0);(try clear hcz7_1);(try clear hcz9_0);(try clear hcz9_1);(try clear hfz7_0);(try clear hfz7_1);(try clear hfz9_0);(try clear hfz9_1)
  obtain ⟨kq, x16_2, rfl, HA, HJ2, BK167, HB⟩ := hcut
  cases kq with
  | zero => exact absurd HA.out (by simp [zo.j0])
  | succ kj2 =>
   have H := HA.out;clear HA;simp only [zo.j0] at H;by_cases c11 : x16_2 = true
   ·subst c11
    have H1 : (some false) = some r := by rw [if_pos rfl] at H; exact H
    clear H;have H := H1;clear H1;obtain rfl := Option.some.inj H;go_wp2;go_ret;exact ⟨by first | rfl | (simp [zq, zt] <;> rfl) | (simp [*, zq, zt] <;> rfl), Zq2 HB GE167⟩
   ·replace c11 := Bool.eq_false_iff.mpr c11
    subst c11;have H1 : (zo.l0 kj2 l1 0 a0_0 a0_1) = some r := by rw [if_neg (show ¬ (false = true) by decide)] at H; exact H
    clear H;have H := H1;clear H1;have H' := za.mk H;clear H;go_wp2
    go_loopg [5] kj2 (fun kq v5 w' => ∃ (x5_2 : Int), v5 = .int .i64 x5_2 ∧ za (zo.l0 kq l1 x5_2 a0_0 a0_1 = some r) ∧ za (kq ≤ kj2) ∧ za (w'.heap[gb167]? = some (.cells #[.int .i64 a0_0, .int .i64 a0_1] 51 (0, 0))) ∧ za (Below w.heap.size w w'))
    case atStart => exact ⟨(0), Zrs, H', ⟨Nat.le_refl _⟩, ⟨Zq1 BK167⟩, ⟨Zq2 HB GE167⟩⟩
    case round =>
     clear H'
     (try clear c1);(try clear p2);(try clear c6);(try clear c7);(try clear c11);(try clear hcz7_0);(try clear hcz7_1);(try clear hcz9_0);(try clear hcz9_1);(try clear hfz7_0);(try clear hfz7_1);(try clear hfz9_0);(try clear hfz9_1);(try clear p2)
     obtain ⟨x5_2, rfl, HA, HK2, BK167, HB⟩ := hrel
     cases gk with
     | zero => exact absurd HA.out (by simp [zo.l0])
     | succ k2 =>
      have H := HA.out;clear HA;simp only [zo.l0] at H;by_cases c12 : (wrap64 (x5_2 + a0_1)) ≤ 120
      ·rw [if_pos c12] at H
       have c12b0 : decide ((wrap64 (x5_2 + a0_1)) ≤ 120) = true := decide_eq_true c12;clear c12;by_cases c13 : 0 ≤ x5_2
       ·rw [if_pos c13] at H
        have c13b0 := eq_true c13;have c13b1 : decide (0 ≤ x5_2) = true := decide_eq_true c13;clear c13;by_cases c14 : x5_2 ≤ (wrap64 (x5_2 + a0_1))
        ·rw [if_pos c14] at H
         have c14b0 := eq_true c14;have c14b1 : decide (x5_2 ≤ (wrap64 (x5_2 + a0_1))) = true := decide_eq_true c14;by_cases c15 : (wrap64 (x5_2 + a0_1)) ≤ (l1.length : Int)
         ·rw [if_pos c15] at H
          have c15b0 := eq_true c15;have c15b1 : decide ((wrap64 (x5_2 + a0_1)) ≤ (l1.length : Int)) = true := decide_eq_true c15;have HLEN := za.mk (show ((l1.take ((wrap64 (x5_2 + a0_1)) : Int).toNat).drop (x5_2 : Int).toNat).length = ((wrap64 (x5_2 + a0_1)) : Int).toNat - (x5_2 : Int).toNat by rw [List.length_drop, List.length_take]; have := c15; omega);have H' := za.mk H;clear H;have hcz16_0 : wr.cell? ⟨gb167, 0, none⟩ = some (.int .i64 a0_0) := (zf BK167.out 0).trans rfl;have hcz16_1 : wr.cell? ⟨gb167, 1, none⟩ = some (.int .i64 a0_1) := (zf BK167.out 1).trans rfl;have hfz16_0 := zb BK167.out 0;have hfz16_1 := zb BK167.out 1;obtain ⟨i017, hi017, _, hsz17, _⟩ := info_parts info4;obtain ⟨A17, hcut17, hA17, hC17⟩ := zhs (P := Try.prog) Value.bool false 52 4 .i64 .i64 Try.underlying52 hi017 hsz17 A1 c1 l1 x5_2 (wrap64 (x5_2 + a0_1)) (of_decide_eq_true Zas) (by first | omega | exact of_decide_eq_true Zas) (of_decide_eq_true Zas) HC1.out;have HR169 := za.mk (Kd.C_of_reads (h1 := fun _ => rfl) (hA17 _ (Kd.ze6 HR1.out)));have HC169 := za.mk hC17;clear hA17 hC17 hi017 hsz17;go_wp2
          go_loopg [6, 34] k2 (fun kq v6 v34 w' => ∃ (x6_3 : Int) (x34_3 : Int), v6 = .int .i64 x6_3 ∧ v34 = .int .i64 x34_3 ∧ za (zo.l1 kq l1 x5_2 x6_3 ((l1.take ((wrap64 (x5_2 + a0_1)) : Int).toNat).drop (x5_2 : Int).toNat) (((l1.take ((wrap64 (x5_2 + a0_1)) : Int).toNat).drop (x5_2 : Int).toNat).length : Int) x34_3 a0_0 a0_1 = some r) ∧ za (kq ≤ k2) ∧ za (w'.heap[gb167]? = some (.cells #[.int .i64 a0_0, .int .i64 a0_1] 51 (0, 0))) ∧ za (Below w.heap.size w w'))
          case atStart => exact ⟨(0), (0), Zrs, Zrs, H', ⟨Nat.le_refl _⟩, ⟨Zq1 BK167⟩, ⟨Zq2 HB GE167⟩⟩
          case round =>
           clear H'
           (try clear c1);(try clear p2);(try clear c6);(try clear p6);(try clear c7);(try clear c11);(try clear c12);(try clear c12b0);(try clear c13);(try clear c13b0);(try clear c13b1);(try clear c14);(try clear c14b0);(try clear c14b1);(try clear c15);(try clear c15b0);(try clear c15b1);(try clear hcz16_0);(try clear hcz16_1);(try clear hcz7_0);(try clear hcz7_1);(try clear hcz9_0);(try clear hcz9_1);(try clear hfz16_0);(try clear hfz16_1);(try clear hfz7_0);(try clear hfz7_1);(try clear hfz9_0);(try clear hfz9_1);(try clear p2)
           obtain ⟨x6_3, x34_3, rfl, rfl, HA, HK3, BK167, HB⟩ := hrel
           cases gk with
           | zero => exact absurd HA.out (by simp [zo.l1])
           | succ k3 =>
            have H := HA.out;clear HA;simp only [zo.l1] at H;by_cases c18 : x34_3 < (((l1.take ((wrap64 (x5_2 + a0_1)) : Int).toNat).drop (x5_2 : Int).toNat).length : Int)
            ·rw [if_pos c18] at H
             have c18b0 : decide (x34_3 < (((l1.take ((wrap64 (x5_2 + a0_1)) : Int).toNat).drop (x5_2 : Int).toNat).length : Int)) = true := decide_eq_true c18;have c18w : decide (x34_3 < ((((wrap64 (x5_2 + a0_1)) : Int).toNat - (x5_2 : Int).toNat : Nat) : Int)) = true := by rw [← HLEN.out]; exact c18b0
             clear c18;by_cases c19 : 0 ≤ x34_3
             ·rw [if_pos c19] at H
              have c19b0 : decide (0 ≤ x34_3) = true := decide_eq_true c19;clear c19;by_cases c20 : x34_3 < (((l1.take ((wrap64 (x5_2 + a0_1)) : Int).toNat).drop (x5_2 : Int).toNat).length : Int)
              ·rw [if_pos c20] at H
               have c20b0 : decide (x34_3 < (((l1.take ((wrap64 (x5_2 + a0_1)) : Int).toNat).drop (x5_2 : Int).toNat).length : Int)) = true := decide_eq_true c20;have c20w : decide (x34_3 < ((((wrap64 (x5_2 + a0_1)) : Int).toNat - (x5_2 : Int).toNat : Nat) : Int)) = true := by rw [← HLEN.out]; exact c20b0
               clear c20;obtain ⟨bq21, hbq21⟩ : ∃ b_ : Bool, b_ = (rdOf false ((l1.take ((wrap64 (x5_2 + a0_1)) : Int).toNat).drop (x5_2 : Int).toNat) x34_3) := ⟨_, rfl⟩;replace H : (if bq21 = true then (zo.l1 k3 l1 x5_2 (wrap64 (x6_3 + 1)) ((l1.take ((wrap64 (x5_2 + a0_1)) : Int).toNat).drop (x5_2 : Int).toNat) (((l1.take ((wrap64 (x5_2 + a0_1)) : Int).toNat).drop (x5_2 : Int).toNat).length : Int) (wrap64 (x34_3 + 1)) a0_0 a0_1) else (zo.l1 k3 l1 x5_2 x6_3 ((l1.take ((wrap64 (x5_2 + a0_1)) : Int).toNat).drop (x5_2 : Int).toNat) (((l1.take ((wrap64 (x5_2 + a0_1)) : Int).toNat).drop (x5_2 : Int).toNat).length : Int) (wrap64 (x34_3 + 1)) a0_0 a0_1)) = some r := by rw [← hbq21] at H; exact H
               have Nbq21 := za.mk hbq21;clear hbq21;by_cases c22 : bq21 = true
               ·subst c22
                have H1 : (zo.l1 k3 l1 x5_2 (wrap64 (x6_3 + 1)) ((l1.take ((wrap64 (x5_2 + a0_1)) : Int).toNat).drop (x5_2 : Int).toNat) (((l1.take ((wrap64 (x5_2 + a0_1)) : Int).toNat).drop (x5_2 : Int).toNat).length : Int) (wrap64 (x34_3 + 1)) a0_0 a0_1) = some r := by rw [if_pos rfl] at H; exact H
                clear H;have H := H1;clear H1;have H' := za.mk H;clear H;have p170 : 0 ≤ (x34_3 : Int) := of_decide_eq_true Zas;have q170 : x34_3 < (((l1.take ((wrap64 (x5_2 + a0_1)) : Int).toNat).drop (x5_2 : Int).toNat).length : Int) := of_decide_eq_true Zas;obtain ⟨ad170, e170, hx170_0⟩ := Kd.zd9 HR169.out x34_3 p170 q170;(try rw [← Nbq21.out] at hx170_0)
                cases e170
                replace hx170_0 := (HB.out.cell (World.block_lt_of_cell? w _ hx170_0)).trans hx170_0;replace p170 := eq_true p170;replace q170 := eq_true q170;have q170w := eq_true (show x34_3 < ((((wrap64 (x5_2 + a0_1)) : Int).toNat - (x5_2 : Int).toNat : Nat) : Int) by rw [← HLEN.out]; exact of_eq_true q170);go_wp2;go_roundg k3
                case measure => have := HJ2.out; have := HK2.out; have := HK3.out; omega
                case rel => exact ⟨(wrap64 (x6_3 + 1)), (wrap64 (x34_3 + 1)), Zrs, Zrs, H', ⟨by have := HJ2.out; have := HK2.out; have := HK3.out; omega⟩, ⟨Zq1 BK167⟩, ⟨Zq2 HB GE167⟩⟩
               ·replace c22 := Bool.eq_false_iff.mpr c22
                subst c22;have H1 : (zo.l1 k3 l1 x5_2 x6_3 ((l1.take ((wrap64 (x5_2 + a0_1)) : Int).toNat).drop (x5_2 : Int).toNat) (((l1.take ((wrap64 (x5_2 + a0_1)) : Int).toNat).drop (x5_2 : Int).toNat).length : Int) (wrap64 (x34_3 + 1)) a0_0 a0_1) = some r := by rw [if_neg (show ¬ (false = true) by decide)] at H; exact H
                clear H;have H := H1;clear H1;have H' := za.mk H;clear H;have p170 : 0 ≤ (x34_3 : Int) := of_decide_eq_true Zas;have q170 : x34_3 < (((l1.take ((wrap64 (x5_2 + a0_1)) : Int).toNat).drop (x5_2 : Int).toNat).length : Int) := of_decide_eq_true Zas;obtain ⟨ad170, e170, hx170_0⟩ := Kd.zd9 HR169.out x34_3 p170 q170;(try rw [← Nbq21.out] at hx170_0)
                cases e170
                replace hx170_0 := (HB.out.cell (World.block_lt_of_cell? w _ hx170_0)).trans hx170_0;replace p170 := eq_true p170;replace q170 := eq_true q170;have q170w := eq_true (show x34_3 < ((((wrap64 (x5_2 + a0_1)) : Int).toNat - (x5_2 : Int).toNat : Nat) : Int) by rw [← HLEN.out]; exact of_eq_true q170);go_wp2;go_roundg k3
                case measure => have := HJ2.out; have := HK2.out; have := HK3.out; omega
                case rel => exact ⟨(x6_3), (wrap64 (x34_3 + 1)), Zrs, Zrs, H', ⟨by have := HJ2.out; have := HK2.out; have := HK3.out; omega⟩, ⟨Zq1 BK167⟩, ⟨Zq2 HB GE167⟩⟩
              ·rw [if_neg c20] at H
               exact absurd H (by simp)
             ·rw [if_neg c19] at H
              exact absurd H (by simp)
            ·rw [if_neg c18] at H
             have c18b0 : decide (x34_3 < (((l1.take ((wrap64 (x5_2 + a0_1)) : Int).toNat).drop (x5_2 : Int).toNat).length : Int)) = false := decide_eq_false c18;have c18w : decide (x34_3 < ((((wrap64 (x5_2 + a0_1)) : Int).toNat - (x5_2 : Int).toNat : Nat) : Int)) = false := by rw [← HLEN.out]; exact c18b0
             clear c18;by_cases c23 : x6_3 = a0_0
             ·rw [if_pos c23] at H
              have c23b0 : (x6_3 == a0_0) = true := beq_iff_eq.mpr c23;have c23b1 : (x6_3 != a0_0) = false := bne_eq_false_iff_eq.mpr c23;clear c23;have H' := za.mk H;clear H;have hcz24_0 : wr.cell? ⟨gb167, 0, none⟩ = some (.int .i64 a0_0) := (zf BK167.out 0).trans rfl;have hcz24_1 : wr.cell? ⟨gb167, 1, none⟩ = some (.int .i64 a0_1) := (zf BK167.out 1).trans rfl;have hfz24_0 := zb BK167.out 0;have hfz24_1 := zb BK167.out 1;go_wp2;go_roundg k3
              case measure => have := HJ2.out; have := HK2.out; have := HK3.out; omega
              case rel => exact ⟨(wrap64 (x5_2 + a0_1)), Zrs, H', ⟨by have := HJ2.out; have := HK2.out; have := HK3.out; omega⟩, ⟨Zq1 BK167⟩, ⟨Zq2 HB GE167⟩⟩
             ·rw [if_neg c23] at H
              have c23b0 : (x6_3 == a0_0) = false := beq_eq_false_iff_ne.mpr c23;have c23b1 : (x6_3 != a0_0) = true := bne_iff_ne.mpr c23;obtain rfl := Option.some.inj H;have hcz25_0 : wr.cell? ⟨gb167, 0, none⟩ = some (.int .i64 a0_0) := (zf BK167.out 0).trans rfl;have hcz25_1 : wr.cell? ⟨gb167, 1, none⟩ = some (.int .i64 a0_1) := (zf BK167.out 1).trans rfl;have hfz25_0 := zb BK167.out 0;have hfz25_1 := zb BK167.out 1;go_wp2;go_ret;exact ⟨by first | rfl | (simp [zq, zt] <;> rfl) | (simp [*, zq, zt] <;> rfl), Zq2 HB GE167⟩
         ·rw [if_neg c15] at H
          exact absurd H (by simp)
        ·rw [if_neg c14] at H
         exact absurd H (by simp)
       ·rw [if_neg c13] at H
        exact absurd H (by simp)
      ·rw [if_neg c12] at H
       have c12b0 : decide ((wrap64 (x5_2 + a0_1)) ≤ 120) = false := decide_eq_false c12;clear c12;obtain rfl := Option.some.inj H;have hcz26_0 : wr.cell? ⟨gb167, 0, none⟩ = some (.int .i64 a0_0) := (zf BK167.out 0).trans rfl;have hcz26_1 : wr.cell? ⟨gb167, 1, none⟩ = some (.int .i64 a0_1) := (zf BK167.out 1).trans rfl;have hfz26_0 := zb BK167.out 0;have hfz26_1 := zb BK167.out 1;go_wp2;go_ret;exact ⟨by first | rfl | (simp [zq, zt] <;> rfl) | (simp [*, zq, zt] <;> rfl), Zq2 HB GE167⟩
set_option maxHeartbeats 4000000 in
theorem zhl (A3 : Option Addr) (c3 : Nat) (l3 : List Bool) (B : Addr) (t : Nat) (htl : t < l3.length) (w : World) (hB : w.cell? B = some (.slice A3 l3.length c3)) (hr3 : Kd.C Kd.bool w A3 l3.length l3) :
    Calls Try.prog 74 #[.int .i64 (t : Int), .pointer (some B)] w fun e w' => e = .returned (.bool (!(rdOf false l3 (t : Int)))) ∧ zbz w w' := by
  have htz : (t : Int) < (l3.length : Int) := by omega
  obtain ⟨ad, ea, hx⟩ := Kd.zd9 hr3 (t : Int) (by omega) htz
  cases ea
  rw [Int.toNat_natCast] at hx
  clear hr3
  generalize rdOf false l3 (t : Int) = v at hx ⊢
  go_enter Try.func74, Try.ntmps74
  go_wp2
  go_ret
  exact ⟨rfl, zbz.refl _⟩
def zbu.f (k : Nat) (l0 : List S88) (l1 : List S34) (a2_0 : Int) (a2_1 : Int) (l3 : List Bool) : Option (List Int × List Int) := (zo.f k a2_0 a2_1 l3).bind fun p => (if p = true then ((zcv.f l0 l1).bind fun t => (if t = true then (if l1.length ≤ 1000 ∧ 120 ≤ l3.length then (some (simR (pauD l1 (fun t => !(rdOf false l3 t))) l1)) else (none)) else (some ([], [])))) else (some ([], [])))
set_option maxHeartbeats 8000000 in
theorem zbu.calls (k : Nat) (A0 : Option Addr) (c0 : Nat) (l0 : List S88) (A1 : Option Addr) (c1 : Nat) (l1 : List S34) (a2_0 : Int) (a2_1 : Int) (A3 : Option Addr) (c3 : Nat) (l3 : List Bool) (r1 : List Int) (r2 : List Int) (w : World) (hr0 : Kd.C k88 w A0 l0.length l0) (hc0 : l0.length ≤ c0) (hr1 : Kd.C k34 w A1 l1.length l1) (hc1 : l1.length ≤ c1) (hr3 : Kd.C Kd.bool w A3 l3.length l3) (hc3 : l3.length ≤ c3) (h : zbu.f k l0 l1 a2_0 a2_1 l3 = some (r1, r2)) :
    Calls Try.prog 31 #[.slice A0 l0.length c0, .slice A1 l1.length c1, .agg #[.int .i64 a2_0, .int .i64 a2_1], .slice A3 l3.length c3] w fun e w' => ∃ v0_ v1_ : Value, e = .returned (.agg #[v0_, v1_]) ∧ Kd.R (Kd.int .i64) 3 w' w.heap.size (fun k_ => some k_ ≠ (v1_ : Value).ownBlock) v0_ r1 ∧ Kd.R (Kd.int .i64) 3 w' w.heap.size (fun k_ => some k_ ≠ (v0_ : Value).ownBlock) v1_ r2 ∧ Below w.heap.size w w' := by
  unfold zbu.f at h
  obtain ⟨W0, hW0⟩ : ∃ W0 : World, W0 = ((w.alloc (.cells #[.int .i64 a2_0, .int .i64 a2_1] 51)).alloc (.cells #[.slice A3 l3.length c3] 52)).alloc (.cells #[.slice none 0 0, .slice none 0 0] 29) := ⟨_, rfl⟩
  have b0 : Below w.heap.size w W0 := by rw [hW0]; exact zbo (zbo (zbo (Below.refl _ _) _) _) _
  have bk0 : W0.heap[w.heap.size + 2]? = some (.cells #[.slice none 0 0, .slice none 0 0] 29 (0, 0)) := by
    rw [hW0]
    have h := zfw ((w.alloc (.cells #[.int .i64 a2_0, .int .i64 a2_1] 51)).alloc (.cells #[.slice A3 l3.length c3] 52)) (.cells #[.slice none 0 0, .slice none 0 0] 29)
    rwa [show ((w.alloc (.cells #[.int .i64 a2_0, .int .i64 a2_1] 51)).alloc (.cells #[.slice A3 l3.length c3] 52)).heap.size = w.heap.size + 2 by simp] at h
  have bk1 : W0.heap[w.heap.size + 1]? = some (.cells #[.slice A3 l3.length c3] 52 (0, 0)) := by
    rw [hW0]
    have h := zfw (w.alloc (.cells #[.int .i64 a2_0, .int .i64 a2_1] 51)) (.cells #[.slice A3 l3.length c3] 52)
    rw [show (w.alloc (.cells #[.int .i64 a2_0, .int .i64 a2_1] 51)).heap.size = w.heap.size + 1 by simp] at h
    exact zw h _
  have s0 : w.heap.size + 2 < W0.heap.size := by rw [hW0]; simp
  have HR0 := za.mk (Kd.zbr hr0 b0)
  have HC0 := za.mk hc0
  have HR1 := za.mk (Kd.zbr hr1 b0)
  have HC1 := za.mk hc1
  have HR3 := za.mk (Kd.zbr hr3 b0)
  have HC3 := za.mk hc3
  have B0 := za.mk b0
  have K0 := za.mk bk0
  have K1 := za.mk bk1
  have S0 := za.mk s0
  have HW := za.mk hW0
  clear hr0 hc0 hr1 hc1 hr3 hc3 b0 bk0 bk1 s0 hW0
  have fin : ∀ (W : World), za (Below W0.heap.size W0 W) → za (W.heap[w.heap.size + 2]? = some (.cells #[.slice none 0 0, .slice none 0 0] 29 (0, 0))) := fun W hb => ⟨zk K0.out hb.out⟩
  cases hp : zo.f k a2_0 a2_1 l3 with
  | none => rw [hp] at h; simp at h
  | some p =>
    rw [hp] at h
    have HPV := za.mk hp
    clear hp
    cases p with
    | false =>
      simp at h
      obtain ⟨rfl, rfl⟩ := h
      go_enter Try.func31, Try.ntmps31
      go_wp2_with (go_at_call 72; (try rw [← HW.out]); refine (zo.calls k a2_0 a2_1 A3 c3 l3 false _ HR3.out HC3.out HPV.out).mono ?_; rintro e w1 ⟨rfl, hb⟩; have HB := za.mk hb; have BK1 := (fin w1 HB).out; have r0 := (zf BK1 0); have r1 := (zf BK1 1); have f0 := zb BK1 0; have f1 := zb BK1 1; have BK := za.mk BK1; clear hb BK1 fin)
      refine bodyPost_ret (results_cell_row rfl _ _ (w.heap.size + 2) 29 #[.slice none 0 0, .slice none 0 0] (0, 0) _ rfl (by first | exact BK.out | (refine zcb (cs := #[.slice none 0 0, .slice none 0 0]) ?_ 1 _ rfl; refine zcb (cs := #[.slice none 0 0, .slice none 0 0]) ?_ 0 _ rfl; exact BK.out)) Try.underlying29 rfl (by kernel_rfl)) rfl ?_
      exact ⟨_, _, rfl, Kd.zge _ _ _ _ _, Kd.zge _ _ _ _ _, by first | exact zb5 B0.out B0.out.size HB.out | exact ((zb5 B0.out B0.out.size HB.out).setCell (by show w.heap.size ≤ _; simp only; omega) _).setCell (by show w.heap.size ≤ _; simp only; omega) _⟩
    | true =>
      simp only [Option.bind_some, if_true] at h
      cases hs : zcv.f l0 l1 with
      | none => rw [hs] at h; simp at h
      | some t =>
        rw [hs] at h
        have HS := za.mk hs
        clear hs
        cases t with
        | false =>
          simp at h
          obtain ⟨rfl, rfl⟩ := h
          go_enter Try.func31, Try.ntmps31
          go_wp2_with (first
            | (go_at_call 72; (try rw [← HW.out]); refine (zo.calls k a2_0 a2_1 A3 c3 l3 true _ HR3.out HC3.out HPV.out).mono ?_; rintro e w1 ⟨rfl, hb⟩; have HB1 := za.mk hb; clear hb)
            | (go_at_call 48; refine (zcv.calls A0 c0 l0 A1 c1 l1 false _ (Kd.zbr HR0.out HB1.out) HC0.out (Kd.zbr HR1.out HB1.out) HC1.out HS.out).mono ?_; rintro e w2 ⟨rfl, hb⟩; have HB := za.mk (zb5 HB1.out HB1.out.size hb); have BK1 := (fin w2 HB).out; have r0 := (zf BK1 0); have r1 := (zf BK1 1); have f0 := zb BK1 0; have f1 := zb BK1 1; have BK := za.mk BK1; clear hb BK1 fin))
          refine bodyPost_ret (results_cell_row rfl _ _ (w.heap.size + 2) 29 #[.slice none 0 0, .slice none 0 0] (0, 0) _ rfl (by first | exact BK.out | (refine zcb (cs := #[.slice none 0 0, .slice none 0 0]) ?_ 1 _ rfl; refine zcb (cs := #[.slice none 0 0, .slice none 0 0]) ?_ 0 _ rfl; exact BK.out)) Try.underlying29 rfl (by kernel_rfl)) rfl ?_
          exact ⟨_, _, rfl, Kd.zge _ _ _ _ _, Kd.zge _ _ _ _ _, by first | exact zb5 B0.out B0.out.size HB.out | exact ((zb5 B0.out B0.out.size HB.out).setCell (by show w.heap.size ≤ _; simp only; omega) _).setCell (by show w.heap.size ≤ _; simp only; omega) _⟩
        | true =>
          simp only [Option.bind_some, if_true] at h
          by_cases hl : l1.length ≤ 1000 ∧ 120 ≤ l3.length
          · rw [if_pos hl] at h
            have h := Option.some.inj h
            have e1 := congrArg Prod.fst h
            have e2 := congrArg Prod.snd h
            simp only at e1 e2
            subst e1 e2
            clear h
            obtain ⟨hl1, hl3⟩ := hl
            have HPA := za.mk (fun (W : World) (hb1 : Below W0.heap.size W0 W) => zh4 (fun t => !(rdOf false l3 t)) 74 #[.pointer (some ⟨w.heap.size + 1, 0, none⟩)] (enters_of Try.func74 (by kernel_rfl) rfl) A1 c1 l1 W (Kd.zbr HR1.out hb1) hl1
              (fun W2 t htl hb => (zhl A3 c3 l3 ⟨w.heap.size + 1, 0, none⟩ t (by omega) W2 ((zf (zk K1.out (zb5 hb1 hb1.size hb)) 0).trans rfl) (Kd.zbr HR3.out (zb5 hb1 hb1.size hb))).mono fun e w' hh => ⟨hh.1, hh.2.out⟩))
            obtain ⟨sr, hsr⟩ : ∃ sr, sr = simR (pauD l1 (fun t => !(rdOf false l3 t))) l1 := ⟨_, rfl⟩
            rw [← hsr] at HPA ⊢
            clear hsr
            go_enter Try.func31, Try.ntmps31
            go_wp2_with (first
              | (go_at_call 72; (try rw [← HW.out]); refine (zo.calls k a2_0 a2_1 A3 c3 l3 true _ HR3.out HC3.out HPV.out).mono ?_; rintro e w1 ⟨rfl, hb⟩; have HB1 := za.mk hb; clear hb)
              | (go_at_call 48; refine (zcv.calls A0 c0 l0 A1 c1 l1 true _ (Kd.zbr HR0.out HB1.out) HC0.out (Kd.zbr HR1.out HB1.out) HC1.out HS.out).mono ?_; rintro e w2 ⟨rfl, hb⟩; have HB2 := za.mk (zb5 HB1.out HB1.out.size hb); clear hb)
              | (go_at_call 73; refine (HPA.out w2 HB2.out).mono ?_; rintro e w3 ⟨v0, v1, rfl, hR0, hR1, hb⟩; obtain ⟨X0, y0, ev⟩ := Kd.zb8 hR0; subst ev; obtain ⟨X1, y1, ev⟩ := Kd.zb8 hR1; subst ev; have H0 := za.mk hR0; have H1 := za.mk hR1; have S1 := za.mk (Nat.lt_of_lt_of_le S0.out HB2.out.size); have HB := za.mk (zb5 HB2.out HB2.out.size hb); have BK1 := (fin w3 HB).out; have r0 := (zf BK1 0); have r1 := (zf BK1 1); have f0 := zb BK1 0; have f1 := zb BK1 1; have BK := za.mk BK1; clear hR0 hR1 hb BK1 fin))
            refine bodyPost_ret (results_cell_row rfl _ _ (w.heap.size + 2) 29 #[.slice X0 sr.1.length y0, .slice X1 sr.2.length y1] (0, 0) _ rfl (by refine zcb (cs := #[.slice X0 sr.1.length y0, .slice none 0 0]) ?_ 1 _ rfl; refine zcb (cs := #[.slice none 0 0, .slice none 0 0]) ?_ 0 _ rfl; exact BK.out) Try.underlying29 rfl (by kernel_rfl)) rfl ?_
            exact ⟨_, _, rfl, Kd.zce (Kd.zbb (zf9 S1.out H0.out _ _) (fun k hk => hk.2)) (by have := S1.out; omega), Kd.zce (Kd.zbb (zf9 S1.out H1.out _ _) (fun k hk => hk.2)) (by have := S1.out; omega), ((zb5 B0.out B0.out.size HB.out).setCell (by show w.heap.size ≤ _; simp only; omega) _).setCell (by show w.heap.size ≤ _; simp only; omega) _⟩
          · rw [if_neg hl] at h
            cases h
def zbx.f (a0 : Int) (a1 : Int) (a2 : Int) : Option (Bool) := if a0 ≥ a1 then (some (decide (a0 ≤ a2))) else (some false)
set_option maxHeartbeats 8000000 in
theorem zbx.calls (a0 : Int) (a1 : Int) (a2 : Int) (r : Bool) (w : World) (h : zbx.f a0 a1 a2 = some r) :
  Calls Try.prog 102 #[.int .i64 a0, .int .i64 a1, .int .i64 a2] w fun e w' => e = .returned (.bool r) ∧ zbz w w' := by
 have H : (if a0 ≥ a1 then (some (decide (a0 ≤ a2))) else (some false)) = some r := h
 clear h
 by_cases c4 : a0 ≥ a1
 ·rw [if_pos c4] at H
  have c4b0 : decide (a1 ≤ a0) = true := decide_eq_true c4;clear c4;obtain rfl := Option.some.inj H;go_enter Try.func102, Try.ntmps102;go_wp2;go_ret;exact ⟨by first | rfl | (simp; done) | (simp [*]; done), by repeat (first | exact zbz.refl _ | apply zbz.step)⟩
 ·rw [if_neg c4] at H
  have c4b0 : decide (a1 ≤ a0) = false := decide_eq_false c4;clear c4;obtain rfl := Option.some.inj H;go_enter Try.func102, Try.ntmps102;go_wp2;go_ret;exact ⟨by first | rfl | (simp; done) | (simp [*]; done), by repeat (first | exact zbz.refl _ | apply zbz.step)⟩
def zc2.f (a0_0 : Int) (a0_1 : Int) (a0_2 : Int) : Option (Bool) := (zbx.f a0_0 1 8).bind fun t182 => (if t182 = true then ((zbx.f a0_1 a0_0 a0_2).bind fun t183 => (if t183 = true then ((zbx.f a0_2 1 12).bind fun t184 => (some t184)) else (some false))) else (some false))
set_option maxHeartbeats 8000000 in
theorem zc2.calls (a0_0 : Int) (a0_1 : Int) (a0_2 : Int) (r : Bool) (w : World) (h : zc2.f a0_0 a0_1 a0_2 = some r) :
  Calls Try.prog 90 #[.agg #[.int .i64 a0_0, .int .i64 a0_1, .int .i64 a0_2]] w fun e w' => e = .returned (.bool r) ∧ Below w.heap.size w w' := by
 have hu88 := Try.underlying88
 have HB := za.mk (Below.refl w.heap.size w)
 have H : ((zbx.f a0_0 1 8).bind fun t182 => (if t182 = true then ((zbx.f a0_1 a0_0 a0_2).bind fun t183 => (if t183 = true then ((zbx.f a0_2 1 12).bind fun t184 => (some t184)) else (some false))) else (some false))) = some r := h
 clear h
 replace H := Option.bind_eq_some_iff.mp H
 obtain ⟨t182, A20, H⟩ := H
 replace H : (if t182 = true then ((zbx.f a0_1 a0_0 a0_2).bind fun t183 => (if t183 = true then ((zbx.f a0_2 1 12).bind fun t184 => (some t184)) else (some false))) else (some false)) = some r := H
 have A2 := za.mk A20
 clear A20
 by_cases c3 : t182 = true
 ·subst c3
  have H1 : ((zbx.f a0_1 a0_0 a0_2).bind fun t183 => (if t183 = true then ((zbx.f a0_2 1 12).bind fun t184 => (some t184)) else (some false))) = some r := by rw [if_pos rfl] at H; exact H
  clear H;have H := H1;clear H1;replace H := Option.bind_eq_some_iff.mp H;obtain ⟨t183, A40, H⟩ := H;replace H : (if t183 = true then ((zbx.f a0_2 1 12).bind fun t184 => (some t184)) else (some false)) = some r := H;have A4 := za.mk A40;clear A40;by_cases c5 : t183 = true
  ·subst c5
   have H1 : ((zbx.f a0_2 1 12).bind fun t184 => (some t184)) = some r := by rw [if_pos rfl] at H; exact H
   clear H;have H := H1;clear H1;replace H := Option.bind_eq_some_iff.mp H;obtain ⟨t184, A60, H⟩ := H;replace H : (some t184) = some r := H;have A6 := za.mk A60;clear A60;obtain rfl := Option.some.inj H;go_enter Try.func90, Try.ntmps90;go_wp2_with (first | ((with_reducible refine zbn (N := 1) rfl ?_); refine zbm ?hg (N := 1) ?hd (cs := #[.int .i64 a0_0, .int .i64 a0_1, .int .i64 a0_2]) (t := 88) ?hr ?_; (case hd => rfl); (case hg => rfl); (case hr => first | (go_simp; done) | (go_simp; rfl)); intro gb181 hg w7 hbox hb; have n0_ := za.mk (zh (Zq0 HB) hb); have n1_ := za.mk (hbox); have n2_ := za.mk ((by rw [hg]; exact (zg (Zq0 HB)) : w.heap.size ≤ gb181)); have n3_ := za.mk ((by rw [hg]; exact (zg (Zq0 HB)) : w.heap.size ≤ gb181)); clear HB; have HB := n0_; have BK181 := n1_; have GW181 := n2_; have GE181 := n3_; clear n0_ n1_ n2_ n3_; clear hb hbox hg; have hcz8_0 : w7.cell? ⟨gb181, 0, none⟩ = some (.int .i64 a0_0) := (zf BK181.out 0).trans rfl; have hcz8_1 : w7.cell? ⟨gb181, 1, none⟩ = some (.int .i64 a0_1) := (zf BK181.out 1).trans rfl; have hcz8_2 : w7.cell? ⟨gb181, 2, none⟩ = some (.int .i64 a0_2) := (zf BK181.out 2).trans rfl; have hfz8_0 := zb BK181.out 0; have hfz8_1 := zb BK181.out 1; have hfz8_2 := zb BK181.out 2) | ((with_reducible refine zbe (f := 102) rfl ?_); refine zch (some 5) rfl rfl Try.func102 (by kernel_rfl) rfl #[.int .i64 a0_0, .int .i64 1, .int .i64 8] rfl Zmt ?_; (with_reducible refine (zbx.calls a0_0 1 8 true _ A2.out).mono ?_); rintro e w' ⟨rfl, ⟨nd, rfl⟩⟩; refine ⟨_, rfl, ?_⟩) | (go_at_call 102; (with_reducible refine (zbx.calls a0_1 a0_0 a0_2 true _ A4.out).mono ?_); rintro e w' ⟨rfl, ⟨nd, rfl⟩⟩) | (go_at_call 102; (with_reducible refine (zbx.calls a0_2 1 12 t184 _ A6.out).mono ?_); rintro e w' ⟨rfl, ⟨nd, rfl⟩⟩));go_ret;exact ⟨by first | rfl | (simp [zq, zt] <;> rfl) | (simp [*, zq, zt] <;> rfl), Zq2 HB GE181⟩
  ·replace c5 := Bool.eq_false_iff.mpr c5
   subst c5;have H1 : (some false) = some r := by rw [if_neg (show ¬ (false = true) by decide)] at H; exact H
   clear H;have H := H1;clear H1;obtain rfl := Option.some.inj H;go_enter Try.func90, Try.ntmps90;go_wp2_with (first | ((with_reducible refine zbn (N := 1) rfl ?_); refine zbm ?hg (N := 1) ?hd (cs := #[.int .i64 a0_0, .int .i64 a0_1, .int .i64 a0_2]) (t := 88) ?hr ?_; (case hd => rfl); (case hg => rfl); (case hr => first | (go_simp; done) | (go_simp; rfl)); intro gb181 hg w9 hbox hb; have n0_ := za.mk (zh (Zq0 HB) hb); have n1_ := za.mk (hbox); have n2_ := za.mk ((by rw [hg]; exact (zg (Zq0 HB)) : w.heap.size ≤ gb181)); have n3_ := za.mk ((by rw [hg]; exact (zg (Zq0 HB)) : w.heap.size ≤ gb181)); clear HB; have HB := n0_; have BK181 := n1_; have GW181 := n2_; have GE181 := n3_; clear n0_ n1_ n2_ n3_; clear hb hbox hg; have hcz10_0 : w9.cell? ⟨gb181, 0, none⟩ = some (.int .i64 a0_0) := (zf BK181.out 0).trans rfl; have hcz10_1 : w9.cell? ⟨gb181, 1, none⟩ = some (.int .i64 a0_1) := (zf BK181.out 1).trans rfl; have hcz10_2 : w9.cell? ⟨gb181, 2, none⟩ = some (.int .i64 a0_2) := (zf BK181.out 2).trans rfl; have hfz10_0 := zb BK181.out 0; have hfz10_1 := zb BK181.out 1; have hfz10_2 := zb BK181.out 2) | ((with_reducible refine zbe (f := 102) rfl ?_); refine zch (some 5) rfl rfl Try.func102 (by kernel_rfl) rfl #[.int .i64 a0_0, .int .i64 1, .int .i64 8] rfl Zmt ?_; (with_reducible refine (zbx.calls a0_0 1 8 true _ A2.out).mono ?_); rintro e w' ⟨rfl, ⟨nd, rfl⟩⟩; refine ⟨_, rfl, ?_⟩) | (go_at_call 102; (with_reducible refine (zbx.calls a0_1 a0_0 a0_2 false _ A4.out).mono ?_); rintro e w' ⟨rfl, ⟨nd, rfl⟩⟩));go_ret;exact ⟨by first | rfl | (simp [zq, zt] <;> rfl) | (simp [*, zq, zt] <;> rfl), Zq2 HB GE181⟩
 ·replace c3 := Bool.eq_false_iff.mpr c3
  subst c3;have H1 : (some false) = some r := by rw [if_neg (show ¬ (false = true) by decide)] at H; exact H
  clear H;have H := H1;clear H1;obtain rfl := Option.some.inj H;go_enter Try.func90, Try.ntmps90;go_wp2_with (first | ((with_reducible refine zbn (N := 1) rfl ?_); refine zbm ?hg (N := 1) ?hd (cs := #[.int .i64 a0_0, .int .i64 a0_1, .int .i64 a0_2]) (t := 88) ?hr ?_; (case hd => rfl); (case hg => rfl); (case hr => first | (go_simp; done) | (go_simp; rfl)); intro gb181 hg w11 hbox hb; have n0_ := za.mk (zh (Zq0 HB) hb); have n1_ := za.mk (hbox); have n2_ := za.mk ((by rw [hg]; exact (zg (Zq0 HB)) : w.heap.size ≤ gb181)); have n3_ := za.mk ((by rw [hg]; exact (zg (Zq0 HB)) : w.heap.size ≤ gb181)); clear HB; have HB := n0_; have BK181 := n1_; have GW181 := n2_; have GE181 := n3_; clear n0_ n1_ n2_ n3_; clear hb hbox hg; have hcz12_0 : w11.cell? ⟨gb181, 0, none⟩ = some (.int .i64 a0_0) := (zf BK181.out 0).trans rfl; have hcz12_1 : w11.cell? ⟨gb181, 1, none⟩ = some (.int .i64 a0_1) := (zf BK181.out 1).trans rfl; have hcz12_2 : w11.cell? ⟨gb181, 2, none⟩ = some (.int .i64 a0_2) := (zf BK181.out 2).trans rfl; have hfz12_0 := zb BK181.out 0; have hfz12_1 := zb BK181.out 1; have hfz12_2 := zb BK181.out 2) | ((with_reducible refine zbe (f := 102) rfl ?_); refine zch (some 5) rfl rfl Try.func102 (by kernel_rfl) rfl #[.int .i64 a0_0, .int .i64 1, .int .i64 8] rfl Zmt ?_; (with_reducible refine (zbx.calls a0_0 1 8 false _ A2.out).mono ?_); rintro e w' ⟨rfl, ⟨nd, rfl⟩⟩; refine ⟨_, rfl, ?_⟩));go_ret;exact ⟨by first | rfl | (simp [zq, zt] <;> rfl) | (simp [*, zq, zt] <;> rfl), Zq2 HB GE181⟩
def zb3.l0 : Nat → List (S88) → Int → Option (Bool)
 | 0, _, _ => none
 | k + 1, x0, x3 => if x3 < (x0.length : Int) then (if 0 ≤ x3 then ((zc2.f ((zu x0 x3).f0) ((zu x0 x3).f1) ((zu x0 x3).f2)).bind fun t186 => (if t186 = true then (zb3.l0 k x0 (wrap64 (x3 + 1))) else (some false))) else (none)) else (some (decide ((x0.length : Int) ≤ 5)))
def zb3.f (k : Nat) (l0 : List (S88)) : Option (Bool) := zb3.l0 k l0 0
set_option maxHeartbeats 8000000 in
theorem zb3.calls (k : Nat) (A0 : Option Addr) (c0 : Nat) (l0 : List (S88)) (r : Bool) (w : World) (hr0 : Kd.C k88 w A0 l0.length l0) (hc0 : l0.length ≤ c0) (h : zb3.f k l0 = some r) :
  Calls Try.prog 46 #[.slice A0 l0.length c0] w fun e w' => e = .returned (.bool r) ∧ Below w.heap.size w w' := by
 have hu88 := Try.underlying88
 have HR0 := za.mk hr0
 have HC0 := za.mk hc0
 clear hr0 hc0
 have HB := za.mk (Below.refl w.heap.size w)
 have H : (zb3.l0 k l0 0) = some r := h
 clear h
 have H' := za.mk H
 clear H
 go_enter Try.func46, Try.ntmps46
 go_wp2
 go_loopg [3] k (fun kq v3 w' => ∃ (x3_1 : Int), v3 = .int .i64 x3_1 ∧ za (zb3.l0 kq l0 x3_1 = some r) ∧ za (kq ≤ k) ∧ za (Below w.heap.size w w'))
 case atStart => exact ⟨(0), Zrs, H', ⟨Nat.le_refl _⟩, ⟨Zq0 HB⟩⟩
 case round =>
  clear H';obtain ⟨x3_1, rfl, HA, HK1, HB⟩ := hrel
  cases gk with
  | zero => exact absurd HA.out (by simp [zb3.l0])
  | succ k1 =>
   have H := HA.out;clear HA;simp only [zb3.l0] at H;by_cases c2 : x3_1 < (l0.length : Int)
   ·rw [if_pos c2] at H
    have c2b0 : decide (x3_1 < (l0.length : Int)) = true := decide_eq_true c2;clear c2;by_cases c3 : 0 ≤ x3_1
    ·rw [if_pos c3] at H
     have c3b0 : decide (0 ≤ x3_1) = true := decide_eq_true c3;clear c3;replace H := Option.bind_eq_some_iff.mp H;obtain ⟨t186, A40, H⟩ := H;replace H : (if t186 = true then (zb3.l0 k1 l0 (wrap64 (x3_1 + 1))) else (some false)) = some r := H;have A4 := za.mk A40;clear A40;by_cases c5 : t186 = true
     ·subst c5
      have H1 : (zb3.l0 k1 l0 (wrap64 (x3_1 + 1))) = some r := by rw [if_pos rfl] at H; exact H
      clear H;have H := H1;clear H1;have H' := za.mk H;clear H;have p185 : 0 ≤ (x3_1 : Int) := of_decide_eq_true Zas;have q185 : x3_1 < (l0.length : Int) := of_decide_eq_true Zas;obtain ⟨ad185, e185, hx185_0, hx185_1, hx185_2⟩ := ze1 HR0.out x3_1 p185 q185
      cases e185
      replace hx185_0 := (HB.out.cell (World.block_lt_of_cell? w _ hx185_0)).trans hx185_0;replace hx185_1 := (HB.out.cell (World.block_lt_of_cell? w _ hx185_1)).trans hx185_1;replace hx185_2 := (HB.out.cell (World.block_lt_of_cell? w _ hx185_2)).trans hx185_2;replace p185 := eq_true p185;replace q185 := eq_true q185;go_wp2_with (first | ((with_reducible refine zbe (f := 90) rfl ?_); refine zch (some 14) rfl rfl Try.func90 (by kernel_rfl) rfl #[.agg #[.int .i64 ((zu l0 x3_1).f0), .int .i64 ((zu l0 x3_1).f1), .int .i64 ((zu l0 x3_1).f2)]] rfl Zmt ?_; (with_reducible refine (zc2.calls ((zu l0 x3_1).f0) ((zu l0 x3_1).f1) ((zu l0 x3_1).f2) true _ A4.out).mono ?_); rintro e w6 ⟨rfl, hb⟩; refine ⟨_, rfl, ?_⟩; have n0_ := za.mk (zh (Zq0 HB) hb); clear HB; have HB := n0_; clear n0_; (try clear hb); (try clear hb2); (try clear hk); (try clear hi)));go_roundg k1
      case measure => have := HK1.out; omega
      case rel => exact ⟨(wrap64 (x3_1 + 1)), Zrs, H', ⟨by have := HK1.out; omega⟩, ⟨Zq0 HB⟩⟩
     ·replace c5 := Bool.eq_false_iff.mpr c5
      subst c5;have H1 : (some false) = some r := by rw [if_neg (show ¬ (false = true) by decide)] at H; exact H
      clear H;have H := H1;clear H1;obtain rfl := Option.some.inj H;have p185 : 0 ≤ (x3_1 : Int) := of_decide_eq_true Zas;have q185 : x3_1 < (l0.length : Int) := of_decide_eq_true Zas;obtain ⟨ad185, e185, hx185_0, hx185_1, hx185_2⟩ := ze1 HR0.out x3_1 p185 q185
      cases e185
      replace hx185_0 := (HB.out.cell (World.block_lt_of_cell? w _ hx185_0)).trans hx185_0;replace hx185_1 := (HB.out.cell (World.block_lt_of_cell? w _ hx185_1)).trans hx185_1;replace hx185_2 := (HB.out.cell (World.block_lt_of_cell? w _ hx185_2)).trans hx185_2;replace p185 := eq_true p185;replace q185 := eq_true q185;go_wp2_with (first | ((with_reducible refine zbe (f := 90) rfl ?_); refine zch (some 14) rfl rfl Try.func90 (by kernel_rfl) rfl #[.agg #[.int .i64 ((zu l0 x3_1).f0), .int .i64 ((zu l0 x3_1).f1), .int .i64 ((zu l0 x3_1).f2)]] rfl Zmt ?_; (with_reducible refine (zc2.calls ((zu l0 x3_1).f0) ((zu l0 x3_1).f1) ((zu l0 x3_1).f2) false _ A4.out).mono ?_); rintro e w7 ⟨rfl, hb⟩; refine ⟨_, rfl, ?_⟩; have n0_ := za.mk (zh (Zq0 HB) hb); clear HB; have HB := n0_; clear n0_; (try clear hb); (try clear hb2); (try clear hk); (try clear hi)));go_ret;exact ⟨by first | rfl | (simp [zq, zt] <;> rfl) | (simp [*, zq, zt] <;> rfl), Zq0 HB⟩
    ·rw [if_neg c3] at H
     exact absurd H (by simp)
   ·rw [if_neg c2] at H
    have c2b0 : decide (x3_1 < (l0.length : Int)) = false := decide_eq_false c2;clear c2;obtain rfl := Option.some.inj H;go_wp2;go_ret;exact ⟨by first | rfl | (simp [zq, zt] <;> rfl) | (simp [*, zq, zt] <;> rfl), Zq0 HB⟩
end Go.Proofs.Ytkdfjomhichkoaa.P
