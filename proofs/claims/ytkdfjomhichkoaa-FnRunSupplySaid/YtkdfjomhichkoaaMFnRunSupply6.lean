/- The law FnRunSupply for every input, part 6 of its proof: what the program's functions answer, and the plain law. No condition. -/
import Derived.Test.YtkdfjomhichkoaaMFnRunSupply1
import Derived.Test.YtkdfjomhichkoaaMFnRunSupply2
import Derived.Test.YtkdfjomhichkoaaMFnRunSupply3
import Derived.Test.YtkdfjomhichkoaaMFnRunSupply4
import Derived.Test.YtkdfjomhichkoaaMFnRunSupply5
import Derived.Laws.BitsLemmas
namespace Go.Proofs.Ytkdfjomhichkoaa.P
open Go.RowKit Go.Proofs.YtkdfjomhichkoaaW.PrintWords Go.Proofs.YtkdfjomhichkoaaW.PrintLast Go.Proofs.YtkdfjomhichkoaaW.PrintMore
attribute [local go_sem] max2_int min2_int max_two min_two max_three min_three max_four min_four
set_option linter.unusedVariables false
set_option linter.unusedSimpArgs false
mutual
def laws_FnRunSupply.l0 : Nat → List (S88) → List (S34) → List Bool → List Int → List Bool → Int → List Int → List Int → Option (Bool)
 | 0, _, _, _, _, _, _, _, _ => none
 | k + 1, x3, x4, x6, x8, x9, x10, x751000, x751001 => if x10 < 120 then (if x9.length < 140737488355328 then ((some (x9 ++ [true] : List Bool)).bind fun y778 => (if 0 ≤ x10 then (if x10 < (x751000.length : Int) then (if x10 < (x6.length : Int) then (if rdOf false x6 x10 = true then (laws_FnRunSupply.j1 k x3 x4 x6 x8 y778 x10 (rd x751000 x10) false x751000 x751001) else (laws_FnRunSupply.j1 k x3 x4 x6 x8 y778 x10 (rd x751000 x10) (decide ((rd x751000 x10) ≥ 0)) x751000 x751001)) else (none)) else (none)) else (none))) else (none)) else ((zcr.f k x3 x4 1 1 x9).bind fun bt765 => ((zds.f x3 x4).bind fun bt771 => ((zcd.f k bt765.1 bt765.2 bt771.1 bt771.2).bind fun t777 => (some t777))))
def laws_FnRunSupply.j1 : Nat → List (S88) → List (S34) → List Bool → List Int → List Bool → Int → Int → Bool → List Int → List Int → Option (Bool)
 | 0, _, _, _, _, _, _, _, _, _, _ => none
 | k + 1, x3, x4, x6, x8, x9, x10, x11, x75, x751000, x751001 => if x75 = true then (some false) else (laws_FnRunSupply.l1 k x3 x4 x6 x8 x9 x10 x11 0 x751000 x751001)
def laws_FnRunSupply.l1 : Nat → List (S88) → List (S34) → List Bool → List Int → List Bool → Int → Int → Int → List Int → List Int → Option (Bool)
 | 0, _, _, _, _, _, _, _, _, _, _ => none
 | k + 1, x3, x4, x6, x8, x9, x10, x11, x12, x751000, x751001 => if 0 ≤ x10 then (if x10 < (x6.length : Int) then (if rdOf false x6 x10 = true then (if x11 < 0 then (laws_FnRunSupply.j3 k x3 x4 x6 x8 x9 x10 x11 x12 (decide (x12 < (x4.length : Int))) x751000 x751001) else (laws_FnRunSupply.j3 k x3 x4 x6 x8 x9 x10 x11 x12 false x751000 x751001)) else (laws_FnRunSupply.j3 k x3 x4 x6 x8 x9 x10 x11 x12 false x751000 x751001)) else (none)) else (none)
def laws_FnRunSupply.j3 : Nat → List (S88) → List (S34) → List Bool → List Int → List Bool → Int → Int → Int → Bool → List Int → List Int → Option (Bool)
 | 0, _, _, _, _, _, _, _, _, _, _, _ => none
 | k + 1, x3, x4, x6, x8, x9, x10, x11, x12, x89, x751000, x751001 => if x89 = true then (if 0 ≤ x12 then (if x12 < (x4.length : Int) then (if ((ze x4 x12).f1) ≤ x10 then (if x12 < (x8.length : Int) then (if (rd x8 x12) < ((ze x4 x12).f3) then (some false) else (laws_FnRunSupply.l1 k x3 x4 x6 x8 x9 x10 x11 (wrap64 (x12 + 1)) x751000 x751001)) else (none)) else (laws_FnRunSupply.l1 k x3 x4 x6 x8 x9 x10 x11 (wrap64 (x12 + 1)) x751000 x751001)) else (none)) else (none)) else (if x11 ≥ 0 then (if 0 ≤ x11 then (if x11 < (x8.length : Int) then (laws_FnRunSupply.l0 k x3 x4 x6 (x8.set (x11 : Int).toNat (wrap64 ((rd x8 x11) + 1))) x9 (wrap64 (x10 + 1)) x751000 x751001) else (none)) else (none)) else (laws_FnRunSupply.l0 k x3 x4 x6 x8 x9 (wrap64 (x10 + 1)) x751000 x751001))
end
def laws_FnRunSupply.f (k : Nat) (l0 : List Int) : Option (Bool) := if (l0.length : Int) > 1048576 then (some true) else ((z8.f k l0).bind fun bt732 => ((zcr.f k bt732.1 bt732.2.1 bt732.2.2.1 bt732.2.2.2.1 bt732.2.2.2.2).bind fun bt744 => ((zw.f k bt732.1 bt732.2.1 bt732.2.2.1 bt732.2.2.2.1 bt732.2.2.2.2).bind fun bt751 => ((zcd.f k bt744.1 bt744.2 bt751.1 bt751.2).bind fun t757 => (if t757 = true then (if (bt744.1.length : Int) = 120 then (if 0 ≤ (bt732.2.1.length : Int) then (if ((bt732.2.1.length : Int) : Int).toNat ≤ 35184372088832 then (laws_FnRunSupply.l0 k bt732.1 bt732.2.1 bt732.2.2.2.2 (List.replicate ((bt732.2.1.length : Int) : Int).toNat 0) (([] : List Bool)) 0 bt744.1 bt744.2) else (none)) else (none)) else (if (wrap64 ((bt744.1.length : Int) + (bt744.2.length : Int))) = 0 then ((zda.f).bind fun t758 => (some t758)) else (some false))) else (some false))))))
def laws_FnRunSupply.T5 : Bool × List (List Nat × List Nat) := (true, [([], []), ([], []), ([], []), ([], []), ([], []), ([1, 2, 3, 4], [1, 2, 3, 4]), ([0, 5, 5], [0, 5]), ([6], [6])])
def laws_FnRunSupply.B5 : List Nat := [0, 0, 0, 0, 0, 30, 63, 127]
theorem laws_FnRunSupply.tab5 : rtab .any (opsOf Try.f7 5) = laws_FnRunSupply.T5 := by kernel_rfl
theorem laws_FnRunSupply.bits5 : waitsOk laws_FnRunSupply.T5.2 laws_FnRunSupply.B5 = true := by kernel_rfl
def laws_FnRunSupply.T21 : Bool × List (List Nat × List Nat) := (true, [([], []), ([], []), ([0, 1], [0, 1]), ([2], [2]), ([3], [3]), ([], []), ([4, 5], [4, 5]), ([6], [6]), ([7], [7]), ([7], [7]), ([8, 9, 7], [7, 8, 9]), ([10, 7], [7, 10]), ([7], [7]), ([7], [7]), ([12, 13, 7], [7, 12, 13]), ([14, 7], [7, 14]), ([15, 7], [7, 15]), ([11, 16, 7], [7, 11, 16]), ([7, 17], [7, 17])])
def laws_FnRunSupply.B21 : List Nat := [0, 0, 3, 7, 15, 0, 63, 127, 255, 255, 1023, 2047, 255, 255, 12543, 28927, 61695, 131071, 262143]
theorem laws_FnRunSupply.tab21 : rtab .any (opsOf Try.f7 21) = laws_FnRunSupply.T21 := by kernel_rfl
theorem laws_FnRunSupply.bits21 : waitsOk laws_FnRunSupply.T21.2 laws_FnRunSupply.B21 = true := by kernel_rfl
set_option maxHeartbeats 8000000 in
set_option maxRecDepth 100000 in
theorem laws_FnRunSupply.calls (k : Nat) (A0 : Option Addr) (c0 : Nat) (l0 : List Int) (r : Bool) (w : World) (hr0 : Kd.C (Kd.int .u8) w A0 l0.length l0) (hc0 : l0.length ≤ c0) (h : laws_FnRunSupply.f k l0 = some r) (hrt : r = true) :
  Calls Try.prog 7 #[.slice A0 l0.length c0] w fun e w' => e = .returned (.bool r) ∧ Below w.heap.size w w' := by
 have HRT := za.mk hrt
 clear hrt
 have hu51 := Try.underlying51
 have hu29 := Try.underlying29
 have HR0 := za.mk hr0
 have HC0 := za.mk hc0
 clear hr0 hc0
 have HB := za.mk (Below.refl w.heap.size w)
 have H : (if (l0.length : Int) > 1048576 then (some true) else ((z8.f k l0).bind fun bt732 => ((zcr.f k bt732.1 bt732.2.1 bt732.2.2.1 bt732.2.2.2.1 bt732.2.2.2.2).bind fun bt744 => ((zw.f k bt732.1 bt732.2.1 bt732.2.2.1 bt732.2.2.2.1 bt732.2.2.2.2).bind fun bt751 => ((zcd.f k bt744.1 bt744.2 bt751.1 bt751.2).bind fun t757 => (if t757 = true then (if (bt744.1.length : Int) = 120 then (if 0 ≤ (bt732.2.1.length : Int) then (if ((bt732.2.1.length : Int) : Int).toNat ≤ 35184372088832 then (laws_FnRunSupply.l0 k bt732.1 bt732.2.1 bt732.2.2.2.2 (List.replicate ((bt732.2.1.length : Int) : Int).toNat 0) (([] : List Bool)) 0 bt744.1 bt744.2) else (none)) else (none)) else (if (wrap64 ((bt744.1.length : Int) + (bt744.2.length : Int))) = 0 then ((zda.f).bind fun t758 => (some t758)) else (some false))) else (some false))))))) = some r := h
 clear h
 by_cases c2 : (l0.length : Int) > 1048576
 ·rw [if_pos c2] at H
  have c2b0 : decide (1048576 < (l0.length : Int)) = true := decide_eq_true c2
  have c2b1 : decide (1048576 < l0.length) = true := decide_eq_true (by omega)
  clear c2
  obtain rfl := Option.some.inj H
  go_enter Try.func7, Try.ntmps7
  go_wp2
  go_ret
  exact ⟨by first | rfl | (simp [zbc, zbd] <;> rfl) | (simp [*, zbc, zbd] <;> rfl), Zq3 HB.out⟩
 ·rw [if_neg c2] at H
  have c2b0 : decide (1048576 < (l0.length : Int)) = false := decide_eq_false c2
  have c2b1 : decide (1048576 < l0.length) = false := decide_eq_false (by omega)
  clear c2
  replace H := Option.bind_eq_some_iff.mp H
  obtain ⟨⟨t732, t735, t738, t739, t740⟩, A30, H⟩ := H
  replace H : ((zcr.f k t732 t735 t738 t739 t740).bind fun bt744 => ((zw.f k t732 t735 t738 t739 t740).bind fun bt751 => ((zcd.f k bt744.1 bt744.2 bt751.1 bt751.2).bind fun t757 => (if t757 = true then (if (bt744.1.length : Int) = 120 then (if 0 ≤ (t735.length : Int) then (if ((t735.length : Int) : Int).toNat ≤ 35184372088832 then (laws_FnRunSupply.l0 k t732 t735 t740 (List.replicate ((t735.length : Int) : Int).toNat 0) (([] : List Bool)) 0 bt744.1 bt744.2) else (none)) else (none)) else (if (wrap64 ((bt744.1.length : Int) + (bt744.2.length : Int))) = 0 then ((zda.f).bind fun t758 => (some t758)) else (some false))) else (some false))))) = some r := H
  have A3 := za.mk A30
  clear A30
  replace H := Option.bind_eq_some_iff.mp H
  obtain ⟨⟨t744, t747⟩, A40, H⟩ := H
  replace H : ((zw.f k t732 t735 t738 t739 t740).bind fun bt751 => ((zcd.f k t744 t747 bt751.1 bt751.2).bind fun t757 => (if t757 = true then (if (t744.length : Int) = 120 then (if 0 ≤ (t735.length : Int) then (if ((t735.length : Int) : Int).toNat ≤ 35184372088832 then (laws_FnRunSupply.l0 k t732 t735 t740 (List.replicate ((t735.length : Int) : Int).toNat 0) (([] : List Bool)) 0 t744 t747) else (none)) else (none)) else (if (wrap64 ((t744.length : Int) + (t747.length : Int))) = 0 then ((zda.f).bind fun t758 => (some t758)) else (some false))) else (some false)))) = some r := H
  have A4 := za.mk A40
  clear A40
  replace H := Option.bind_eq_some_iff.mp H
  obtain ⟨⟨t751, t754⟩, A50, H⟩ := H
  replace H : ((zcd.f k t744 t747 t751 t754).bind fun t757 => (if t757 = true then (if (t744.length : Int) = 120 then (if 0 ≤ (t735.length : Int) then (if ((t735.length : Int) : Int).toNat ≤ 35184372088832 then (laws_FnRunSupply.l0 k t732 t735 t740 (List.replicate ((t735.length : Int) : Int).toNat 0) (([] : List Bool)) 0 t744 t747) else (none)) else (none)) else (if (wrap64 ((t744.length : Int) + (t747.length : Int))) = 0 then ((zda.f).bind fun t758 => (some t758)) else (some false))) else (some false))) = some r := H
  have A5 := za.mk A50
  clear A50
  replace H := Option.bind_eq_some_iff.mp H
  obtain ⟨t757, A60, H⟩ := H
  replace H : (if t757 = true then (if (t744.length : Int) = 120 then (if 0 ≤ (t735.length : Int) then (if ((t735.length : Int) : Int).toNat ≤ 35184372088832 then (laws_FnRunSupply.l0 k t732 t735 t740 (List.replicate ((t735.length : Int) : Int).toNat 0) (([] : List Bool)) 0 t744 t747) else (none)) else (none)) else (if (wrap64 ((t744.length : Int) + (t747.length : Int))) = 0 then ((zda.f).bind fun t758 => (some t758)) else (some false))) else (some false)) = some r := H
  have A6 := za.mk A60
  clear A60
  by_cases c7 : t757 = true
  ·subst c7
   have H1 : (if (t744.length : Int) = 120 then (if 0 ≤ (t735.length : Int) then (if ((t735.length : Int) : Int).toNat ≤ 35184372088832 then (laws_FnRunSupply.l0 k t732 t735 t740 (List.replicate ((t735.length : Int) : Int).toNat 0) (([] : List Bool)) 0 t744 t747) else (none)) else (none)) else (if (wrap64 ((t744.length : Int) + (t747.length : Int))) = 0 then ((zda.f).bind fun t758 => (some t758)) else (some false))) = some r := by rw [if_pos rfl] at H; exact H
   clear H
   have H := H1
   clear H1
   by_cases c8 : (t744.length : Int) = 120
   ·rw [if_pos c8] at H
    have c8b0 : ((t744.length : Int) == 120) = true := beq_iff_eq.mpr c8
    have c8b1 : ((t744.length : Int) != 120) = false := bne_eq_false_iff_eq.mpr c8
    clear c8
    by_cases c9 : 0 ≤ (t735.length : Int)
    ·rw [if_pos c9] at H
     have c9b0 := eq_true c9
     have c9b1 : decide (0 ≤ (t735.length : Int)) = true := decide_eq_true c9
     clear c9
     by_cases c10 : ((t735.length : Int) : Int).toNat ≤ 35184372088832
     ·rw [if_pos c10] at H
      have c10b0 := eq_true c10
      have c10b1 : decide (((t735.length : Int) : Int).toNat ≤ 35184372088832) = true := decide_eq_true c10
      clear c10
      obtain ⟨y759, hy759⟩ : ∃ y_ : List Int, y_ = (List.replicate ((t735.length : Int) : Int).toNat 0) := ⟨_, rfl⟩
      replace H : (laws_FnRunSupply.l0 k t732 t735 t740 y759 (([] : List Bool)) 0 t744 t747) = some r := by first | (rw [hy759]; with_reducible exact H) | (have H2_ := (Option.bind_some _ _).symm.trans H; rw [hy759]; with_reducible exact H2_) | (have H2_ := (Option.bind_some _ _).symm.trans H; with_reducible exact H2_) | with_reducible exact H | (rw [hy759]; exact H) | exact H
      have Ny759 := za.mk hy759
      clear hy759
      obtain ⟨y762, hy762⟩ : ∃ y_ : List Bool, y_ = (([] : List Bool)) := ⟨_, rfl⟩
      replace H : (laws_FnRunSupply.l0 k t732 t735 t740 y759 y762 0 t744 t747) = some r := by first | (rw [hy762]; with_reducible exact H) | (have H2_ := (Option.bind_some _ _).symm.trans H; rw [hy762]; with_reducible exact H2_) | (have H2_ := (Option.bind_some _ _).symm.trans H; with_reducible exact H2_) | with_reducible exact H | (rw [hy762]; exact H) | exact H
      have Ny762 := za.mk hy762
      clear hy762
      have H' := za.mk H
      clear H
      go_enter Try.func7, Try.ntmps7
      try go_wp2_with (first | ((with_reducible refine zba (f := 30) rfl ?_); refine zbv (some 18) rfl rfl Try.func30 (by kernel_rfl) rfl #[.slice A0 l0.length c0] rfl Zmt ?_; (with_reducible refine (z8.calls k _ _ l0 t732 t735 t738 t739 t740 _ ?side1 ?side2 A3.out).mono ?_); (case side1 => exact Zq6 HR0.out); (case side2 => exact HC0.out); rintro e w11 ⟨v733, v736, v741, rfl, ho0, ho1, ho2, hb⟩; refine ⟨_, rfl, ?_⟩; have n0_ := za.mk (Kd.zb2 ho0 (zbb (Zq3 HB.out))); have n1_ := za.mk (Kd.zb2 ho1 (zbb (Zq3 HB.out))); have n2_ := za.mk (Kd.zb2 ho2 (zbb (Zq3 HB.out))); have n3_ := za.mk (zo (Zq3 HB.out) hb); clear HB; have HO734 := n0_; have HO737 := n1_; have HO742 := n2_; have HB := n3_; clear n0_ n1_ n2_ n3_; (try clear hb); (try clear hb2); (try clear hk); (try clear hi); (try clear ho0); (try clear ho1); (try clear ho2)) | ((with_reducible refine zbp (N := 5) rfl ?_); (try (refine zcg (by rfl) ?_; dsimp only)); refine zb1 ?hg (N := 5) ?hd (cs := #[.int .i64 0, .int .i64 0]) (t := 51) ?hr ?_; (case hd => rfl); (case hg => rfl); (case hr => first | (go_simp; done) | (go_simp; rfl)); intro gb743 hg w12 hbox hb; have n0_ := za.mk (Kd.zbl (Zq12 HO734.out) hb); have n1_ := za.mk (Kd.zbl (Zq12 HO737.out) hb); have n2_ := za.mk (Kd.zbl (Zq12 HO742.out) hb); have n3_ := za.mk (zo (Zq3 HB.out) hb); have n4_ := za.mk (hbox); have n5_ := za.mk ((by rw [hg]; exact (zbb (Zq3 HB.out)) : w.heap.size ≤ gb743)); have n6_ := za.mk ((by rw [hg]; exact (zbb (Zq3 HB.out)) : w.heap.size ≤ gb743)); clear HO734; clear HO737; clear HO742; clear HB; have HO734 := n0_; have HO737 := n1_; have HO742 := n2_; have HB := n3_; have BK743 := n4_; have GW743 := n5_; have GE743 := n6_; clear n0_ n1_ n2_ n3_ n4_ n5_ n6_; clear hb hbox hg; have hcz13_0 : w12.cell? ⟨gb743, 0, none⟩ = some (.int .i64 0) := (zh BK743.out 0).trans rfl; have hcz13_1 : w12.cell? ⟨gb743, 1, none⟩ = some (.int .i64 0) := (zh BK743.out 1).trans rfl; have hfz13_0 := zg BK743.out 0; have hfz13_1 := zg BK743.out 1; obtain ⟨Ao14, co14, eo14⟩ := Kd.zbs HO734.out; subst eo14; obtain ⟨Ao15, co15, eo15⟩ := Kd.zbs HO737.out; subst eo15; obtain ⟨Ao16, co16, eo16⟩ := Kd.zbs HO742.out; subst eo16) | ((with_reducible refine zba (f := 31) rfl ?_); refine zbv (some 27) rfl rfl Try.func31 (by kernel_rfl) rfl #[.slice Ao14 t732.length co14, .slice Ao15 t735.length co15, .agg #[.int .i64 t738, .int .i64 t739], .slice Ao16 t740.length co16] rfl Zmt ?_; (with_reducible refine (zcr.calls k _ _ t732 _ _ t735 t738 t739 _ _ t740 t744 t747 _ ?side1 ?side2 ?side3 ?side4 ?side5 ?side6 A4.out).mono ?_); (case side1 => refine (Kd.zbe (e := 88) (base := w.heap.size) (ok := fun k_ => True) (n := t732.length) (c := co14) ?_).2.2; exact (by (with_reducible repeat (first | apply Kd.zbi | apply Kd.zbh | apply Kd.zbj)); exact (Kd.zy (Kd.zb9 (p := ⟨gb743, 1, none⟩) (Kd.zb9 (p := ⟨gb743, 0, none⟩) (Kd.zb5 HO734.out BK743.out (by decide)) (fun _ hk => hk.2) (.int .i64 t738)) (fun _ hk => hk.2) (.int .i64 t739)) (fun _ h_ => h_.1)))); (case side2 => exact (Kd.zbe HO734.out).2.1); (case side3 => refine (Kd.zbe (e := 34) (base := w.heap.size) (ok := fun k_ => True) (n := t735.length) (c := co15) ?_).2.2; exact (by (with_reducible repeat (first | apply Kd.zbi | apply Kd.zbh | apply Kd.zbj)); exact (Kd.zy (Kd.zb9 (p := ⟨gb743, 1, none⟩) (Kd.zb9 (p := ⟨gb743, 0, none⟩) (Kd.zb5 HO737.out BK743.out (by decide)) (fun _ hk => hk.2) (.int .i64 t738)) (fun _ hk => hk.2) (.int .i64 t739)) (fun _ h_ => h_.1)))); (case side4 => exact (Kd.zbe HO737.out).2.1); (case side5 => refine (Kd.zbe (e := 4) (base := w.heap.size) (ok := fun k_ => True) (n := t740.length) (c := co16) ?_).2.2; exact (by (with_reducible repeat (first | apply Kd.zbi | apply Kd.zbh | apply Kd.zbj)); exact (Kd.zy (Kd.zb9 (p := ⟨gb743, 1, none⟩) (Kd.zb9 (p := ⟨gb743, 0, none⟩) (Kd.zb5 HO742.out BK743.out (by decide)) (fun _ hk => hk.2) (.int .i64 t738)) (fun _ hk => hk.2) (.int .i64 t739)) (fun _ h_ => h_.1)))); (case side6 => exact (Kd.zbe HO742.out).2.1); rintro e w17 ⟨v745, v748, rfl, ho0, ho1, hb⟩; refine ⟨_, rfl, ?_⟩; have n0_ := za.mk (Kd.zbl (by (with_reducible repeat (first | apply Kd.zbi | apply Kd.zbh | apply Kd.zbj)); exact (Kd.zy (Kd.zb9 (p := ⟨gb743, 1, none⟩) (Kd.zb9 (p := ⟨gb743, 0, none⟩) (Kd.zb5 HO734.out BK743.out (by decide)) (fun _ hk => hk.2) (.int .i64 t738)) (fun _ hk => hk.2) (.int .i64 t739)) (fun _ h_ => h_.1))) hb); have n1_ := za.mk (Kd.zbl (by (with_reducible repeat (first | apply Kd.zbi | apply Kd.zbh | apply Kd.zbj)); exact (Kd.zy (Kd.zb9 (p := ⟨gb743, 1, none⟩) (Kd.zb9 (p := ⟨gb743, 0, none⟩) (Kd.zb5 HO737.out BK743.out (by decide)) (fun _ hk => hk.2) (.int .i64 t738)) (fun _ hk => hk.2) (.int .i64 t739)) (fun _ h_ => h_.1))) hb); have n2_ := za.mk (Kd.zbl (by (with_reducible repeat (first | apply Kd.zbi | apply Kd.zbh | apply Kd.zbj)); exact (Kd.zy (Kd.zb9 (p := ⟨gb743, 1, none⟩) (Kd.zb9 (p := ⟨gb743, 0, none⟩) (Kd.zb5 HO742.out BK743.out (by decide)) (fun _ hk => hk.2) (.int .i64 t738)) (fun _ hk => hk.2) (.int .i64 t739)) (fun _ h_ => h_.1))) hb); have n3_ := za.mk (Kd.zb2 ho0 (zbb (Zq5 HB.out GE743.out))); have n4_ := za.mk (Kd.zb2 ho1 (zbb (Zq5 HB.out GE743.out))); have n5_ := za.mk (zbg (g := gb743) (o := .cells #[.int .i64 t738, .int .i64 t739] 51 (0, 0)) (by (with_reducible repeat (first | refine zn ?_ _ | refine zt ?_ | refine zm ?_ _)); refine zbu (cs := #[.int .i64 t738, .int .i64 0]) ?_ 1 _ rfl; (with_reducible repeat (first | refine zn ?_ _ | refine zt ?_ | refine zm ?_ _)); refine zbu (cs := #[.int .i64 0, .int .i64 0]) ?_ 0 _ rfl; (with_reducible repeat (first | refine zn ?_ _ | refine zt ?_ | refine zm ?_ _)); exact BK743.out) hb); have n6_ := za.mk (zo (Zq5 HB.out GE743.out) hb); clear HO734; clear HO737; clear HO742; clear BK743; clear HB; have HO734 := n0_; have HO737 := n1_; have HO742 := n2_; have HO746 := n3_; have HO749 := n4_; have BK743 := n5_; have HB := n6_; clear n0_ n1_ n2_ n3_ n4_ n5_ n6_; (try clear hb); (try clear hb2); (try clear hk); (try clear hi); (try clear ho0); (try clear ho1)) | ((with_reducible refine zbp (N := 7) rfl ?_); (try (refine zcg (by rfl) ?_; dsimp only)); refine zb1 ?hg (N := 7) ?hd (cs := #[.slice none 0 0, .slice none 0 0]) (t := 29) ?hr ?_; (case hd => rfl); (case hg => rfl); (case hr => first | (go_simp; done) | (go_simp; rfl)); intro gb750 hg w18 hbox hb; have n0_ := za.mk (Kd.zbl (Zq12 HO734.out) hb); have n1_ := za.mk (Kd.zbl (Zq12 HO737.out) hb); have n2_ := za.mk (Kd.zbl (Zq12 HO742.out) hb); have n3_ := za.mk (Kd.zbl (Zq12 HO746.out) hb); have n4_ := za.mk (Kd.zbl (Zq12 HO749.out) hb); have n5_ := za.mk (zbg (g := gb743) (o := .cells #[.int .i64 t738, .int .i64 t739] 51 (0, 0)) (Zq4 BK743.out) hb); have n6_ := za.mk (zo (Zq5 HB.out GE743.out) hb); have n7_ := za.mk (hbox); have n8_ := za.mk ((by rw [hg]; exact (zbb (Zq5 HB.out GE743.out)) : w.heap.size ≤ gb750)); have n9_ := za.mk ((by rw [hg]; exact (zbb (Zq5 HB.out GE743.out)) : w.heap.size ≤ gb750)); have n10_ := za.mk ((by rw [hg]; exact Nat.ne_of_lt (zcz (g := gb743) (o := .cells #[.int .i64 t738, .int .i64 t739] 51 (0, 0)) (Zq4 BK743.out)) : gb743 ≠ gb750)); have n11_ := za.mk ((by rw [hg]; exact Nat.ne_of_gt (zcz (g := gb743) (o := .cells #[.int .i64 t738, .int .i64 t739] 51 (0, 0)) (Zq4 BK743.out)) : gb750 ≠ gb743)); clear HO734; clear HO737; clear HO742; clear HO746; clear HO749; clear BK743; clear HB; have HO734 := n0_; have HO737 := n1_; have HO742 := n2_; have HO746 := n3_; have HO749 := n4_; have BK743 := n5_; have HB := n6_; have BK750 := n7_; have GW750 := n8_; have GE750 := n9_; have NB743_750 := n10_; have NB750_743 := n11_; clear n0_ n1_ n2_ n3_ n4_ n5_ n6_ n7_ n8_ n9_ n10_ n11_; clear hb hbox hg; obtain ⟨Ao19, co19, eo19⟩ := Kd.zbs HO746.out; subst eo19; have hnb20 := NB750_743.out; have hnc20 := NB743_750.out; have hcz21_0 : w18.cell? ⟨gb750, 0, none⟩ = some (.slice none 0 0) := (zh BK750.out 0).trans rfl; have hcz21_1 : w18.cell? ⟨gb750, 1, none⟩ = some (.slice none 0 0) := (zh BK750.out 1).trans rfl; have hfz21_0 := zg BK750.out 0; have hfz21_1 := zg BK750.out 1; obtain ⟨Ao22, co22, eo22⟩ := Kd.zbs HO749.out; subst eo22))
      have n0_ : za (Kd.R k88 88 ((w18.setCell ⟨gb750, 0, none⟩ (.slice Ao19 t744.length co19)).setCell ⟨gb750, 1, none⟩ (.slice Ao22 t747.length co22)) w.heap.size (fun _ => True) (.slice Ao14 t732.length co14) t732) := ⟨by (with_reducible repeat (first | apply Kd.zbi | apply Kd.zbh | apply Kd.zbj)); exact Kd.zy (Kd.zb9 (p := ⟨gb750, 1, none⟩) (Kd.zb9 (p := ⟨gb750, 0, none⟩) (Kd.zb5 HO734.out BK750.out (by decide)) (fun _ hk => hk.2) (.slice Ao19 t744.length co19)) (fun _ hk => hk.2) (.slice Ao22 t747.length co22)) (fun _ hk => trivial)⟩
      have n1_ : za (Kd.R k34 34 ((w18.setCell ⟨gb750, 0, none⟩ (.slice Ao19 t744.length co19)).setCell ⟨gb750, 1, none⟩ (.slice Ao22 t747.length co22)) w.heap.size (fun _ => True) (.slice Ao15 t735.length co15) t735) := ⟨by (with_reducible repeat (first | apply Kd.zbi | apply Kd.zbh | apply Kd.zbj)); exact Kd.zy (Kd.zb9 (p := ⟨gb750, 1, none⟩) (Kd.zb9 (p := ⟨gb750, 0, none⟩) (Kd.zb5 HO737.out BK750.out (by decide)) (fun _ hk => hk.2) (.slice Ao19 t744.length co19)) (fun _ hk => hk.2) (.slice Ao22 t747.length co22)) (fun _ hk => trivial)⟩
      have n2_ : za (Kd.R Kd.bool 4 ((w18.setCell ⟨gb750, 0, none⟩ (.slice Ao19 t744.length co19)).setCell ⟨gb750, 1, none⟩ (.slice Ao22 t747.length co22)) w.heap.size (fun _ => True) (.slice Ao16 t740.length co16) t740) := ⟨by (with_reducible repeat (first | apply Kd.zbi | apply Kd.zbh | apply Kd.zbj)); exact Kd.zy (Kd.zb9 (p := ⟨gb750, 1, none⟩) (Kd.zb9 (p := ⟨gb750, 0, none⟩) (Kd.zb5 HO742.out BK750.out (by decide)) (fun _ hk => hk.2) (.slice Ao19 t744.length co19)) (fun _ hk => hk.2) (.slice Ao22 t747.length co22)) (fun _ hk => trivial)⟩
      have n3_ : za (Kd.R (Kd.int .i64) 3 ((w18.setCell ⟨gb750, 0, none⟩ (.slice Ao19 t744.length co19)).setCell ⟨gb750, 1, none⟩ (.slice Ao22 t747.length co22)) w.heap.size (fun k_ => some k_ ≠ (.slice Ao22 t747.length co22 : Value).ownBlock) (.slice Ao19 t744.length co19) t744) := ⟨by (with_reducible repeat (first | apply Kd.zbi | apply Kd.zbh | apply Kd.zbj)); exact Kd.zy (Kd.zb9 (p := ⟨gb750, 1, none⟩) (Kd.zb9 (p := ⟨gb750, 0, none⟩) (Kd.zb5 HO746.out BK750.out (by decide)) (fun _ hk => hk.2) (.slice Ao19 t744.length co19)) (fun _ hk => hk.2) (.slice Ao22 t747.length co22)) (fun _ hk => hk.1)⟩
      have n4_ : za (Kd.R (Kd.int .i64) 3 ((w18.setCell ⟨gb750, 0, none⟩ (.slice Ao19 t744.length co19)).setCell ⟨gb750, 1, none⟩ (.slice Ao22 t747.length co22)) w.heap.size (fun k_ => some k_ ≠ (.slice Ao19 t744.length co19 : Value).ownBlock) (.slice Ao22 t747.length co22) t747) := ⟨by (with_reducible repeat (first | apply Kd.zbi | apply Kd.zbh | apply Kd.zbj)); exact Kd.zy (Kd.zb9 (p := ⟨gb750, 1, none⟩) (Kd.zb9 (p := ⟨gb750, 0, none⟩) (Kd.zb5 HO749.out BK750.out (by decide)) (fun _ hk => hk.2) (.slice Ao19 t744.length co19)) (fun _ hk => hk.2) (.slice Ao22 t747.length co22)) (fun _ hk => hk.1)⟩
      have n5_ : za (((w18.setCell ⟨gb750, 0, none⟩ (.slice Ao19 t744.length co19)).setCell ⟨gb750, 1, none⟩ (.slice Ao22 t747.length co22)).heap[gb743]? = some (.cells #[.int .i64 t738, .int .i64 t739] 51 (0, 0))) := ⟨by (with_reducible repeat (first | refine zn ?_ _ | refine zt ?_ | refine zm ?_ _)); refine zcl ?_ NB743_750.out _; (with_reducible repeat (first | refine zn ?_ _ | refine zt ?_ | refine zm ?_ _)); refine zcl ?_ NB743_750.out _; (with_reducible repeat (first | refine zn ?_ _ | refine zt ?_ | refine zm ?_ _)); exact BK743.out⟩
      have n6_ : za (((w18.setCell ⟨gb750, 0, none⟩ (.slice Ao19 t744.length co19)).setCell ⟨gb750, 1, none⟩ (.slice Ao22 t747.length co22)).heap[gb750]? = some (.cells #[.slice Ao19 t744.length co19, .slice Ao22 t747.length co22] 29 (0, 0))) := ⟨by (with_reducible repeat (first | refine zn ?_ _ | refine zt ?_ | refine zm ?_ _)); refine zbu (cs := #[.slice Ao19 t744.length co19, .slice none 0 0]) ?_ 1 _ rfl; (with_reducible repeat (first | refine zn ?_ _ | refine zt ?_ | refine zm ?_ _)); refine zbu (cs := #[.slice none 0 0, .slice none 0 0]) ?_ 0 _ rfl; (with_reducible repeat (first | refine zn ?_ _ | refine zt ?_ | refine zm ?_ _)); exact BK750.out⟩
      have n7_ : za (Below w.heap.size w ((w18.setCell ⟨gb750, 0, none⟩ (.slice Ao19 t744.length co19)).setCell ⟨gb750, 1, none⟩ (.slice Ao22 t747.length co22))) := ⟨Zq7 HB.out GE743.out GE750.out⟩
      (try clear HO734)
      (try clear HO737)
      (try clear HO742)
      (try clear HO746)
      (try clear HO749)
      (try clear BK743)
      (try clear BK750)
      (try clear HB)
      generalize ((w18.setCell ⟨gb750, 0, none⟩ (.slice Ao19 t744.length co19)).setCell ⟨gb750, 1, none⟩ (.slice Ao22 t747.length co22)) = w23 at n0_ n1_ n2_ n3_ n4_ n5_ n6_ n7_ ⊢
      have HO734 := n0_
      have HO737 := n1_
      have HO742 := n2_
      have HO746 := n3_
      have HO749 := n4_
      have BK743 := n5_
      have BK750 := n6_
      have HB := n7_
      clear n0_ n1_ n2_ n3_ n4_ n5_ n6_ n7_
      have n0_ := za.mk (Kd.zbj HO734.out)
      have n1_ := za.mk (Kd.zbj HO737.out)
      have n2_ := za.mk (Kd.zbj HO742.out)
      have n3_ := za.mk (Kd.zbj HO746.out)
      have n4_ := za.mk (Kd.zbj HO749.out)
      have n5_ := za.mk (zt BK743.out)
      have n6_ := za.mk (zt BK750.out)
      have n7_ := za.mk (zb6 HB.out)
      clear HO734
      clear HO737
      clear HO742
      clear HO746
      clear HO749
      clear BK743
      clear BK750
      clear HB
      have HO734 := n0_
      have HO737 := n1_
      have HO742 := n2_
      have HO746 := n3_
      have HO749 := n4_
      have BK743 := n5_
      have BK750 := n6_
      have HB := n7_
      clear n0_ n1_ n2_ n3_ n4_ n5_ n6_ n7_
      refine start_ (n := 8) (S := fun w' => w'.cell? ⟨gb750, 0, none⟩ = some (.slice Ao19 t744.length co19) ∧ w'.cell? ⟨gb750, 1, none⟩ = some (.slice Ao22 t747.length co22) ∧ w'.cell? ⟨gb743, 0, none⟩ = some (.int .i64 t738) ∧ w'.cell? ⟨gb743, 1, none⟩ = some (.int .i64 t739)) (ds := []) #[false, false, false, false, false, false, false, false] (by kernel_rfl) rfl rfl ⟨(zh BK750.out 0).trans rfl, (zh BK750.out 1).trans rfl, (zh BK743.out 0).trans rfl, (zh BK743.out 1).trans rfl⟩ (fun hHeld => ?_); refine zdq laws_FnRunSupply.tab5 laws_FnRunSupply.bits5 (fun HT_ HW_ => ?_)
      generalize w23.drew = w24 at HO734 HO737 HO742 HO746 HO749 BK743 BK750 HB hHeld ⊢
      refine zce (i := 1) (N := some 29) (v := ?_) (a' := ?_) #[false, true, false, false, false, false, false, false] rfl rfl (zby HT_.out (by kernel_rfl)) (fun _ _ _ h => h) (Or.inl ⟨by rfl, ?_⟩) ?_ ?_
      rotate_left
      ·intro w'
       go_simp
       with_reducible rfl
      rotate_left
      ·simp only [Act.put, List.setIfInBounds_toArray, List.set_cons_zero, List.set_cons_succ, zbq, zbt]
       rfl
      refine zce (i := 2) (N := some 30) (v := ?_) (a' := ?_) #[false, true, true, false, false, false, false, false] rfl rfl (zby HT_.out (by kernel_rfl)) (fun _ _ _ h => h) (Or.inl ⟨by rfl, ?_⟩) ?_ ?_
      rotate_left
      ·intro w'
       go_simp
       with_reducible rfl
      rotate_left
      ·simp only [Act.put, List.setIfInBounds_toArray, List.set_cons_zero, List.set_cons_succ, zbq, zbt]
       rfl
      refine zce (i := 4) (N := some 32) (v := ?_) (a' := ?_) #[false, true, true, false, true, false, false, false] rfl rfl (zby HT_.out (by kernel_rfl)) (fun _ _ _ h => h) (Or.inl ⟨by rfl, ?_⟩) ?_ ?_
      rotate_left
      ·intro w'
       go_simp
       with_reducible rfl
      rotate_left
      ·simp only [Act.put, List.setIfInBounds_toArray, List.set_cons_zero, List.set_cons_succ, zbq, zbt]
       rfl
      refine take_ (i := 0) (N := some 28) (v := ?_) (a' := ?_) #[true, true, true, false, true, false, false, false] rfl rfl (zc5 HT_.out HW_.out (by kernel_rfl)) (fun _ _ _ h => h) (Or.inl ⟨by rfl, ?_⟩) hHeld ?_ ?_
      rotate_left
      ·rintro w' ⟨s0, s1, s2, s3⟩
       go_simp
       with_reducible rfl
      rotate_left
      ·simp only [Act.put, List.setIfInBounds_toArray, List.set_cons_zero, List.set_cons_succ, zbq, zbt]
       rfl
      refine take_ (i := 3) (N := some 31) (v := ?_) (a' := ?_) #[true, true, true, true, true, false, false, false] rfl rfl (zc5 HT_.out HW_.out (by kernel_rfl)) (fun _ _ _ h => h) (Or.inl ⟨by rfl, ?_⟩) hHeld ?_ ?_
      rotate_left
      ·rintro w' ⟨s0, s1, s2, s3⟩
       go_simp
       with_reducible rfl
      rotate_left
      ·simp only [Act.put, List.setIfInBounds_toArray, List.set_cons_zero, List.set_cons_succ, zbq, zbt]
       rfl
      refine one_ (i := 5) (N := some 33) #[true, true, true, true, true, true, false, false] rfl rfl (zc8 HT_.out (by kernel_rfl)) (by decide) (fun K hK => ?_)
      refine goes_ Try.func32 (by kernel_rfl) rfl #[.slice Ao14 t732.length co14, .slice Ao15 t735.length co15, .agg #[.int .i64 t738, .int .i64 t739], .slice Ao16 t740.length co16] (by rfl) rfl rfl Zmt ?_
      with_reducible refine (zw.calls k _ _ t732 _ _ t735 t738 t739 _ _ t740 t751 t754 _ ?side1 ?side2 ?side3 ?side4 ?side5 ?side6 A5.out).mono ?_
      (case side1 => exact Zq6 ((Kd.zbe HO734.out).2.2))
      (case side2 => exact (Kd.zbe HO734.out).2.1)
      (case side3 => exact Zq6 ((Kd.zbe HO737.out).2.2))
      (case side4 => exact (Kd.zbe HO737.out).2.1)
      (case side5 => exact Zq6 ((Kd.zbe HO742.out).2.2))
      (case side6 => exact (Kd.zbe HO742.out).2.1)
      rintro e w25 ⟨v752, v755, rfl, ho0, ho1, hb⟩
      refine ⟨_, rfl, ?_⟩
      have n0_ := za.mk (Kd.zbl (Zq12 HO734.out) hb)
      have n1_ := za.mk (Kd.zbl (Zq12 HO737.out) hb)
      have n2_ := za.mk (Kd.zbl (Zq12 HO742.out) hb)
      have n3_ := za.mk (Kd.zy (Kd.zdn (Kd.zdn (Kd.R_old (Zq12 HO746.out) hb) (Kd.zch ho0)) (Kd.zch ho1)) (fun _ h_ => h_.1))
      have n4_ := za.mk (Kd.zy (Kd.zdn (Kd.zdn (Kd.R_old (Zq12 HO749.out) hb) (Kd.zch ho0)) (Kd.zch ho1)) (fun _ h_ => h_.1))
      have n5_ := za.mk (Kd.zb2 (Kd.zcm (Kd.zcm ho0 (Kd.R_lt (Zq12 HO746.out))) (Kd.R_lt (Zq12 HO749.out))) (zbb (Zq7 HB.out GE743.out GE750.out)))
      have n6_ := za.mk (Kd.zb2 (Kd.zcm (Kd.zcm ho1 (Kd.R_lt (Zq12 HO746.out))) (Kd.R_lt (Zq12 HO749.out))) (zbb (Zq7 HB.out GE743.out GE750.out)))
      have n7_ := za.mk (zbg (g := gb743) (o := .cells #[.int .i64 t738, .int .i64 t739] 51 (0, 0)) (Zq4 BK743.out) hb)
      have n8_ := za.mk (zbg (g := gb750) (o := .cells #[.slice Ao19 t744.length co19, .slice Ao22 t747.length co22] 29 (0, 0)) (Zq4 BK750.out) hb)
      have n9_ := za.mk (zo (Zq7 HB.out GE743.out GE750.out) hb)
      clear HO734
      clear HO737
      clear HO742
      clear HO746
      clear HO749
      clear BK743
      clear BK750
      clear HB
      have HO734 := n0_
      have HO737 := n1_
      have HO742 := n2_
      have HO746 := n3_
      have HO749 := n4_
      have HO753 := n5_
      have HO756 := n6_
      have BK743 := n7_
      have BK750 := n8_
      have HB := n9_
      clear n0_ n1_ n2_ n3_ n4_ n5_ n6_ n7_ n8_ n9_
      (try clear hb)
      (try clear hb2)
      (try clear hk)
      (try clear hi)
      (try clear ho0)
      (try clear ho1)
      obtain ⟨Ao26, co26, eo26⟩ := Kd.zbs HO753.out
      (first | subst eo26 | (injection eo26 with f1_ f2_ f3_; have f4_ := f1_.symm; have f5_ := f3_.symm; clear f1_ f2_ f3_; subst f4_; subst f5_))
      obtain ⟨Ao27, co27, eo27⟩ := Kd.zbs HO756.out
      (first | subst eo27 | (injection eo27 with f1_ f2_ f3_; have f4_ := f1_.symm; have f5_ := f3_.symm; clear f1_ f2_ f3_; subst f4_; subst f5_))
      refine hK.out _ _ ⟨(zh BK750.out 0).trans rfl, (zh BK750.out 1).trans rfl, (zh BK743.out 0).trans rfl, (zh BK743.out 1).trans rfl⟩ (fun hHeld => ?_)
      clear hK K
      refine zc6 (a' := ?_) ?_ ?_
      rotate_left
      ·show Act.put _ (some 33) _ = _
       simp only [Act.put, List.setIfInBounds_toArray, List.set_cons_zero, List.set_cons_succ, zbq, zbt]
       rfl
      refine one_ (i := 6) (N := some 34) #[true, true, true, true, true, true, true, false] rfl rfl (zc8 HT_.out (by kernel_rfl)) (by decide) (fun K hK => ?_)
      refine goes_ Try.func13 (by kernel_rfl) rfl #[.agg #[.slice Ao19 t744.length co19, .slice Ao22 t747.length co22], .agg #[.slice Ao26 t751.length co26, .slice Ao27 t754.length co27]] (by rfl) rfl rfl Zmt ?_
      with_reducible refine (zcd.calls k _ _ t744 _ _ t747 _ _ t751 _ _ t754 true _ ?side1 ?side2 ?side3 ?side4 ?side5 ?side6 ?side7 ?side8 A6.out).mono ?_
      (case side1 => exact Zq6 ((Kd.zbe HO746.out).2.2))
      (case side2 => exact (Kd.zbe HO746.out).2.1)
      (case side3 => exact Zq6 ((Kd.zbe HO749.out).2.2))
      (case side4 => exact (Kd.zbe HO749.out).2.1)
      (case side5 => exact Zq6 ((Kd.zbe HO753.out).2.2))
      (case side6 => exact (Kd.zbe HO753.out).2.1)
      (case side7 => exact Zq6 ((Kd.zbe HO756.out).2.2))
      (case side8 => exact (Kd.zbe HO756.out).2.1)
      rintro e w28 ⟨rfl, hb⟩
      refine ⟨_, rfl, ?_⟩
      have n0_ := za.mk (Kd.zbl (Zq12 HO734.out) hb)
      have n1_ := za.mk (Kd.zbl (Zq12 HO737.out) hb)
      have n2_ := za.mk (Kd.zbl (Zq12 HO742.out) hb)
      have n3_ := za.mk (Kd.zbl (Zq12 HO746.out) hb)
      have n4_ := za.mk (Kd.zbl (Zq12 HO749.out) hb)
      have n5_ := za.mk (Kd.zbl (Zq12 HO753.out) hb)
      have n6_ := za.mk (Kd.zbl (Zq12 HO756.out) hb)
      have n7_ := za.mk (zbg (g := gb743) (o := .cells #[.int .i64 t738, .int .i64 t739] 51 (0, 0)) (Zq4 BK743.out) hb)
      have n8_ := za.mk (zbg (g := gb750) (o := .cells #[.slice Ao19 t744.length co19, .slice Ao22 t747.length co22] 29 (0, 0)) (Zq4 BK750.out) hb)
      have n9_ := za.mk (zo (Zq7 HB.out GE743.out GE750.out) hb)
      clear HO734
      clear HO737
      clear HO742
      clear HO746
      clear HO749
      clear HO753
      clear HO756
      clear BK743
      clear BK750
      clear HB
      have HO734 := n0_
      have HO737 := n1_
      have HO742 := n2_
      have HO746 := n3_
      have HO749 := n4_
      have HO753 := n5_
      have HO756 := n6_
      have BK743 := n7_
      have BK750 := n8_
      have HB := n9_
      clear n0_ n1_ n2_ n3_ n4_ n5_ n6_ n7_ n8_ n9_
      (try clear hb)
      (try clear hb2)
      (try clear hk)
      (try clear hi)
      refine hK.out _ _ ⟨(zh BK750.out 0).trans rfl, (zh BK750.out 1).trans rfl, (zh BK743.out 0).trans rfl, (zh BK743.out 1).trans rfl⟩ (fun hHeld => ?_)
      clear hK K
      refine zc6 (a' := ?_) ?_ ?_
      rotate_left
      ·show Act.put _ (some 34) _ = _
       simp only [Act.put, List.setIfInBounds_toArray, List.set_cons_zero, List.set_cons_succ, zbq, zbt]
       rfl
      refine zce (i := 7) (N := some 35) (v := ?_) (a' := ?_) #[true, true, true, true, true, true, true, true] rfl rfl (zby HT_.out (by kernel_rfl)) (fun _ _ _ h => h) (Or.inl ⟨by rfl, ?_⟩) ?_ ?_
      rotate_left
      ·intro w'
       go_simp
       with_reducible rfl
      rotate_left
      ·simp only [Act.put, List.setIfInBounds_toArray, List.set_cons_zero, List.set_cons_succ, zbq, zbt]
       rfl
      refine done_ (done_of HT_.out (by kernel_rfl)) ?_
      have hcz29_0 : w28.cell? ⟨gb750, 0, none⟩ = some (.slice Ao19 t744.length co19) := (zh BK750.out 0).trans rfl
      have hcz29_1 : w28.cell? ⟨gb750, 1, none⟩ = some (.slice Ao22 t747.length co22) := (zh BK750.out 1).trans rfl
      have hfz29_0 := zg BK750.out 0
      have hfz29_1 := zg BK750.out 1
      try go_wp2_with (first | ((with_reducible refine zbp (N := 53) rfl ?_); (try (refine zcg (by rfl) ?_; dsimp only)); refine Kd.R_make (Kd.int .i64) _ 3 rfl (N := 53) rfl 27 _ _ rfl (t735.length : Int) rfl rfl Try.underlying27 (.int .i64 0) 8 info3 rfl (by decide) (by omega) 0 (ok := fun _ => True) (okp := fun _ => True) rfl (fun _ hk => hk) trivial (of_decide_eq_true Zas) (Nat.le_trans (Nat.mul_le_mul_right _ (of_decide_eq_true Zas : (t735.length : Int).toNat ≤ 35184372088832)) (by omega)) (Below.refl _ _) (Nat.le_refl _) ?_; intro v760 w30 ho31 hb hg_ hnew_; clear hg_ hnew_; (first | rw [← Ny759.out] at ho31 | (simp only [Int.reduceToNat] at ho31; rw [← Ny759.out] at ho31)); have n0_ := za.mk (Kd.zbl (Zq12 HO734.out) hb); have n1_ := za.mk (Kd.zbl (Zq12 HO737.out) hb); have n2_ := za.mk (Kd.zbl (Zq12 HO742.out) hb); have n3_ := za.mk (Kd.zcs (Zq12 HO746.out) (Kd.zch ho31) hb); have n4_ := za.mk (Kd.zcs (Zq12 HO749.out) (Kd.zch ho31) hb); have n5_ := za.mk (Kd.zcs (Zq12 HO753.out) (Kd.zch ho31) hb); have n6_ := za.mk (Kd.zcs (Zq12 HO756.out) (Kd.zch ho31) hb); have n7_ := za.mk (Kd.zb2 (Kd.zcm (Kd.zcm (Kd.zcm (Kd.zcm ho31 (Kd.R_lt (Zq12 HO746.out))) (Kd.R_lt (Zq12 HO749.out))) (Kd.R_lt (Zq12 HO753.out))) (Kd.R_lt (Zq12 HO756.out))) (zbb (Zq7 HB.out GE743.out GE750.out))); have n8_ := za.mk (zbg (g := gb743) (o := .cells #[.int .i64 t738, .int .i64 t739] 51 (0, 0)) (Zq4 BK743.out) hb); have n9_ := za.mk (zbg (g := gb750) (o := .cells #[.slice Ao19 t744.length co19, .slice Ao22 t747.length co22] 29 (0, 0)) (Zq4 BK750.out) hb); have n10_ := za.mk (zo (Zq7 HB.out GE743.out GE750.out) hb); clear HO734; clear HO737; clear HO742; clear HO746; clear HO749; clear HO753; clear HO756; clear BK743; clear BK750; clear HB; have HO734 := n0_; have HO737 := n1_; have HO742 := n2_; have HO746 := n3_; have HO749 := n4_; have HO753 := n5_; have HO756 := n6_; have HO761 := n7_; have BK743 := n8_; have BK750 := n9_; have HB := n10_; clear n0_ n1_ n2_ n3_ n4_ n5_ n6_ n7_ n8_ n9_ n10_; clear hb ho31) | ((with_reducible refine zbp (N := 54) rfl ?_); (try (refine zcg (by rfl) ?_; dsimp only)); refine Kd.R_lit Kd.bool _ 4 ?hg (N := 54) ?hd (xs := ([] : List Bool)) (inner := []) (ok := fun _ => True) (okp := fun _ => True) ?hr ?hp (fun _ hk => hk) trivial (Below.refl _ _) (Nat.le_refl _) (by simp) ?_; (case hd => rfl); (case hg => rfl); (case hr => first | (go_simp; done) | (go_simp; rfl)); (case hp => exact (Reps.none _ _)); intro v763 w32 ho33 hb hg_ hnew_; clear hg_ hnew_; (first | rw [← Ny762.out] at ho33 | (simp only [Int.reduceToNat] at ho33; rw [← Ny762.out] at ho33)); have n0_ := za.mk (Kd.zbl (Zq12 HO734.out) hb); have n1_ := za.mk (Kd.zbl (Zq12 HO737.out) hb); have n2_ := za.mk (Kd.zcs (Zq12 HO742.out) (Kd.zch ho33) hb); have n3_ := za.mk (Kd.zbl (Zq12 HO746.out) hb); have n4_ := za.mk (Kd.zbl (Zq12 HO749.out) hb); have n5_ := za.mk (Kd.zbl (Zq12 HO753.out) hb); have n6_ := za.mk (Kd.zbl (Zq12 HO756.out) hb); have n7_ := za.mk (Kd.zbl (Zq12 HO761.out) hb); have n8_ := za.mk (Kd.zb2 (Kd.zcm ho33 (Kd.R_lt (Zq12 HO742.out))) (zbb (Zq7 HB.out GE743.out GE750.out))); have n9_ := za.mk (zbg (g := gb743) (o := .cells #[.int .i64 t738, .int .i64 t739] 51 (0, 0)) (Zq4 BK743.out) hb); have n10_ := za.mk (zbg (g := gb750) (o := .cells #[.slice Ao19 t744.length co19, .slice Ao22 t747.length co22] 29 (0, 0)) (Zq4 BK750.out) hb); have n11_ := za.mk (zo (Zq7 HB.out GE743.out GE750.out) hb); clear HO734; clear HO737; clear HO742; clear HO746; clear HO749; clear HO753; clear HO756; clear HO761; clear BK743; clear BK750; clear HB; have HO734 := n0_; have HO737 := n1_; have HO742 := n2_; have HO746 := n3_; have HO749 := n4_; have HO753 := n5_; have HO756 := n6_; have HO761 := n7_; have HO764 := n8_; have BK743 := n9_; have BK750 := n10_; have HB := n11_; clear n0_ n1_ n2_ n3_ n4_ n5_ n6_ n7_ n8_ n9_ n10_ n11_; clear hb ho33))
      go_loopg [9, 10] k (fun kq v9 v10 w' => ∃ (x8_1 : List Int) (x9_1 : List Bool) (x10_1 : Int), v10 = .int .i64 x10_1 ∧ za (laws_FnRunSupply.l0 kq t732 t735 t740 x8_1 x9_1 x10_1 t744 t747 = some r) ∧ za (kq ≤ k) ∧ za (Kd.R k88 88 w' w.heap.size (fun _ => True) (.slice Ao14 t732.length co14) t732) ∧ za (Kd.R k34 34 w' w.heap.size (fun _ => True) (.slice Ao15 t735.length co15) t735) ∧ za (Kd.R Kd.bool 4 w' w.heap.size (fun k_ => some k_ ≠ (v9 : Value).ownBlock) (.slice Ao16 t740.length co16) t740) ∧ za (Kd.R (Kd.int .i64) 3 w' w.heap.size (fun k_ => some k_ ≠ ((.slice Ao19 t744.length co19) : Value).ownBlock ∧ some k_ ≠ ((.slice Ao22 t747.length co22) : Value).ownBlock) v760 x8_1) ∧ za (Kd.R Kd.bool 4 w' w.heap.size (fun k_ => some k_ ≠ ((.slice Ao16 t740.length co16) : Value).ownBlock) v9 x9_1) ∧ za (Kd.R (Kd.int .i64) 3 w' w.heap.size (fun k_ => some k_ ≠ (v760 : Value).ownBlock ∧ some k_ ≠ ((.slice Ao22 t747.length co22) : Value).ownBlock) (.slice Ao19 t744.length co19) t744) ∧ za (Kd.R (Kd.int .i64) 3 w' w.heap.size (fun k_ => some k_ ≠ (v760 : Value).ownBlock ∧ some k_ ≠ ((.slice Ao19 t744.length co19) : Value).ownBlock) (.slice Ao22 t747.length co22) t747) ∧ za (w'.heap[gb743]? = some (.cells #[.int .i64 t738, .int .i64 t739] 51 (0, 0))) ∧ za (w'.heap[gb750]? = some (.cells #[(.slice Ao19 t744.length co19), (.slice Ao22 t747.length co22)] 29 (0, 0))) ∧ za (Below w.heap.size w w'))
      case atStart => exact ⟨(y759), (y762), (0), Zrs, H', ⟨Nat.le_refl _⟩, ⟨Zq12 HO734.out⟩, ⟨Zq12 HO737.out⟩, ⟨by (with_reducible repeat (first | apply Kd.zbi | apply Kd.zbh | apply Kd.zbj)); exact Kd.zy HO742.out (fun _ hk => hk.2)⟩, ⟨by (with_reducible repeat (first | apply Kd.zbi | apply Kd.zbh | apply Kd.zbj)); exact Kd.zy HO761.out (fun _ hk => ⟨hk.1.1.1.2, hk.1.1.2⟩)⟩, ⟨by (with_reducible repeat (first | apply Kd.zbi | apply Kd.zbh | apply Kd.zbj)); exact Kd.zy HO764.out (fun _ hk => hk.2)⟩, ⟨by (with_reducible repeat (first | apply Kd.zbi | apply Kd.zbh | apply Kd.zbj)); exact Kd.zy HO746.out (fun _ hk => ⟨hk.2, hk.1.1.1⟩)⟩, ⟨by (with_reducible repeat (first | apply Kd.zbi | apply Kd.zbh | apply Kd.zbj)); exact Kd.zy HO749.out (fun _ hk => ⟨hk.2, hk.1.1.1⟩)⟩, ⟨Zq4 BK743.out⟩, ⟨Zq4 BK750.out⟩, ⟨Zq7 HB.out GE743.out GE750.out⟩⟩
      case round =>
       clear H'
       try clear c1
       try clear c2
       try clear c2b0
       try clear c2b1
       try clear p2
       try clear c3
       try clear p6
       try clear c7
       try clear c8
       try clear c8b0
       try clear c8b1
       try clear c9
       try clear c9b0
       try clear c9b1
       try clear c10
       try clear c10b0
       try clear c10b1
       try clear c13
       try clear c20
       try clear c30
       try clear c31
       try clear c32
       try clear hcz13_0
       try clear hcz13_1
       try clear hcz21_0
       try clear hcz21_1
       try clear hcz29_0
       try clear hcz29_1
       try clear hfz13_0
       try clear hfz13_1
       try clear hfz21_0
       try clear hfz21_1
       try clear hfz29_0
       try clear hfz29_1
       obtain ⟨x8_1, x9_1, x10_1, rfl, HA, HK1, HO_3, HO_4, HO_6, HO_8, HO_9, HO_751000, HO_751001, BK743, BK750, HB⟩ := hrel
       cases gk with
       | zero => exact absurd HA.out (by simp [laws_FnRunSupply.l0])
       | succ k1 =>
        have H := HA.out
        clear HA
        simp only [laws_FnRunSupply.l0] at H
        by_cases c34 : x10_1 < 120
        ·rw [if_pos c34] at H
         have c34b0 : decide (x10_1 < 120) = true := decide_eq_true c34
         clear c34
         by_cases c35 : x9_1.length < 140737488355328
         ·rw [if_pos c35] at H
          have LMc35 := za.mk c35
          clear c35
          obtain ⟨y778, hy778⟩ : ∃ y_ : List Bool, y_ = (x9_1 ++ [true]) := ⟨_, rfl⟩
          replace H : (if 0 ≤ x10_1 then (if x10_1 < (t744.length : Int) then (if x10_1 < (t740.length : Int) then (if rdOf false t740 x10_1 = true then (laws_FnRunSupply.j1 k1 t732 t735 t740 x8_1 y778 x10_1 (rd t744 x10_1) false t744 t747) else (laws_FnRunSupply.j1 k1 t732 t735 t740 x8_1 y778 x10_1 (rd t744 x10_1) (decide ((rd t744 x10_1) ≥ 0)) t744 t747)) else (none)) else (none)) else (none)) = some r := by first | (rw [hy778]; with_reducible exact H) | (have H2_ := (Option.bind_some _ _).symm.trans H; rw [hy778]; with_reducible exact H2_) | (have H2_ := (Option.bind_some _ _).symm.trans H; with_reducible exact H2_) | with_reducible exact H | (rw [hy778]; exact H) | exact H
          have Ny778 := za.mk hy778
          clear hy778
          by_cases c36 : 0 ≤ x10_1
          ·rw [if_pos c36] at H
           have c36b0 : decide (0 ≤ x10_1) = true := decide_eq_true c36
           clear c36
           by_cases c37 : x10_1 < (t744.length : Int)
           ·rw [if_pos c37] at H
            have c37b0 : decide (x10_1 < (t744.length : Int)) = true := decide_eq_true c37
            clear c37
            have HC38 := za.mk H
            clear H
            go_upto_region 16 with (first | ((with_reducible refine zcq (b := .append) (xs := #[.tmp 59, .tmp 60]) rfl ?_); (try (refine zcg (by rfl) ?_; dsimp only)); at_builtin; refine Kd.zdg Kd.bool (w0 := w) w.heap.size rfl (.tmp 59) (.tmp 60) 52 4 (.bool false) 1 rfl Try.underlying52 info4 rfl (by decide) (by omega) u9 x9_1 true [.bool true] (fun k_ => some k_ ≠ (.slice Ao16 t740.length co16 : Value).ownBlock) (fun _ => False) rfl rfl ?aP (fun _ hk => hk.elim) ?aF ?aO ?aB ?aS ?aL ?_; (case aP => exact rfl); (case aB => exact (Zq7 HB.out GE743.out GE750.out)); (case aF => exact (fun k_ hk => Kd.fresh' (Kd.R_lt (Zq12 HO_6.out)) k_ hk)); (case aO => exact (Zq12 HO_9.out)); (case aS => exact (zbb (Zq7 HB.out GE743.out GE750.out))); (case aL => have := LMc35.out; omega); intro v779 w39 ho hb hg hat; rw [← Ny778.out] at ho; have n0_ := za.mk (Kd.zdx (Zq12 HO_3.out) (Kd.zdw (Zq12 HO_9.out)) (by decide) hg); have n1_ := za.mk (Kd.zdx (Zq12 HO_4.out) (Kd.zdw (Zq12 HO_9.out)) (by decide) hg); have n2_ := za.mk (Kd.zc2 (ok := (fun _ => True)) (by (with_reducible repeat (first | apply Kd.zbi | apply Kd.zbh | apply Kd.zbj)); exact Kd.zy HO_6.out (fun _ hk => ⟨trivial, hk⟩)) hg hat); have n3_ := za.mk (Kd.zdx (Zq12 HO_8.out) (Kd.zdw (Zq12 HO_9.out)) (by decide) hg); have n4_ := za.mk (Kd.zdx (Zq12 HO_751000.out) (Kd.zdw (Zq12 HO_9.out)) (by decide) hg); have n5_ := za.mk (Kd.zdx (Zq12 HO_751001.out) (Kd.zdw (Zq12 HO_9.out)) (by decide) hg); have n6_ := za.mk (zbr (g := gb743) (o := .cells #[.int .i64 t738, .int .i64 t739] 51 (0, 0)) (Zq4 BK743.out) hg (Kd.R_ne HO_9.out BK743.out (by decide))); have n7_ := za.mk (zbr (g := gb750) (o := .cells #[.slice Ao19 t744.length co19, .slice Ao22 t747.length co22] 29 (0, 0)) (Zq4 BK750.out) hg (Kd.R_ne HO_9.out BK750.out (by decide))); have n8_ := za.mk (hb); have n9_ := za.mk (ho); clear HO_3; clear HO_4; clear HO_6; clear HO_8; clear HO_751000; clear HO_751001; clear BK743; clear BK750; clear HB; clear HO_9; have HO_3 := n0_; have HO_4 := n1_; have HO_6 := n2_; have HO_8 := n3_; have HO_751000 := n4_; have HO_751001 := n5_; have BK743 := n6_; have BK750 := n7_; have HB := n8_; have HO780 := n9_; clear n0_ n1_ n2_ n3_ n4_ n5_ n6_ n7_ n8_ n9_; clear ho hb hg hat; have hnb40 := NB750_743.out; have hnc40 := NB743_750.out; have hcz41_0 : w39.cell? ⟨gb750, 0, none⟩ = some (.slice Ao19 t744.length co19) := (zh BK750.out 0).trans rfl; have hcz41_1 : w39.cell? ⟨gb750, 1, none⟩ = some (.slice Ao22 t747.length co22) := (zh BK750.out 1).trans rfl; have hfz41_0 := zg BK750.out 0; have hfz41_1 := zg BK750.out 1; have p781 : 0 ≤ (x10_1 : Int) := of_decide_eq_true Zas; have q781 : x10_1 < (t744.length : Int) := of_decide_eq_true Zas; obtain ⟨ad781, e781, hx781_0⟩ := Kd.zcn (Kd.zbe HO_751000.out).2.2 x10_1 p781 q781; cases e781; replace p781 := eq_true p781; replace q781 := eq_true q781))
            (try simp only [Act.put, List.setIfInBounds_toArray, List.set_cons_zero, List.set_cons_succ])
            go_cut [75] (fun v75 wc => ∃ (kq : Nat) (x75_37 : Bool), v75 = .bool x75_37 ∧ za (laws_FnRunSupply.j1 kq t732 t735 t740 x8_1 y778 x10_1 (rd t744 x10_1) x75_37 t744 t747 = some r) ∧ za (kq ≤ k1) ∧ za (Kd.R k88 88 wc w.heap.size (fun _ => True) (.slice Ao14 t732.length co14) t732) ∧ za (Kd.R k34 34 wc w.heap.size (fun _ => True) (.slice Ao15 t735.length co15) t735) ∧ za (Kd.R Kd.bool 4 wc w.heap.size (fun k_ => some k_ ≠ (v779 : Value).ownBlock) (.slice Ao16 t740.length co16) t740) ∧ za (Kd.R (Kd.int .i64) 3 wc w.heap.size (fun k_ => some k_ ≠ ((.slice (some ad781) t744.length co19) : Value).ownBlock ∧ some k_ ≠ ((.slice Ao22 t747.length co22) : Value).ownBlock) v760 x8_1) ∧ za (Kd.R Kd.bool 4 wc w.heap.size (fun k_ => some k_ ≠ ((.slice Ao16 t740.length co16) : Value).ownBlock) v779 y778) ∧ za (Kd.R (Kd.int .i64) 3 wc w.heap.size (fun k_ => some k_ ≠ (v760 : Value).ownBlock ∧ some k_ ≠ ((.slice Ao22 t747.length co22) : Value).ownBlock) (.slice (some ad781) t744.length co19) t744) ∧ za (Kd.R (Kd.int .i64) 3 wc w.heap.size (fun k_ => some k_ ≠ (v760 : Value).ownBlock ∧ some k_ ≠ ((.slice (some ad781) t744.length co19) : Value).ownBlock) (.slice Ao22 t747.length co22) t747) ∧ za (wc.heap[gb743]? = some (.cells #[.int .i64 t738, .int .i64 t739] 51 (0, 0))) ∧ za (wc.heap[gb750]? = some (.cells #[(.slice (some ad781) t744.length co19), (.slice Ao22 t747.length co22)] 29 (0, 0))) ∧ za (Below w.heap.size w wc))
            case first =>
             have H := HC38.out
             clear HC38
             by_cases c42 : x10_1 < (t740.length : Int)
             ·rw [if_pos c42] at H
              have c42b0 : decide (x10_1 < (t740.length : Int)) = true := decide_eq_true c42
              clear c42
              (first | rw [c42b0] | (simp only [zbq, zbt]; rw [c42b0]) | skip)
              obtain ⟨bq43, hbq43⟩ : ∃ b_ : Bool, b_ = (rdOf false t740 x10_1) := ⟨_, rfl⟩
              replace H : (if bq43 = true then (laws_FnRunSupply.j1 k1 t732 t735 t740 x8_1 y778 x10_1 (rd t744 x10_1) false t744 t747) else (laws_FnRunSupply.j1 k1 t732 t735 t740 x8_1 y778 x10_1 (rd t744 x10_1) (decide ((rd t744 x10_1) ≥ 0)) t744 t747)) = some r := by rw [← hbq43] at H; exact H
              have Nbq43 := za.mk hbq43
              clear hbq43
              by_cases c44 : bq43 = true
              ·subst c44
               have H1 : (laws_FnRunSupply.j1 k1 t732 t735 t740 x8_1 y778 x10_1 (rd t744 x10_1) false t744 t747) = some r := by rw [if_pos rfl] at H; exact H
               clear H
               have H := H1
               clear H1
               have H' := za.mk H
               clear H
               have p782 : 0 ≤ (x10_1 : Int) := of_decide_eq_true Zas
               have q782 : x10_1 < (t740.length : Int) := of_decide_eq_true Zas
               obtain ⟨ad782, e782, hx782_0⟩ := Kd.at_bool (Kd.zbe HO_6.out).2.2 x10_1 p782 q782
               (try rw [← Nbq43.out] at hx782_0)
               cases e782
               replace p782 := eq_true p782
               replace q782 := eq_true q782
               go_wp2
               go_meet
               case rel => exact ⟨_, (false), Zrs, H', ⟨by have := HK1.out; first | omega | exact Nat.le_refl _⟩, ⟨Zq12 HO_3.out⟩, ⟨Zq12 HO_4.out⟩, ⟨by (with_reducible repeat (first | apply Kd.zbi | apply Kd.zbh | apply Kd.zbj)); exact Kd.zy HO_6.out (fun _ hk => hk.2)⟩, ⟨Zq12 HO_8.out⟩, ⟨Zq12 HO780.out⟩, ⟨Zq12 HO_751000.out⟩, ⟨Zq12 HO_751001.out⟩, ⟨Zq4 BK743.out⟩, ⟨Zq4 BK750.out⟩, ⟨Zq7 HB.out GE743.out GE750.out⟩⟩
              ·replace c44 := Bool.eq_false_iff.mpr c44
               subst c44
               have H1 : (laws_FnRunSupply.j1 k1 t732 t735 t740 x8_1 y778 x10_1 (rd t744 x10_1) (decide ((rd t744 x10_1) ≥ 0)) t744 t747) = some r := by rw [if_neg (show ¬ (false = true) by decide)] at H; exact H
               clear H
               have H := H1
               clear H1
               have H' := za.mk H
               clear H
               have p782 : 0 ≤ (x10_1 : Int) := of_decide_eq_true Zas
               have q782 : x10_1 < (t740.length : Int) := of_decide_eq_true Zas
               obtain ⟨ad782, e782, hx782_0⟩ := Kd.at_bool (Kd.zbe HO_6.out).2.2 x10_1 p782 q782
               (try rw [← Nbq43.out] at hx782_0)
               cases e782
               replace p782 := eq_true p782
               replace q782 := eq_true q782
               go_wp2
               go_meet
               case rel => exact ⟨_, (decide ((rd t744 x10_1) ≥ 0)), Zrs, H', ⟨by have := HK1.out; first | omega | exact Nat.le_refl _⟩, ⟨Zq12 HO_3.out⟩, ⟨Zq12 HO_4.out⟩, ⟨by (with_reducible repeat (first | apply Kd.zbi | apply Kd.zbh | apply Kd.zbj)); exact Kd.zy HO_6.out (fun _ hk => hk.2)⟩, ⟨Zq12 HO_8.out⟩, ⟨Zq12 HO780.out⟩, ⟨Zq12 HO_751000.out⟩, ⟨Zq12 HO_751001.out⟩, ⟨Zq4 BK743.out⟩, ⟨Zq4 BK750.out⟩, ⟨Zq7 HB.out GE743.out GE750.out⟩⟩
             ·rw [if_neg c42] at H
              exact absurd H (by simp)
            case rest =>
             clear HC38
             try clear c1
             try clear c2
             try clear c2b0
             try clear c2b1
             try clear p2
             try clear c3
             try clear c4
             try clear q4
             try clear p6
             try clear c7
             try clear p7
             try clear q7
             try clear hx7
             try clear c8
             try clear c8b0
             try clear c8b1
             try clear c9
             try clear c9b0
             try clear c9b1
             try clear c10
             try clear c10b0
             try clear c10b1
             try clear c13
             try clear c20
             try clear c30
             try clear c31
             try clear c32
             try clear c34
             try clear c34b0
             try clear c35
             try clear c36
             try clear c36b0
             try clear c37
             try clear c37b0
             try clear c40
             try clear c42
             try clear c42b0
             try clear q43
             try clear c44
             try clear hcz13_0
             try clear hcz13_1
             try clear hcz21_0
             try clear hcz21_1
             try clear hcz29_0
             try clear hcz29_1
             try clear hcz41_0
             try clear hcz41_1
             try clear hfz13_0
             try clear hfz13_1
             try clear hfz21_0
             try clear hfz21_1
             try clear hfz29_0
             try clear hfz29_1
             try clear hfz41_0
             try clear hfz41_1
             try clear hx781_0
             try clear hx782_0
             try clear p2
             try clear p6
             try clear p781
             try clear p782
             try clear q781
             try clear q782
             obtain ⟨kq, x75_37, rfl, HA, HJ37, HO_3, HO_4, HO_6, HO_8, HO_9, HO_751000, HO_751001, BK743, BK750, HB⟩ := hcut
             cases kq with
             | zero => exact absurd HA.out (by simp [laws_FnRunSupply.j1])
             | succ kj37 =>
              have H := HA.out
              clear HA
              simp only [laws_FnRunSupply.j1] at H
              by_cases c45 : x75_37 = true
              ·subst c45
               have H1 : (some false) = some r := by rw [if_pos rfl] at H; exact H
               exact Bool.noConfusion ((Option.some.inj H1).trans HRT.out)
              ·replace c45 := Bool.eq_false_iff.mpr c45
               subst c45
               have H1 : (laws_FnRunSupply.l1 kj37 t732 t735 t740 x8_1 y778 x10_1 (rd t744 x10_1) 0 t744 t747) = some r := by rw [if_neg (show ¬ (false = true) by decide)] at H; exact H
               clear H
               have H := H1
               clear H1
               have H' := za.mk H
               clear H
               go_wp2
               go_loopg [12] kj37 (fun kq v12 w' => ∃ (x12_3 : Int), v12 = .int .i64 x12_3 ∧ za (laws_FnRunSupply.l1 kq t732 t735 t740 x8_1 y778 x10_1 (rd t744 x10_1) x12_3 t744 t747 = some r) ∧ za (kq ≤ kj37) ∧ za (Kd.R k88 88 w' w.heap.size (fun _ => True) (.slice Ao14 t732.length co14) t732) ∧ za (Kd.R k34 34 w' w.heap.size (fun _ => True) (.slice Ao15 t735.length co15) t735) ∧ za (Kd.R Kd.bool 4 w' w.heap.size (fun k_ => some k_ ≠ (v779 : Value).ownBlock) (.slice Ao16 t740.length co16) t740) ∧ za (Kd.R (Kd.int .i64) 3 w' w.heap.size (fun k_ => some k_ ≠ ((.slice (some ad781) t744.length co19) : Value).ownBlock ∧ some k_ ≠ ((.slice Ao22 t747.length co22) : Value).ownBlock) v760 x8_1) ∧ za (Kd.R Kd.bool 4 w' w.heap.size (fun k_ => some k_ ≠ ((.slice Ao16 t740.length co16) : Value).ownBlock) v779 y778) ∧ za (Kd.R (Kd.int .i64) 3 w' w.heap.size (fun k_ => some k_ ≠ (v760 : Value).ownBlock ∧ some k_ ≠ ((.slice Ao22 t747.length co22) : Value).ownBlock) (.slice (some ad781) t744.length co19) t744) ∧ za (Kd.R (Kd.int .i64) 3 w' w.heap.size (fun k_ => some k_ ≠ (v760 : Value).ownBlock ∧ some k_ ≠ ((.slice (some ad781) t744.length co19) : Value).ownBlock) (.slice Ao22 t747.length co22) t747) ∧ za (w'.heap[gb743]? = some (.cells #[.int .i64 t738, .int .i64 t739] 51 (0, 0))) ∧ za (w'.heap[gb750]? = some (.cells #[(.slice (some ad781) t744.length co19), (.slice Ao22 t747.length co22)] 29 (0, 0))) ∧ za (Below w.heap.size w w'))
               case atStart => exact ⟨(0), Zrs, H', ⟨Nat.le_refl _⟩, ⟨Zq12 HO_3.out⟩, ⟨Zq12 HO_4.out⟩, ⟨Zq12 HO_6.out⟩, ⟨Zq12 HO_8.out⟩, ⟨Zq12 HO_9.out⟩, ⟨Zq12 HO_751000.out⟩, ⟨Zq12 HO_751001.out⟩, ⟨Zq4 BK743.out⟩, ⟨Zq4 BK750.out⟩, ⟨Zq7 HB.out GE743.out GE750.out⟩⟩
               case round =>
                clear H'
                try clear c1
                try clear c2
                try clear c2b0
                try clear c2b1
                try clear p2
                try clear c3
                try clear c4
                try clear q4
                try clear p6
                try clear c7
                try clear p7
                try clear q7
                try clear hx7
                try clear c8
                try clear c8b0
                try clear c8b1
                try clear c9
                try clear c9b0
                try clear c9b1
                try clear c10
                try clear c10b0
                try clear c10b1
                try clear c13
                try clear c20
                try clear c30
                try clear c31
                try clear c32
                try clear c34
                try clear c34b0
                try clear c35
                try clear c36
                try clear c36b0
                try clear c37
                try clear c37b0
                try clear c40
                try clear c42
                try clear c42b0
                try clear q43
                try clear c44
                try clear c45
                try clear hcz13_0
                try clear hcz13_1
                try clear hcz21_0
                try clear hcz21_1
                try clear hcz29_0
                try clear hcz29_1
                try clear hcz41_0
                try clear hcz41_1
                try clear hfz13_0
                try clear hfz13_1
                try clear hfz21_0
                try clear hfz21_1
                try clear hfz29_0
                try clear hfz29_1
                try clear hfz41_0
                try clear hfz41_1
                try clear hx781_0
                try clear hx782_0
                try clear p2
                try clear p6
                try clear p7
                try clear p781
                try clear p782
                try clear q4
                try clear q43
                try clear q7
                try clear q781
                try clear q782
                obtain ⟨x12_3, rfl, HA, HK3, HO_3, HO_4, HO_6, HO_8, HO_9, HO_751000, HO_751001, BK743, BK750, HB⟩ := hrel
                cases gk with
                | zero => exact absurd HA.out (by simp [laws_FnRunSupply.l1])
                | succ k3 =>
                 have H := HA.out
                 clear HA
                 simp only [laws_FnRunSupply.l1] at H
                 have HC46 := za.mk H
                 clear H
                 go_upto_region 19 with (fail)
                 go_cut [89] (fun v89 wc => ∃ (kq : Nat) (x89_45 : Bool), v89 = .bool x89_45 ∧ za (laws_FnRunSupply.j3 kq t732 t735 t740 x8_1 y778 x10_1 (rd t744 x10_1) x12_3 x89_45 t744 t747 = some r) ∧ za (kq ≤ k3) ∧ za (Kd.R k88 88 wc w.heap.size (fun _ => True) (.slice Ao14 t732.length co14) t732) ∧ za (Kd.R k34 34 wc w.heap.size (fun _ => True) (.slice Ao15 t735.length co15) t735) ∧ za (Kd.R Kd.bool 4 wc w.heap.size (fun k_ => some k_ ≠ (v779 : Value).ownBlock) (.slice Ao16 t740.length co16) t740) ∧ za (Kd.R (Kd.int .i64) 3 wc w.heap.size (fun k_ => some k_ ≠ ((.slice (some ad781) t744.length co19) : Value).ownBlock ∧ some k_ ≠ ((.slice Ao22 t747.length co22) : Value).ownBlock) v760 x8_1) ∧ za (Kd.R Kd.bool 4 wc w.heap.size (fun k_ => some k_ ≠ ((.slice Ao16 t740.length co16) : Value).ownBlock) v779 y778) ∧ za (Kd.R (Kd.int .i64) 3 wc w.heap.size (fun k_ => some k_ ≠ (v760 : Value).ownBlock ∧ some k_ ≠ ((.slice Ao22 t747.length co22) : Value).ownBlock) (.slice (some ad781) t744.length co19) t744) ∧ za (Kd.R (Kd.int .i64) 3 wc w.heap.size (fun k_ => some k_ ≠ (v760 : Value).ownBlock ∧ some k_ ≠ ((.slice (some ad781) t744.length co19) : Value).ownBlock) (.slice Ao22 t747.length co22) t747) ∧ za (wc.heap[gb743]? = some (.cells #[.int .i64 t738, .int .i64 t739] 51 (0, 0))) ∧ za (wc.heap[gb750]? = some (.cells #[(.slice (some ad781) t744.length co19), (.slice Ao22 t747.length co22)] 29 (0, 0))) ∧ za (Below w.heap.size w wc))
                 case first =>
                  have H := HC46.out
                  clear HC46
                  by_cases c47 : 0 ≤ x10_1
                  ·rw [if_pos c47] at H
                   have c47b0 : decide (0 ≤ x10_1) = true := decide_eq_true c47
                   clear c47
                   (first | rw [c47b0] | (simp only [zbq, zbt]; rw [c47b0]) | skip)
                   by_cases c48 : x10_1 < (t740.length : Int)
                   ·rw [if_pos c48] at H
                    have c48b0 : decide (x10_1 < (t740.length : Int)) = true := decide_eq_true c48
                    clear c48
                    obtain ⟨bq49, hbq49⟩ : ∃ b_ : Bool, b_ = (rdOf false t740 x10_1) := ⟨_, rfl⟩
                    replace H : (if bq49 = true then (if (rd t744 x10_1) < 0 then (laws_FnRunSupply.j3 k3 t732 t735 t740 x8_1 y778 x10_1 (rd t744 x10_1) x12_3 (decide (x12_3 < (t735.length : Int))) t744 t747) else (laws_FnRunSupply.j3 k3 t732 t735 t740 x8_1 y778 x10_1 (rd t744 x10_1) x12_3 false t744 t747)) else (laws_FnRunSupply.j3 k3 t732 t735 t740 x8_1 y778 x10_1 (rd t744 x10_1) x12_3 false t744 t747)) = some r := by rw [← hbq49] at H; exact H
                    have Nbq49 := za.mk hbq49
                    clear hbq49
                    by_cases c50 : bq49 = true
                    ·subst c50
                     have H1 : (if (rd t744 x10_1) < 0 then (laws_FnRunSupply.j3 k3 t732 t735 t740 x8_1 y778 x10_1 (rd t744 x10_1) x12_3 (decide (x12_3 < (t735.length : Int))) t744 t747) else (laws_FnRunSupply.j3 k3 t732 t735 t740 x8_1 y778 x10_1 (rd t744 x10_1) x12_3 false t744 t747)) = some r := by rw [if_pos rfl] at H; exact H
                     clear H
                     have H := H1
                     clear H1
                     by_cases c51 : (rd t744 x10_1) < 0
                     ·rw [if_pos c51] at H
                      have c51b0 : decide ((rd t744 x10_1) < 0) = true := decide_eq_true c51
                      clear c51
                      have H' := za.mk H
                      clear H
                      have p783 : 0 ≤ (x10_1 : Int) := of_decide_eq_true Zas
                      have q783 : x10_1 < (t740.length : Int) := of_decide_eq_true Zas
                      obtain ⟨ad783, e783, hx783_0⟩ := Kd.at_bool (Kd.zbe HO_6.out).2.2 x10_1 p783 q783
                      (try rw [← Nbq49.out] at hx783_0)
                      cases e783
                      replace p783 := eq_true p783
                      replace q783 := eq_true q783
                      go_wp2
                      go_meet
                      case rel => exact ⟨_, (decide (x12_3 < (t735.length : Int))), Zrs, H', ⟨by have := HK1.out; have := HJ37.out; have := HK3.out; first | omega | exact Nat.le_refl _⟩, ⟨Zq12 HO_3.out⟩, ⟨Zq12 HO_4.out⟩, ⟨Zq12 HO_6.out⟩, ⟨Zq12 HO_8.out⟩, ⟨Zq12 HO_9.out⟩, ⟨Zq12 HO_751000.out⟩, ⟨Zq12 HO_751001.out⟩, ⟨Zq4 BK743.out⟩, ⟨Zq4 BK750.out⟩, ⟨Zq7 HB.out GE743.out GE750.out⟩⟩
                     ·rw [if_neg c51] at H
                      have c51b0 : decide ((rd t744 x10_1) < 0) = false := decide_eq_false c51
                      clear c51
                      have H' := za.mk H
                      clear H
                      have p783 : 0 ≤ (x10_1 : Int) := of_decide_eq_true Zas
                      have q783 : x10_1 < (t740.length : Int) := of_decide_eq_true Zas
                      obtain ⟨ad783, e783, hx783_0⟩ := Kd.at_bool (Kd.zbe HO_6.out).2.2 x10_1 p783 q783
                      (try rw [← Nbq49.out] at hx783_0)
                      cases e783
                      replace p783 := eq_true p783
                      replace q783 := eq_true q783
                      go_wp2
                      go_meet
                      case rel => exact ⟨_, (false), Zrs, H', ⟨by have := HK1.out; have := HJ37.out; have := HK3.out; first | omega | exact Nat.le_refl _⟩, ⟨Zq12 HO_3.out⟩, ⟨Zq12 HO_4.out⟩, ⟨Zq12 HO_6.out⟩, ⟨Zq12 HO_8.out⟩, ⟨Zq12 HO_9.out⟩, ⟨Zq12 HO_751000.out⟩, ⟨Zq12 HO_751001.out⟩, ⟨Zq4 BK743.out⟩, ⟨Zq4 BK750.out⟩, ⟨Zq7 HB.out GE743.out GE750.out⟩⟩
                    ·replace c50 := Bool.eq_false_iff.mpr c50
                     subst c50
                     have H1 : (laws_FnRunSupply.j3 k3 t732 t735 t740 x8_1 y778 x10_1 (rd t744 x10_1) x12_3 false t744 t747) = some r := by rw [if_neg (show ¬ (false = true) by decide)] at H; exact H
                     clear H
                     have H := H1
                     clear H1
                     have H' := za.mk H
                     clear H
                     have p783 : 0 ≤ (x10_1 : Int) := of_decide_eq_true Zas
                     have q783 : x10_1 < (t740.length : Int) := of_decide_eq_true Zas
                     obtain ⟨ad783, e783, hx783_0⟩ := Kd.at_bool (Kd.zbe HO_6.out).2.2 x10_1 p783 q783
                     (try rw [← Nbq49.out] at hx783_0)
                     cases e783
                     replace p783 := eq_true p783
                     replace q783 := eq_true q783
                     go_wp2
                     go_meet
                     case rel => exact ⟨_, (false), Zrs, H', ⟨by have := HK1.out; have := HJ37.out; have := HK3.out; first | omega | exact Nat.le_refl _⟩, ⟨Zq12 HO_3.out⟩, ⟨Zq12 HO_4.out⟩, ⟨Zq12 HO_6.out⟩, ⟨Zq12 HO_8.out⟩, ⟨Zq12 HO_9.out⟩, ⟨Zq12 HO_751000.out⟩, ⟨Zq12 HO_751001.out⟩, ⟨Zq4 BK743.out⟩, ⟨Zq4 BK750.out⟩, ⟨Zq7 HB.out GE743.out GE750.out⟩⟩
                   ·rw [if_neg c48] at H
                    exact absurd H (by simp)
                  ·rw [if_neg c47] at H
                   exact absurd H (by simp)
                 case rest =>
                  clear HC46
                  try clear c1
                  try clear c2
                  try clear c2b0
                  try clear c2b1
                  try clear p2
                  try clear c3
                  try clear c4
                  try clear q4
                  try clear c5
                  try clear p6
                  try clear c7
                  try clear p7
                  try clear q7
                  try clear hx7
                  try clear c8
                  try clear c8b0
                  try clear c8b1
                  try clear c9
                  try clear c9b0
                  try clear c9b1
                  try clear c10
                  try clear c10b0
                  try clear c10b1
                  try clear c13
                  try clear c20
                  try clear c30
                  try clear c31
                  try clear c32
                  try clear c34
                  try clear c34b0
                  try clear c35
                  try clear c36
                  try clear c36b0
                  try clear c37
                  try clear c37b0
                  try clear c40
                  try clear c42
                  try clear c42b0
                  try clear q43
                  try clear c44
                  try clear c45
                  try clear c47
                  try clear c47b0
                  try clear c48
                  try clear c48b0
                  try clear q49
                  try clear c50
                  try clear c51
                  try clear c51b0
                  try clear hcz13_0
                  try clear hcz13_1
                  try clear hcz21_0
                  try clear hcz21_1
                  try clear hcz29_0
                  try clear hcz29_1
                  try clear hcz41_0
                  try clear hcz41_1
                  try clear hfz13_0
                  try clear hfz13_1
                  try clear hfz21_0
                  try clear hfz21_1
                  try clear hfz29_0
                  try clear hfz29_1
                  try clear hfz41_0
                  try clear hfz41_1
                  try clear hx781_0
                  try clear hx782_0
                  try clear hx783_0
                  try clear p2
                  try clear p6
                  try clear p7
                  try clear p781
                  try clear p782
                  try clear p783
                  try clear q4
                  try clear q43
                  try clear q7
                  try clear q781
                  try clear q782
                  try clear q783
                  obtain ⟨kq, x89_45, rfl, HA, HJ45, HO_3, HO_4, HO_6, HO_8, HO_9, HO_751000, HO_751001, BK743, BK750, HB⟩ := hcut
                  cases kq with
                  | zero => exact absurd HA.out (by simp [laws_FnRunSupply.j3])
                  | succ kj45 =>
                   have H := HA.out
                   clear HA
                   simp only [laws_FnRunSupply.j3] at H
                   by_cases c52 : x89_45 = true
                   ·subst c52
                    have H1 : (if 0 ≤ x12_3 then (if x12_3 < (t735.length : Int) then (if ((ze t735 x12_3).f1) ≤ x10_1 then (if x12_3 < (x8_1.length : Int) then (if (rd x8_1 x12_3) < ((ze t735 x12_3).f3) then (some false) else (laws_FnRunSupply.l1 kj45 t732 t735 t740 x8_1 y778 x10_1 (rd t744 x10_1) (wrap64 (x12_3 + 1)) t744 t747)) else (none)) else (laws_FnRunSupply.l1 kj45 t732 t735 t740 x8_1 y778 x10_1 (rd t744 x10_1) (wrap64 (x12_3 + 1)) t744 t747)) else (none)) else (none)) = some r := by rw [if_pos rfl] at H; exact H
                    clear H
                    have H := H1
                    clear H1
                    by_cases c53 : 0 ≤ x12_3
                    ·rw [if_pos c53] at H
                     have c53b0 : decide (0 ≤ x12_3) = true := decide_eq_true c53
                     clear c53
                     by_cases c54 : x12_3 < (t735.length : Int)
                     ·rw [if_pos c54] at H
                      have c54b0 : decide (x12_3 < (t735.length : Int)) = true := decide_eq_true c54
                      clear c54
                      by_cases c55 : ((ze t735 x12_3).f1) ≤ x10_1
                      ·rw [if_pos c55] at H
                       have c55b0 : decide (((ze t735 x12_3).f1) ≤ x10_1) = true := decide_eq_true c55
                       clear c55
                       by_cases c56 : x12_3 < (x8_1.length : Int)
                       ·rw [if_pos c56] at H
                        have c56b0 : decide (x12_3 < (x8_1.length : Int)) = true := decide_eq_true c56
                        clear c56
                        by_cases c57 : (rd x8_1 x12_3) < ((ze t735 x12_3).f3)
                        ·rw [if_pos c57] at H
                         exact Bool.noConfusion ((Option.some.inj H).trans HRT.out)
                        ·rw [if_neg c57] at H
                         have c57b0 : decide ((rd x8_1 x12_3) < ((ze t735 x12_3).f3)) = false := decide_eq_false c57
                         clear c57
                         have H' := za.mk H
                         clear H
                         try go_wp2
                         have n0_ := za.mk (Kd.zbj HO_3.out)
                         have n1_ := za.mk (Kd.zbj HO_4.out)
                         have n2_ := za.mk (Kd.zbj HO_6.out)
                         have n3_ := za.mk (Kd.zbj HO_8.out)
                         have n4_ := za.mk (Kd.zbj HO_9.out)
                         have n5_ := za.mk (Kd.zbj HO_751000.out)
                         have n6_ := za.mk (Kd.zbj HO_751001.out)
                         have n7_ := za.mk (zt BK743.out)
                         have n8_ := za.mk (zt BK750.out)
                         have n9_ := za.mk (zb6 HB.out)
                         clear HO_3
                         clear HO_4
                         clear HO_6
                         clear HO_8
                         clear HO_9
                         clear HO_751000
                         clear HO_751001
                         clear BK743
                         clear BK750
                         clear HB
                         have HO_3 := n0_
                         have HO_4 := n1_
                         have HO_6 := n2_
                         have HO_8 := n3_
                         have HO_9 := n4_
                         have HO_751000 := n5_
                         have HO_751001 := n6_
                         have BK743 := n7_
                         have BK750 := n8_
                         have HB := n9_
                         clear n0_ n1_ n2_ n3_ n4_ n5_ n6_ n7_ n8_ n9_
                         have p784 : 0 ≤ (x12_3 : Int) := of_decide_eq_true Zas
                         have q784 : x12_3 < (t735.length : Int) := of_decide_eq_true Zas
                         obtain ⟨ad784, e784, hx784_0, hx784_1, hx784_2, hx784_3⟩ := zc9 (Kd.zbe HO_4.out).2.2 x12_3 p784 q784
                         cases e784
                         replace p784 := eq_true p784
                         replace q784 := eq_true q784
                         obtain ⟨Ao61, co61, eo61⟩ := Kd.zbs HO_8.out
                         (first | subst eo61 | (injection eo61 with f1_ f2_ f3_; have f4_ := f1_.symm; have f5_ := f3_.symm; clear f1_ f2_ f3_; subst f4_; subst f5_))
                         have p785 : 0 ≤ (x12_3 : Int) := of_decide_eq_true Zas
                         have q785 : x12_3 < (x8_1.length : Int) := of_decide_eq_true Zas
                         obtain ⟨ad785, e785, hx785_0⟩ := Kd.zcn (Kd.zbe HO_8.out).2.2 x12_3 p785 q785
                         cases e785
                         replace p785 := eq_true p785
                         replace q785 := eq_true q785
                         have p786 : 0 ≤ (x12_3 : Int) := of_decide_eq_true Zas
                         have q786 : x12_3 < (t735.length : Int) := of_decide_eq_true Zas
                         obtain ⟨ad786, e786, hx786_0, hx786_1, hx786_2, hx786_3⟩ := zc9 (Kd.zbe HO_4.out).2.2 x12_3 p786 q786
                         obtain rfl : ad784 = ad786 := (by injection e786)
                         replace p786 := eq_true p786
                         replace q786 := eq_true q786
                         refine start_ (n := 19) (S := fun w' => w'.cell? (ad784.add ((x12_3).toNat * 4)) = some (.int .i64 ((ze t735 x12_3).f0)) ∧ w'.cell? ⟨(ad784.add ((x12_3).toNat * 4)).block, (ad784.add ((x12_3).toNat * 4)).off + 1, none⟩ = some (.int .i64 ((ze t735 x12_3).f1)) ∧ w'.cell? ⟨(ad784.add ((x12_3).toNat * 4)).block, (ad784.add ((x12_3).toNat * 4)).off + 2, none⟩ = some (.int .i64 ((ze t735 x12_3).f2)) ∧ w'.cell? ⟨(ad784.add ((x12_3).toNat * 4)).block, (ad784.add ((x12_3).toNat * 4)).off + 3, none⟩ = some (.int .i64 ((ze t735 x12_3).f3)) ∧ w'.cell? (ad785.add (x12_3).toNat) = some (.int .i64 (rd x8_1 x12_3)) ∧ w'.cell? (ad784.add ((x12_3).toNat * 4)) = some (.int .i64 ((ze t735 x12_3).f0)) ∧ w'.cell? ⟨(ad784.add ((x12_3).toNat * 4)).block, (ad784.add ((x12_3).toNat * 4)).off + 1, none⟩ = some (.int .i64 ((ze t735 x12_3).f1)) ∧ w'.cell? ⟨(ad784.add ((x12_3).toNat * 4)).block, (ad784.add ((x12_3).toNat * 4)).off + 2, none⟩ = some (.int .i64 ((ze t735 x12_3).f2)) ∧ w'.cell? ⟨(ad784.add ((x12_3).toNat * 4)).block, (ad784.add ((x12_3).toNat * 4)).off + 3, none⟩ = some (.int .i64 ((ze t735 x12_3).f3))) (ds := []) #[false, false, false, false, false, false, false, false, false, false, false, false, false, false, false, false, false, false, false] (by kernel_rfl) rfl rfl ⟨hx784_0, hx784_1, hx784_2, hx784_3, hx785_0, hx786_0, hx786_1, hx786_2, hx786_3⟩ (fun hHeld => ?_); refine zdq laws_FnRunSupply.tab21 laws_FnRunSupply.bits21 (fun HT_ HW_ => ?_)
                         generalize wc.drew = w60 at HO_3 HO_4 HO_6 HO_8 HO_9 HO_751000 HO_751001 BK743 BK750 HB hx784_0 hx784_1 hx784_2 hx784_3 hx785_0 hx786_0 hx786_1 hx786_2 hx786_3 hHeld ⊢
                         refine zce (i := 0) (N := some 92) (v := ?_) (a' := ?_) #[true, false, false, false, false, false, false, false, false, false, false, false, false, false, false, false, false, false, false] rfl rfl (zby HT_.out (by kernel_rfl)) (fun _ _ _ h => h) (Or.inl ⟨by rfl, ?_⟩) ?_ ?_
                         rotate_left
                         ·intro w'
                          go_simp
                          with_reducible rfl
                         rotate_left
                         ·simp only [Act.put, List.setIfInBounds_toArray, List.set_cons_zero, List.set_cons_succ, zbq, zbt]
                          rfl
                         refine zce (i := 1) (N := some 93) (v := ?_) (a' := ?_) #[true, true, false, false, false, false, false, false, false, false, false, false, false, false, false, false, false, false, false] rfl rfl (zby HT_.out (by kernel_rfl)) (fun _ _ _ h => h) (Or.inl ⟨by rfl, ?_⟩) ?_ ?_
                         rotate_left
                         ·intro w'
                          go_simp
                          with_reducible rfl
                         rotate_left
                         ·simp only [Act.put, List.setIfInBounds_toArray, List.set_cons_zero, List.set_cons_succ, zbq, zbt]
                          rfl
                         refine zce (i := 2) (N := some 94) (v := ?_) (a' := ?_) #[true, true, true, false, false, false, false, false, false, false, false, false, false, false, false, false, false, false, false] rfl rfl (zby HT_.out (by kernel_rfl)) (fun _ _ _ h => h) (Or.inl ⟨by rfl, ?_⟩) ?_ ?_
                         rotate_left
                         ·intro w'
                          go_simp
                          with_reducible rfl
                         rotate_left
                         ·simp only [Act.put, List.setIfInBounds_toArray, List.set_cons_zero, List.set_cons_succ, zbq, zbt]
                          rfl
                         refine zce (i := 3) (N := some 95) (v := ?_) (a' := ?_) #[true, true, true, true, false, false, false, false, false, false, false, false, false, false, false, false, false, false, false] rfl rfl (zby HT_.out (by kernel_rfl)) (fun _ _ _ h => h) (Or.inl ⟨by rfl, ?_⟩) ?_ ?_
                         rotate_left
                         ·intro w'
                          go_simp
                          with_reducible rfl
                         rotate_left
                         ·simp only [Act.put, List.setIfInBounds_toArray, List.set_cons_zero, List.set_cons_succ, zbq, zbt]
                          rfl
                         refine zce (i := 5) (N := some 97) (v := ?_) (a' := ?_) #[true, true, true, true, false, true, false, false, false, false, false, false, false, false, false, false, false, false, false] rfl rfl (zby HT_.out (by kernel_rfl)) (fun _ _ _ h => h) (Or.inl ⟨by rfl, ?_⟩) ?_ ?_
                         rotate_left
                         ·intro w'
                          go_simp
                          with_reducible rfl
                         rotate_left
                         ·simp only [Act.put, List.setIfInBounds_toArray, List.set_cons_zero, List.set_cons_succ, zbq, zbt]
                          rfl
                         refine take_ (i := 4) (N := some 96) (v := ?_) (a' := ?_) #[true, true, true, true, true, true, false, false, false, false, false, false, false, false, false, false, false, false, false] rfl rfl (zc5 HT_.out HW_.out (by kernel_rfl)) (fun _ _ _ h => h) (Or.inl ⟨by rfl, ?_⟩) hHeld ?_ ?_
                         rotate_left
                         ·rintro w' ⟨s0, s1, s2, s3, s4, s5, s6, s7, s8⟩
                          go_simp
                          with_reducible rfl
                         rotate_left
                         ·simp only [Act.put, List.setIfInBounds_toArray, List.set_cons_zero, List.set_cons_succ, zbq, zbt]
                          rfl
                         refine zce (i := 6) (N := some 98) (v := ?_) (a' := ?_) #[true, true, true, true, true, true, true, false, false, false, false, false, false, false, false, false, false, false, false] rfl rfl (zby HT_.out (by kernel_rfl)) (fun _ _ _ h => h) (Or.inl ⟨by rfl, ?_⟩) ?_ ?_
                         rotate_left
                         ·intro w'
                          go_simp
                          with_reducible rfl
                         rotate_left
                         ·simp only [Act.put, List.setIfInBounds_toArray, List.set_cons_zero, List.set_cons_succ, zbq, zbt]
                          rfl
                         refine zce (i := 7) (N := some 99) (v := ?_) (a' := ?_) #[true, true, true, true, true, true, true, true, false, false, false, false, false, false, false, false, false, false, false] rfl rfl (zby HT_.out (by kernel_rfl)) (fun _ _ _ h => h) (Or.inl ⟨by rfl, ?_⟩) ?_ ?_
                         rotate_left
                         ·intro w'
                          go_simp
                          with_reducible rfl
                         rotate_left
                         ·simp only [Act.put, List.setIfInBounds_toArray, List.set_cons_zero, List.set_cons_succ, zbq, zbt]
                          rfl
                         refine zce (i := 8) (N := some 100) (v := ?_) (a' := ?_) #[true, true, true, true, true, true, true, true, true, false, false, false, false, false, false, false, false, false, false] rfl rfl (zby HT_.out (by kernel_rfl)) (fun _ _ _ h => h) (Or.inl ⟨by rfl, ?_⟩) ?_ ?_
                         rotate_left
                         ·intro w'
                          go_simp
                          with_reducible rfl
                         rotate_left
                         ·simp only [Act.put, List.setIfInBounds_toArray, List.set_cons_zero, List.set_cons_succ, zbq, zbt]
                          rfl
                         refine zce (i := 9) (N := some 101) (v := ?_) (a' := ?_) #[true, true, true, true, true, true, true, true, true, true, false, false, false, false, false, false, false, false, false] rfl rfl (zby HT_.out (by kernel_rfl)) (fun _ _ _ h => h) (Or.inl ⟨by rfl, ?_⟩) ?_ ?_
                         rotate_left
                         ·intro w'
                          go_simp
                          with_reducible rfl
                         rotate_left
                         ·simp only [Act.put, List.setIfInBounds_toArray, List.set_cons_zero, List.set_cons_succ, zbq, zbt]
                          rfl
                         refine zce (i := 10) (N := some 102) (v := ?_) (a' := ?_) #[true, true, true, true, true, true, true, true, true, true, true, false, false, false, false, false, false, false, false] rfl rfl (zby HT_.out (by kernel_rfl)) (fun _ _ _ h => h) (Or.inl ⟨by rfl, ?_⟩) ?_ ?_
                         rotate_left
                         ·intro w'
                          go_simp
                          with_reducible rfl
                         rotate_left
                         ·simp only [Act.put, List.setIfInBounds_toArray, List.set_cons_zero, List.set_cons_succ, zbq, zbt]
                          rfl
                         refine zce (i := 12) (N := some 104) (v := ?_) (a' := ?_) #[true, true, true, true, true, true, true, true, true, true, true, false, true, false, false, false, false, false, false] rfl rfl (zby HT_.out (by kernel_rfl)) (fun _ _ _ h => h) (Or.inl ⟨by rfl, ?_⟩) ?_ ?_
                         rotate_left
                         ·intro w'
                          go_simp
                          with_reducible rfl
                         rotate_left
                         ·simp only [Act.put, List.setIfInBounds_toArray, List.set_cons_zero, List.set_cons_succ, zbq, zbt]
                          rfl
                         refine zce (i := 13) (N := some 105) (v := ?_) (a' := ?_) #[true, true, true, true, true, true, true, true, true, true, true, false, true, true, false, false, false, false, false] rfl rfl (zby HT_.out (by kernel_rfl)) (fun _ _ _ h => h) (Or.inl ⟨by rfl, ?_⟩) ?_ ?_
                         rotate_left
                         ·intro w'
                          go_simp
                          with_reducible rfl
                         rotate_left
                         ·simp only [Act.put, List.setIfInBounds_toArray, List.set_cons_zero, List.set_cons_succ, zbq, zbt]
                          rfl
                         refine zce (i := 14) (N := some 106) (v := ?_) (a' := ?_) #[true, true, true, true, true, true, true, true, true, true, true, false, true, true, true, false, false, false, false] rfl rfl (zby HT_.out (by kernel_rfl)) (fun _ _ _ h => h) (Or.inl ⟨by rfl, ?_⟩) ?_ ?_
                         rotate_left
                         ·intro w'
                          go_simp
                          with_reducible rfl
                         rotate_left
                         ·simp only [Act.put, List.setIfInBounds_toArray, List.set_cons_zero, List.set_cons_succ, zbq, zbt]
                          rfl
                         refine zce (i := 15) (N := some 107) (v := ?_) (a' := ?_) #[true, true, true, true, true, true, true, true, true, true, true, false, true, true, true, true, false, false, false] rfl rfl (zby HT_.out (by kernel_rfl)) (fun _ _ _ h => h) (Or.inl ⟨by rfl, ?_⟩) ?_ ?_
                         rotate_left
                         ·intro w'
                          go_simp
                          with_reducible rfl
                         rotate_left
                         ·simp only [Act.put, List.setIfInBounds_toArray, List.set_cons_zero, List.set_cons_succ, zbq, zbt]
                          rfl
                         refine take_ (i := 11) (N := some 103) (v := ?_) (a' := ?_) #[true, true, true, true, true, true, true, true, true, true, true, true, true, true, true, true, false, false, false] rfl rfl (zc5 HT_.out HW_.out (by kernel_rfl)) (fun _ _ _ h => h) (Or.inl ⟨by rfl, ?_⟩) hHeld ?_ ?_
                         rotate_left
                         ·rintro w' ⟨s0, s1, s2, s3, s4, s5, s6, s7, s8⟩
                          go_simp
                          with_reducible rfl
                         rotate_left
                         ·simp only [Act.put, List.setIfInBounds_toArray, List.set_cons_zero, List.set_cons_succ, zbq, zbt]
                          rfl
                         refine take_ (i := 16) (N := some 108) (v := ?_) (a' := ?_) #[true, true, true, true, true, true, true, true, true, true, true, true, true, true, true, true, true, false, false] rfl rfl (zc5 HT_.out HW_.out (by kernel_rfl)) (fun _ _ _ h => h) (Or.inl ⟨by rfl, ?_⟩) hHeld ?_ ?_
                         rotate_left
                         ·rintro w' ⟨s0, s1, s2, s3, s4, s5, s6, s7, s8⟩
                          go_simp
                          with_reducible rfl
                         rotate_left
                         ·simp only [Act.put, List.setIfInBounds_toArray, List.set_cons_zero, List.set_cons_succ, zbq, zbt]
                          rfl
                         refine zce (i := 17) (N := some 109) (v := ?_) (a' := ?_) #[true, true, true, true, true, true, true, true, true, true, true, true, true, true, true, true, true, true, false] rfl rfl (zby HT_.out (by kernel_rfl)) (fun _ _ _ h => h) (Or.inl ⟨by rfl, ?_⟩) ?_ ?_
                         rotate_left
                         ·intro w'
                          go_simp
                          with_reducible rfl
                         rotate_left
                         ·simp only [Act.put, List.setIfInBounds_toArray, List.set_cons_zero, List.set_cons_succ, zbq, zbt]
                          rfl
                         refine zce (i := 18) (N := some 110) (v := ?_) (a' := ?_) #[true, true, true, true, true, true, true, true, true, true, true, true, true, true, true, true, true, true, true] rfl rfl (zby HT_.out (by kernel_rfl)) (fun _ _ _ h => h) (Or.inl ⟨by rfl, ?_⟩) ?_ ?_
                         rotate_left
                         ·intro w'
                          go_simp
                          with_reducible rfl
                         rotate_left
                         ·simp only [Act.put, List.setIfInBounds_toArray, List.set_cons_zero, List.set_cons_succ, zbq, zbt]
                          rfl
                         refine done_ (done_of HT_.out (by kernel_rfl)) ?_
                         try go_wp2
                         go_roundg kj45
                         case measure => have := HK1.out; have := HJ37.out; have := HK3.out; have := HJ45.out; omega
                         case rel => exact ⟨(wrap64 (x12_3 + 1)), Zrs, H', ⟨by have := HK1.out; have := HJ37.out; have := HK3.out; have := HJ45.out; omega⟩, ⟨Zq12 HO_3.out⟩, ⟨Zq12 HO_4.out⟩, ⟨Zq12 HO_6.out⟩, ⟨Zq12 HO_8.out⟩, ⟨Zq12 HO_9.out⟩, ⟨Zq12 HO_751000.out⟩, ⟨Zq12 HO_751001.out⟩, ⟨Zq4 BK743.out⟩, ⟨Zq4 BK750.out⟩, ⟨Zq7 HB.out GE743.out GE750.out⟩⟩
                       ·rw [if_neg c56] at H
                        exact absurd H (by simp)
                      ·rw [if_neg c55] at H
                       have c55b0 : decide (((ze t735 x12_3).f1) ≤ x10_1) = false := decide_eq_false c55
                       clear c55
                       have H' := za.mk H
                       clear H
                       try go_wp2
                       have n0_ := za.mk (Kd.zbj HO_3.out)
                       have n1_ := za.mk (Kd.zbj HO_4.out)
                       have n2_ := za.mk (Kd.zbj HO_6.out)
                       have n3_ := za.mk (Kd.zbj HO_8.out)
                       have n4_ := za.mk (Kd.zbj HO_9.out)
                       have n5_ := za.mk (Kd.zbj HO_751000.out)
                       have n6_ := za.mk (Kd.zbj HO_751001.out)
                       have n7_ := za.mk (zt BK743.out)
                       have n8_ := za.mk (zt BK750.out)
                       have n9_ := za.mk (zb6 HB.out)
                       clear HO_3
                       clear HO_4
                       clear HO_6
                       clear HO_8
                       clear HO_9
                       clear HO_751000
                       clear HO_751001
                       clear BK743
                       clear BK750
                       clear HB
                       have HO_3 := n0_
                       have HO_4 := n1_
                       have HO_6 := n2_
                       have HO_8 := n3_
                       have HO_9 := n4_
                       have HO_751000 := n5_
                       have HO_751001 := n6_
                       have BK743 := n7_
                       have BK750 := n8_
                       have HB := n9_
                       clear n0_ n1_ n2_ n3_ n4_ n5_ n6_ n7_ n8_ n9_
                       have p784 : 0 ≤ (x12_3 : Int) := of_decide_eq_true Zas
                       have q784 : x12_3 < (t735.length : Int) := of_decide_eq_true Zas
                       obtain ⟨ad784, e784, hx784_0, hx784_1, hx784_2, hx784_3⟩ := zc9 (Kd.zbe HO_4.out).2.2 x12_3 p784 q784
                       cases e784
                       replace p784 := eq_true p784
                       replace q784 := eq_true q784
                       refine start_ (n := 19) (S := fun w' => w'.cell? (ad784.add ((x12_3).toNat * 4)) = some (.int .i64 ((ze t735 x12_3).f0)) ∧ w'.cell? ⟨(ad784.add ((x12_3).toNat * 4)).block, (ad784.add ((x12_3).toNat * 4)).off + 1, none⟩ = some (.int .i64 ((ze t735 x12_3).f1)) ∧ w'.cell? ⟨(ad784.add ((x12_3).toNat * 4)).block, (ad784.add ((x12_3).toNat * 4)).off + 2, none⟩ = some (.int .i64 ((ze t735 x12_3).f2)) ∧ w'.cell? ⟨(ad784.add ((x12_3).toNat * 4)).block, (ad784.add ((x12_3).toNat * 4)).off + 3, none⟩ = some (.int .i64 ((ze t735 x12_3).f3))) (ds := []) #[false, false, false, false, false, false, false, false, false, false, false, false, false, false, false, false, false, false, false] (by kernel_rfl) rfl rfl ⟨hx784_0, hx784_1, hx784_2, hx784_3⟩ (fun hHeld => ?_); refine zdq laws_FnRunSupply.tab21 laws_FnRunSupply.bits21 (fun HT_ HW_ => ?_)
                       generalize wc.drew = w62 at HO_3 HO_4 HO_6 HO_8 HO_9 HO_751000 HO_751001 BK743 BK750 HB hx784_0 hx784_1 hx784_2 hx784_3 hHeld ⊢
                       refine zce (i := 0) (N := some 92) (v := ?_) (a' := ?_) #[true, false, false, false, false, false, false, false, false, false, false, false, false, false, false, false, false, false, false] rfl rfl (zby HT_.out (by kernel_rfl)) (fun _ _ _ h => h) (Or.inl ⟨by rfl, ?_⟩) ?_ ?_
                       rotate_left
                       ·intro w'
                        go_simp
                        with_reducible rfl
                       rotate_left
                       ·simp only [Act.put, List.setIfInBounds_toArray, List.set_cons_zero, List.set_cons_succ, zbq, zbt]
                        rfl
                       refine zce (i := 1) (N := some 93) (v := ?_) (a' := ?_) #[true, true, false, false, false, false, false, false, false, false, false, false, false, false, false, false, false, false, false] rfl rfl (zby HT_.out (by kernel_rfl)) (fun _ _ _ h => h) (Or.inl ⟨by rfl, ?_⟩) ?_ ?_
                       rotate_left
                       ·intro w'
                        go_simp
                        with_reducible rfl
                       rotate_left
                       ·simp only [Act.put, List.setIfInBounds_toArray, List.set_cons_zero, List.set_cons_succ, zbq, zbt]
                        rfl
                       refine zce (i := 2) (N := some 94) (v := ?_) (a' := ?_) #[true, true, true, false, false, false, false, false, false, false, false, false, false, false, false, false, false, false, false] rfl rfl (zby HT_.out (by kernel_rfl)) (fun _ _ _ h => h) (Or.inl ⟨by rfl, ?_⟩) ?_ ?_
                       rotate_left
                       ·intro w'
                        go_simp
                        with_reducible rfl
                       rotate_left
                       ·simp only [Act.put, List.setIfInBounds_toArray, List.set_cons_zero, List.set_cons_succ, zbq, zbt]
                        rfl
                       refine zce (i := 3) (N := some 95) (v := ?_) (a' := ?_) #[true, true, true, true, false, false, false, false, false, false, false, false, false, false, false, false, false, false, false] rfl rfl (zby HT_.out (by kernel_rfl)) (fun _ _ _ h => h) (Or.inl ⟨by rfl, ?_⟩) ?_ ?_
                       rotate_left
                       ·intro w'
                        go_simp
                        with_reducible rfl
                       rotate_left
                       ·simp only [Act.put, List.setIfInBounds_toArray, List.set_cons_zero, List.set_cons_succ, zbq, zbt]
                        rfl
                       refine zce (i := 5) (N := some 97) (v := ?_) (a' := ?_) #[true, true, true, true, false, true, false, false, false, false, false, false, false, false, false, false, false, false, false] rfl rfl (zby HT_.out (by kernel_rfl)) (fun _ _ _ h => h) (Or.inl ⟨by rfl, ?_⟩) ?_ ?_
                       rotate_left
                       ·intro w'
                        go_simp
                        with_reducible rfl
                       rotate_left
                       ·simp only [Act.put, List.setIfInBounds_toArray, List.set_cons_zero, List.set_cons_succ, zbq, zbt]
                        rfl
                       refine take_ (i := 4) (N := some 96) (v := ?_) (a' := ?_) #[true, true, true, true, true, true, false, false, false, false, false, false, false, false, false, false, false, false, false] rfl rfl (zc5 HT_.out HW_.out (by kernel_rfl)) (fun _ _ _ h => h) (Or.inl ⟨by rfl, ?_⟩) hHeld ?_ ?_
                       rotate_left
                       ·rintro w' ⟨s0, s1, s2, s3⟩
                        go_simp
                        with_reducible rfl
                       rotate_left
                       ·simp only [Act.put, List.setIfInBounds_toArray, List.set_cons_zero, List.set_cons_succ, zbq, zbt]
                        rfl
                       refine zce (i := 6) (N := some 98) (v := ?_) (a' := ?_) #[true, true, true, true, true, true, true, false, false, false, false, false, false, false, false, false, false, false, false] rfl rfl (zby HT_.out (by kernel_rfl)) (fun _ _ _ h => h) (Or.inl ⟨by rfl, ?_⟩) ?_ ?_
                       rotate_left
                       ·intro w'
                        go_simp
                        with_reducible rfl
                       rotate_left
                       ·simp only [Act.put, List.setIfInBounds_toArray, List.set_cons_zero, List.set_cons_succ, zbq, zbt]
                        rfl
                       refine zce (i := 7) (N := some 99) (v := ?_) (a' := ?_) #[true, true, true, true, true, true, true, true, false, false, false, false, false, false, false, false, false, false, false] rfl rfl (zby HT_.out (by kernel_rfl)) (fun _ _ _ h => h) (Or.inl ⟨by rfl, ?_⟩) ?_ ?_
                       rotate_left
                       ·intro w'
                        go_simp
                        with_reducible rfl
                       rotate_left
                       ·simp only [Act.put, List.setIfInBounds_toArray, List.set_cons_zero, List.set_cons_succ, zbq, zbt]
                        rfl
                       refine zce (i := 8) (N := some 100) (v := undef) (a' := ?_) #[true, true, true, true, true, true, true, true, true, false, false, false, false, false, false, false, false, false, false] rfl rfl (zby HT_.out (by kernel_rfl)) (fun _ _ _ h => h) (Or.inr ⟨by rfl, rfl⟩) ?_ ?_
                       rotate_left
                       ·simp only [Act.put, List.setIfInBounds_toArray, List.set_cons_zero, List.set_cons_succ, zbq, zbt]
                        rfl
                       refine zce (i := 9) (N := some 101) (v := undef) (a' := ?_) #[true, true, true, true, true, true, true, true, true, true, false, false, false, false, false, false, false, false, false] rfl rfl (zby HT_.out (by kernel_rfl)) (fun _ _ _ h => h) (Or.inr ⟨by rfl, rfl⟩) ?_ ?_
                       rotate_left
                       ·simp only [Act.put, List.setIfInBounds_toArray, List.set_cons_zero, List.set_cons_succ, zbq, zbt]
                        rfl
                       refine zce (i := 10) (N := some 102) (v := undef) (a' := ?_) #[true, true, true, true, true, true, true, true, true, true, true, false, false, false, false, false, false, false, false] rfl rfl (zby HT_.out (by kernel_rfl)) (fun _ _ _ h => h) (Or.inr ⟨by rfl, rfl⟩) ?_ ?_
                       rotate_left
                       ·simp only [Act.put, List.setIfInBounds_toArray, List.set_cons_zero, List.set_cons_succ, zbq, zbt]
                        rfl
                       refine zce (i := 11) (N := some 103) (v := undef) (a' := ?_) #[true, true, true, true, true, true, true, true, true, true, true, true, false, false, false, false, false, false, false] rfl rfl (zby HT_.out (by kernel_rfl)) (fun _ _ _ h => h) (Or.inr ⟨by rfl, rfl⟩) ?_ ?_
                       rotate_left
                       ·simp only [Act.put, List.setIfInBounds_toArray, List.set_cons_zero, List.set_cons_succ, zbq, zbt]
                        rfl
                       refine zce (i := 12) (N := some 104) (v := undef) (a' := ?_) #[true, true, true, true, true, true, true, true, true, true, true, true, true, false, false, false, false, false, false] rfl rfl (zby HT_.out (by kernel_rfl)) (fun _ _ _ h => h) (Or.inr ⟨by rfl, rfl⟩) ?_ ?_
                       rotate_left
                       ·simp only [Act.put, List.setIfInBounds_toArray, List.set_cons_zero, List.set_cons_succ, zbq, zbt]
                        rfl
                       refine zce (i := 13) (N := some 105) (v := undef) (a' := ?_) #[true, true, true, true, true, true, true, true, true, true, true, true, true, true, false, false, false, false, false] rfl rfl (zby HT_.out (by kernel_rfl)) (fun _ _ _ h => h) (Or.inr ⟨by rfl, rfl⟩) ?_ ?_
                       rotate_left
                       ·simp only [Act.put, List.setIfInBounds_toArray, List.set_cons_zero, List.set_cons_succ, zbq, zbt]
                        rfl
                       refine zce (i := 14) (N := some 106) (v := undef) (a' := ?_) #[true, true, true, true, true, true, true, true, true, true, true, true, true, true, true, false, false, false, false] rfl rfl (zby HT_.out (by kernel_rfl)) (fun _ _ _ h => h) (Or.inr ⟨by rfl, rfl⟩) ?_ ?_
                       rotate_left
                       ·simp only [Act.put, List.setIfInBounds_toArray, List.set_cons_zero, List.set_cons_succ, zbq, zbt]
                        rfl
                       refine zce (i := 15) (N := some 107) (v := undef) (a' := ?_) #[true, true, true, true, true, true, true, true, true, true, true, true, true, true, true, true, false, false, false] rfl rfl (zby HT_.out (by kernel_rfl)) (fun _ _ _ h => h) (Or.inr ⟨by rfl, rfl⟩) ?_ ?_
                       rotate_left
                       ·simp only [Act.put, List.setIfInBounds_toArray, List.set_cons_zero, List.set_cons_succ, zbq, zbt]
                        rfl
                       refine zce (i := 16) (N := some 108) (v := undef) (a' := ?_) #[true, true, true, true, true, true, true, true, true, true, true, true, true, true, true, true, true, false, false] rfl rfl (zby HT_.out (by kernel_rfl)) (fun _ _ _ h => h) (Or.inr ⟨by rfl, rfl⟩) ?_ ?_
                       rotate_left
                       ·simp only [Act.put, List.setIfInBounds_toArray, List.set_cons_zero, List.set_cons_succ, zbq, zbt]
                        rfl
                       refine zce (i := 17) (N := some 109) (v := undef) (a' := ?_) #[true, true, true, true, true, true, true, true, true, true, true, true, true, true, true, true, true, true, false] rfl rfl (zby HT_.out (by kernel_rfl)) (fun _ _ _ h => h) (Or.inr ⟨by rfl, rfl⟩) ?_ ?_
                       rotate_left
                       ·simp only [Act.put, List.setIfInBounds_toArray, List.set_cons_zero, List.set_cons_succ, zbq, zbt]
                        rfl
                       refine zce (i := 18) (N := some 110) (v := ?_) (a' := ?_) #[true, true, true, true, true, true, true, true, true, true, true, true, true, true, true, true, true, true, true] rfl rfl (zby HT_.out (by kernel_rfl)) (fun _ _ _ h => h) (Or.inl ⟨by rfl, ?_⟩) ?_ ?_
                       rotate_left
                       ·intro w'
                        go_simp
                        with_reducible rfl
                       rotate_left
                       ·simp only [Act.put, List.setIfInBounds_toArray, List.set_cons_zero, List.set_cons_succ, zbq, zbt]
                        rfl
                       refine done_ (done_of HT_.out (by kernel_rfl)) ?_
                       try go_wp2
                       go_roundg kj45
                       case measure => have := HK1.out; have := HJ37.out; have := HK3.out; have := HJ45.out; omega
                       case rel => exact ⟨(wrap64 (x12_3 + 1)), Zrs, H', ⟨by have := HK1.out; have := HJ37.out; have := HK3.out; have := HJ45.out; omega⟩, ⟨Zq12 HO_3.out⟩, ⟨Zq12 HO_4.out⟩, ⟨Zq12 HO_6.out⟩, ⟨Zq12 HO_8.out⟩, ⟨Zq12 HO_9.out⟩, ⟨Zq12 HO_751000.out⟩, ⟨Zq12 HO_751001.out⟩, ⟨Zq4 BK743.out⟩, ⟨Zq4 BK750.out⟩, ⟨Zq7 HB.out GE743.out GE750.out⟩⟩
                     ·rw [if_neg c54] at H
                      exact absurd H (by simp)
                    ·rw [if_neg c53] at H
                     exact absurd H (by simp)
                   ·replace c52 := Bool.eq_false_iff.mpr c52
                    subst c52
                    have H1 : (if (rd t744 x10_1) ≥ 0 then (if 0 ≤ (rd t744 x10_1) then (if (rd t744 x10_1) < (x8_1.length : Int) then (laws_FnRunSupply.l0 kj45 t732 t735 t740 (x8_1.set ((rd t744 x10_1) : Int).toNat (wrap64 ((rd x8_1 (rd t744 x10_1)) + 1))) y778 (wrap64 (x10_1 + 1)) t744 t747) else (none)) else (none)) else (laws_FnRunSupply.l0 kj45 t732 t735 t740 x8_1 y778 (wrap64 (x10_1 + 1)) t744 t747)) = some r := by rw [if_neg (show ¬ (false = true) by decide)] at H; exact H
                    clear H
                    have H := H1
                    clear H1
                    by_cases c63 : (rd t744 x10_1) ≥ 0
                    ·rw [if_pos c63] at H
                     have c63b0 : decide (0 ≤ (rd t744 x10_1)) = true := decide_eq_true c63
                     clear c63
                     by_cases c64 : 0 ≤ (rd t744 x10_1)
                     ·rw [if_pos c64] at H
                      have c64b0 : decide (0 ≤ (rd t744 x10_1)) = true := decide_eq_true c64
                      clear c64
                      by_cases c65 : (rd t744 x10_1) < (x8_1.length : Int)
                      ·rw [if_pos c65] at H
                       have c65b0 : decide ((rd t744 x10_1) < (x8_1.length : Int)) = true := decide_eq_true c65
                       clear c65
                       obtain ⟨y788, hy788⟩ : ∃ y_ : List Int, y_ = (x8_1.set ((rd t744 x10_1) : Int).toNat (wrap64 ((rd x8_1 (rd t744 x10_1)) + 1))) := ⟨_, rfl⟩
                       replace H : (laws_FnRunSupply.l0 kj45 t732 t735 t740 y788 y778 (wrap64 (x10_1 + 1)) t744 t747) = some r := by first | (rw [hy788]; with_reducible exact H) | (have H2_ := (Option.bind_some _ _).symm.trans H; rw [hy788]; with_reducible exact H2_) | (have H2_ := (Option.bind_some _ _).symm.trans H; with_reducible exact H2_) | with_reducible exact H | (rw [hy788]; exact H) | exact H
                       have Ny788 := za.mk hy788
                       clear hy788
                       have H' := za.mk H
                       clear H
                       obtain ⟨Ao67, co67, eo67⟩ := Kd.zbs HO_8.out
                       subst eo67
                       have p787 : 0 ≤ ((rd t744 x10_1) : Int) := of_decide_eq_true Zas
                       have q787 : (rd t744 x10_1) < (x8_1.length : Int) := of_decide_eq_true Zas
                       obtain ⟨ad787, e787, hx787_0⟩ := Kd.zcn (Kd.zbe HO_8.out).2.2 (rd t744 x10_1) p787 q787
                       cases e787
                       replace p787 := eq_true p787
                       replace q787 := eq_true q787
                       have p66 : 0 ≤ ((rd t744 x10_1) : Int) := of_decide_eq_true Zas
                       have q66 : ((rd t744 x10_1) : Int) < ((x8_1.length : Int) : Int) := of_decide_eq_true Zas
                       obtain ⟨go66, co66, eo66, gb66, gl66, cl66, HG66⟩ := Kd.zdo HO_8.out (by omega)
                       (first | cases eo66 | (injection eo66 with ea_ en_ ec_; (first | subst ea_ | (injection ea_ with ea_; subst ea_)); subst ec_; clear en_))
                       have GB66 := za.mk gb66
                       have GG66 := za.mk HG66
                       clear gb66 gl66 HG66
                       (first | simp only [add_plain] at hx787_0 | skip)
                       obtain ⟨hx66_0, hf66_0⟩ := Kd.zcw 0 HO_8.out ((rd t744 x10_1) : Int) p66 q66
                       replace p66 := eq_true p66
                       replace q66 := eq_true q66
                       have HP68 := Kd.zc1 HO_8.out ((rd t744 x10_1) : Int) (wrap64 ((rd x8_1 (rd t744 x10_1)) + 1))
                       go_wp2_with (first | ((with_reducible refine zcf (t := 3) (p := 120) rfl ?_); refine zcc (t := 3) (p := 120) (v := ?vo_w69) (w1 := (wc.setCell ⟨go66, ((rd t744 x10_1) : Int).toNat, none⟩ (.int .i64 (wrap64 ((rd x8_1 (rd t744 x10_1)) + 1))))) ?hg ?ho ?hn ?hr ?_; (case ho => rfl); (case hg => rfl); (case hn => rfl); (case hr => first | (go_simp; done) | (go_simp; rfl)); intro w69 hw; have hg : wc.grownBy w69 (some go66) := (by rw [hw]; exact HP68.2); have hp_ : Kd.R (Kd.int .i64) 3 w69 w.heap.size (fun k_ => some k_ ≠ (.slice (some ad781) t744.length co19 : Value).ownBlock ∧ some k_ ≠ (.slice Ao22 t747.length co22 : Value).ownBlock) (.slice (some ⟨go66, 0, none⟩) x8_1.length co67) y788 := (by rw [hw, Ny788.out]; exact HP68.1); clear HP68; have n0_ := za.mk (Kd.zdx (v := (.slice (some ⟨go66, 0, none⟩) x8_1.length co67)) (Zq12 HO_3.out) (Kd.zdw HO_8.out) (by decide) hg); have n1_ := za.mk (Kd.zdx (v := (.slice (some ⟨go66, 0, none⟩) x8_1.length co67)) (Zq12 HO_4.out) (Kd.zdw HO_8.out) (by decide) hg); have n2_ := za.mk (Kd.zdx (v := (.slice (some ⟨go66, 0, none⟩) x8_1.length co67)) (Zq12 HO_6.out) (Kd.zdw HO_8.out) (by decide) hg); have n3_ := za.mk (hp_); have n4_ := za.mk (Kd.zdx (v := (.slice (some ⟨go66, 0, none⟩) x8_1.length co67)) (Zq12 HO_9.out) (Kd.zdw HO_8.out) (by decide) hg); have n5_ := za.mk (Kd.zc2 (v := (.slice (some ⟨go66, 0, none⟩) x8_1.length co67)) (v1 := (.slice (some ⟨go66, 0, none⟩) x8_1.length co67)) (ok := (fun k_ => some k_ ≠ (.slice Ao22 t747.length co22 : Value).ownBlock)) (by (with_reducible repeat (first | apply Kd.zbi | apply Kd.zbh | apply Kd.zbj)); exact Kd.zy HO_751000.out (fun _ hk => ⟨hk.2, hk.1⟩)) hg (.inl rfl)); have n6_ := za.mk (Kd.zc2 (v := (.slice (some ⟨go66, 0, none⟩) x8_1.length co67)) (v1 := (.slice (some ⟨go66, 0, none⟩) x8_1.length co67)) (ok := (fun k_ => some k_ ≠ (.slice (some ad781) t744.length co19 : Value).ownBlock)) (by (with_reducible repeat (first | apply Kd.zbi | apply Kd.zbh | apply Kd.zbj)); exact Kd.zy HO_751001.out (fun _ hk => ⟨hk.2, hk.1⟩)) hg (.inl rfl)); have n7_ := za.mk (zbr (g := gb743) (o := .cells #[.int .i64 t738, .int .i64 t739] 51 (0, 0)) (Zq4 BK743.out) hg (Kd.R_ne HO_8.out BK743.out (by decide))); have n8_ := za.mk (zbr (g := gb750) (o := .cells #[.slice (some ad781) t744.length co19, .slice Ao22 t747.length co22] 29 (0, 0)) (Zq4 BK750.out) hg (Kd.R_ne HO_8.out BK750.out (by decide))); have n9_ := za.mk ((by rw [hw]; exact zb3 (HB.out) GB66.out : Below w.heap.size w w69)); clear HO_3; clear HO_4; clear HO_6; clear HO_8; clear HO_9; clear HO_751000; clear HO_751001; clear BK743; clear BK750; clear HB; have HO_3 := n0_; have HO_4 := n1_; have HO_6 := n2_; have HO_8 := n3_; have HO_9 := n4_; have HO_751000 := n5_; have HO_751001 := n6_; have BK743 := n7_; have BK750 := n8_; have HB := n9_; clear n0_ n1_ n2_ n3_ n4_ n5_ n6_ n7_ n8_ n9_; clear hg hw hp_))
                       go_roundg kj45
                       case measure => have := HK1.out; have := HJ37.out; have := HK3.out; have := HJ45.out; omega
                       case rel => exact ⟨(y788), (y778), (wrap64 (x10_1 + 1)), Zrs, H', ⟨by have := HK1.out; have := HJ37.out; have := HK3.out; have := HJ45.out; omega⟩, ⟨Zq12 HO_3.out⟩, ⟨Zq12 HO_4.out⟩, ⟨Zq12 HO_6.out⟩, ⟨Zq12 HO_8.out⟩, ⟨Zq12 HO_9.out⟩, ⟨by (with_reducible repeat (first | apply Kd.zbi | apply Kd.zbh | apply Kd.zbj)); exact Kd.zy HO_751000.out (fun _ hk => ⟨hk.2, hk.1⟩)⟩, ⟨by (with_reducible repeat (first | apply Kd.zbi | apply Kd.zbh | apply Kd.zbj)); exact Kd.zy HO_751001.out (fun _ hk => ⟨hk.2, hk.1⟩)⟩, ⟨Zq4 BK743.out⟩, ⟨Zq4 BK750.out⟩, ⟨Zq7 HB.out GE743.out GE750.out⟩⟩
                      ·rw [if_neg c65] at H
                       exact absurd H (by simp)
                     ·rw [if_neg c64] at H
                      exact absurd H (by simp)
                    ·rw [if_neg c63] at H
                     have c63b0 : decide (0 ≤ (rd t744 x10_1)) = false := decide_eq_false c63
                     clear c63
                     have H' := za.mk H
                     clear H
                     go_wp2
                     go_roundg kj45
                     case measure => have := HK1.out; have := HJ37.out; have := HK3.out; have := HJ45.out; omega
                     case rel => exact ⟨(x8_1), (y778), (wrap64 (x10_1 + 1)), Zrs, H', ⟨by have := HK1.out; have := HJ37.out; have := HK3.out; have := HJ45.out; omega⟩, ⟨Zq12 HO_3.out⟩, ⟨Zq12 HO_4.out⟩, ⟨Zq12 HO_6.out⟩, ⟨Zq12 HO_8.out⟩, ⟨Zq12 HO_9.out⟩, ⟨Zq12 HO_751000.out⟩, ⟨Zq12 HO_751001.out⟩, ⟨Zq4 BK743.out⟩, ⟨Zq4 BK750.out⟩, ⟨Zq7 HB.out GE743.out GE750.out⟩⟩
           ·rw [if_neg c37] at H
            exact absurd H (by simp)
          ·rw [if_neg c36] at H
           exact absurd H (by simp)
         ·rw [if_neg c35] at H
          exact absurd H (by simp)
        ·rw [if_neg c34] at H
         have c34b0 : decide (x10_1 < 120) = false := decide_eq_false c34
         clear c34
         replace H := Option.bind_eq_some_iff.mp H
         obtain ⟨⟨t765, t768⟩, A700, H⟩ := H
         replace H : ((zds.f t732 t735).bind fun bt771 => ((zcd.f k1 t765 t768 bt771.1 bt771.2).bind fun t777 => (some t777))) = some r := H
         have A70 := za.mk A700
         clear A700
         replace H := Option.bind_eq_some_iff.mp H
         obtain ⟨⟨t771, t774⟩, A710, H⟩ := H
         replace H : ((zcd.f k1 t765 t768 t771 t774).bind fun t777 => (some t777)) = some r := H
         have A71 := za.mk A710
         clear A710
         replace H := Option.bind_eq_some_iff.mp H
         obtain ⟨t777, A720, H⟩ := H
         replace H : (some t777) = some r := H
         have A72 := za.mk A720
         clear A720
         obtain rfl := Option.some.inj H
         obtain ⟨Ao73, co73, eo73⟩ := Kd.zbs HO_9.out
         subst eo73
         go_wp2_with (first | ((with_reducible refine zba (f := 31) rfl ?_); refine zbv (some 125) rfl rfl Try.func31 (by kernel_rfl) rfl #[.slice Ao14 t732.length co14, .slice Ao15 t735.length co15, .agg #[.int .i64 1, .int .i64 1], .slice Ao73 x9_1.length co73] rfl Zmt ?_; (with_reducible refine (zcr.calls k1 _ _ t732 _ _ t735 1 1 _ _ x9_1 t765 t768 _ ?side1 ?side2 ?side3 ?side4 ?side5 ?side6 A70.out).mono ?_); (case side1 => exact Zq6 ((Kd.zbe HO_3.out).2.2)); (case side2 => exact (Kd.zbe HO_3.out).2.1); (case side3 => exact Zq6 ((Kd.zbe HO_4.out).2.2)); (case side4 => exact (Kd.zbe HO_4.out).2.1); (case side5 => exact Zq6 ((Kd.zbe HO_9.out).2.2)); (case side6 => exact (Kd.zbe HO_9.out).2.1); rintro e w74 ⟨v766, v769, rfl, ho0, ho1, hb⟩; refine ⟨_, rfl, ?_⟩; have n0_ := za.mk (Kd.zbl (Zq12 HO_3.out) hb); have n1_ := za.mk (Kd.zbl (Zq12 HO_4.out) hb); have n2_ := za.mk (Kd.zbl (Zq12 HO_6.out) hb); have n3_ := za.mk (Kd.zy (Kd.zdn (Kd.zdn (Kd.R_old (Zq12 HO_8.out) hb) (Kd.zch ho0)) (Kd.zch ho1)) (fun _ h_ => h_.1)); have n4_ := za.mk (Kd.zbl (Zq12 HO_9.out) hb); have n5_ := za.mk (Kd.zy (Kd.zdn (Kd.zdn (Kd.R_old (Zq12 HO_751000.out) hb) (Kd.zch ho0)) (Kd.zch ho1)) (fun _ h_ => h_.1)); have n6_ := za.mk (Kd.zy (Kd.zdn (Kd.zdn (Kd.R_old (Zq12 HO_751001.out) hb) (Kd.zch ho0)) (Kd.zch ho1)) (fun _ h_ => h_.1)); have n7_ := za.mk (Kd.zb2 (Kd.zcm (Kd.zcm (Kd.zcm ho0 (Kd.R_lt (Zq12 HO_8.out))) (Kd.R_lt (Zq12 HO_751000.out))) (Kd.R_lt (Zq12 HO_751001.out))) (zbb (Zq7 HB.out GE743.out GE750.out))); have n8_ := za.mk (Kd.zb2 (Kd.zcm (Kd.zcm (Kd.zcm ho1 (Kd.R_lt (Zq12 HO_8.out))) (Kd.R_lt (Zq12 HO_751000.out))) (Kd.R_lt (Zq12 HO_751001.out))) (zbb (Zq7 HB.out GE743.out GE750.out))); have n9_ := za.mk (zbg (g := gb743) (o := .cells #[.int .i64 t738, .int .i64 t739] 51 (0, 0)) (Zq4 BK743.out) hb); have n10_ := za.mk (zbg (g := gb750) (o := .cells #[.slice Ao19 t744.length co19, .slice Ao22 t747.length co22] 29 (0, 0)) (Zq4 BK750.out) hb); have n11_ := za.mk (zo (Zq7 HB.out GE743.out GE750.out) hb); clear HO_3; clear HO_4; clear HO_6; clear HO_8; clear HO_9; clear HO_751000; clear HO_751001; clear BK743; clear BK750; clear HB; have HO_3 := n0_; have HO_4 := n1_; have HO_6 := n2_; have HO_8 := n3_; have HO_9 := n4_; have HO_751000 := n5_; have HO_751001 := n6_; have HO767 := n7_; have HO770 := n8_; have BK743 := n9_; have BK750 := n10_; have HB := n11_; clear n0_ n1_ n2_ n3_ n4_ n5_ n6_ n7_ n8_ n9_ n10_ n11_; (try clear hb); (try clear hb2); (try clear hk); (try clear hi); (try clear ho0); (try clear ho1)) | ((with_reducible refine zba (f := 16) rfl ?_); refine zbv (some 128) rfl rfl Try.func16 (by kernel_rfl) rfl #[.slice Ao14 t732.length co14, .slice Ao15 t735.length co15] rfl Zmt ?_; (with_reducible refine (zds.calls _ _ t732 _ _ t735 t771 t774 _ ?side1 ?side2 ?side3 ?side4 A71.out).mono ?_); (case side1 => exact Zq6 ((Kd.zbe HO_3.out).2.2)); (case side2 => exact (Kd.zbe HO_3.out).2.1); (case side3 => exact Zq6 ((Kd.zbe HO_4.out).2.2)); (case side4 => exact (Kd.zbe HO_4.out).2.1); rintro e w75 ⟨v772, v775, rfl, ho0, ho1, hb⟩; refine ⟨_, rfl, ?_⟩; have n0_ := za.mk (Kd.zbl (Zq12 HO_3.out) hb); have n1_ := za.mk (Kd.zbl (Zq12 HO_4.out) hb); have n2_ := za.mk (Kd.zbl (Zq12 HO_6.out) hb); have n3_ := za.mk (Kd.zy (Kd.zdn (Kd.zdn (Kd.R_old (Zq12 HO_8.out) hb) (Kd.zch ho0)) (Kd.zch ho1)) (fun _ h_ => h_.1)); have n4_ := za.mk (Kd.zbl (Zq12 HO_9.out) hb); have n5_ := za.mk (Kd.zy (Kd.zdn (Kd.zdn (Kd.R_old (Zq12 HO_751000.out) hb) (Kd.zch ho0)) (Kd.zch ho1)) (fun _ h_ => h_.1)); have n6_ := za.mk (Kd.zy (Kd.zdn (Kd.zdn (Kd.R_old (Zq12 HO_751001.out) hb) (Kd.zch ho0)) (Kd.zch ho1)) (fun _ h_ => h_.1)); have n7_ := za.mk (Kd.zy (Kd.zdn (Kd.zdn (Kd.R_old (Zq12 HO767.out) hb) (Kd.zch ho0)) (Kd.zch ho1)) (fun _ h_ => h_.1)); have n8_ := za.mk (Kd.zy (Kd.zdn (Kd.zdn (Kd.R_old (Zq12 HO770.out) hb) (Kd.zch ho0)) (Kd.zch ho1)) (fun _ h_ => h_.1)); have n9_ := za.mk (Kd.zb2 (Kd.zcm (Kd.zcm (Kd.zcm (Kd.zcm (Kd.zcm ho0 (Kd.R_lt (Zq12 HO_8.out))) (Kd.R_lt (Zq12 HO_751000.out))) (Kd.R_lt (Zq12 HO_751001.out))) (Kd.R_lt (Zq12 HO767.out))) (Kd.R_lt (Zq12 HO770.out))) (zbb (Zq7 HB.out GE743.out GE750.out))); have n10_ := za.mk (Kd.zb2 (Kd.zcm (Kd.zcm (Kd.zcm (Kd.zcm (Kd.zcm ho1 (Kd.R_lt (Zq12 HO_8.out))) (Kd.R_lt (Zq12 HO_751000.out))) (Kd.R_lt (Zq12 HO_751001.out))) (Kd.R_lt (Zq12 HO767.out))) (Kd.R_lt (Zq12 HO770.out))) (zbb (Zq7 HB.out GE743.out GE750.out))); have n11_ := za.mk (zbg (g := gb743) (o := .cells #[.int .i64 t738, .int .i64 t739] 51 (0, 0)) (Zq4 BK743.out) hb); have n12_ := za.mk (zbg (g := gb750) (o := .cells #[.slice Ao19 t744.length co19, .slice Ao22 t747.length co22] 29 (0, 0)) (Zq4 BK750.out) hb); have n13_ := za.mk (zo (Zq7 HB.out GE743.out GE750.out) hb); clear HO_3; clear HO_4; clear HO_6; clear HO_8; clear HO_9; clear HO_751000; clear HO_751001; clear HO767; clear HO770; clear BK743; clear BK750; clear HB; have HO_3 := n0_; have HO_4 := n1_; have HO_6 := n2_; have HO_8 := n3_; have HO_9 := n4_; have HO_751000 := n5_; have HO_751001 := n6_; have HO767 := n7_; have HO770 := n8_; have HO773 := n9_; have HO776 := n10_; have BK743 := n11_; have BK750 := n12_; have HB := n13_; clear n0_ n1_ n2_ n3_ n4_ n5_ n6_ n7_ n8_ n9_ n10_ n11_ n12_ n13_; (try clear hb); (try clear hb2); (try clear hk); (try clear hi); (try clear ho0); (try clear ho1); obtain ⟨Ao76, co76, eo76⟩ := Kd.zbs HO767.out; subst eo76; obtain ⟨Ao77, co77, eo77⟩ := Kd.zbs HO770.out; subst eo77; obtain ⟨Ao78, co78, eo78⟩ := Kd.zbs HO773.out; subst eo78; obtain ⟨Ao79, co79, eo79⟩ := Kd.zbs HO776.out; subst eo79) | ((with_reducible refine zba (f := 13) rfl ?_); refine zbv (some 129) rfl rfl Try.func13 (by kernel_rfl) rfl #[.agg #[.slice Ao76 t765.length co76, .slice Ao77 t768.length co77], .agg #[.slice Ao78 t771.length co78, .slice Ao79 t774.length co79]] rfl Zmt ?_; (with_reducible refine (zcd.calls k1 _ _ t765 _ _ t768 _ _ t771 _ _ t774 t777 _ ?side1 ?side2 ?side3 ?side4 ?side5 ?side6 ?side7 ?side8 A72.out).mono ?_); (case side1 => exact Zq6 ((Kd.zbe HO767.out).2.2)); (case side2 => exact (Kd.zbe HO767.out).2.1); (case side3 => exact Zq6 ((Kd.zbe HO770.out).2.2)); (case side4 => exact (Kd.zbe HO770.out).2.1); (case side5 => exact Zq6 ((Kd.zbe HO773.out).2.2)); (case side6 => exact (Kd.zbe HO773.out).2.1); (case side7 => exact Zq6 ((Kd.zbe HO776.out).2.2)); (case side8 => exact (Kd.zbe HO776.out).2.1); rintro e w80 ⟨rfl, hb⟩; refine ⟨_, rfl, ?_⟩; have n0_ := za.mk (Kd.zbl (Zq12 HO_3.out) hb); have n1_ := za.mk (Kd.zbl (Zq12 HO_4.out) hb); have n2_ := za.mk (Kd.zbl (Zq12 HO_6.out) hb); have n3_ := za.mk (Kd.zbl (Zq12 HO_8.out) hb); have n4_ := za.mk (Kd.zbl (Zq12 HO_9.out) hb); have n5_ := za.mk (Kd.zbl (Zq12 HO_751000.out) hb); have n6_ := za.mk (Kd.zbl (Zq12 HO_751001.out) hb); have n7_ := za.mk (Kd.zbl (Zq12 HO767.out) hb); have n8_ := za.mk (Kd.zbl (Zq12 HO770.out) hb); have n9_ := za.mk (Kd.zbl (Zq12 HO773.out) hb); have n10_ := za.mk (Kd.zbl (Zq12 HO776.out) hb); have n11_ := za.mk (zbg (g := gb743) (o := .cells #[.int .i64 t738, .int .i64 t739] 51 (0, 0)) (Zq4 BK743.out) hb); have n12_ := za.mk (zbg (g := gb750) (o := .cells #[.slice Ao19 t744.length co19, .slice Ao22 t747.length co22] 29 (0, 0)) (Zq4 BK750.out) hb); have n13_ := za.mk (zo (Zq7 HB.out GE743.out GE750.out) hb); clear HO_3; clear HO_4; clear HO_6; clear HO_8; clear HO_9; clear HO_751000; clear HO_751001; clear HO767; clear HO770; clear HO773; clear HO776; clear BK743; clear BK750; clear HB; have HO_3 := n0_; have HO_4 := n1_; have HO_6 := n2_; have HO_8 := n3_; have HO_9 := n4_; have HO_751000 := n5_; have HO_751001 := n6_; have HO767 := n7_; have HO770 := n8_; have HO773 := n9_; have HO776 := n10_; have BK743 := n11_; have BK750 := n12_; have HB := n13_; clear n0_ n1_ n2_ n3_ n4_ n5_ n6_ n7_ n8_ n9_ n10_ n11_ n12_ n13_; (try clear hb); (try clear hb2); (try clear hk); (try clear hi)))
         go_ret
         exact ⟨by first | rfl | (simp [zbc, zbd] <;> rfl) | (simp [*, zbc, zbd] <;> rfl), Zq7 HB.out GE743.out GE750.out⟩
     ·rw [if_neg c10] at H
      exact absurd H (by simp)
    ·rw [if_neg c9] at H
     exact absurd H (by simp)
   ·rw [if_neg c8] at H
    have c8b0 : ((t744.length : Int) == 120) = false := beq_eq_false_iff_ne.mpr c8
    have c8b1 : ((t744.length : Int) != 120) = true := bne_iff_ne.mpr c8
    by_cases c81 : (wrap64 ((t744.length : Int) + (t747.length : Int))) = 0
    ·rw [if_pos c81] at H
     have c81b0 : ((wrap64 ((t744.length : Int) + (t747.length : Int))) == 0) = true := beq_iff_eq.mpr c81
     have c81b1 : ((wrap64 ((t744.length : Int) + (t747.length : Int))) != 0) = false := bne_eq_false_iff_eq.mpr c81
     clear c81
     replace H := Option.bind_eq_some_iff.mp H
     obtain ⟨t758, A820, H⟩ := H
     replace H : (some t758) = some r := H
     have A82 := za.mk A820
     clear A820
     obtain rfl := Option.some.inj H
     go_enter Try.func7, Try.ntmps7
     try go_wp2_with (first | ((with_reducible refine zba (f := 30) rfl ?_); refine zbv (some 18) rfl rfl Try.func30 (by kernel_rfl) rfl #[.slice A0 l0.length c0] rfl Zmt ?_; (with_reducible refine (z8.calls k _ _ l0 t732 t735 t738 t739 t740 _ ?side1 ?side2 A3.out).mono ?_); (case side1 => exact Zq6 HR0.out); (case side2 => exact HC0.out); rintro e w83 ⟨v733, v736, v741, rfl, ho0, ho1, ho2, hb⟩; refine ⟨_, rfl, ?_⟩; have n0_ := za.mk (Kd.zb2 ho0 (zbb (Zq3 HB.out))); have n1_ := za.mk (Kd.zb2 ho1 (zbb (Zq3 HB.out))); have n2_ := za.mk (Kd.zb2 ho2 (zbb (Zq3 HB.out))); have n3_ := za.mk (zo (Zq3 HB.out) hb); clear HB; have HO734 := n0_; have HO737 := n1_; have HO742 := n2_; have HB := n3_; clear n0_ n1_ n2_ n3_; (try clear hb); (try clear hb2); (try clear hk); (try clear hi); (try clear ho0); (try clear ho1); (try clear ho2)) | ((with_reducible refine zbp (N := 5) rfl ?_); (try (refine zcg (by rfl) ?_; dsimp only)); refine zb1 ?hg (N := 5) ?hd (cs := #[.int .i64 0, .int .i64 0]) (t := 51) ?hr ?_; (case hd => rfl); (case hg => rfl); (case hr => first | (go_simp; done) | (go_simp; rfl)); intro gb743 hg w84 hbox hb; have n0_ := za.mk (Kd.zbl (Zq12 HO734.out) hb); have n1_ := za.mk (Kd.zbl (Zq12 HO737.out) hb); have n2_ := za.mk (Kd.zbl (Zq12 HO742.out) hb); have n3_ := za.mk (zo (Zq3 HB.out) hb); have n4_ := za.mk (hbox); have n5_ := za.mk ((by rw [hg]; exact (zbb (Zq3 HB.out)) : w.heap.size ≤ gb743)); have n6_ := za.mk ((by rw [hg]; exact (zbb (Zq3 HB.out)) : w.heap.size ≤ gb743)); clear HO734; clear HO737; clear HO742; clear HB; have HO734 := n0_; have HO737 := n1_; have HO742 := n2_; have HB := n3_; have BK743 := n4_; have GW743 := n5_; have GE743 := n6_; clear n0_ n1_ n2_ n3_ n4_ n5_ n6_; clear hb hbox hg; have hcz85_0 : w84.cell? ⟨gb743, 0, none⟩ = some (.int .i64 0) := (zh BK743.out 0).trans rfl; have hcz85_1 : w84.cell? ⟨gb743, 1, none⟩ = some (.int .i64 0) := (zh BK743.out 1).trans rfl; have hfz85_0 := zg BK743.out 0; have hfz85_1 := zg BK743.out 1; obtain ⟨Ao86, co86, eo86⟩ := Kd.zbs HO734.out; subst eo86; obtain ⟨Ao87, co87, eo87⟩ := Kd.zbs HO737.out; subst eo87; obtain ⟨Ao88, co88, eo88⟩ := Kd.zbs HO742.out; subst eo88) | ((with_reducible refine zba (f := 31) rfl ?_); refine zbv (some 27) rfl rfl Try.func31 (by kernel_rfl) rfl #[.slice Ao86 t732.length co86, .slice Ao87 t735.length co87, .agg #[.int .i64 t738, .int .i64 t739], .slice Ao88 t740.length co88] rfl Zmt ?_; (with_reducible refine (zcr.calls k _ _ t732 _ _ t735 t738 t739 _ _ t740 t744 t747 _ ?side1 ?side2 ?side3 ?side4 ?side5 ?side6 A4.out).mono ?_); (case side1 => refine (Kd.zbe (e := 88) (base := w.heap.size) (ok := fun k_ => True) (n := t732.length) (c := co86) ?_).2.2; exact (by (with_reducible repeat (first | apply Kd.zbi | apply Kd.zbh | apply Kd.zbj)); exact (Kd.zy (Kd.zb9 (p := ⟨gb743, 1, none⟩) (Kd.zb9 (p := ⟨gb743, 0, none⟩) (Kd.zb5 HO734.out BK743.out (by decide)) (fun _ hk => hk.2) (.int .i64 t738)) (fun _ hk => hk.2) (.int .i64 t739)) (fun _ h_ => h_.1)))); (case side2 => exact (Kd.zbe HO734.out).2.1); (case side3 => refine (Kd.zbe (e := 34) (base := w.heap.size) (ok := fun k_ => True) (n := t735.length) (c := co87) ?_).2.2; exact (by (with_reducible repeat (first | apply Kd.zbi | apply Kd.zbh | apply Kd.zbj)); exact (Kd.zy (Kd.zb9 (p := ⟨gb743, 1, none⟩) (Kd.zb9 (p := ⟨gb743, 0, none⟩) (Kd.zb5 HO737.out BK743.out (by decide)) (fun _ hk => hk.2) (.int .i64 t738)) (fun _ hk => hk.2) (.int .i64 t739)) (fun _ h_ => h_.1)))); (case side4 => exact (Kd.zbe HO737.out).2.1); (case side5 => refine (Kd.zbe (e := 4) (base := w.heap.size) (ok := fun k_ => True) (n := t740.length) (c := co88) ?_).2.2; exact (by (with_reducible repeat (first | apply Kd.zbi | apply Kd.zbh | apply Kd.zbj)); exact (Kd.zy (Kd.zb9 (p := ⟨gb743, 1, none⟩) (Kd.zb9 (p := ⟨gb743, 0, none⟩) (Kd.zb5 HO742.out BK743.out (by decide)) (fun _ hk => hk.2) (.int .i64 t738)) (fun _ hk => hk.2) (.int .i64 t739)) (fun _ h_ => h_.1)))); (case side6 => exact (Kd.zbe HO742.out).2.1); rintro e w89 ⟨v745, v748, rfl, ho0, ho1, hb⟩; refine ⟨_, rfl, ?_⟩; have n0_ := za.mk (Kd.zbl (by (with_reducible repeat (first | apply Kd.zbi | apply Kd.zbh | apply Kd.zbj)); exact (Kd.zy (Kd.zb9 (p := ⟨gb743, 1, none⟩) (Kd.zb9 (p := ⟨gb743, 0, none⟩) (Kd.zb5 HO734.out BK743.out (by decide)) (fun _ hk => hk.2) (.int .i64 t738)) (fun _ hk => hk.2) (.int .i64 t739)) (fun _ h_ => h_.1))) hb); have n1_ := za.mk (Kd.zbl (by (with_reducible repeat (first | apply Kd.zbi | apply Kd.zbh | apply Kd.zbj)); exact (Kd.zy (Kd.zb9 (p := ⟨gb743, 1, none⟩) (Kd.zb9 (p := ⟨gb743, 0, none⟩) (Kd.zb5 HO737.out BK743.out (by decide)) (fun _ hk => hk.2) (.int .i64 t738)) (fun _ hk => hk.2) (.int .i64 t739)) (fun _ h_ => h_.1))) hb); have n2_ := za.mk (Kd.zbl (by (with_reducible repeat (first | apply Kd.zbi | apply Kd.zbh | apply Kd.zbj)); exact (Kd.zy (Kd.zb9 (p := ⟨gb743, 1, none⟩) (Kd.zb9 (p := ⟨gb743, 0, none⟩) (Kd.zb5 HO742.out BK743.out (by decide)) (fun _ hk => hk.2) (.int .i64 t738)) (fun _ hk => hk.2) (.int .i64 t739)) (fun _ h_ => h_.1))) hb); have n3_ := za.mk (Kd.zb2 ho0 (zbb (Zq5 HB.out GE743.out))); have n4_ := za.mk (Kd.zb2 ho1 (zbb (Zq5 HB.out GE743.out))); have n5_ := za.mk (zbg (g := gb743) (o := .cells #[.int .i64 t738, .int .i64 t739] 51 (0, 0)) (by (with_reducible repeat (first | refine zn ?_ _ | refine zt ?_ | refine zm ?_ _)); refine zbu (cs := #[.int .i64 t738, .int .i64 0]) ?_ 1 _ rfl; (with_reducible repeat (first | refine zn ?_ _ | refine zt ?_ | refine zm ?_ _)); refine zbu (cs := #[.int .i64 0, .int .i64 0]) ?_ 0 _ rfl; (with_reducible repeat (first | refine zn ?_ _ | refine zt ?_ | refine zm ?_ _)); exact BK743.out) hb); have n6_ := za.mk (zo (Zq5 HB.out GE743.out) hb); clear HO734; clear HO737; clear HO742; clear BK743; clear HB; have HO734 := n0_; have HO737 := n1_; have HO742 := n2_; have HO746 := n3_; have HO749 := n4_; have BK743 := n5_; have HB := n6_; clear n0_ n1_ n2_ n3_ n4_ n5_ n6_; (try clear hb); (try clear hb2); (try clear hk); (try clear hi); (try clear ho0); (try clear ho1)) | ((with_reducible refine zbp (N := 7) rfl ?_); (try (refine zcg (by rfl) ?_; dsimp only)); refine zb1 ?hg (N := 7) ?hd (cs := #[.slice none 0 0, .slice none 0 0]) (t := 29) ?hr ?_; (case hd => rfl); (case hg => rfl); (case hr => first | (go_simp; done) | (go_simp; rfl)); intro gb750 hg w90 hbox hb; have n0_ := za.mk (Kd.zbl (Zq12 HO734.out) hb); have n1_ := za.mk (Kd.zbl (Zq12 HO737.out) hb); have n2_ := za.mk (Kd.zbl (Zq12 HO742.out) hb); have n3_ := za.mk (Kd.zbl (Zq12 HO746.out) hb); have n4_ := za.mk (Kd.zbl (Zq12 HO749.out) hb); have n5_ := za.mk (zbg (g := gb743) (o := .cells #[.int .i64 t738, .int .i64 t739] 51 (0, 0)) (Zq4 BK743.out) hb); have n6_ := za.mk (zo (Zq5 HB.out GE743.out) hb); have n7_ := za.mk (hbox); have n8_ := za.mk ((by rw [hg]; exact (zbb (Zq5 HB.out GE743.out)) : w.heap.size ≤ gb750)); have n9_ := za.mk ((by rw [hg]; exact (zbb (Zq5 HB.out GE743.out)) : w.heap.size ≤ gb750)); have n10_ := za.mk ((by rw [hg]; exact Nat.ne_of_lt (zcz (g := gb743) (o := .cells #[.int .i64 t738, .int .i64 t739] 51 (0, 0)) (Zq4 BK743.out)) : gb743 ≠ gb750)); have n11_ := za.mk ((by rw [hg]; exact Nat.ne_of_gt (zcz (g := gb743) (o := .cells #[.int .i64 t738, .int .i64 t739] 51 (0, 0)) (Zq4 BK743.out)) : gb750 ≠ gb743)); clear HO734; clear HO737; clear HO742; clear HO746; clear HO749; clear BK743; clear HB; have HO734 := n0_; have HO737 := n1_; have HO742 := n2_; have HO746 := n3_; have HO749 := n4_; have BK743 := n5_; have HB := n6_; have BK750 := n7_; have GW750 := n8_; have GE750 := n9_; have NB743_750 := n10_; have NB750_743 := n11_; clear n0_ n1_ n2_ n3_ n4_ n5_ n6_ n7_ n8_ n9_ n10_ n11_; clear hb hbox hg; obtain ⟨Ao91, co91, eo91⟩ := Kd.zbs HO746.out; subst eo91; have hnb92 := NB750_743.out; have hnc92 := NB743_750.out; have hcz93_0 : w90.cell? ⟨gb750, 0, none⟩ = some (.slice none 0 0) := (zh BK750.out 0).trans rfl; have hcz93_1 : w90.cell? ⟨gb750, 1, none⟩ = some (.slice none 0 0) := (zh BK750.out 1).trans rfl; have hfz93_0 := zg BK750.out 0; have hfz93_1 := zg BK750.out 1; obtain ⟨Ao94, co94, eo94⟩ := Kd.zbs HO749.out; subst eo94))
     have n0_ : za (Kd.R k88 88 ((w90.setCell ⟨gb750, 0, none⟩ (.slice Ao91 t744.length co91)).setCell ⟨gb750, 1, none⟩ (.slice Ao94 t747.length co94)) w.heap.size (fun _ => True) (.slice Ao86 t732.length co86) t732) := ⟨by (with_reducible repeat (first | apply Kd.zbi | apply Kd.zbh | apply Kd.zbj)); exact Kd.zy (Kd.zb9 (p := ⟨gb750, 1, none⟩) (Kd.zb9 (p := ⟨gb750, 0, none⟩) (Kd.zb5 HO734.out BK750.out (by decide)) (fun _ hk => hk.2) (.slice Ao91 t744.length co91)) (fun _ hk => hk.2) (.slice Ao94 t747.length co94)) (fun _ hk => trivial)⟩
     have n1_ : za (Kd.R k34 34 ((w90.setCell ⟨gb750, 0, none⟩ (.slice Ao91 t744.length co91)).setCell ⟨gb750, 1, none⟩ (.slice Ao94 t747.length co94)) w.heap.size (fun _ => True) (.slice Ao87 t735.length co87) t735) := ⟨by (with_reducible repeat (first | apply Kd.zbi | apply Kd.zbh | apply Kd.zbj)); exact Kd.zy (Kd.zb9 (p := ⟨gb750, 1, none⟩) (Kd.zb9 (p := ⟨gb750, 0, none⟩) (Kd.zb5 HO737.out BK750.out (by decide)) (fun _ hk => hk.2) (.slice Ao91 t744.length co91)) (fun _ hk => hk.2) (.slice Ao94 t747.length co94)) (fun _ hk => trivial)⟩
     have n2_ : za (Kd.R Kd.bool 4 ((w90.setCell ⟨gb750, 0, none⟩ (.slice Ao91 t744.length co91)).setCell ⟨gb750, 1, none⟩ (.slice Ao94 t747.length co94)) w.heap.size (fun _ => True) (.slice Ao88 t740.length co88) t740) := ⟨by (with_reducible repeat (first | apply Kd.zbi | apply Kd.zbh | apply Kd.zbj)); exact Kd.zy (Kd.zb9 (p := ⟨gb750, 1, none⟩) (Kd.zb9 (p := ⟨gb750, 0, none⟩) (Kd.zb5 HO742.out BK750.out (by decide)) (fun _ hk => hk.2) (.slice Ao91 t744.length co91)) (fun _ hk => hk.2) (.slice Ao94 t747.length co94)) (fun _ hk => trivial)⟩
     have n3_ : za (Kd.R (Kd.int .i64) 3 ((w90.setCell ⟨gb750, 0, none⟩ (.slice Ao91 t744.length co91)).setCell ⟨gb750, 1, none⟩ (.slice Ao94 t747.length co94)) w.heap.size (fun k_ => some k_ ≠ (.slice Ao94 t747.length co94 : Value).ownBlock) (.slice Ao91 t744.length co91) t744) := ⟨by (with_reducible repeat (first | apply Kd.zbi | apply Kd.zbh | apply Kd.zbj)); exact Kd.zy (Kd.zb9 (p := ⟨gb750, 1, none⟩) (Kd.zb9 (p := ⟨gb750, 0, none⟩) (Kd.zb5 HO746.out BK750.out (by decide)) (fun _ hk => hk.2) (.slice Ao91 t744.length co91)) (fun _ hk => hk.2) (.slice Ao94 t747.length co94)) (fun _ hk => hk.1)⟩
     have n4_ : za (Kd.R (Kd.int .i64) 3 ((w90.setCell ⟨gb750, 0, none⟩ (.slice Ao91 t744.length co91)).setCell ⟨gb750, 1, none⟩ (.slice Ao94 t747.length co94)) w.heap.size (fun k_ => some k_ ≠ (.slice Ao91 t744.length co91 : Value).ownBlock) (.slice Ao94 t747.length co94) t747) := ⟨by (with_reducible repeat (first | apply Kd.zbi | apply Kd.zbh | apply Kd.zbj)); exact Kd.zy (Kd.zb9 (p := ⟨gb750, 1, none⟩) (Kd.zb9 (p := ⟨gb750, 0, none⟩) (Kd.zb5 HO749.out BK750.out (by decide)) (fun _ hk => hk.2) (.slice Ao91 t744.length co91)) (fun _ hk => hk.2) (.slice Ao94 t747.length co94)) (fun _ hk => hk.1)⟩
     have n5_ : za (((w90.setCell ⟨gb750, 0, none⟩ (.slice Ao91 t744.length co91)).setCell ⟨gb750, 1, none⟩ (.slice Ao94 t747.length co94)).heap[gb743]? = some (.cells #[.int .i64 t738, .int .i64 t739] 51 (0, 0))) := ⟨by (with_reducible repeat (first | refine zn ?_ _ | refine zt ?_ | refine zm ?_ _)); refine zcl ?_ NB743_750.out _; (with_reducible repeat (first | refine zn ?_ _ | refine zt ?_ | refine zm ?_ _)); refine zcl ?_ NB743_750.out _; (with_reducible repeat (first | refine zn ?_ _ | refine zt ?_ | refine zm ?_ _)); exact BK743.out⟩
     have n6_ : za (((w90.setCell ⟨gb750, 0, none⟩ (.slice Ao91 t744.length co91)).setCell ⟨gb750, 1, none⟩ (.slice Ao94 t747.length co94)).heap[gb750]? = some (.cells #[.slice Ao91 t744.length co91, .slice Ao94 t747.length co94] 29 (0, 0))) := ⟨by (with_reducible repeat (first | refine zn ?_ _ | refine zt ?_ | refine zm ?_ _)); refine zbu (cs := #[.slice Ao91 t744.length co91, .slice none 0 0]) ?_ 1 _ rfl; (with_reducible repeat (first | refine zn ?_ _ | refine zt ?_ | refine zm ?_ _)); refine zbu (cs := #[.slice none 0 0, .slice none 0 0]) ?_ 0 _ rfl; (with_reducible repeat (first | refine zn ?_ _ | refine zt ?_ | refine zm ?_ _)); exact BK750.out⟩
     have n7_ : za (Below w.heap.size w ((w90.setCell ⟨gb750, 0, none⟩ (.slice Ao91 t744.length co91)).setCell ⟨gb750, 1, none⟩ (.slice Ao94 t747.length co94))) := ⟨Zq7 HB.out GE743.out GE750.out⟩
     (try clear HO734)
     (try clear HO737)
     (try clear HO742)
     (try clear HO746)
     (try clear HO749)
     (try clear BK743)
     (try clear BK750)
     (try clear HB)
     generalize ((w90.setCell ⟨gb750, 0, none⟩ (.slice Ao91 t744.length co91)).setCell ⟨gb750, 1, none⟩ (.slice Ao94 t747.length co94)) = w95 at n0_ n1_ n2_ n3_ n4_ n5_ n6_ n7_ ⊢
     have HO734 := n0_
     have HO737 := n1_
     have HO742 := n2_
     have HO746 := n3_
     have HO749 := n4_
     have BK743 := n5_
     have BK750 := n6_
     have HB := n7_
     clear n0_ n1_ n2_ n3_ n4_ n5_ n6_ n7_
     have n0_ := za.mk (Kd.zbj HO734.out)
     have n1_ := za.mk (Kd.zbj HO737.out)
     have n2_ := za.mk (Kd.zbj HO742.out)
     have n3_ := za.mk (Kd.zbj HO746.out)
     have n4_ := za.mk (Kd.zbj HO749.out)
     have n5_ := za.mk (zt BK743.out)
     have n6_ := za.mk (zt BK750.out)
     have n7_ := za.mk (zb6 HB.out)
     clear HO734
     clear HO737
     clear HO742
     clear HO746
     clear HO749
     clear BK743
     clear BK750
     clear HB
     have HO734 := n0_
     have HO737 := n1_
     have HO742 := n2_
     have HO746 := n3_
     have HO749 := n4_
     have BK743 := n5_
     have BK750 := n6_
     have HB := n7_
     clear n0_ n1_ n2_ n3_ n4_ n5_ n6_ n7_
     refine start_ (n := 8) (S := fun w' => w'.cell? ⟨gb750, 0, none⟩ = some (.slice Ao91 t744.length co91) ∧ w'.cell? ⟨gb750, 1, none⟩ = some (.slice Ao94 t747.length co94) ∧ w'.cell? ⟨gb743, 0, none⟩ = some (.int .i64 t738) ∧ w'.cell? ⟨gb743, 1, none⟩ = some (.int .i64 t739)) (ds := []) #[false, false, false, false, false, false, false, false] (by kernel_rfl) rfl rfl ⟨(zh BK750.out 0).trans rfl, (zh BK750.out 1).trans rfl, (zh BK743.out 0).trans rfl, (zh BK743.out 1).trans rfl⟩ (fun hHeld => ?_); refine zdq laws_FnRunSupply.tab5 laws_FnRunSupply.bits5 (fun HT_ HW_ => ?_)
     generalize w95.drew = w96 at HO734 HO737 HO742 HO746 HO749 BK743 BK750 HB hHeld ⊢
     refine zce (i := 1) (N := some 29) (v := ?_) (a' := ?_) #[false, true, false, false, false, false, false, false] rfl rfl (zby HT_.out (by kernel_rfl)) (fun _ _ _ h => h) (Or.inl ⟨by rfl, ?_⟩) ?_ ?_
     rotate_left
     ·intro w'
      go_simp
      with_reducible rfl
     rotate_left
     ·simp only [Act.put, List.setIfInBounds_toArray, List.set_cons_zero, List.set_cons_succ, zbq, zbt]
      rfl
     refine zce (i := 2) (N := some 30) (v := ?_) (a' := ?_) #[false, true, true, false, false, false, false, false] rfl rfl (zby HT_.out (by kernel_rfl)) (fun _ _ _ h => h) (Or.inl ⟨by rfl, ?_⟩) ?_ ?_
     rotate_left
     ·intro w'
      go_simp
      with_reducible rfl
     rotate_left
     ·simp only [Act.put, List.setIfInBounds_toArray, List.set_cons_zero, List.set_cons_succ, zbq, zbt]
      rfl
     refine zce (i := 4) (N := some 32) (v := ?_) (a' := ?_) #[false, true, true, false, true, false, false, false] rfl rfl (zby HT_.out (by kernel_rfl)) (fun _ _ _ h => h) (Or.inl ⟨by rfl, ?_⟩) ?_ ?_
     rotate_left
     ·intro w'
      go_simp
      with_reducible rfl
     rotate_left
     ·simp only [Act.put, List.setIfInBounds_toArray, List.set_cons_zero, List.set_cons_succ, zbq, zbt]
      rfl
     refine take_ (i := 0) (N := some 28) (v := ?_) (a' := ?_) #[true, true, true, false, true, false, false, false] rfl rfl (zc5 HT_.out HW_.out (by kernel_rfl)) (fun _ _ _ h => h) (Or.inl ⟨by rfl, ?_⟩) hHeld ?_ ?_
     rotate_left
     ·rintro w' ⟨s0, s1, s2, s3⟩
      go_simp
      with_reducible rfl
     rotate_left
     ·simp only [Act.put, List.setIfInBounds_toArray, List.set_cons_zero, List.set_cons_succ, zbq, zbt]
      rfl
     refine take_ (i := 3) (N := some 31) (v := ?_) (a' := ?_) #[true, true, true, true, true, false, false, false] rfl rfl (zc5 HT_.out HW_.out (by kernel_rfl)) (fun _ _ _ h => h) (Or.inl ⟨by rfl, ?_⟩) hHeld ?_ ?_
     rotate_left
     ·rintro w' ⟨s0, s1, s2, s3⟩
      go_simp
      with_reducible rfl
     rotate_left
     ·simp only [Act.put, List.setIfInBounds_toArray, List.set_cons_zero, List.set_cons_succ, zbq, zbt]
      rfl
     refine one_ (i := 5) (N := some 33) #[true, true, true, true, true, true, false, false] rfl rfl (zc8 HT_.out (by kernel_rfl)) (by decide) (fun K hK => ?_)
     refine goes_ Try.func32 (by kernel_rfl) rfl #[.slice Ao86 t732.length co86, .slice Ao87 t735.length co87, .agg #[.int .i64 t738, .int .i64 t739], .slice Ao88 t740.length co88] (by rfl) rfl rfl Zmt ?_
     with_reducible refine (zw.calls k _ _ t732 _ _ t735 t738 t739 _ _ t740 t751 t754 _ ?side1 ?side2 ?side3 ?side4 ?side5 ?side6 A5.out).mono ?_
     (case side1 => exact Zq6 ((Kd.zbe HO734.out).2.2))
     (case side2 => exact (Kd.zbe HO734.out).2.1)
     (case side3 => exact Zq6 ((Kd.zbe HO737.out).2.2))
     (case side4 => exact (Kd.zbe HO737.out).2.1)
     (case side5 => exact Zq6 ((Kd.zbe HO742.out).2.2))
     (case side6 => exact (Kd.zbe HO742.out).2.1)
     rintro e w97 ⟨v752, v755, rfl, ho0, ho1, hb⟩
     refine ⟨_, rfl, ?_⟩
     have n0_ := za.mk (Kd.zbl (Zq12 HO734.out) hb)
     have n1_ := za.mk (Kd.zbl (Zq12 HO737.out) hb)
     have n2_ := za.mk (Kd.zbl (Zq12 HO742.out) hb)
     have n3_ := za.mk (Kd.zy (Kd.zdn (Kd.zdn (Kd.R_old (Zq12 HO746.out) hb) (Kd.zch ho0)) (Kd.zch ho1)) (fun _ h_ => h_.1))
     have n4_ := za.mk (Kd.zy (Kd.zdn (Kd.zdn (Kd.R_old (Zq12 HO749.out) hb) (Kd.zch ho0)) (Kd.zch ho1)) (fun _ h_ => h_.1))
     have n5_ := za.mk (Kd.zb2 (Kd.zcm (Kd.zcm ho0 (Kd.R_lt (Zq12 HO746.out))) (Kd.R_lt (Zq12 HO749.out))) (zbb (Zq7 HB.out GE743.out GE750.out)))
     have n6_ := za.mk (Kd.zb2 (Kd.zcm (Kd.zcm ho1 (Kd.R_lt (Zq12 HO746.out))) (Kd.R_lt (Zq12 HO749.out))) (zbb (Zq7 HB.out GE743.out GE750.out)))
     have n7_ := za.mk (zbg (g := gb743) (o := .cells #[.int .i64 t738, .int .i64 t739] 51 (0, 0)) (Zq4 BK743.out) hb)
     have n8_ := za.mk (zbg (g := gb750) (o := .cells #[.slice Ao91 t744.length co91, .slice Ao94 t747.length co94] 29 (0, 0)) (Zq4 BK750.out) hb)
     have n9_ := za.mk (zo (Zq7 HB.out GE743.out GE750.out) hb)
     clear HO734
     clear HO737
     clear HO742
     clear HO746
     clear HO749
     clear BK743
     clear BK750
     clear HB
     have HO734 := n0_
     have HO737 := n1_
     have HO742 := n2_
     have HO746 := n3_
     have HO749 := n4_
     have HO753 := n5_
     have HO756 := n6_
     have BK743 := n7_
     have BK750 := n8_
     have HB := n9_
     clear n0_ n1_ n2_ n3_ n4_ n5_ n6_ n7_ n8_ n9_
     (try clear hb)
     (try clear hb2)
     (try clear hk)
     (try clear hi)
     (try clear ho0)
     (try clear ho1)
     obtain ⟨Ao98, co98, eo98⟩ := Kd.zbs HO753.out
     (first | subst eo98 | (injection eo98 with f1_ f2_ f3_; have f4_ := f1_.symm; have f5_ := f3_.symm; clear f1_ f2_ f3_; subst f4_; subst f5_))
     obtain ⟨Ao99, co99, eo99⟩ := Kd.zbs HO756.out
     (first | subst eo99 | (injection eo99 with f1_ f2_ f3_; have f4_ := f1_.symm; have f5_ := f3_.symm; clear f1_ f2_ f3_; subst f4_; subst f5_))
     refine hK.out _ _ ⟨(zh BK750.out 0).trans rfl, (zh BK750.out 1).trans rfl, (zh BK743.out 0).trans rfl, (zh BK743.out 1).trans rfl⟩ (fun hHeld => ?_)
     clear hK K
     refine zc6 (a' := ?_) ?_ ?_
     rotate_left
     ·show Act.put _ (some 33) _ = _
      simp only [Act.put, List.setIfInBounds_toArray, List.set_cons_zero, List.set_cons_succ, zbq, zbt]
      rfl
     refine one_ (i := 6) (N := some 34) #[true, true, true, true, true, true, true, false] rfl rfl (zc8 HT_.out (by kernel_rfl)) (by decide) (fun K hK => ?_)
     refine goes_ Try.func13 (by kernel_rfl) rfl #[.agg #[.slice Ao91 t744.length co91, .slice Ao94 t747.length co94], .agg #[.slice Ao98 t751.length co98, .slice Ao99 t754.length co99]] (by rfl) rfl rfl Zmt ?_
     with_reducible refine (zcd.calls k _ _ t744 _ _ t747 _ _ t751 _ _ t754 true _ ?side1 ?side2 ?side3 ?side4 ?side5 ?side6 ?side7 ?side8 A6.out).mono ?_
     (case side1 => exact Zq6 ((Kd.zbe HO746.out).2.2))
     (case side2 => exact (Kd.zbe HO746.out).2.1)
     (case side3 => exact Zq6 ((Kd.zbe HO749.out).2.2))
     (case side4 => exact (Kd.zbe HO749.out).2.1)
     (case side5 => exact Zq6 ((Kd.zbe HO753.out).2.2))
     (case side6 => exact (Kd.zbe HO753.out).2.1)
     (case side7 => exact Zq6 ((Kd.zbe HO756.out).2.2))
     (case side8 => exact (Kd.zbe HO756.out).2.1)
     rintro e w100 ⟨rfl, hb⟩
     refine ⟨_, rfl, ?_⟩
     have n0_ := za.mk (Kd.zbl (Zq12 HO734.out) hb)
     have n1_ := za.mk (Kd.zbl (Zq12 HO737.out) hb)
     have n2_ := za.mk (Kd.zbl (Zq12 HO742.out) hb)
     have n3_ := za.mk (Kd.zbl (Zq12 HO746.out) hb)
     have n4_ := za.mk (Kd.zbl (Zq12 HO749.out) hb)
     have n5_ := za.mk (Kd.zbl (Zq12 HO753.out) hb)
     have n6_ := za.mk (Kd.zbl (Zq12 HO756.out) hb)
     have n7_ := za.mk (zbg (g := gb743) (o := .cells #[.int .i64 t738, .int .i64 t739] 51 (0, 0)) (Zq4 BK743.out) hb)
     have n8_ := za.mk (zbg (g := gb750) (o := .cells #[.slice Ao91 t744.length co91, .slice Ao94 t747.length co94] 29 (0, 0)) (Zq4 BK750.out) hb)
     have n9_ := za.mk (zo (Zq7 HB.out GE743.out GE750.out) hb)
     clear HO734
     clear HO737
     clear HO742
     clear HO746
     clear HO749
     clear HO753
     clear HO756
     clear BK743
     clear BK750
     clear HB
     have HO734 := n0_
     have HO737 := n1_
     have HO742 := n2_
     have HO746 := n3_
     have HO749 := n4_
     have HO753 := n5_
     have HO756 := n6_
     have BK743 := n7_
     have BK750 := n8_
     have HB := n9_
     clear n0_ n1_ n2_ n3_ n4_ n5_ n6_ n7_ n8_ n9_
     (try clear hb)
     (try clear hb2)
     (try clear hk)
     (try clear hi)
     refine hK.out _ _ ⟨(zh BK750.out 0).trans rfl, (zh BK750.out 1).trans rfl, (zh BK743.out 0).trans rfl, (zh BK743.out 1).trans rfl⟩ (fun hHeld => ?_)
     clear hK K
     refine zc6 (a' := ?_) ?_ ?_
     rotate_left
     ·show Act.put _ (some 34) _ = _
      simp only [Act.put, List.setIfInBounds_toArray, List.set_cons_zero, List.set_cons_succ, zbq, zbt]
      rfl
     refine zce (i := 7) (N := some 35) (v := ?_) (a' := ?_) #[true, true, true, true, true, true, true, true] rfl rfl (zby HT_.out (by kernel_rfl)) (fun _ _ _ h => h) (Or.inl ⟨by rfl, ?_⟩) ?_ ?_
     rotate_left
     ·intro w'
      go_simp
      with_reducible rfl
     rotate_left
     ·simp only [Act.put, List.setIfInBounds_toArray, List.set_cons_zero, List.set_cons_succ, zbq, zbt]
      rfl
     refine done_ (done_of HT_.out (by kernel_rfl)) ?_
     have hcz101_0 : w100.cell? ⟨gb750, 0, none⟩ = some (.slice Ao91 t744.length co91) := (zh BK750.out 0).trans rfl
     have hcz101_1 : w100.cell? ⟨gb750, 1, none⟩ = some (.slice Ao94 t747.length co94) := (zh BK750.out 1).trans rfl
     have hfz101_0 := zg BK750.out 0
     have hfz101_1 := zg BK750.out 1
     try go_wp2_with (first | (go_at_call 15; (with_reducible refine (zda.calls  t758 _ A82.out).mono ?_); rintro e w102 ⟨rfl, hb⟩; have n0_ := za.mk (Kd.zbl (Zq12 HO734.out) hb); have n1_ := za.mk (Kd.zbl (Zq12 HO737.out) hb); have n2_ := za.mk (Kd.zbl (Zq12 HO742.out) hb); have n3_ := za.mk (Kd.zbl (Zq12 HO746.out) hb); have n4_ := za.mk (Kd.zbl (Zq12 HO749.out) hb); have n5_ := za.mk (Kd.zbl (Zq12 HO753.out) hb); have n6_ := za.mk (Kd.zbl (Zq12 HO756.out) hb); have n7_ := za.mk (zbg (g := gb743) (o := .cells #[.int .i64 t738, .int .i64 t739] 51 (0, 0)) (Zq4 BK743.out) hb); have n8_ := za.mk (zbg (g := gb750) (o := .cells #[.slice Ao91 t744.length co91, .slice Ao94 t747.length co94] 29 (0, 0)) (Zq4 BK750.out) hb); have n9_ := za.mk (zo (Zq7 HB.out GE743.out GE750.out) hb); clear HO734; clear HO737; clear HO742; clear HO746; clear HO749; clear HO753; clear HO756; clear BK743; clear BK750; clear HB; have HO734 := n0_; have HO737 := n1_; have HO742 := n2_; have HO746 := n3_; have HO749 := n4_; have HO753 := n5_; have HO756 := n6_; have BK743 := n7_; have BK750 := n8_; have HB := n9_; clear n0_ n1_ n2_ n3_ n4_ n5_ n6_ n7_ n8_ n9_; (try clear hb); (try clear hb2); (try clear hk); (try clear hi)))
     go_ret
     exact ⟨by first | rfl | (simp [zbc, zbd] <;> rfl) | (simp [*, zbc, zbd] <;> rfl), Zq7 HB.out GE743.out GE750.out⟩
    ·rw [if_neg c81] at H
     exact Bool.noConfusion ((Option.some.inj H).trans HRT.out)
  ·replace c7 := Bool.eq_false_iff.mpr c7
   subst c7
   have H1 : (some false) = some r := by rw [if_neg (show ¬ (false = true) by decide)] at H; exact H
   exact Bool.noConfusion ((Option.some.inj H1).trans HRT.out)
def laws_FnRunSupply.Pure : Prop := ∀ (l0 : List Int), l0.length * 1 ≤ 140737488351232 → (l0.length ≤ maxLen ∧ ∀ y0 ∈ l0, (Lit.int .u8 y0).wf = true) → ∃ k, laws_FnRunSupply.f k l0 = some true
end Go.Proofs.Ytkdfjomhichkoaa.P
namespace Go.Proofs.Ytkdfjomhichkoaa.Base
open Go.RowKit Go.Proofs.Ytkdfjomhichkoaa.P Go.Proofs.YtkdfjomhichkoaaW.PrintWords Go.Proofs.YtkdfjomhichkoaaW.PrintLast Go.Proofs.YtkdfjomhichkoaaW.PrintMore
theorem w64 {x : Int} (h0 : -9223372036854775808 ≤ x) (h1 : x < 9223372036854775808) : wrap64 x = x := by unfold wrap64; omega
theorem mul_bd {a b A B : Int} (ha : 0 ≤ a) (hA : a ≤ A) (hb : 0 ≤ b) (hB : b ≤ B) : 0 ≤ a * b ∧ a * b ≤ A * B :=
  ⟨Int.mul_nonneg ha hb, Int.mul_le_mul hA hB hb (by omega)⟩
theorem in_f (a b c : Int) : zcv.f a b c = some (decide (b ≤ a ∧ a ≤ c)) := by
  unfold zcv.f
  by_cases h : a ≥ b
  · rw [if_pos h]; simp [show b ≤ a from h]
  · rw [if_neg h]; simp [show ¬ b ≤ a from h]
theorem l1In_f (a b c : Int) : zbw.f a b c = some (decide (b ≤ a ∧ a ≤ c)) := by
  unfold zbw.f
  by_cases h : a ≥ b
  · rw [if_pos h]; simp [show b ≤ a from h]
  · rw [if_neg h]; simp [show ¬ b ≤ a from h]
theorem and_two (p q : Prop) [Decidable p] [Decidable q] : (if decide p = true then some (decide q) else some false) = some (decide (p ∧ q)) := by
  by_cases hp : p <;> by_cases hq : q <;> simp [hp, hq]
theorem and_bind {α : Type} (p : Prop) [Decidable p] (x y : Option α) : (some (decide p)).bind (fun t => if t = true then x else y) = if p then x else y := by
  by_cases hp : p <;> simp [hp]
end Go.Proofs.Ytkdfjomhichkoaa.Base
namespace Go.Proofs.Ytkdfjomhichkoaa.Gen
open Go.RowKit Go.Proofs.YtkdfjomhichkoaaW.PrintWords Go.Proofs.YtkdfjomhichkoaaW.PrintLast
def Tot {α : Type} (g : Nat → Option α) (P : α → Prop) : Prop := ∃ r, Ev g r ∧ P r
theorem Tot.ret {α : Type} {P : α → Prop} (a : α) (h : P a) : Tot (fun _ => some a) P := ⟨a, Ev.now a, h⟩
theorem Tot.mono {α : Type} {P Q : α → Prop} {g : Nat → Option α} (h : Tot g P) (hpq : ∀ a, P a → Q a) : Tot g Q := by
  obtain ⟨r, h1, h2⟩ := h
  exact ⟨r, h1, hpq r h2⟩
theorem Tot.congr {α : Type} {P : α → Prop} {g f : Nat → Option α} (e : ∀ k, g k = f k) (h : Tot f P) : Tot g P := by
  have : g = f := funext e
  rw [this]; exact h
theorem Tot.step {α : Type} {P : α → Prop} {g f : Nat → Option α} (e : ∀ k, g (k + 1) = f k) (h : Tot f P) : Tot g P := by
  obtain ⟨r, h1, h2⟩ := h
  exact ⟨r, Ev.step e h1, h2⟩
theorem Tot.bind {α β : Type} {P : α → Prop} {Q : β → Prop} {g : Nat → Option α} {f : Nat → α → Option β} (h : Tot g P) (hf : ∀ a, P a → Tot (fun k => f k a) Q) : Tot (fun k => (g k).bind (f k)) Q := by
  obtain ⟨r, h1, h2⟩ := h
  obtain ⟨q, h3, h4⟩ := hf r h2
  exact ⟨q, Ev.bind h1 h3, h4⟩
theorem Tot.bind0 {α β : Type} {Q : β → Prop} {g : Option α} {f : Nat → α → Option β} {a : α} (h : g = some a) (hf : Tot (fun k => f k a) Q) : Tot (fun k => g.bind (f k)) Q := by
  subst h; exact hf
theorem Tot.yes {α : Type} {P : α → Prop} {c : Prop} [Decidable c] {g f : Nat → Option α} (hc : c) (h : Tot g P) : Tot (fun k => if c then g k else f k) P := by
  simp only [if_pos hc]; exact h
theorem Tot.no {α : Type} {P : α → Prop} {c : Prop} [Decidable c] {g f : Nat → Option α} (hc : ¬ c) (h : Tot f P) : Tot (fun k => if c then g k else f k) P := by
  simp only [if_neg hc]; exact h
theorem Tot.ite {α : Type} {P : α → Prop} {c : Prop} [Decidable c] {g f : Nat → Option α} (h1 : c → Tot g P) (h2 : ¬ c → Tot f P) : Tot (fun k => if c then g k else f k) P := by
  by_cases hc : c
  · exact Tot.yes hc (h1 hc)
  · exact Tot.no hc (h2 hc)
theorem Tot.rounds {g : Nat → Option Bool} (h : Tot g (fun r => r = true)) : ∃ k, g k = some true := by
  obtain ⟨r, h1, rfl⟩ := h
  exact h1.rounds
theorem Tot.val {α : Type} {g : Nat → Option α} {a : α} (h : Ev g a) : Tot g (fun r => r = a) := ⟨a, h, rfl⟩
theorem Tot.ev {α : Type} {g : Nat → Option α} {a : α} (h : Tot g (fun r => r = a)) : Ev g a := by
  obtain ⟨r, h1, rfl⟩ := h
  exact h1
theorem Tot.loop {σ ρ : Type} {P : ρ → Prop} (F : Nat → Nat → σ → Option ρ) (n : Nat) (Inv : Nat → σ → Prop)
    (hstep : ∀ i s, i < n → Inv i s → (∀ s', Inv (i + 1) s' → Tot (fun k => F k (i + 1) s') P) → Tot (fun k => F k i s) P)
    (hend : ∀ s, Inv n s → Tot (fun k => F k n s) P) : ∀ i s, i ≤ n → Inv i s → Tot (fun k => F k i s) P := by
  have key : ∀ d i s, i + d = n → Inv i s → Tot (fun k => F k i s) P := by
    intro d
    induction d with
    | zero => intro i s hi h; obtain rfl : i = n := by omega
              exact hend s h
    | succ d ih => intro i s hi h; exact hstep i s (by omega) h (fun s' hs' => ih (i + 1) s' (by omega) hs')
  intro i s hi h
  exact key (n - i) i s (by omega) h
theorem rdOf_at {α : Type} (d : α) (xs : List α) (i : Nat) (h : i < xs.length) : rdOf d xs (i : Int) = xs[i] := by
  unfold rdOf
  rw [List.getD_eq_getElem?_getD, Int.toNat_natCast, List.getElem?_eq_getElem h]
  rfl
theorem rd_at (xs : List Int) (i : Nat) (h : i < xs.length) : rd xs (i : Int) = xs[i] := by
  unfold rd
  rw [List.getD_eq_getElem?_getD, Int.toNat_natCast, List.getElem?_eq_getElem h]
  rfl
theorem fill_step {β : Type} (acc tgt : List β) (i : Nat) (hl : acc.length = tgt.length) (h : acc.take i = tgt.take i) (hi : i < tgt.length) : (acc.set i tgt[i]).take (i + 1) = tgt.take (i + 1) := by
  rw [List.take_succ_eq_append_getElem (by simpa [hl] using hi), List.take_succ_eq_append_getElem hi]
  rw [List.take_set_of_le (Nat.le_refl i), h]
  simp
theorem Tot.copy {β : Type} (F : Nat → List β → Int → Option (List β)) (tgt : List β) (z : β)
    (hstep : ∀ k acc (i : Nat) (h : i < tgt.length), acc.length = tgt.length → F (k + 1) acc (i : Int) = F k (acc.set i tgt[i]) ((i : Int) + 1))
    (hend : ∀ k acc, acc.length = tgt.length → F (k + 1) acc (tgt.length : Int) = some acc) : Tot (fun k => F k (List.replicate tgt.length z) 0) (fun r => r = tgt) := by
  have key : ∀ d (i : Nat) acc, i + d = tgt.length → acc.length = tgt.length → acc.take i = tgt.take i → Tot (fun k => F k acc (i : Int)) (fun r => r = tgt) := by
    intro d
    induction d with
    | zero =>
      intro i acc hi hl ht
      obtain rfl : i = tgt.length := by omega
      refine Tot.step (f := fun _ => some acc) (fun k => hend k acc hl) (Tot.ret _ ?_)
      rw [List.take_length, ← hl, List.take_length] at ht
      exact ht
    | succ d ih =>
      intro i acc hi hl ht
      have hlt : i < tgt.length := by omega
      refine Tot.step (fun k => hstep k acc i hlt hl) ?_
      have := ih (i + 1) (acc.set i tgt[i]) (by omega) (by simpa using hl) (fill_step acc tgt i hl ht hlt)
      simpa using this
  simpa using key tgt.length 0 (List.replicate tgt.length z) (by omega) (by simp) (by simp)
theorem Tot.look {ρ : Type} {r : ρ} (F : Nat → Int → Option ρ) (n : Nat) (hstep : ∀ k (i : Nat), i < n → F (k + 1) (i : Int) = F k ((i : Int) + 1)) (hend : ∀ k, F (k + 1) (n : Int) = some r) : Tot (fun k => F k 0) (fun q => q = r) := by
  have key : ∀ d (i : Nat), i + d = n → Tot (fun k => F k (i : Int)) (fun q => q = r) := by
    intro d
    induction d with
    | zero => intro i hi; obtain rfl : i = n := by omega
              exact Tot.step (f := fun _ => some r) (fun k => hend k) (Tot.ret _ rfl)
    | succ d ih => intro i hi; exact Tot.step (fun k => hstep k i (by omega)) (by simpa using ih (i + 1) (by omega))
  simpa using key n 0 (by omega)
end Go.Proofs.Ytkdfjomhichkoaa.Gen
namespace Go.Proofs.Ytkdfjomhichkoaa.Pb
open Go.RowKit Go.Proofs.Ytkdfjomhichkoaa.P Go.Proofs.Ytkdfjomhichkoaa.Gen Go.Proofs.Ytkdfjomhichkoaa.Base Go.Proofs.YtkdfjomhichkoaaW.PrintWords Go.Proofs.YtkdfjomhichkoaaW.PrintLast
theorem xor_ok (x y : Int) (hx : 0 ≤ x) (hx1 : x < 4611686018427387904) (hy : 0 ≤ y) (hy1 : y < 4611686018427387904) : 0 ≤ Go.bits .xor .i64 x y := by
  obtain ⟨a, rfl⟩ := Int.eq_ofNat_of_zero_le hx
  obtain ⟨b, rfl⟩ := Int.eq_ofNat_of_zero_le hy
  have ha : a < 2 ^ 62 := by have e : (2 : Nat) ^ 62 = 4611686018427387904 := by decide
                             omega
  have hb : b < 2 ^ 62 := by have e : (2 : Nat) ^ 62 = 4611686018427387904 := by decide
                             omega
  have ha' : a % 2 ^ 64 = a := Nat.mod_eq_of_lt (by omega)
  have hb' : b % 2 ^ 64 = b := Nat.mod_eq_of_lt (by omega)
  have hx := Nat.xor_lt_two_pow ha hb
  simp only [Go.bits]
  rw [show IntKind.i64.bits = 64 from rfl]
  rw [BitVec.toNat_xor, BitVec.ofInt_natCast, BitVec.ofInt_natCast, BitVec.toNat_ofNat, BitVec.toNat_ofNat, ha', hb', IntKind.wrap_i64]
  have e : (2 : Nat) ^ 62 = 4611686018427387904 := by decide
  omega
def Bytes (s : List Int) : Prop := s.length ≤ 2000 ∧ ∀ x ∈ s, 0 ≤ x ∧ x ≤ 255
theorem Bytes.rd {s : List Int} (h : Bytes s) (i : Int) : 0 ≤ rd s i ∧ rd s i ≤ 255 := by
  unfold Go.Proofs.YtkdfjomhichkoaaW.PrintWords.rd
  rw [List.getD_eq_getElem?_getD]
  rcases Nat.lt_or_ge i.toNat s.length with hi | hi
  · rw [List.getElem?_eq_getElem hi]
    exact h.2 _ (List.getElem_mem hi)
  · rw [List.getElem?_eq_none hi]
    simp
theorem u8_wf {x : Int} (h : (Lit.int .u8 x).wf = true) : 0 ≤ x ∧ x ≤ 255 := by
  simp [Lit.wf, IntKind.min, IntKind.max, IntKind.bits, IntKind.signed] at h
  omega
theorem tmod_ok (a n : Int) (ha : 0 ≤ a) (hn : 1 ≤ n) : 0 ≤ Int.tmod a n ∧ Int.tmod a n < n := by
  rw [Int.tmod_eq_emod_of_nonneg ha]
  exact ⟨Int.emod_nonneg _ (by omega), Int.emod_lt_of_pos _ (by omega)⟩
theorem tdiv_ok (a n : Int) (ha : 0 ≤ a) (hn : 1 ≤ n) : 0 ≤ Int.tdiv a n ∧ Int.tdiv a n ≤ a := by
  rw [Int.tdiv_eq_ediv_of_nonneg ha]
  exact ⟨Int.ediv_nonneg ha (by omega), Int.ediv_le_self _ ha⟩
theorem pick_at (k : Nat) (s : List Int) (p n : Int) (hs : Bytes s) (hp : 0 ≤ p) (hp2 : p ≤ 1000000000) :
    ∃ r, zb.f (k + 1) s p n = some (r, p + 1) ∧ 0 ≤ r ∧ (1 ≤ n → r < n) := by
  unfold zb.f
  rw [w64 (x := p + 1) (by omega) (by omega)]
  by_cases hn : n < 1
  · rw [if_pos hn]
    exact ⟨0, by simp [zb.j0], Int.le_refl _, fun h => by omega⟩
  · rw [if_neg hn]
    by_cases h0 : (s.length : Int) = 0
    · refine ⟨0, ?_, Int.le_refl _, fun h => by omega⟩
      simp only [zb.j0]
      rw [if_pos (by simpa using h0)]
    · simp only [zb.j0]
      rw [if_neg (by simpa using h0)]
      have hl := hs.1
      rw [w64 (x := p + 1 - 1) (by omega) (by omega), show p + 1 - 1 = p by omega]
      by_cases h1 : p < (s.length : Int)
      · have hb := hs.rd p
        rw [if_pos h1, if_pos hp, if_neg (by omega), w64 (x := rd s p) (by omega) (by omega)]
        have ht := tmod_ok (rd s p) n hb.1 (by omega)
        exact ⟨_, rfl, ht.1, fun _ => ht.2⟩
      · rw [if_neg h1, if_neg h0]
        have m0 := tmod_ok p (s.length : Int) hp (by omega)
        rw [if_pos m0.1, if_pos m0.2]
        rw [w64 (x := p * 7) (by omega) (by omega), w64 (x := p * 7 + 3) (by omega) (by omega)]
        have m1 := tmod_ok (p * 7 + 3) (s.length : Int) (by omega) (by omega)
        rw [if_pos m1.1, if_pos m1.2, if_neg (by omega)]
        have b0 := hs.rd (Int.tmod p (s.length : Int))
        have b1 := hs.rd (Int.tmod (p * 7 + 3) (s.length : Int))
        have d0 := tdiv_ok p (s.length : Int) hp (by omega)
        generalize rd s (Int.tmod p (s.length : Int)) = x at b0 ⊢
        generalize rd s (Int.tmod (p * 7 + 3) (s.length : Int)) = y at b1 ⊢
        generalize Int.tdiv p (s.length : Int) = q at d0 ⊢
        rw [w64 (x := x) (by omega) (by omega), w64 (x := y) (by omega) (by omega), w64 (x := q) (by omega) (by omega)]
        rw [w64 (x := x * 131) (by omega) (by omega), w64 (x := y * 1117) (by omega) (by omega), w64 (x := p * 29) (by omega) (by omega), w64 (x := q * 53) (by omega) (by omega)]
        rw [w64 (x := x * 131 + y * 1117) (by omega) (by omega), w64 (x := x * 131 + y * 1117 + p * 29) (by omega) (by omega), w64 (x := x * 131 + y * 1117 + p * 29 + q * 53) (by omega) (by omega)]
        have e0 := tdiv_ok (x * 131 + y * 1117 + p * 29 + q * 53) 64 (by omega) (by omega)
        rw [w64 (x := Int.tdiv (x * 131 + y * 1117 + p * 29 + q * 53) 64) (by omega) (by omega)]
        have hx := xor_ok (x * 131 + y * 1117 + p * 29 + q * 53) (Int.tdiv (x * 131 + y * 1117 + p * 29 + q * 53) 64) (by omega) (by omega) e0.1 (by omega)
        have ht := tmod_ok _ n hx (by omega)
        exact ⟨_, rfl, ht.1, fun _ => ht.2⟩
theorem open_at (l : List Int) (hl : ∀ x ∈ l, (Lit.int .u8 x).wf = true) : ∃ s, zdm.f l = some (s, 0) ∧ Bytes s := by
  unfold zdm.f
  by_cases h : (l.length : Int) > 2000
  · rw [if_pos h, if_pos (by omega)]
    exact ⟨_, rfl, by rw [List.length_take]; omega, fun x hx => u8_wf (hl x (List.mem_of_mem_take hx))⟩
  · rw [if_neg h]
    exact ⟨_, rfl, by omega, fun x hx => u8_wf (hl x hx)⟩
theorem zck (s : List Int) (p n : Int) (hs : Bytes s) (hp : 0 ≤ p) (hp2 : p ≤ 1000000000) : Tot (fun k => zb.f k s p n) (fun r => r.2 = p + 1 ∧ 0 ≤ r.1 ∧ (1 ≤ n → r.1 < n)) := by
  obtain ⟨r, hr, h0, h1⟩ := pick_at 0 s p n hs hp hp2
  refine ⟨(r, p + 1), ⟨1, fun k hk => ?_⟩, rfl, h0, h1⟩
  obtain ⟨j, rfl⟩ : ∃ j, k = j + 1 := ⟨k - 1, by omega⟩
  obtain ⟨r', hr', h0', h1'⟩ := pick_at j s p n hs hp hp2
  have hm := at_rounds (g := fun k => zb.f k s p n) (fun k => zb.mono _ _ _ k) (show 1 ≤ j + 1 by omega) hr
  exact hm
theorem odd_tot (s : List Int) (p n : Int) (hs : Bytes s) (hp : 0 ≤ p) (hp2 : p ≤ 1000000000) : Tot (fun k => zbk.f k s p n) (fun r => p ≤ r.2 ∧ r.2 ≤ p + 1) := by
  unfold zbk.f
  refine Tot.ite (fun _ => ?_) (fun _ => Tot.ret _ ⟨Int.le_refl _, by omega⟩)
  refine Tot.bind (zck s p n hs hp hp2) ?_
  rintro ⟨a, q⟩ ⟨rfl, _, _⟩
  exact Tot.ret _ ⟨by show p ≤ p + 1; omega, Int.le_refl _⟩
theorem open_tot {β : Type} {Q : β → Prop} (l : List Int) (hl : ∀ x ∈ l, (Lit.int .u8 x).wf = true) {f : Nat → List Int × Int → Option β} (hf : ∀ s, Bytes s → Tot (fun k => f k (s, 0)) Q) : Tot (fun k => (zdm.f l).bind (f k)) Q := by
  obtain ⟨s, hs, hb⟩ := open_at l hl
  exact Tot.bind0 hs (hf s hb)
theorem zdk {α β : Type} {Q : β → Prop} (a : α) {f : Nat → α → Option β} (h : Tot (fun k => f k a) Q) : Tot (fun k => (some a).bind (f k)) Q := h
theorem rd_mem {xs : List Int} {i : Int} (h0 : 0 ≤ i) (h1 : i < (xs.length : Int)) : rd xs i ∈ xs := by
  unfold Go.Proofs.YtkdfjomhichkoaaW.PrintWords.rd
  have : i.toNat < xs.length := by omega
  rw [List.getD_eq_getElem?_getD, List.getElem?_eq_getElem this]
  exact List.getElem_mem this
end Go.Proofs.Ytkdfjomhichkoaa.Pb
namespace Go.Proofs.Ytkdfjomhichkoaa.Alive
open Go.RowKit Go.Proofs.Ytkdfjomhichkoaa.P Go.Proofs.Ytkdfjomhichkoaa.Base Go.Proofs.YtkdfjomhichkoaaW.PrintWords Go.Proofs.YtkdfjomhichkoaaW.PrintLast
def TV (c d p : Int) : Prop := 1 ≤ c ∧ c ≤ 8 ∧ c ≤ d ∧ d ≤ p ∧ p ≤ 12
instance (c d p : Int) : Decidable (TV c d p) := by unfold TV; infer_instance
theorem task_f (c d p : Int) : zcu.f c d p = some (decide (TV c d p)) := by
  unfold zcu.f
  rw [in_f, in_f, and_bind, and_bind]
  by_cases h1 : 1 ≤ c ∧ c ≤ 8
  · by_cases h2 : c ≤ d ∧ d ≤ p
    · rw [if_pos h1, if_pos h2]; congr 1; rw [decide_eq_decide]; unfold TV; omega
    · rw [if_pos h1, if_neg h2]; congr 1; symm; rw [decide_eq_false_iff_not]; unfold TV; omega
  · rw [if_neg h1]; congr 1; symm; rw [decide_eq_false_iff_not]; unfold TV; omega
theorem alive_f : zda.f = some true := by
  unfold zda.f
  rw [task_f]; rfl
end Go.Proofs.Ytkdfjomhichkoaa.Alive
namespace Go.Proofs.Ytkdfjomhichkoaa.P
open Go.RowKit Go.Proofs.YtkdfjomhichkoaaW.PrintWords Go.Proofs.YtkdfjomhichkoaaW.PrintLast Go.Proofs.YtkdfjomhichkoaaW.PrintMore
attribute [local go_sem] max2_int min2_int max_two min_two max_three min_three max_four min_four
set_option linter.unusedVariables false
set_option linter.unusedSimpArgs false
def zdt.f (a0_0 : Int) (a0_1 : Int) (a0_2 : Int) : Option (Bool) := some (a0_1 != a0_2)
set_option maxHeartbeats 8000000 in
set_option maxRecDepth 100000 in
theorem zdt.calls (a0_0 : Int) (a0_1 : Int) (a0_2 : Int) (r : Bool) (w : World) (h : zdt.f a0_0 a0_1 a0_2 = some r) :
  Calls Try.prog 105 #[.agg #[.int .i64 a0_0, .int .i64 a0_1, .int .i64 a0_2]] w fun e w' => e = .returned (.bool r) ∧ Below w.heap.size w w' := by
 have hu88 := Try.underlying88
 have HB := za.mk (Below.refl w.heap.size w)
 have H : (some (a0_1 != a0_2)) = some r := h
 clear h
 obtain rfl := Option.some.inj H
 go_enter Try.func105, Try.ntmps105
 go_wp2_with (first | ((with_reducible refine zbp (N := 1) rfl ?_); refine zb1 ?hg (N := 1) ?hd (cs := #[.int .i64 a0_0, .int .i64 a0_1, .int .i64 a0_2]) (t := 88) ?hr ?_; (case hd => rfl); (case hg => rfl); (case hr => first | (go_simp; done) | (go_simp; rfl)); intro gb558 hg w2 hbox hb; have n0_ := za.mk (zo (Zq3 HB.out) hb); have n1_ := za.mk (hbox); have n2_ := za.mk ((by rw [hg]; exact (zbb (Zq3 HB.out)) : w.heap.size ≤ gb558)); have n3_ := za.mk ((by rw [hg]; exact (zbb (Zq3 HB.out)) : w.heap.size ≤ gb558)); clear HB; have HB := n0_; have BK558 := n1_; have GW558 := n2_; have GE558 := n3_; clear n0_ n1_ n2_ n3_; clear hb hbox hg; have hcz3_0 : w2.cell? ⟨gb558, 0, none⟩ = some (.int .i64 a0_0) := (zh BK558.out 0).trans rfl; have hcz3_1 : w2.cell? ⟨gb558, 1, none⟩ = some (.int .i64 a0_1) := (zh BK558.out 1).trans rfl; have hcz3_2 : w2.cell? ⟨gb558, 2, none⟩ = some (.int .i64 a0_2) := (zh BK558.out 2).trans rfl; have hfz3_0 := zg BK558.out 0; have hfz3_1 := zg BK558.out 1; have hfz3_2 := zg BK558.out 2))
 go_ret
 exact ⟨by first | rfl | (simp [zbc, zbd] <;> rfl) | (simp [*, zbc, zbd] <;> rfl), Zq5 HB.out GE558.out⟩
def any_late.bad (x : S88) : Bool := x.f1 != x.f2
theorem any_late.is (x : S88) : zdt.f x.f0 x.f1 x.f2 = some (any_late.bad x) := by
  unfold zdt.f any_late.bad
  rfl
def any_late.f (l0 : List S88) : Option Bool := some (l0.any any_late.bad)
theorem any_late.calls (A0 : Option Addr) (c0 : Nat) (l0 : List S88) (r : Bool) (w : World) (hr0 : Kd.C k88 w A0 l0.length l0) (hc0 : l0.length ≤ c0) (h : any_late.f l0 = some r) :
    Calls Try.prog 104 #[.slice A0 l0.length c0, .func (.func 105) #[] #[]] w fun e w' => e = .returned (.bool r) ∧ Below w.heap.size w w' := by
  obtain rfl := Option.some.inj h
  exact anyTask_calls any_late.bad 105 #[] (enters_of Try.func105 (by kernel_rfl) rfl) A0 c0 l0 w (fun W' x _ => (zdt.calls x.f0 x.f1 x.f2 _ W' (any_late.is x)).mono fun e w' hh => ⟨hh.1, hh.2⟩) hr0
end Go.Proofs.Ytkdfjomhichkoaa.P
namespace Go.Proofs.Ytkdfjomhichkoaa.Set
open Go.RowKit Go.Proofs.Ytkdfjomhichkoaa.P Go.Proofs.Ytkdfjomhichkoaa.Base Go.Proofs.Ytkdfjomhichkoaa.Alive Go.Proofs.YtkdfjomhichkoaaW.PrintWords Go.Proofs.YtkdfjomhichkoaaW.PrintLast
abbrev Task := S88
def TVt (t : Task) : Prop := TV t.f0 t.f1 t.f2
instance (t : Task) : Decidable (TVt t) := by unfold TVt; infer_instance
def SetOk (l : List Task) : Prop := l.length ≤ 5 ∧ ∀ t ∈ l, TVt t
instance (l : List Task) : Decidable (SetOk l) := by unfold SetOk; infer_instance
def Impl (l : List Task) : Prop := SetOk l ∧ ∀ t ∈ l, t.f1 = t.f2
instance (l : List Task) : Decidable (Impl l) := by unfold Impl; infer_instance
theorem taskOk_iff (t : Task) : taskOk t = decide (TVt t) := by
  unfold taskOk
  rw [decide_eq_decide]; unfold TVt TV; omega
theorem any_tasks_f (l : List Task) : zc7.f l = some (decide (¬ ∀ t ∈ l, TVt t)) := by
  unfold zc7.f
  congr 1
  rw [Bool.eq_iff_iff, List.any_eq_true]
  simp [zc7.bad, taskOk_iff]
theorem set_f (l : List Task) : zc0.f l = some (decide (SetOk l)) := by
  unfold zc0.f
  by_cases h : (l.length : Int) ≤ 5
  · rw [if_pos h, any_tasks_f]
    simp only [Option.bind_some]
    congr 1
    rw [Bool.eq_iff_iff]
    unfold SetOk
    have : l.length ≤ 5 := by omega
    simp [this]
  · rw [if_neg h]
    congr 1; symm; rw [decide_eq_false_iff_not]
    unfold SetOk; omega
end Go.Proofs.Ytkdfjomhichkoaa.Set
namespace Go.Proofs.Ytkdfjomhichkoaa.Sup
open Go.RowKit Go.Proofs.Ytkdfjomhichkoaa.P Go.Proofs.Ytkdfjomhichkoaa.Base Go.Proofs.YtkdfjomhichkoaaW.PrintWords Go.Proofs.YtkdfjomhichkoaaW.PrintLast
def SV (b p : Int) : Prop := 1 ≤ b ∧ b ≤ p ∧ p ≤ 12
instance (b p : Int) : Decidable (SV b p) := by unfold SV; infer_instance
theorem sv_f (b p : Int) : zcx.f b p = some (decide (SV b p)) := by
  unfold zcx.f
  rw [in_f]; simp only [Option.bind_some]
  rw [and_two]
  congr 1; rw [decide_eq_decide]; unfold SV; omega
theorem ssv_f (b p : Int) : zco.f b p = some (decide (SV b p)) := by
  unfold zco.f
  rw [l1In_f, l1In_f]; simp only [Option.bind_some]
  rw [and_two]
  congr 1; rw [decide_eq_decide]; unfold SV; omega
end Go.Proofs.Ytkdfjomhichkoaa.Sup
namespace Go.Proofs.Ytkdfjomhichkoaa.Pat
open Go.RowKit Go.Proofs.Ytkdfjomhichkoaa.P Go.Proofs.Ytkdfjomhichkoaa.Base Go.Proofs.Ytkdfjomhichkoaa.Sup Go.Proofs.Ytkdfjomhichkoaa.Gen Go.Proofs.YtkdfjomhichkoaaW.PrintWords Go.Proofs.YtkdfjomhichkoaaW.PrintLast
def cnt (l : List Bool) (a n : Nat) : Nat := ((l.drop a).take n).countP (fun b => b)
theorem cnt_zero (l : List Bool) (a : Nat) : cnt l a 0 = 0 := by simp [cnt]
theorem cnt_succ (l : List Bool) (a n : Nat) (h : a + n < l.length) : cnt l a (n + 1) = cnt l a n + if l[a + n] = true then 1 else 0 := by
  unfold cnt
  rw [List.take_succ_eq_append_getElem (by simp; omega), List.countP_append, List.getElem_drop]
  by_cases hb : l[a + n] = true <;> simp [hb]
theorem cnt_le (l : List Bool) (a n : Nat) : cnt l a n ≤ n := by
  unfold cnt
  exact Nat.le_trans (List.countP_le_length) (List.length_take_le _ _)
def rest (b p : Nat) (l : List Bool) (q : Nat) : Prop := ∀ j : Nat, q ≤ j → j < 121 → (j + 1) * p ≤ 120 → cnt l (j * p) p = b
instance (b p : Nat) (l : List Bool) (q : Nat) : Decidable (rest b p l q) := by
  unfold rest
  exact decidable_of_iff (∀ j : Nat, j < 121 → q ≤ j → (j + 1) * p ≤ 120 → cnt l (j * p) p = b) ⟨fun h j h1 h2 h3 => h j h2 h1 h3, fun h j h1 h2 h3 => h j h2 h1 h3⟩
theorem rest_no {b p : Nat} {l : List Bool} {q : Nat} (h : 120 < (q + 1) * p) : rest b p l q := by
  intro j h1 _ h3
  have : (q + 1) * p ≤ (j + 1) * p := Nat.mul_le_mul_right _ (by omega)
  omega
theorem rest_succ {b p : Nat} {l : List Bool} {q : Nat} (hp : 1 ≤ p) (h : (q + 1) * p ≤ 120) : rest b p l q ↔ cnt l (q * p) p = b ∧ rest b p l (q + 1) := by
  have hq : q < 121 := by
    have : (q + 1) * 1 ≤ (q + 1) * p := Nat.mul_le_mul_left _ hp
    omega
  constructor
  · intro hr
    exact ⟨hr q (Nat.le_refl q) hq h, fun j h1 h2 h3 => hr j (by omega) h2 h3⟩
  · rintro ⟨h1, h2⟩ j h3 h4 h5
    rcases Nat.lt_or_ge q j with hj | hj
    · exact h2 j (by omega) h4 h5
    · obtain rfl : j = q := by omega
      exact h1
section
variable (b p : Nat) (l : List Bool) (hl : l.length = 120) (hp : 1 ≤ p) (hp2 : p ≤ 12)
include hl hp hp2
theorem spec_l1 (q : Nat) (hq : (q + 1) * p ≤ 120) (R : Bool) (hR : cnt l (q * p) p = b → Ev (fun k => zu.l0 k l ((q : Int) * p + p) b p) R) (hN : cnt l (q * p) p ≠ b → R = false) :
    ∀ d (j : Nat), j + d = p → Ev (fun k => zu.l1 k l ((q : Int) * p) (cnt l (q * p) j : Int) (j : Int) b p) R := by
  have hqq : q * p + p ≤ 120 := by rw [← Nat.succ_mul]; exact hq
  have ec : ((q * p : Nat) : Int) = (q : Int) * p := by push_cast; rfl
  have hb0 : (0 : Int) ≤ (q : Int) * p := by omega
  intro d
  induction d with
  | zero =>
    intro j hj
    obtain rfl : j = p := by omega
    by_cases hc : cnt l (q * j) j = b
    · refine Ev.step (f := fun k => zu.l0 k l ((q : Int) * j + j) b j) (fun k => ?_) (hR hc)
      simp only [zu.l1]
      rw [if_neg (by omega), if_pos (by omega), w64 (by omega) (by omega)]
    · refine Ev.step (f := fun _ => some false) (fun k => ?_) (by rw [hN hc]; exact Ev.now _)
      simp only [zu.l1]
      rw [if_neg (by omega), if_neg (by omega)]
  | succ d ih =>
    intro j hj
    have hcl := cnt_le l (q * p) j
    have hs := cnt_succ l (q * p) j (by omega)
    refine Ev.step (f := fun k => zu.l1 k l ((q : Int) * p) (cnt l (q * p) (j + 1) : Int) ((j + 1 : Nat) : Int) b p) (fun k => ?_) (ih (j + 1) (by omega))
    simp only [zu.l1]
    rw [if_pos (by omega), w64 (x := (q : Int) * p + j) (by omega) (by omega), if_pos (by omega), if_pos (by omega)]
    rw [show (q : Int) * p + j = ((q * p + j : Nat) : Int) by push_cast; rfl, rdOf_at _ _ _ (by omega), w64 (x := (j : Int) + 1) (by omega) (by omega), w64 (x := (cnt l (q * p) j : Int) + 1) (by omega) (by omega)]
    by_cases hb : l[q * p + j] = true
    · rw [if_pos hb] at hs ⊢
      rw [hs]; push_cast; rfl
    · rw [if_neg hb] at hs ⊢
      rw [hs]; push_cast; rfl
theorem impl_l1 (q : Nat) (hq : (q + 1) * p ≤ 120) (R : Bool) (hR : cnt l (q * p) p = b → Ev (fun k => zx.l0 k l ((q : Int) * p + p) b p) R) (hN : cnt l (q * p) p ≠ b → R = false) :
    ∀ d (j : Nat), j + d = p → Ev (fun k => zx.l1 k l ((q : Int) * p) (cnt l (q * p) j : Int) ((l.take (q * p + p)).drop (q * p)) (p : Int) (j : Int) b p) R := by
  have hqq : q * p + p ≤ 120 := by rw [← Nat.succ_mul]; exact hq
  have hb0 : (0 : Int) ≤ (q : Int) * p := by omega
  have ec : ((q * p : Nat) : Int) = (q : Int) * p := by push_cast; rfl
  intro d
  induction d with
  | zero =>
    intro j hj
    obtain rfl : j = p := by omega
    by_cases hc : cnt l (q * j) j = b
    · refine Ev.step (f := fun k => zx.l0 k l ((q : Int) * j + j) b j) (fun k => ?_) (hR hc)
      simp only [zx.l1]
      rw [if_neg (by omega), if_pos (by omega), w64 (by omega) (by omega)]
    · refine Ev.step (f := fun _ => some false) (fun k => ?_) (by rw [hN hc]; exact Ev.now _)
      simp only [zx.l1]
      rw [if_neg (by omega), if_neg (by omega)]
  | succ d ih =>
    intro j hj
    have hcl := cnt_le l (q * p) j
    have hs := cnt_succ l (q * p) j (by omega)
    have hll : ((l.take (q * p + p)).drop (q * p)).length = p := by simp; omega
    refine Ev.step (f := fun k => zx.l1 k l ((q : Int) * p) (cnt l (q * p) (j + 1) : Int) ((l.take (q * p + p)).drop (q * p)) (p : Int) ((j + 1 : Nat) : Int) b p) (fun k => ?_) (ih (j + 1) (by omega))
    simp only [zx.l1]
    rw [if_pos (by omega), if_pos (by omega), if_pos (by omega)]
    rw [rdOf_at _ _ _ (by omega), w64 (x := (j : Int) + 1) (by omega) (by omega), w64 (x := (cnt l (q * p) j : Int) + 1) (by omega) (by omega)]
    rw [List.getElem_drop, List.getElem_take]
    by_cases hb : l[q * p + j] = true
    · rw [if_pos hb] at hs ⊢
      rw [hs]; push_cast; rfl
    · rw [if_neg hb] at hs ⊢
      rw [hs]; push_cast; rfl
theorem spec_l0 : ∀ d (q : Nat), q + d = 121 → Ev (fun k => zu.l0 k l ((q : Int) * p) b p) (decide (rest b p l q)) := by
  intro d
  induction d with
  | zero =>
    intro q hq
    obtain rfl : q = 121 := by omega
    have hr : rest b p l 121 := fun j h1 h2 h3 => absurd h2 (by omega)
    refine Ev.step (f := fun _ => some true) (fun k => ?_) (by simp only [hr, decide_true]; exact Ev.now _)
    simp only [zu.l0]
    rw [w64 (by omega) (by omega), if_neg (by omega)]
  | succ d ih =>
    intro q hq
    have hb1 : (q : Int) * p ≤ 121 * 12 := (mul_bd (by omega) (by omega) (by omega) (by omega)).2
    have hb0 : (0 : Int) ≤ (q : Int) * p := (mul_bd (A := 121) (B := 12) (by omega) (by omega) (by omega) (by omega)).1
    have e1 : (((q + 1) * p : Nat) : Int) = (q : Int) * p + p := by push_cast; rw [Int.add_mul, Int.one_mul]
    by_cases h : (q + 1) * p ≤ 120
    · have hi := ih (q + 1) (by omega)
      rw [show (((q + 1 : Nat) : Int) * p) = (q : Int) * p + p by rw [← e1]; push_cast; rfl] at hi
      have h0 := spec_l1 b p l hl hp hp2 q h (decide (rest b p l q)) (fun hc => by
        have : decide (rest b p l q) = decide (rest b p l (q + 1)) := by rw [decide_eq_decide, rest_succ hp h]; exact ⟨fun h => h.2, fun h => ⟨hc, h⟩⟩
        rw [this]; exact hi) (fun hc => by simp only [decide_eq_false_iff_not, rest_succ hp h]; exact fun h => hc h.1) p 0 (by omega)
      rw [cnt_zero] at h0
      refine Ev.step (fun k => ?_) h0
      simp only [zu.l0]
      rw [w64 (by omega) (by omega), if_pos (by omega)]
      rfl
    · have hr : rest b p l q := rest_no (by omega)
      refine Ev.step (f := fun _ => some true) (fun k => ?_) (by simp only [hr, decide_true]; exact Ev.now _)
      simp only [zu.l0]
      rw [w64 (by omega) (by omega), if_neg (by omega)]
theorem impl_l0 : ∀ d (q : Nat), q + d = 121 → Ev (fun k => zx.l0 k l ((q : Int) * p) b p) (decide (rest b p l q)) := by
  intro d
  induction d with
  | zero =>
    intro q hq
    obtain rfl : q = 121 := by omega
    have hr : rest b p l 121 := fun j h1 h2 h3 => absurd h2 (by omega)
    refine Ev.step (f := fun _ => some true) (fun k => ?_) (by simp only [hr, decide_true]; exact Ev.now _)
    simp only [zx.l0]
    rw [w64 (by omega) (by omega), if_neg (by omega)]
  | succ d ih =>
    intro q hq
    have hb1 : (q : Int) * p ≤ 121 * 12 := (mul_bd (by omega) (by omega) (by omega) (by omega)).2
    have hb0 : (0 : Int) ≤ (q : Int) * p := (mul_bd (A := 121) (B := 12) (by omega) (by omega) (by omega) (by omega)).1
    have e1 : (((q + 1) * p : Nat) : Int) = (q : Int) * p + p := by push_cast; rw [Int.add_mul, Int.one_mul]
    by_cases h : (q + 1) * p ≤ 120
    · have hi := ih (q + 1) (by omega)
      rw [show (((q + 1 : Nat) : Int) * p) = (q : Int) * p + p by rw [← e1]; push_cast; rfl] at hi
      have h0 := impl_l1 b p l hl hp hp2 q h (decide (rest b p l q)) (fun hc => by
        have : decide (rest b p l q) = decide (rest b p l (q + 1)) := by rw [decide_eq_decide, rest_succ hp h]; exact ⟨fun h => h.2, fun h => ⟨hc, h⟩⟩
        rw [this]; exact hi) (fun hc => by simp only [decide_eq_false_iff_not, rest_succ hp h]; exact fun h => hc h.1) p 0 (by omega)
      rw [cnt_zero] at h0
      refine Ev.step (fun k => ?_) h0
      have hqq : q * p + p ≤ 120 := by rw [← Nat.succ_mul]; exact h
      have ec : ((q * p : Nat) : Int) = (q : Int) * p := by push_cast; rfl
      have et : ((q : Int) * p + p).toNat = q * p + p := by omega
      have et2 : ((q : Int) * p).toNat = q * p := by omega
      simp only [zx.l0]
      rw [w64 (by omega) (by omega), if_pos (by omega), if_pos (by omega), if_pos (by omega), if_pos (by omega), et, et2]
      have hll : ((l.take (q * p + p)).drop (q * p)).length = p := by simp; omega
      rw [hll]
      rfl
    · have hr : rest b p l q := rest_no (by omega)
      refine Ev.step (f := fun _ => some true) (fun k => ?_) (by simp only [hr, decide_true]; exact Ev.now _)
      simp only [zx.l0]
      rw [w64 (by omega) (by omega), if_neg (by omega)]
end
def PV (b p : Int) (l : List Bool) : Prop := SV b p ∧ l.length = 120 ∧ rest b.toNat p.toNat l 0
instance (b p : Int) (l : List Bool) : Decidable (PV b p l) := by unfold PV; infer_instance
theorem spec_pat (b p : Int) (l : List Bool) : Ev (fun k => zu.f k b p l) (decide (PV b p l)) := by
  by_cases h1 : SV b p
  · have h1' := h1
    unfold SV at h1'
    by_cases h2 : l.length = 120
    · have h := spec_l0 b.toNat p.toNat l h2 (by omega) (by omega) 121 0 (by omega)
      have e : decide (PV b p l) = decide (rest b.toNat p.toNat l 0) := by rw [decide_eq_decide]; exact ⟨fun h => h.2.2, fun h => ⟨h1, h2, h⟩⟩
      rw [e]
      have eb : ((b.toNat : Nat) : Int) = b := by omega
      have ep : ((p.toNat : Nat) : Int) = p := by omega
      rw [eb, ep] at h
      have hs : Ev (fun k => zu.j0 k l ((l.length : Int) != 120) b p) (decide (rest b.toNat p.toNat l 0)) := by
        refine Ev.step (f := fun k => zu.l0 k l (((0 : Nat) : Int) * p) b p) (fun k => ?_) h
        simp only [zu.j0]
        rw [if_neg (by simp [h2])]
        simp
      refine Ev.congr (fun k => ?_) hs
      unfold zu.f
      rw [ssv_f]
      simp only [Option.bind_some, h1, decide_true, if_true]
    · have e : decide (PV b p l) = false := by rw [decide_eq_false_iff_not]; exact fun h => h2 h.2.1
      rw [e]
      have hs : Ev (fun k => zu.j0 k l ((l.length : Int) != 120) b p) false := by
        refine Ev.step (f := fun _ => some false) (fun k => ?_) (Ev.now _)
        simp only [zu.j0]
        rw [if_pos (by simp; omega)]
      refine Ev.congr (fun k => ?_) hs
      unfold zu.f
      rw [ssv_f]
      simp only [Option.bind_some, h1, decide_true, if_true]
  · have e : decide (PV b p l) = false := by rw [decide_eq_false_iff_not]; exact fun h => h1 h.1
    rw [e]
    have hs : Ev (fun k => zu.j0 k l true b p) false := Ev.step (f := fun _ => some false) (fun k => by simp [zu.j0]) (Ev.now _)
    refine Ev.congr (fun k => ?_) hs
    unfold zu.f
    rw [ssv_f]
    simp [h1]
theorem impl_pat (b p : Int) (l : List Bool) : Ev (fun k => zx.f k b p l) (decide (PV b p l)) := by
  by_cases h1 : SV b p
  · have h1' := h1
    unfold SV at h1'
    by_cases h2 : l.length = 120
    · have h := impl_l0 b.toNat p.toNat l h2 (by omega) (by omega) 121 0 (by omega)
      have e : decide (PV b p l) = decide (rest b.toNat p.toNat l 0) := by rw [decide_eq_decide]; exact ⟨fun h => h.2.2, fun h => ⟨h1, h2, h⟩⟩
      rw [e]
      have eb : ((b.toNat : Nat) : Int) = b := by omega
      have ep : ((p.toNat : Nat) : Int) = p := by omega
      rw [eb, ep] at h
      have hs : Ev (fun k => zx.j0 k l ((l.length : Int) != 120) b p) (decide (rest b.toNat p.toNat l 0)) := by
        refine Ev.step (f := fun k => zx.l0 k l (((0 : Nat) : Int) * p) b p) (fun k => ?_) h
        simp only [zx.j0]
        rw [if_neg (by simp [h2])]
        simp
      refine Ev.congr (fun k => ?_) hs
      unfold zx.f
      rw [sv_f]
      simp only [Option.bind_some, h1, decide_true, if_true]
    · have e : decide (PV b p l) = false := by rw [decide_eq_false_iff_not]; exact fun h => h2 h.2.1
      rw [e]
      have hs : Ev (fun k => zx.j0 k l ((l.length : Int) != 120) b p) false := by
        refine Ev.step (f := fun _ => some false) (fun k => ?_) (Ev.now _)
        simp only [zx.j0]
        rw [if_pos (by simp; omega)]
      refine Ev.congr (fun k => ?_) hs
      unfold zx.f
      rw [sv_f]
      simp only [Option.bind_some, h1, decide_true, if_true]
  · have e : decide (PV b p l) = false := by rw [decide_eq_false_iff_not]; exact fun h => h1 h.1
    rw [e]
    have hs : Ev (fun k => zx.j0 k l true b p) false := Ev.step (f := fun _ => some false) (fun k => by simp [zx.j0]) (Ev.now _)
    refine Ev.congr (fun k => ?_) hs
    unfold zx.f
    rw [sv_f]
    simp [h1]
end Go.Proofs.Ytkdfjomhichkoaa.Pat
namespace Go.Proofs.Ytkdfjomhichkoaa.Edf
structure Sch (n : Nat) (rel ex : Nat → Int) (L : Nat → Nat → Int) (r : Nat → Int) : Prop where
  start : ∀ i, i < n → L 0 i = ex i
  step : ∀ t i, i < n → L (t + 1) i = L t i - (if r t = (i : Int) then 1 else 0)
  rng : ∀ t, r t = -1 ∨ ∃ i, i < n ∧ r t = (i : Int) ∧ rel i ≤ (t : Int) ∧ 0 < L t i
  pos : ∀ i, i < n → 1 ≤ ex i
section
variable {n : Nat} {rel ex : Nat → Int} {L : Nat → Nat → Int} {r : Nat → Int}
theorem Sch.mono (h : Sch n rel ex L r) (i : Nat) (hi : i < n) : ∀ s t, s ≤ t → L t i ≤ L s i := by
  intro s t hst
  induction t with
  | zero => obtain rfl : s = 0 := by omega
            exact Int.le_refl _
  | succ t ih =>
    by_cases e : s = t + 1
    · subst e; exact Int.le_refl _
    · have := ih (by omega)
      rw [h.step t i hi]
      split <;> omega
theorem Sch.le_ex (h : Sch n rel ex L r) (t i : Nat) (hi : i < n) : L t i ≤ ex i := by
  rw [← h.start i hi]
  exact h.mono i hi 0 t (by omega)
theorem Sch.whole (h : Sch n rel ex L r) (i : Nat) (hi : i < n) : ∀ t : Nat, (t : Int) ≤ rel i → L t i = ex i := by
  intro t
  induction t with
  | zero => intro _; exact h.start i hi
  | succ t ih =>
    intro ht
    rw [h.step t i hi, ih (by omega), if_neg]
    · omega
    · intro e
      rcases h.rng t with h2 | ⟨j, hj, h2, h3, _⟩
      · omega
      · have : i = j := by omega
        subst this; omega
end
section
variable {n m : Nat} {rel dl ex : Nat → Int} {L : Nat → Nat → Int} {r : Nat → Int} {tk : Nat → Nat} {P C : Nat → Int}
theorem started (h : Sch n rel ex L r) (hnp : ∀ t i, i < n → r t = (i : Int) → 0 < L (t + 1) i → r (t + 1) = (i : Int)) (i : Nat) (hi : i < n) :
    ∀ t, 0 < L t i → L t i < ex i → r t = (i : Int) ∧ 1 ≤ t ∧ r (t - 1) = (i : Int) := by
  intro t
  induction t with
  | zero => intro _ h2; rw [h.start i hi] at h2; omega
  | succ t ih =>
    intro h1 h2
    by_cases e : r t = (i : Int)
    · exact ⟨hnp t i hi e h1, by omega, by simpa using e⟩
    · have := h.step t i hi
      rw [if_neg e] at this
      have := (ih (by omega) (by omega)).1
      exact absurd this e
end
end Go.Proofs.Ytkdfjomhichkoaa.Edf
namespace Go.Proofs.Ytkdfjomhichkoaa.Sim
open Go.RowKit Go.Proofs.Ytkdfjomhichkoaa.Gen Go.Proofs.Ytkdfjomhichkoaa.Edf Go.Proofs.YtkdfjomhichkoaaW.PrintWords Go.Proofs.YtkdfjomhichkoaaW.PrintLast
def bst (ok : Nat → Bool) (key : Nat → Int) : Nat → Int
  | 0 => -1
  | n + 1 => if ok n = true ∧ (bst ok key n < 0 ∨ key n < key (bst ok key n).toNat) then (n : Int) else bst ok key n
theorem bst_sp (ok : Nat → Bool) (key : Nat → Int) : ∀ n, (bst ok key n = -1 ∧ ∀ i, i < n → ok i = false) ∨
    ∃ i : Nat, i < n ∧ bst ok key n = (i : Int) ∧ ok i = true ∧ (∀ j, j < n → ok j = true → key i ≤ key j) ∧ ∀ j, j < i → ok j = true → key i < key j := by
  intro n
  induction n with
  | zero => exact Or.inl ⟨rfl, fun i h => by omega⟩
  | succ n ih =>
    rw [bst]
    by_cases h : ok n = true ∧ (bst ok key n < 0 ∨ key n < key (bst ok key n).toNat)
    · rw [if_pos h]
      right
      refine ⟨n, by omega, rfl, h.1, ?_⟩
      rcases ih with ⟨h1, h2⟩ | ⟨i, hi, h1, h2, h3, _⟩
      · refine ⟨fun j hj ho => ?_, fun j hj ho => ?_⟩
        · by_cases e : j = n
          · subst e; exact Int.le_refl _
          · rw [h2 j (by omega)] at ho; cases ho
        · rw [h2 j hj] at ho; cases ho
      · have hlt : key n < key i := by
          rcases h.2 with h4 | h4
          · omega
          · rw [h1] at h4; simpa using h4
        refine ⟨fun j hj ho => ?_, fun j hj ho => ?_⟩
        · by_cases e : j = n
          · subst e; exact Int.le_refl _
          · have := h3 j (by omega) ho; omega
        · have := h3 j hj ho; omega
    · rw [if_neg h]
      rcases ih with ⟨h1, h2⟩ | ⟨i, hi, h1, h2, h3, h4⟩
      · left
        refine ⟨h1, fun j hj => ?_⟩
        by_cases e : j = n
        · subst e
          cases ho : ok j with
          | false => rfl
          | true => exact absurd ⟨ho, Or.inl (by omega)⟩ h
        · exact h2 j (by omega)
      · right
        refine ⟨i, by omega, h1, h2, fun j hj ho => ?_, h4⟩
        by_cases e : j = n
        · subst e
          apply Classical.byContradiction
          intro hc
          exact h ⟨ho, Or.inr (by rw [h1]; simpa using (by omega : key j < key i))⟩
        · exact h3 j (by omega) ho
theorem bst_congr {ok ok' : Nat → Bool} {key key' : Nat → Int} {n : Nat} (h1 : ∀ i, i < n → ok i = ok' i) (h2 : ∀ i, i < n → key i = key' i) : bst ok key n = bst ok' key' n := by
  induction n with
  | zero => rfl
  | succ n ih =>
    have e := ih (fun i hi => h1 i (by omega)) (fun i hi => h2 i (by omega))
    rw [bst, bst, e, h1 n (by omega), h2 n (by omega)]
    have hb := bst_sp ok' key' n
    by_cases hneg : bst ok' key' n < 0
    · simp only [hneg, true_or]
    · rcases hb with ⟨h3, _⟩ | ⟨i, hi, h3, _⟩
      · omega
      · have : key (bst ok' key' n).toNat = key' (bst ok' key' n).toNat := by rw [h3]; exact h2 _ (by simpa using (by omega : i < n + 1))
        rw [this]
def stepL (left : List Int) (i : Int) : List Int := if i < 0 then left else left.set i.toNat (rd left i - 1)
section
variable (pick : List Int → Nat → Int) (ex : List Int)
def stL : Nat → List Int
  | 0 => ex
  | t + 1 => stepL (stL t) (pick (stL t) t)
def runL (t : Nat) : Int := pick (stL pick ex t) t
def finL : Nat → List Int
  | 0 => List.replicate ex.length (-1)
  | t + 1 => if 0 ≤ runL pick ex t ∧ rd (stL pick ex (t + 1)) (runL pick ex t) = 0 then (finL t).set (runL pick ex t).toNat ((t : Int) + 1) else finL t
end
theorem rd_set_eq (l : List Int) (i : Nat) (x : Int) (h : i < l.length) : rd (l.set i x) (i : Int) = x := by
  rw [rd_at _ i (by simpa using h)]
  simp
theorem rd_set_ne (l : List Int) (i a : Nat) (x : Int) (h : a ≠ i) : rd (l.set i x) (a : Int) = rd l (a : Int) := by
  unfold rd
  rw [List.getD_eq_getElem?_getD, List.getD_eq_getElem?_getD, Int.toNat_natCast, List.getElem?_set_ne (by omega)]
def Picks (rel : Nat → Int) (n : Nat) (pick : List Int → Nat → Int) : Prop := ∀ left t, left.length = n → pick left t = -1 ∨ ∃ i, i < n ∧ pick left t = ((i : Nat) : Int) ∧ rel i ≤ (t : Int) ∧ 0 < rd left (i : Int)
section
variable {pick : List Int → Nat → Int} {ex : List Int} {rel : Nat → Int}
theorem stepL_len (left : List Int) (i : Int) : (stepL left i).length = left.length := by
  unfold stepL; split
  · rfl
  · rw [List.length_set]
theorem stL_len : ∀ t, (stL pick ex t).length = ex.length
  | 0 => rfl
  | t + 1 => by rw [stL, stepL_len, stL_len t]
theorem finL_len : ∀ t, (finL pick ex t).length = ex.length
  | 0 => by rw [finL, List.length_replicate]
  | t + 1 => by
    rw [finL]; split
    · rw [List.length_set, finL_len t]
    · exact finL_len t
theorem sch_of (hp : Picks rel ex.length pick) (hpos : ∀ i, i < ex.length → 1 ≤ rd ex ((i : Nat) : Int)) : Sch ex.length rel (fun i => rd ex (i : Int)) (fun t i => rd (stL pick ex t) (i : Int)) (runL pick ex) := by
  refine ⟨fun i _ => rfl, fun t i hi => ?_, fun t => hp _ t (stL_len t), hpos⟩
  have hl : (stL pick ex t).length = ex.length := stL_len t
  show rd (stL pick ex (t + 1)) (i : Int) = rd (stL pick ex t) (i : Int) - (if runL pick ex t = (i : Int) then 1 else 0)
  rw [stL]
  show rd (stepL (stL pick ex t) (runL pick ex t)) (i : Int) = _
  rcases hp _ t hl with h | ⟨j, hj, h, _, _⟩
  · have h : runL pick ex t = -1 := h
    unfold stepL
    rw [h, if_pos (by omega), if_neg (by omega)]; omega
  · have h : runL pick ex t = (j : Int) := h
    unfold stepL
    rw [h, if_neg (by omega), Int.toNat_natCast]
    by_cases e : j = i
    · subst e
      rw [rd_set_eq _ _ _ (by omega), if_pos rfl]
    · rw [rd_set_ne _ _ _ _ (by omega), if_neg (by omega)]; omega
end
end Go.Proofs.Ytkdfjomhichkoaa.Sim
namespace Go.Proofs.Ytkdfjomhichkoaa.Tm
open Go.RowKit Go.Proofs.Ytkdfjomhichkoaa.P Go.Proofs.Ytkdfjomhichkoaa.Base Go.Proofs.Ytkdfjomhichkoaa.Gen Go.Proofs.Ytkdfjomhichkoaa.Alive Go.Proofs.Ytkdfjomhichkoaa.Set Go.Proofs.YtkdfjomhichkoaaW.PrintWords Go.Proofs.YtkdfjomhichkoaaW.PrintLast
def hy (l : List Task) : Nat := l.foldl (fun h t => Nat.lcm h t.f2.toNat) 1
def AllV (l : List Task) : Prop := ∀ t ∈ l, TVt t
theorem _root_.Go.Proofs.Ytkdfjomhichkoaa.Set.SetOk.all {l : List Task} (h : SetOk l) : AllV l := h.2
theorem AllV.take {l : List Task} (h : AllV l) (i : Nat) : AllV (l.take i) := fun t ht => h t (List.mem_of_mem_take ht)
end Go.Proofs.Ytkdfjomhichkoaa.Tm
namespace Go.Proofs.Ytkdfjomhichkoaa.Jobs
open Go.RowKit Go.Proofs.Ytkdfjomhichkoaa.P Go.Proofs.Ytkdfjomhichkoaa.Base Go.Proofs.Ytkdfjomhichkoaa.Gen Go.Proofs.Ytkdfjomhichkoaa.Alive Go.Proofs.Ytkdfjomhichkoaa.Set Go.Proofs.Ytkdfjomhichkoaa.Tm Go.Proofs.Ytkdfjomhichkoaa.Edf Go.Proofs.Ytkdfjomhichkoaa.Sim Go.Proofs.YtkdfjomhichkoaaW.PrintWords Go.Proofs.YtkdfjomhichkoaaW.PrintLast
abbrev Job := S34
def rj (l : List Job) (i : Nat) : Job := ze l (i : Int)
def tk (l : List Task) (i : Int) : Task := zbf l i
theorem rj_at (l : List Job) (i : Nat) (h : i < l.length) : rj l i = l[i] := by
  unfold rj ze
  rw [List.getD_eq_getElem?_getD, Int.toNat_natCast, List.getElem?_eq_getElem h]
  rfl
theorem tk_at (l : List Task) (i : Nat) (h : i < l.length) : tk l (i : Int) = l[i] := by
  unfold tk zbf
  rw [List.getD_eq_getElem?_getD, Int.toNat_natCast, List.getElem?_eq_getElem h]
  rfl
def One (l : List Task) (js : List Job) (i : Nat) : Prop :=
  (0 ≤ (rj js i).f0 ∧ (rj js i).f0 < (l.length : Int)) ∧ (0 ≤ (rj js i).f1 ∧ (rj js i).f1 ≤ 119) ∧ (1 ≤ (rj js i).f3 ∧ (rj js i).f3 ≤ (tk l (rj js i).f0).f0) ∧
    (rj js i).f2 = (rj js i).f1 + (tk l (rj js i).f0).f1 ∧
    (0 < i → (rj js (i - 1)).f1 < (rj js i).f1 ∨ ((rj js (i - 1)).f1 = (rj js i).f1 ∧ (rj js (i - 1)).f0 < (rj js i).f0)) ∧
    ∀ p, p < i → (rj js p).f0 = (rj js i).f0 → (rj js p).f1 + (tk l (rj js i).f0).f2 ≤ (rj js i).f1
def JL (l : List Task) (js : List Job) : Prop := SetOk l ∧ js.length ≤ 60 ∧ ∀ i, i < js.length → One l js i
noncomputable instance (l : List Task) (js : List Job) : Decidable (JL l js) := Classical.propDecidable _
section
variable {l : List Task} {js : List Job}
def rel (js : List Job) (i : Nat) : Int := (rj js i).f1
def dl (js : List Job) (i : Nat) : Int := (rj js i).f2
def exs (js : List Job) : List Int := js.map (fun j => j.f3)
def tki (js : List Job) (i : Nat) : Nat := (rj js i).f0.toNat
theorem zdl (js : List Job) : (exs js).length = js.length := by unfold exs; rw [List.length_map]
theorem exs_rd (js : List Job) (i : Nat) (h : i < js.length) : rd (exs js) (i : Int) = (rj js i).f3 := by
  rw [rd_at _ i (by rw [zdl]; exact h), rj_at js i h]
  unfold exs
  rw [List.getElem_map]
theorem JL.pos (h : JL l js) : ∀ i, i < (exs js).length → 1 ≤ rd (exs js) ((i : Nat) : Int) := fun i hi => by
  rw [zdl] at hi
  rw [exs_rd js i hi]
  exact (h.2.2 i hi).2.2.1.1
theorem JL.tkm (h : JL l js) (i : Nat) (hi : i < js.length) : tki js i < l.length ∧ ((tki js i : Nat) : Int) = (rj js i).f0 := by
  have := (h.2.2 i hi).1
  unfold tki
  omega
def P (l : List Task) (k : Nat) : Int := (tk l (k : Int)).f2
def C (l : List Task) (k : Nat) : Int := (tk l (k : Int)).f0
def D (l : List Task) (k : Nat) : Int := (tk l (k : Int)).f1
theorem task_ok (hs : SetOk l) (k : Nat) (hk : k < l.length) : 1 ≤ C l k ∧ C l k ≤ 8 ∧ C l k ≤ D l k ∧ D l k ≤ P l k ∧ P l k ≤ 12 := by
  have := hs.2 _ (List.getElem_mem hk)
  unfold C D P
  rw [tk_at l k hk]
  exact this
theorem JL.ex_le (h : JL l js) (i : Nat) (hi : i < js.length) : rd (exs js) (i : Int) ≤ C l (tki js i) := by
  have h1 := (h.2.2 i hi).2.2.1.2
  have h2 := (h.tkm i hi).2
  rw [exs_rd js i hi]
  unfold C
  rw [h2]; exact h1
end
def rdyb (js : List Job) (left : List Int) (t : Nat) (i : Nat) : Bool := decide ((rj js i).f1 ≤ (t : Int) ∧ 0 < rd left (i : Int))
def edfp (js : List Job) (left : List Int) (t : Nat) : Int := bst (rdyb js left t) (dl js) js.length
def supp (js : List Job) (on : Nat → Bool) (left : List Int) (t : Nat) : Int := if on t = true then edfp js left t else -1
theorem edfp_sp (js : List Job) (left : List Int) (t : Nat) : (edfp js left t = -1 ∧ ∀ i, i < js.length → rel js i ≤ (t : Int) → rd left (i : Int) ≤ 0) ∨
    ∃ i : Nat, i < js.length ∧ edfp js left t = (i : Int) ∧ rel js i ≤ (t : Int) ∧ 0 < rd left (i : Int) ∧ ∀ j, j < js.length → rel js j ≤ (t : Int) → 0 < rd left (j : Int) → dl js i ≤ dl js j := by
  rcases bst_sp (rdyb js left t) (dl js) js.length with ⟨h1, h2⟩ | ⟨i, hi, h1, h2, h3, _⟩
  · left
    refine ⟨h1, fun i hi hr => ?_⟩
    have := h2 i hi
    unfold rdyb at this
    rw [decide_eq_false_iff_not] at this
    unfold rel at hr
    omega
  · right
    unfold rdyb at h2
    have h2 := of_decide_eq_true h2
    refine ⟨i, hi, h1, h2.1, h2.2, fun j hj hr hl => h3 j hj ?_⟩
    unfold rdyb
    exact decide_eq_true ⟨hr, hl⟩
theorem edfp_picks (js : List Job) : Picks (rel js) (exs js).length (edfp js) := fun left t _ => by
  rw [zdl]
  rcases edfp_sp js left t with ⟨h, _⟩ | ⟨i, hi, h1, h2, h3, _⟩
  · exact Or.inl h
  · exact Or.inr ⟨i, hi, h1, h2, h3⟩
theorem supp_picks (js : List Job) (on : Nat → Bool) : Picks (rel js) (exs js).length (supp js on) := fun left t hl => by
  unfold supp
  split
  · exact edfp_picks js left t hl
  · exact Or.inl rfl
end Go.Proofs.Ytkdfjomhichkoaa.Jobs
namespace Go.Proofs.Ytkdfjomhichkoaa.Leg
open Go.RowKit Go.Proofs.Ytkdfjomhichkoaa.P Go.Proofs.Ytkdfjomhichkoaa.Base Go.Proofs.Ytkdfjomhichkoaa.Gen Go.Proofs.Ytkdfjomhichkoaa.Alive Go.Proofs.Ytkdfjomhichkoaa.Set Go.Proofs.Ytkdfjomhichkoaa.Tm Go.Proofs.Ytkdfjomhichkoaa.Edf Go.Proofs.Ytkdfjomhichkoaa.Sim Go.Proofs.Ytkdfjomhichkoaa.Jobs Go.Proofs.YtkdfjomhichkoaaW.PrintWords Go.Proofs.YtkdfjomhichkoaaW.PrintLast
theorem lastOf_sp (js : List Job) (k : Int) : ∀ i, (lastOf js i k = none ∧ ∀ p, p < i → (rj js p).f0 ≠ k) ∨ ∃ p, p < i ∧ (rj js p).f0 = k ∧ lastOf js i k = some (rj js p).f1 ∧ ∀ q, p < q → q < i → (rj js q).f0 ≠ k := by
  intro i
  induction i with
  | zero => exact Or.inl ⟨rfl, fun p h => by omega⟩
  | succ i ih =>
    rw [lastOf]
    by_cases h : (jrd js i).f0 = k
    · rw [if_pos h]
      exact Or.inr ⟨i, by omega, h, rfl, fun q h1 h2 => by omega⟩
    · rw [if_neg h]
      have h' : (rj js i).f0 ≠ k := h
      rcases ih with ⟨h1, h2⟩ | ⟨p, h1, h2, h3, h4⟩
      · refine Or.inl ⟨h1, fun p hp => ?_⟩
        by_cases e : p = i
        · subst e; exact h'
        · exact h2 p (by omega)
      · refine Or.inr ⟨p, by omega, h2, h3, fun q h5 h6 => ?_⟩
        by_cases e : q = i
        · subst e; exact h'
        · exact h4 q h5 (by omega)
def Loc (l : List Task) (js : List Job) (i : Nat) : Prop :=
  (0 ≤ (rj js i).f0 ∧ (rj js i).f0 < (l.length : Int)) ∧ (0 ≤ (rj js i).f1 ∧ (rj js i).f1 ≤ 119) ∧ (1 ≤ (rj js i).f3 ∧ (rj js i).f3 ≤ (tk l (rj js i).f0).f0) ∧
    (0 < i → (rj js (i - 1)).f1 < (rj js i).f1 ∨ ((rj js (i - 1)).f1 = (rj js i).f1 ∧ (rj js (i - 1)).f0 < (rj js i).f0))
theorem one_loc {l : List Task} {js : List Job} {i : Nat} (h : One l js i) : Loc l js i := ⟨h.1, h.2.1, h.2.2.1, h.2.2.2.2.1⟩
theorem mono_rel {l : List Task} {js : List Job} {n : Nat} (h : ∀ i, i < n → Loc l js i) : ∀ q p, p ≤ q → q < n → (rj js p).f1 ≤ (rj js q).f1 := by
  intro q
  induction q with
  | zero => intro p hp _; obtain rfl : p = 0 := by omega
            exact Int.le_refl _
  | succ q ih =>
    intro p hp hq
    by_cases e : p = q + 1
    · subst e; exact Int.le_refl _
    · have h1 := ih p (by omega) (by omega)
      have h2 := (h (q + 1) hq).2.2.2 (by omega)
      rw [Nat.add_sub_cancel] at h2
      omega
theorem dist_iff {l : List Task} {js : List Job} {i n : Nat} (hi : i < n) (h : ∀ p, p < n → Loc l js p) :
    (∀ p, p < i → (rj js p).f0 = (rj js i).f0 → (rj js p).f1 + (tk l (rj js i).f0).f2 ≤ (rj js i).f1) ↔ ∀ b, lastOf js i (rj js i).f0 = some b → b + (tk l (rj js i).f0).f2 ≤ (rj js i).f1 := by
  constructor
  · intro hh b hb
    rcases lastOf_sp js (rj js i).f0 i with ⟨h1, _⟩ | ⟨p, h1, h2, h3, _⟩
    · rw [h1] at hb; cases hb
    · rw [h3] at hb
      obtain rfl := Option.some.inj hb
      exact hh p h1 h2
  · intro hh p hp he
    rcases lastOf_sp js (rj js i).f0 i with ⟨_, h2⟩ | ⟨q, h1, h2, h3, h4⟩
    · exact absurd he (h2 p hp)
    · have h5 := hh _ h3
      have h6 : p ≤ q := by
        apply Classical.byContradiction
        intro hc
        exact h4 p (by omega) hp he
      have := mono_rel h q p h6 (by omega)
      omega
theorem tk_ok {l : List Task} (hs : SetOk l) (k : Int) (h0 : 0 ≤ k) (h1 : k < (l.length : Int)) : 1 ≤ (tk l k).f0 ∧ (tk l k).f0 ≤ 8 ∧ (tk l k).f0 ≤ (tk l k).f1 ∧ (tk l k).f1 ≤ (tk l k).f2 ∧ (tk l k).f2 ≤ 12 := by
  obtain ⟨n, rfl⟩ := Int.eq_ofNat_of_zero_le h0
  have hn : n < l.length := by omega
  rw [tk_at l n hn]
  exact hs.2 _ (List.getElem_mem hn)
theorem allB_iff {p : Nat → Bool} : ∀ {n : Nat}, allB p n = true ↔ ∀ i, i < n → p i = true := by
  intro n
  constructor
  · exact fun h => allB_true h
  · intro h
    cases e : allB p n with
    | true => rfl
    | false =>
      have key : ∀ m, m ≤ n → allB p m = true := by
        intro m
        induction m with
        | zero => intro _; rfl
        | succ m ih => intro hm; rw [allB, ih (by omega), h m (by omega)]; rfl
      rw [key n (Nat.le_refl _)] at e
      cases e
theorem ordOk_iff (l : List Task) (js : List Job) (i : Nat) : ordOk l js i = true ↔ Loc l js i := by
  unfold ordOk Loc
  have e : jrd js i = rj js i := rfl
  have e2 : jrd js (i - 1) = rj js (i - 1) := rfl
  rw [Bool.and_eq_true, Bool.and_eq_true, Bool.and_eq_true, Bool.or_eq_true]
  unfold inRng relOk exOk bhd
  simp only [decide_eq_true_eq, Bool.not_eq_true', Bool.or_eq_false_iff, Bool.and_eq_false_iff, decide_eq_false_iff_not, e, e2]
  have e3 : trd l (rj js i).f0 = tk l (rj js i).f0 := rfl
  rw [e3]
  constructor
  · rintro ⟨⟨⟨h1, h2⟩, h3⟩, h4⟩
    refine ⟨by omega, h2, h3, fun h0 => ?_⟩
    rcases h4 with h4 | ⟨h4, h5⟩
    · omega
    · rcases h5 with h5 | h5 <;> omega
  · rintro ⟨h1, h2, h3, h4⟩
    refine ⟨⟨⟨by omega, h2⟩, h3⟩, ?_⟩
    by_cases h0 : i = 0
    · exact Or.inl h0
    · right
      have := h4 (by omega)
      constructor
      · omega
      · by_cases e4 : (rj js (i - 1)).f1 = (rj js i).f1
        · right; omega
        · left; exact e4
theorem spcOk_iff {l : List Task} {js : List Job} {i n : Nat} (hs : SetOk l) (hi : i < n) (h : ∀ p, p < n → Loc l js p) : spcOk l js i = true ↔ ∀ b, lastOf js i (rj js i).f0 = some b → b + (tk l (rj js i).f0).f2 ≤ (rj js i).f1 := by
  unfold spcOk
  have e : jrd js i = rj js i := rfl
  have e3 : trd l (rj js i).f0 = tk l (rj js i).f0 := rfl
  rw [e, e3]
  have hb := (h i hi).2.1
  have ht := tk_ok hs _ (h i hi).1.1 (h i hi).1.2
  rcases lastOf_sp js (rj js i).f0 i with ⟨h1, _⟩ | ⟨p, h1, _, h3, _⟩
  · rw [h1]
    exact ⟨fun _ b hb => (by cases hb), fun _ => rfl⟩
  · rw [h3]
    have hp := (h p (by omega)).2.1
    simp only [Bool.not_eq_true', decide_eq_false_iff_not]
    rw [w64 (by omega) (by omega)]
    constructor
    · intro h5 b hb
      obtain rfl := Option.some.inj hb
      omega
    · intro h5
      have := h5 _ rfl
      omega
theorem leg_iff {l : List Task} {js : List Job} (hs : SetOk l) : legB l js = true ↔ JL l js := by
  unfold legB
  by_cases ho : ordB l js = true
  · rw [if_pos ho]
    unfold ordB at ho
    rw [Bool.and_eq_true, decide_eq_true_eq, allB_iff] at ho
    have hloc : ∀ p, p < js.length → Loc l js p := fun p hp => (ordOk_iff l js p).1 (ho.1 p hp)
    have hlate : (!(js.any (lateB l))) = true ↔ ∀ i, i < js.length → (rj js i).f2 = (rj js i).f1 + (tk l (rj js i).f0).f1 := by
      rw [Bool.not_eq_true', List.any_eq_false]
      have one : ∀ i, i < js.length → (¬ lateB l (rj js i) = true ↔ (rj js i).f2 = (rj js i).f1 + (tk l (rj js i).f0).f1) := fun i hi => by
        have hb := (hloc i hi).2.1
        have ht := tk_ok hs _ (hloc i hi).1.1 (hloc i hi).1.2
        unfold lateB
        have e3 : trd l (rj js i).f0 = tk l (rj js i).f0 := rfl
        rw [e3, w64 (by omega) (by omega), bne_iff_ne, Ne, Classical.not_not]
      constructor
      · intro hh i hi
        rw [← one i hi, rj_at js i hi]
        exact hh _ (List.getElem_mem hi)
      · intro hh x hx
        obtain ⟨i, hi, rfl⟩ := List.getElem_of_mem hx
        rw [← rj_at js i hi]
        exact (one i hi).2 (hh i hi)
    by_cases hp : spcB l js = true
    · rw [if_pos hp, hlate]
      unfold spcB at hp
      rw [allB_iff] at hp
      constructor
      · intro hh
        refine ⟨hs, by omega, fun i hi => ⟨(hloc i hi).1, (hloc i hi).2.1, (hloc i hi).2.2.1, hh i hi, (hloc i hi).2.2.2, ?_⟩⟩
        exact (dist_iff hi hloc).2 ((spcOk_iff hs hi hloc).1 (hp i hi))
      · intro hh i hi
        exact (hh.2.2 i hi).2.2.2.1
    · rw [if_neg hp]
      constructor
      · intro h; cases h
      · intro hh
        refine absurd ?_ hp
        unfold spcB
        rw [allB_iff]
        intro i hi
        exact (spcOk_iff hs hi hloc).2 ((dist_iff hi hloc).1 (hh.2.2 i hi).2.2.2.2.2)
  · rw [if_neg ho]
    constructor
    · intro h; cases h
    · intro hh
      refine absurd ?_ ho
      unfold ordB
      rw [Bool.and_eq_true, decide_eq_true_eq, allB_iff]
      exact ⟨fun i hi => (ordOk_iff l js i).2 (one_loc (hh.2.2 i hi)), by have := hh.2.1; omega⟩
theorem impl_jl (l : List Task) (js : List Job) (hl : l.length ≤ 1000000000) (hj : js.length ≤ 1000000000) : zcp.f l js = some (decide (JL l js)) := by
  unfold zcp.f
  rw [set_f l]
  simp only [Option.bind_some]
  by_cases hs : SetOk l
  · rw [decide_eq_true hs, if_pos rfl, if_pos ⟨hl, hj⟩]
    congr 1
    rw [Bool.eq_iff_iff, leg_iff hs, decide_eq_true_eq]
  · rw [decide_eq_false hs, if_neg (by simp), decide_eq_false (fun h => hs h.1)]
end Go.Proofs.Ytkdfjomhichkoaa.Leg
namespace Go.Proofs.Ytkdfjomhichkoaa.Nps
open Go.RowKit Go.Proofs.Ytkdfjomhichkoaa.P Go.Proofs.Ytkdfjomhichkoaa.Base Go.Proofs.Ytkdfjomhichkoaa.Gen Go.Proofs.Ytkdfjomhichkoaa.Set Go.Proofs.Ytkdfjomhichkoaa.Edf Go.Proofs.Ytkdfjomhichkoaa.Sim Go.Proofs.Ytkdfjomhichkoaa.Jobs Go.Proofs.YtkdfjomhichkoaaW.PrintWords Go.Proofs.YtkdfjomhichkoaaW.PrintLast
theorem best_bst (ok : Nat → Bool) (key : Nat → Int) : ∀ n, bestD ok key n = bst ok key n
  | 0 => rfl
  | n + 1 => by rw [bestD, bst, best_bst ok key n]
def sch (js : List Job) (pick : List Int → Nat → Int) : List Int × List Int := ((List.range 120).map (runL pick (exs js)), finL pick (exs js) 120)
section
variable {pick : List Int → Nat → Int} {ex : List Int}
theorem st_idle {t : Nat} (h : runL pick ex t = -1) : stL pick ex (t + 1) = stL pick ex t ∧ finL pick ex (t + 1) = finL pick ex t := by
  have h' : pick (stL pick ex t) t = -1 := h
  constructor
  · rw [stL, h']; rfl
  · rw [finL, h]; rfl
theorem st_run {t i : Nat} (h : runL pick ex t = (i : Int)) (hi : i < ex.length) : stL pick ex (t + 1) = (stL pick ex t).set i (rd (stL pick ex t) (i : Int) - 1) ∧
    finL pick ex (t + 1) = if rd (stL pick ex t) (i : Int) - 1 = 0 then (finL pick ex t).set i ((t : Int) + 1) else finL pick ex t := by
  have h' : pick (stL pick ex t) t = (i : Int) := h
  have e : stL pick ex (t + 1) = (stL pick ex t).set i (rd (stL pick ex t) (i : Int) - 1) := by
    rw [stL, h']
    unfold stepL
    rw [if_neg (by omega), Int.toNat_natCast]
  refine ⟨e, ?_⟩
  rw [finL, h, e, rd_set_eq _ _ _ (by rw [stL_len]; exact hi), Int.toNat_natCast]
  by_cases hz : rd (stL pick ex t) (i : Int) - 1 = 0
  · rw [if_pos ⟨by omega, hz⟩, if_pos hz]
  · rw [if_neg (fun h => hz h.2), if_neg hz]
end
def Agree (js : List Job) (pk : List Int → Int → Int) (pick : List Int → Nat → Int) : Prop :=
  ∀ (dn left : List Int) (t : Nat), dn.length = js.length → left.length = js.length → (∀ i, i < js.length → rd left (i : Int) = rd (exs js) (i : Int) - rd dn (i : Int)) → pk dn (t : Int) = pick left t
theorem sim_rel {js : List Job} {pk : List Int → Int → Int} {pick : List Int → Nat → Int} {rel : Nat → Int} (ha : Agree js pk pick) (hp : Picks rel js.length pick) (hex : ∀ i, i < js.length → 1 ≤ rd (exs js) (i : Int) ∧ rd (exs js) (i : Int) ≤ 8) : ∀ t,
    (∀ i, i < js.length → rd (stL pick (exs js) t) (i : Int) = rd (exs js) (i : Int) - rd (simT pk js t).1 (i : Int)) ∧ (simT pk js t).2 = finL pick (exs js) t := by
  have hel : (exs js).length = js.length := zdl js
  have hS := sch_of (pick := pick) (ex := exs js) (rel := rel) (by rw [hel]; exact hp) (fun i hi => (hex i (by omega)).1)
  intro t
  induction t with
  | zero =>
    refine ⟨fun i hi => ?_, ?_⟩
    · rw [stL, simT, rd_at (List.replicate js.length 0) i (by simpa using hi), List.getElem_replicate]; omega
    · rw [finL, simT, hel]
  | succ t ih =>
    have hsl := simT_len pk js t
    have hstl : (stL pick (exs js) t).length = js.length := by rw [stL_len, hel]
    have hrun : pk (simT pk js t).1 (t : Int) = runL pick (exs js) t := ha _ _ t hsl.1 hstl ih.1
    rcases hp _ t hstl with h | ⟨j, hj, h, _, hpos⟩
    · have h : runL pick (exs js) t = -1 := h
      have e := st_idle h
      rw [e.1, e.2, simT_idle (by rw [hrun, h])]
      exact ih
    · have h : runL pick (exs js) t = (j : Int) := h
      have e := st_run h (by rw [hel]; exact hj)
      have hd := ih.1 j hj
      have hx := hex j hj
      have hle := hS.le_ex t j (by rw [hel]; exact hj)
      have hf3 : (jrd js j).f3 = rd (exs js) (j : Int) := (exs_rd js j hj).symm
      have es := simT_runs (pk := pk) (js := js) (t := t) (b := j) (by rw [hrun, h]) rfl hf3
      rw [w64 (x := rd (simT pk js t).1 (j : Int) + 1) (by omega) (by omega)] at es
      rw [es, e.1, e.2]
      refine ⟨fun i hi => ?_, ?_⟩
      · by_cases eij : i = j
        · subst eij
          simp only
          rw [rd_set_eq _ _ _ (by omega), rd_set_eq _ _ _ (by omega)]; omega
        · simp only
          rw [rd_set_ne _ _ _ _ eij, rd_set_ne _ _ _ _ eij]
          exact ih.1 i hi
      · simp only
        rw [ih.2]
        by_cases hz : rd (stL pick (exs js) t) (j : Int) - 1 = 0
        · rw [if_pos hz, if_pos (by omega)]
        · rw [if_neg hz, if_neg (by omega)]
theorem sim_sch {js : List Job} {pk : List Int → Int → Int} {pick : List Int → Nat → Int} {rel : Nat → Int} (ha : Agree js pk pick) (hp : Picks rel js.length pick) (hex : ∀ i, i < js.length → 1 ≤ rd (exs js) (i : Int) ∧ rd (exs js) (i : Int) ≤ 8) : simR pk js = sch js pick := by
  have hr := sim_rel ha hp hex
  unfold simR sch
  rw [(hr 120).2]
  congr 1
  apply List.map_congr_left
  intro t _
  have hsl := simT_len pk js t
  exact ha _ _ t hsl.1 (by rw [stL_len, zdl]) (hr t).1
theorem rdy_eq {js : List Job} {dn left : List Int} {t : Nat} {i : Nat} (hi : i < js.length) (h : rd left (i : Int) = rd (exs js) (i : Int) - rd dn (i : Int)) : rdyD js dn (t : Int) i = rdyb js left t i := by
  unfold rdyD rdyb
  rw [exs_rd js i hi] at h
  have e : jrd js i = rj js i := rfl
  rw [e, Bool.eq_iff_iff, Bool.and_eq_true, decide_eq_true_eq, decide_eq_true_eq, decide_eq_true_eq]
  omega
theorem edf_agree (js : List Job) : Agree js (edfD js) (edfp js) := by
  intro dn left t h1 h2 h3
  unfold edfD edfp
  rw [best_bst]
  exact bst_congr (fun i hi => rdy_eq hi (h3 i hi)) (fun i _ => rfl)
theorem exs_bd {l : List Task} {js : List Job} (h : JL l js) : ∀ i, i < js.length → 1 ≤ rd (exs js) (i : Int) ∧ rd (exs js) (i : Int) ≤ 8 := fun i hi => by
  have h1 := h.pos i (by rw [zdl]; exact hi)
  have h2 := h.ex_le i hi
  have h3 := task_ok h.1 (tki js i) (h.tkm i hi).1
  omega
theorem edf_sim {l : List Task} {js : List Job} (h : JL l js) : simR (edfD js) js = sch js (edfp js) := sim_sch (edf_agree js) (by have := edfp_picks js; rwa [zdl] at this) (exs_bd h)
def keys (js : List Job) : List Int := js.map (fun j => j.f2)
theorem keys_len (js : List Job) : (keys js).length = js.length := by unfold keys; rw [List.length_map]
theorem keys_rd (js : List Job) (i : Nat) (h : i < js.length) : rd (keys js) (i : Int) = dl js i := by
  unfold dl
  rw [rd_at _ i (by rw [keys_len]; exact h), rj_at js i h]
  unfold keys
  rw [List.getElem_map]
theorem rjT (js : List Job) (i : Nat) : ze js (i : Int) = rj js i := rfl
theorem map_take {α β : Type} (f : α → β) (l : List α) (i : Nat) (h : i < l.length) : (l.take (i + 1)).map f = (l.take i).map f ++ [f l[i]] := by
  rw [List.take_succ_eq_append_getElem h, List.map_append]
  rfl
theorem keys_ev (js : List Job) (hn : js.length ≤ 1000) : Ev (fun k => zb0.f k js) (keys js) := by
  have loop : ∀ d i, i + d = js.length → Ev (fun k => zb0.l0 k js ((js.take i).map (fun j => j.f2)) (i : Int)) (keys js) := by
    intro d
    induction d with
    | zero =>
      intro i hi
      refine Ev.step (f := fun _ => some (keys js)) (fun k => ?_) (Ev.now _)
      simp only [zb0.l0]
      rw [if_neg (by omega), List.take_of_length_le (by omega)]
      rfl
    | succ d ih =>
      intro i hi
      have hil : i < js.length := by omega
      refine Ev.step (fun k => ?_) (ih (i + 1) (by omega))
      simp only [zb0.l0]
      rw [if_pos (by omega), if_pos (by omega), if_pos (by rw [List.length_map, List.length_take]; omega), rjT, rj_at js i hil, map_take _ _ _ hil, w64 (by omega) (by omega)]
      rfl
  have := loop js.length 0 (by omega)
  exact this
theorem best_ev (js : List Job) (left : List Int) (t : Nat) (hn : js.length ≤ 1000) (hl : left.length = js.length) : Ev (fun k => zci.f k js left (keys js) (t : Int)) (edfp js left t) := by
  have hk := keys_len js
  have loop : ∀ d i, i + d = js.length → Ev (fun k => zci.l0 k js left (keys js) (t : Int) (bst (rdyb js left t) (dl js) i) (i : Int)) (edfp js left t) := by
    intro d
    induction d with
    | zero =>
      intro i hi
      obtain rfl : i = js.length := by omega
      refine Ev.step (f := fun _ => some (edfp js left t)) (fun k => ?_) (Ev.now _)
      simp only [zci.l0]
      rw [if_neg (by omega)]
      rfl
    | succ d ih =>
      intro i hi
      have hil : i < js.length := by omega
      have hb := bst_sp (rdyb js left t) (dl js) i
      refine Ev.step (fun k => ?_) (ih (i + 1) (by omega))
      simp only [zci.l0]
      rw [if_pos (by omega), if_pos (by omega), rjT, w64 (by omega) (by omega)]
      have e1 : ((i : Int) + 1) = ((i + 1 : Nat) : Int) := by omega
      rw [e1, bst]
      by_cases h1 : (rj js i).f1 ≤ (t : Int)
      · rw [if_pos h1, if_pos (by omega)]
        by_cases h2 : 0 < rd left (i : Int)
        · have hok : rdyb js left t i = true := by unfold rdyb; exact decide_eq_true ⟨h1, h2⟩
          rw [if_pos (show rd left (i : Int) > 0 from h2)]
          rcases hb with ⟨h3, _⟩ | ⟨b, h3, h4, _⟩
          · rw [h3, if_pos (by omega), if_pos ⟨hok, Or.inl (by omega)⟩]
          · rw [h4, if_neg (by omega), if_pos (by omega), if_pos (by omega), if_pos (by omega), keys_rd js i hil, keys_rd js b (by omega), Int.toNat_natCast]
            by_cases h5 : dl js i < dl js b
            · rw [if_pos h5, if_pos ⟨hok, Or.inr h5⟩]
            · rw [if_neg h5, if_neg (fun h => h.2.elim (fun h6 => by omega) h5)]
        · have hok : rdyb js left t i = false := by unfold rdyb; exact decide_eq_false (fun h => h2 h.2)
          rw [if_neg (show ¬ rd left (i : Int) > 0 from h2), if_neg (fun h => by rw [hok] at h; cases h.1)]
      · have hok : rdyb js left t i = false := by unfold rdyb; exact decide_eq_false (fun h => h1 h.1)
        rw [if_neg h1, if_neg (fun h => by rw [hok] at h; cases h.1)]
  have := loop js.length 0 (by omega)
  exact this
end Go.Proofs.Ytkdfjomhichkoaa.Nps
namespace Go.Proofs.Ytkdfjomhichkoaa.Tm
open Go.RowKit Go.Proofs.Ytkdfjomhichkoaa.P Go.Proofs.Ytkdfjomhichkoaa.Base Go.Proofs.Ytkdfjomhichkoaa.Gen Go.Proofs.Ytkdfjomhichkoaa.Alive Go.Proofs.Ytkdfjomhichkoaa.Set Go.Proofs.YtkdfjomhichkoaaW.PrintWords Go.Proofs.YtkdfjomhichkoaaW.PrintLast
theorem rdT_at (l : List Task) (i : Nat) (h : i < l.length) : zbf l (i : Int) = l[i] := by
  unfold zbf
  rw [List.getD_eq_getElem?_getD, Int.toNat_natCast, List.getElem?_eq_getElem h]
  rfl
theorem stv_f (c d p : Int) : zdd.f c d p = some (decide (TV c d p)) := by
  unfold zdd.f
  rw [l1In_f, l1In_f, l1In_f, and_bind, and_bind]
  by_cases h1 : 1 ≤ c ∧ c ≤ 8
  · by_cases h2 : c ≤ d ∧ d ≤ p
    · rw [if_pos h1, if_pos h2]; simp only [Option.bind_some]; congr 1; rw [decide_eq_decide]; unfold TV; omega
    · rw [if_pos h1, if_neg h2]; congr 1; symm; rw [decide_eq_false_iff_not]; unfold TV; omega
  · rw [if_neg h1]; congr 1; symm; rw [decide_eq_false_iff_not]; unfold TV; omega
theorem sset_ev (l : List Task) (hl : l.length ≤ 2097152) : Ev (fun k => zbx.f k l) (decide (SetOk l)) := by
  have loop : ∀ d i, i + d = l.length → (∀ j (h : j < l.length), j < i → TVt l[j]) → Ev (fun k => zbx.l0 k l (i : Int)) (decide (SetOk l)) := by
    intro d
    induction d with
    | zero =>
      intro i hi hm
      have ha : ∀ t ∈ l, TVt t := by
        intro t ht
        obtain ⟨j, hj, rfl⟩ := List.mem_iff_getElem.1 ht
        exact hm j hj (by omega)
      refine Ev.step (f := fun _ => some (decide (SetOk l))) (fun k => ?_) (Ev.now _)
      simp only [zbx.l0]
      rw [if_neg (by omega)]
      congr 1
      rw [decide_eq_decide]
      unfold SetOk
      exact ⟨fun h => ⟨by omega, ha⟩, fun h => by omega⟩
    | succ d ih =>
      intro i hi hm
      have hil : i < l.length := by omega
      by_cases hv : TVt l[i]
      · refine Ev.step (fun k => ?_) (ih (i + 1) (by omega) (fun j hj hji => ?_))
        · have hv' : TV l[i].f0 l[i].f1 l[i].f2 := hv
          simp only [zbx.l0]
          rw [if_pos (by omega), if_pos (by omega), rdT_at l i hil, stv_f, decide_eq_true hv', w64 (by omega) (by omega)]
          rfl
        · by_cases e : j = i
          · subst e; exact hv
          · exact hm j hj (by omega)
      · rw [decide_eq_false (fun h => hv (h.2 _ (List.getElem_mem hil)))]
        have hv' : ¬ TV l[i].f0 l[i].f1 l[i].f2 := hv
        refine Ev.step (f := fun _ => some false) (fun k => ?_) (Ev.now _)
        simp only [zbx.l0]
        rw [if_pos (by omega), if_pos (by omega), rdT_at l i hil, stv_f, decide_eq_false hv']
        rfl
  exact loop l.length 0 (by omega) (fun j _ h => by omega)
end Go.Proofs.Ytkdfjomhichkoaa.Tm
namespace Go.Proofs.Ytkdfjomhichkoaa.Leg
open Go.RowKit Go.Proofs.Ytkdfjomhichkoaa.P Go.Proofs.Ytkdfjomhichkoaa.Base Go.Proofs.Ytkdfjomhichkoaa.Gen Go.Proofs.Ytkdfjomhichkoaa.Alive Go.Proofs.Ytkdfjomhichkoaa.Set Go.Proofs.Ytkdfjomhichkoaa.Tm Go.Proofs.Ytkdfjomhichkoaa.Edf Go.Proofs.Ytkdfjomhichkoaa.Sim Go.Proofs.Ytkdfjomhichkoaa.Jobs Go.Proofs.YtkdfjomhichkoaaW.PrintWords Go.Proofs.YtkdfjomhichkoaaW.PrintLast
def nx (l : List Task) (js : List Job) (i : Nat) (k : Nat) : Int := match lastOf js i (k : Int) with
  | none => 0
  | some b => b + (tk l (k : Int)).f2
theorem rjI (js : List Job) (i : Nat) : ze js (i : Int) = rj js i := rfl
theorem tkI (l : List Task) (i : Int) : zbf l i = tk l i := rfl
theorem spec_jl (l : List Task) (js : List Job) (hl : l.length ≤ 2097152) (hj : js.length ≤ 2097152) : Ev (fun k => zq.f k l js) (decide (JL l js)) := by
  unfold zq.f
  refine Ev.bind (sset_ev l hl) ?_
  have bad : ¬ JL l js → Ev (fun k => zq.j0 k l js true) (decide (JL l js)) := fun h => by
    rw [decide_eq_false h]
    exact Ev.step (f := fun _ => some false) (fun k => by simp [zq.j0]) (Ev.now _)
  by_cases hs : SetOk l
  · simp only [decide_eq_true hs, if_true]
    by_cases h60 : js.length ≤ 60
    · have hno : ¬ (js.length : Int) > 60 := by omega
      rw [decide_eq_false hno]
      have hl5 := hs.1
      have loop : ∀ d i (y : List Int), i + d = js.length → (∀ p, p < i → One l js p) → y.length = l.length → (∀ k : Nat, k < l.length → rd y (k : Int) = nx l js i k) → Ev (fun k => zq.l0 k l js y (i : Int)) (decide (JL l js)) := by
        intro d
        induction d with
        | zero =>
          intro i y hi hp _ _
          rw [decide_eq_true (show JL l js from ⟨hs, h60, fun p hpl => hp p (by omega)⟩)]
          refine Ev.step (f := fun _ => some true) (fun k => ?_) (Ev.now _)
          simp only [zq.l0]
          rw [if_neg (by omega)]
        | succ d ih =>
          intro i y hi hp hy hr
          have hil : i < js.length := by omega
          have out : ¬ One l js i → decide (JL l js) = false := fun h => decide_eq_false (fun hh => h (hh.2.2 i hil))
          have no2 : ¬ One l js i → ∀ a b c e, Ev (fun k => zq.j2 k l js y (i : Int) true a b c e) (decide (JL l js)) := fun h a b c e => by
            rw [out h]
            exact Ev.step (f := fun _ => some false) (fun k => by simp [zq.j2]) (Ev.now _)
          have no3 : ¬ One l js i → ∀ a b c e u v z, Ev (fun k => zq.j3 k l js y (i : Int) true a b c e u v z) (decide (JL l js)) := fun h a b c e u v z => by
            rw [out h]
            exact Ev.step (f := fun _ => some false) (fun k => by simp [zq.j3]) (Ev.now _)
          have w1 : wrap64 ((l.length : Int) - 1) = (l.length : Int) - 1 := w64 (by omega) (by omega)
          by_cases h1 : 0 ≤ (rj js i).f0 ∧ (rj js i).f0 ≤ (l.length : Int) - 1
          · by_cases h2 : 0 ≤ (rj js i).f1 ∧ (rj js i).f1 ≤ 119
            · have ht := tk_ok hs (rj js i).f0 h1.1 (by omega)
              obtain ⟨q, hq⟩ : ∃ q : Nat, (rj js i).f0 = (q : Int) := ⟨(rj js i).f0.toNat, by omega⟩
              have hql : q < l.length := by omega
              have hnx := hr q hql
              have hlast := lastOf_sp js (q : Int) i
              have dist : (rj js i).f1 < rd y (q : Int) ↔ ¬ ∀ p, p < i → (rj js p).f0 = (rj js i).f0 → (rj js p).f1 + (tk l (rj js i).f0).f2 ≤ (rj js i).f1 := by
                rw [hnx, hq]
                unfold nx
                rcases hlast with ⟨h3, h4⟩ | ⟨p, h3, h4, h5, h6⟩
                · rw [h3]
                  simp only
                  constructor
                  · intro h7; omega
                  · intro h7
                    exact absurd (fun p hp2 he => absurd he (h4 p hp2)) h7
                · rw [h5]
                  simp only
                  constructor
                  · intro h7 h8
                    have := h8 p h3 h4; omega
                  · intro h7
                    apply Classical.byContradiction
                    intro h8
                    refine h7 (fun p2 hp2 he => ?_)
                    have h9 : p2 ≤ p := by
                      apply Classical.byContradiction
                      intro hc
                      exact h6 p2 (by omega) hp2 he
                    have := mono_rel (l := l) (n := i) (fun a ha => one_loc (hp a ha)) p p2 h9 h3
                    omega
              have step2 : Ev (fun k => zq.j2 k l js y (i : Int) false (rj js i).f0 (rj js i).f1 (rj js i).f2 (rj js i).f3) (decide (JL l js)) := by
                have go : ∀ b : Bool, (b = true → ¬ One l js i) → (b = false → (1 ≤ (rj js i).f3 ∧ (rj js i).f3 ≤ (tk l (rj js i).f0).f0) ∧ (rj js i).f2 = (rj js i).f1 + (tk l (rj js i).f0).f1 ∧ ∀ p, p < i → (rj js p).f0 = (rj js i).f0 → (rj js p).f1 + (tk l (rj js i).f0).f2 ≤ (rj js i).f1) →
                    Ev (fun k => zq.j3 k l js y (i : Int) b (rj js i).f0 (rj js i).f1 (rj js i).f2 (rj js i).f3 (tk l (rj js i).f0).f0 (tk l (rj js i).f0).f1 (tk l (rj js i).f0).f2) (decide (JL l js)) := by
                  intro b hb1 hb2
                  cases b with
                  | true => exact no3 (hb1 rfl) _ _ _ _ _ _ _
                  | false =>
                    obtain ⟨h3, h4, h5⟩ := hb2 rfl
                    have fin : One l js i → Ev (fun k => zq.l0 k l js (y.set q ((rj js i).f1 + (tk l (rj js i).f0).f2)) (wrap64 ((i : Int) + 1))) (decide (JL l js)) := by
                      intro hone
                      rw [show wrap64 ((i : Int) + 1) = ((i + 1 : Nat) : Int) by rw [w64 (by omega) (by omega)]; omega]
                      refine ih (i + 1) _ (by omega) (fun p hp2 => ?_) (by rw [List.length_set]; exact hy) (fun k hk => ?_)
                      · by_cases e : p = i
                        · subst e; exact hone
                        · exact hp p (by omega)
                      · unfold nx
                        rw [lastOf]
                        have ej : jrd js i = rj js i := rfl
                        rw [ej]
                        by_cases e : k = q
                        · subst e
                          rw [rd_set_eq _ _ _ (by omega), if_pos hq, hq]
                        · rw [rd_set_ne _ _ _ _ e, if_neg (by omega), hr k hk]
                          rfl
                    have hset : wrap64 ((rj js i).f1 + (tk l (rj js i).f0).f2) = (rj js i).f1 + (tk l (rj js i).f0).f2 := w64 (by omega) (by omega)
                    have htn : (rj js i).f0.toNat = q := by omega
                    by_cases h0 : i = 0
                    · refine Ev.step (fun k => ?_) (fin ⟨by omega, h2, h3, h4, fun h => by omega, h5⟩)
                      simp only [zq.j3]
                      rw [if_neg (by simp), if_neg (by omega), if_pos (by omega), if_pos (by omega), hset, htn]
                    · have e1 : wrap64 ((i : Int) - 1) = ((i - 1 : Nat) : Int) := by rw [w64 (by omega) (by omega)]; omega
                      by_cases h6 : (rj js (i - 1)).f1 > (rj js i).f1
                      · have hn : ¬ One l js i := fun h => by have := h.2.2.2.2.1 (by omega); omega
                        rw [out hn]
                        refine Ev.step (f := fun _ => some false) (fun k => ?_) (Ev.now _)
                        simp only [zq.j3]
                        rw [if_neg (by simp), if_pos (by omega), e1, if_pos (by omega), if_pos (by omega), rjI, if_pos h6]
                      · by_cases h7 : (rj js (i - 1)).f1 = (rj js i).f1
                        · by_cases h8 : (rj js (i - 1)).f0 ≥ (rj js i).f0
                          · have hn : ¬ One l js i := fun h => by have := h.2.2.2.2.1 (by omega); omega
                            rw [out hn]
                            refine Ev.step (f := fun _ => some false) (fun k => ?_) (Ev.now _)
                            simp only [zq.j3]
                            rw [if_neg (by simp), if_pos (by omega), e1, if_pos (by omega), if_pos (by omega), rjI, if_neg h6, if_pos h7, if_pos h8]
                          · refine Ev.step (fun k => ?_) (fin ⟨by omega, h2, h3, h4, fun _ => Or.inr ⟨h7, by omega⟩, h5⟩)
                            simp only [zq.j3]
                            rw [if_neg (by simp), if_pos (by omega), e1, if_pos (by omega), if_pos (by omega), rjI, if_neg h6, if_pos h7, if_neg h8, if_pos (by omega), if_pos (by omega), hset, htn]
                        · refine Ev.step (fun k => ?_) (fin ⟨by omega, h2, h3, h4, fun _ => Or.inl (by omega), h5⟩)
                          simp only [zq.j3]
                          rw [if_neg (by simp), if_pos (by omega), e1, if_pos (by omega), if_pos (by omega), rjI, if_neg h6, if_neg h7, if_pos (by omega), if_pos (by omega), hset, htn]
                have hwd : wrap64 ((rj js i).f1 + (tk l (rj js i).f0).f1) = (rj js i).f1 + (tk l (rj js i).f0).f1 := w64 (by omega) (by omega)
                by_cases h3 : (rj js i).f1 < rd y (rj js i).f0
                · refine Ev.step (fun k => ?_) (go true (fun _ h => ?_) (fun h => by cases h))
                  · simp only [zq.j2]
                    rw [if_neg (by simp), if_pos (by omega), if_pos (by omega), if_pos (by omega), if_pos h3]
                    rfl
                  · rw [hq] at h3
                    exact dist.1 h3 h.2.2.2.2.2
                · have h3' : ∀ p, p < i → (rj js p).f0 = (rj js i).f0 → (rj js p).f1 + (tk l (rj js i).f0).f2 ≤ (rj js i).f1 := by
                    apply Classical.byContradiction
                    intro hc
                    exact h3 (by rw [hq]; exact dist.2 hc)
                  by_cases h4 : (rj js i).f2 = (rj js i).f1 + (tk l (rj js i).f0).f1
                  · by_cases h5 : 1 ≤ (rj js i).f3 ∧ (rj js i).f3 ≤ (tk l (rj js i).f0).f0
                    · refine Ev.step (fun k => ?_) (go false (fun h => by cases h) (fun _ => ⟨h5, h4, h3'⟩))
                      simp only [zq.j2]
                      rw [if_neg (by simp), if_pos (by omega), if_pos (by omega), if_pos (by omega), if_neg h3, tkI, hwd, if_pos h4, l1In_f, decide_eq_true h5]
                      rfl
                    · refine Ev.step (fun k => ?_) (go true (fun _ h => h5 h.2.2.1) (fun h => by cases h))
                      simp only [zq.j2]
                      rw [if_neg (by simp), if_pos (by omega), if_pos (by omega), if_pos (by omega), if_neg h3, tkI, hwd, if_pos h4, l1In_f, decide_eq_false h5]
                      rfl
                  · refine Ev.step (fun k => ?_) (go true (fun _ h => h4 h.2.2.2.1) (fun h => by cases h))
                    simp only [zq.j2]
                    rw [if_neg (by simp), if_pos (by omega), if_pos (by omega), if_pos (by omega), if_neg h3, tkI, hwd, if_neg h4]
              refine Ev.step (fun k => ?_) step2
              simp only [zq.l0]
              rw [if_pos (by omega), if_pos (by omega), rjI, w1, l1In_f, decide_eq_true h1]
              simp only [Option.bind_some, if_true]
              rw [l1In_f, decide_eq_true h2]
              rfl
            · refine Ev.step (fun k => ?_) (no2 (fun h => h2 h.2.1) (rj js i).f0 (rj js i).f1 (rj js i).f2 (rj js i).f3)
              simp only [zq.l0]
              rw [if_pos (by omega), if_pos (by omega), rjI, w1, l1In_f, decide_eq_true h1]
              simp only [Option.bind_some, if_true]
              rw [l1In_f, decide_eq_false h2]
              rfl
          · refine Ev.step (fun k => ?_) (no2 (fun h => h1 (by have := h.1; omega)) (rj js i).f0 (rj js i).f1 (rj js i).f2 (rj js i).f3)
            simp only [zq.l0]
            rw [if_pos (by omega), if_pos (by omega), rjI, w1, l1In_f, decide_eq_false h1]
            rfl
      refine Ev.step (fun k => ?_) (loop js.length 0 (List.replicate l.length 0) (by omega) (fun p h => by omega) (by simp) (fun k hk => ?_))
      · simp only [zq.j0]
        rw [if_neg (by simp), if_pos (by omega), if_pos (by rw [Int.toNat_natCast]; omega), Int.toNat_natCast]
        rfl
      · rw [rd_at _ k (by simpa using hk), List.getElem_replicate]
        rfl
    · rw [decide_eq_true (show (js.length : Int) > 60 by omega)]
      exact bad (fun h => h60 h.2.1)
  · simp only [decide_eq_false hs]
    exact bad (fun h => hs h.1)
end Go.Proofs.Ytkdfjomhichkoaa.Leg
namespace Go.Proofs.Ytkdfjomhichkoaa.Npr
open Go.RowKit Go.Proofs.Ytkdfjomhichkoaa.P Go.Proofs.Ytkdfjomhichkoaa.Base Go.Proofs.Ytkdfjomhichkoaa.Gen Go.Proofs.Ytkdfjomhichkoaa.Alive Go.Proofs.Ytkdfjomhichkoaa.Set Go.Proofs.Ytkdfjomhichkoaa.Tm Go.Proofs.Ytkdfjomhichkoaa.Edf Go.Proofs.Ytkdfjomhichkoaa.Sim Go.Proofs.Ytkdfjomhichkoaa.Jobs Go.Proofs.Ytkdfjomhichkoaa.Leg Go.Proofs.Ytkdfjomhichkoaa.Nps Go.Proofs.YtkdfjomhichkoaaW.PrintWords Go.Proofs.YtkdfjomhichkoaaW.PrintLast
noncomputable def RE (l : List Task) (js : List Job) : List Int × List Int := if JL l js then sch js (edfp js) else ([], [])
theorem impl_re (l : List Task) (js : List Job) (hl : l.length ≤ 2097152) (hj : js.length ≤ 2097152) : zds.f l js = some (RE l js) := by
  unfold zds.f RE
  rw [impl_jl l js (by omega) (by omega)]
  simp only [Option.bind_some]
  by_cases h : JL l js
  · rw [decide_eq_true h, if_pos rfl, if_pos (by have := h.2.1; omega), if_pos h, edf_sim h]
  · rw [decide_eq_false h, if_neg (by simp), if_neg h]
theorem sch_len (js : List Job) (pick : List Int → Nat → Int) : (sch js pick).1.length = 120 ∧ (sch js pick).2.length = js.length := by
  unfold sch
  refine ⟨by simp, ?_⟩
  simp only
  rw [finL_len, zdl]
theorem rd_sch (js : List Job) (pick : List Int → Nat → Int) (t : Nat) (h : t < 120) : rd (sch js pick).1 (t : Int) = runL pick (exs js) t := by
  rw [rd_at _ t (by rw [(sch_len js pick).1]; exact h)]
  unfold sch
  simp
end Go.Proofs.Ytkdfjomhichkoaa.Npr
namespace Go.Proofs.Ytkdfjomhichkoaa.Rs
open Go.RowKit Go.Proofs.Ytkdfjomhichkoaa.P Go.Proofs.Ytkdfjomhichkoaa.Base Go.Proofs.Ytkdfjomhichkoaa.Gen Go.Proofs.Ytkdfjomhichkoaa.Alive Go.Proofs.Ytkdfjomhichkoaa.Set Go.Proofs.Ytkdfjomhichkoaa.Tm Go.Proofs.Ytkdfjomhichkoaa.Sup Go.Proofs.Ytkdfjomhichkoaa.Pat Go.Proofs.Ytkdfjomhichkoaa.Edf Go.Proofs.Ytkdfjomhichkoaa.Sim Go.Proofs.Ytkdfjomhichkoaa.Jobs Go.Proofs.Ytkdfjomhichkoaa.Leg Go.Proofs.Ytkdfjomhichkoaa.Nps Go.Proofs.Ytkdfjomhichkoaa.Npr Go.Proofs.YtkdfjomhichkoaaW.PrintWords Go.Proofs.YtkdfjomhichkoaaW.PrintLast
def onb (pat : List Bool) (t : Nat) : Bool := rdOf false pat (t : Int)
noncomputable def RS (l : List Task) (js : List Job) (b p : Int) (pat : List Bool) : List Int × List Int := if PV b p pat ∧ JL l js then sch js (supp js (onb pat)) else ([], [])
theorem pau_agree (js : List Job) (tk : Int → Bool) (on : Nat → Bool) (h : ∀ t : Nat, tk (t : Int) = !(on t)) : Agree js (pauD js tk) (supp js on) := by
  intro dn left t h1 h2 h3
  unfold pauD supp
  rw [h t, edf_agree js dn left t h1 h2 h3]
  cases on t <;> simp
theorem impl_rs (l : List Task) (js : List Job) (b p : Int) (pat : List Bool) (hl : l.length ≤ 2097152) (hj : js.length ≤ 2097152) : Ev (fun k => zcr.f k l js b p pat) (RS l js b p pat) := by
  unfold zcr.f RS
  refine Ev.bind (impl_pat b p pat) ?_
  by_cases hp : PV b p pat
  · simp only [decide_eq_true hp, if_true]
    rw [impl_jl l js (by omega) (by omega)]
    simp only [Option.bind_some]
    by_cases h : JL l js
    · have hpl := hp.2.1
      have e := sim_sch (pau_agree js (fun t => !(rdOf false pat t)) (onb pat) (fun t => rfl)) (by have := supp_picks js (onb pat); rwa [zdl] at this) (exs_bd h)
      rw [if_pos (⟨hp, h⟩ : PV b p pat ∧ JL l js)]
      refine Ev.congr (fun k => ?_) (Ev.now _)
      rw [decide_eq_true h, if_pos rfl, if_pos (by have := h.2.1; omega), e]
    · rw [if_neg (show ¬ (PV b p pat ∧ JL l js) from fun hh => h hh.2)]
      refine Ev.congr (fun k => ?_) (Ev.now _)
      rw [decide_eq_false h, if_neg (by simp)]
  · simp only [decide_eq_false hp]
    rw [if_neg (show ¬ (PV b p pat ∧ JL l js) from fun hh => hp hh.1)]
    exact Ev.step (fun k => by rw [if_neg (by simp)]) (Ev.now _)
theorem spec_run_sup {l : List Task} {js : List Job} {pat : List Bool} (hl : JL l js) (hpl : pat.length = 120) : Ev (fun k => zw.l0 k js pat [] (keys js) 0 []) (sch js (supp js (onb pat))) := by
  have h60 := hl.2.1
  have hS := sch_of (supp_picks js (onb pat)) hl.pos
  have ticks : ∀ d t : Nat, t + d = 120 → Ev (fun k => zw.l1 k js pat (stL (supp js (onb pat)) (exs js) t) (keys js) (t : Int) ((List.range t).map (runL (supp js (onb pat)) (exs js))) (finL (supp js (onb pat)) (exs js) t)) (sch js (supp js (onb pat))) := by
    intro d
    induction d with
    | zero =>
      intro t ht
      obtain rfl : t = 120 := by omega
      refine Ev.step (f := fun _ => some (sch js (supp js (onb pat)))) (fun k => ?_) (Ev.now _)
      simp only [zw.l1]
      rw [if_neg (by omega)]
      rfl
    | succ d ih =>
      intro t ht
      have hst : (stL (supp js (onb pat)) (exs js) t).length = js.length := by rw [stL_len, zdl]
      have hfl : (finL (supp js (onb pat)) (exs js) t).length = js.length := by rw [finL_len, zdl]
      have hw : wrap64 ((t : Int) + 1) = ((t + 1 : Nat) : Int) := by rw [w64 (by omega) (by omega)]; omega
      have hrange : (List.range (t + 1)).map (runL (supp js (onb pat)) (exs js)) = (List.range t).map (runL (supp js (onb pat)) (exs js)) ++ [runL (supp js (onb pat)) (exs js) t] := by rw [List.range_succ, List.map_append]; rfl
      have body : Ev (fun k => zw.j3 k js pat (stL (supp js (onb pat)) (exs js) t) (keys js) (t : Int) (runL (supp js (onb pat)) (exs js) t) ((List.range t).map (runL (supp js (onb pat)) (exs js))) (finL (supp js (onb pat)) (exs js) t)) (sch js (supp js (onb pat))) := by
        have hp := supp_picks js (onb pat) (stL (supp js (onb pat)) (exs js) t) t (stL_len t)
        rw [zdl] at hp
        rcases hp with hr | ⟨i, hi, hr, hrel, hliv⟩
        · have hr : runL (supp js (onb pat)) (exs js) t = -1 := hr
          have e := st_idle hr
          refine Ev.step (fun k => ?_) (ih (t + 1) (by omega))
          simp only [zw.j3]
          rw [if_pos (by rw [List.length_map, List.length_range]; omega), Option.bind_some, hr, if_neg (by omega), hw, e.1, e.2, hrange, hr]
        · have hr : runL (supp js (onb pat)) (exs js) t = (i : Int) := hr
          have e := st_run hr (by rw [zdl]; exact hi)
          have hle := hS.le_ex t i (by rw [zdl]; exact hi)
          have hxb := exs_bd hl i hi
          have hw2 : wrap64 (rd (stL (supp js (onb pat)) (exs js) t) (i : Int) - 1) = rd (stL (supp js (onb pat)) (exs js) t) (i : Int) - 1 := w64 (by omega) (by omega)
          by_cases hz : rd (stL (supp js (onb pat)) (exs js) t) (i : Int) - 1 = 0
          · refine Ev.step (fun k => ?_) (ih (t + 1) (by omega))
            simp only [zw.j3]
            rw [if_pos (by rw [List.length_map, List.length_range]; omega), Option.bind_some, hr, if_pos (by omega), if_pos (by omega), if_pos (by omega), Option.bind_some, hw2, Int.toNat_natCast, rd_set_eq _ _ _ (by omega), if_pos hz, if_pos (by omega), hw, e.1, e.2, if_pos hz, hrange, hr]
            rfl
          · refine Ev.step (fun k => ?_) (ih (t + 1) (by omega))
            simp only [zw.j3]
            rw [if_pos (by rw [List.length_map, List.length_range]; omega), Option.bind_some, hr, if_pos (by omega), if_pos (by omega), if_pos (by omega), Option.bind_some, hw2, Int.toNat_natCast, rd_set_eq _ _ _ (by omega), if_neg hz, hw, e.1, e.2, if_neg hz, hrange, hr]
      by_cases hon : onb pat t = true
      · have hb := best_ev js (stL (supp js (onb pat)) (exs js) t) t (by omega) hst
        have hpk : runL (supp js (onb pat)) (exs js) t = edfp js (stL (supp js (onb pat)) (exs js) t) t := by
          show supp js (onb pat) (stL (supp js (onb pat)) (exs js) t) t = _
          conv => lhs; unfold supp
          rw [if_pos hon]
          rfl
        rw [← hpk] at hb
        refine Ev.step (f := fun k => (zci.f k js (stL (supp js (onb pat)) (exs js) t) (keys js) (t : Int)).bind fun t608 => (zw.j3 k js pat (stL (supp js (onb pat)) (exs js) t) (keys js) (t : Int) t608 ((List.range t).map (runL (supp js (onb pat)) (exs js))) (finL (supp js (onb pat)) (exs js) t))) (fun k => ?_) (Ev.bind hb body)
        simp only [zw.l1]
        rw [if_pos (by omega), if_pos (by omega), if_pos (by omega), if_pos (show rdOf false pat (t : Int) = true from hon)]
      · have hpk : runL (supp js (onb pat)) (exs js) t = -1 := by
          show supp js (onb pat) (stL (supp js (onb pat)) (exs js) t) t = _
          conv => lhs; unfold supp
          rw [if_neg hon]
        have body2 := body
        rw [hpk] at body2
        refine Ev.step (fun k => ?_) body2
        simp only [zw.l1]
        rw [if_pos (by omega), if_pos (by omega), if_pos (by omega), if_neg (show ¬ rdOf false pat (t : Int) = true from hon)]
  have build : ∀ d i : Nat, i + d = js.length → Ev (fun k => zw.l0 k js pat ((js.take i).map (fun j => j.f3)) (keys js) (i : Int) (List.replicate i (-1))) (sch js (supp js (onb pat))) := by
    intro d
    induction d with
    | zero =>
      intro i hi
      obtain rfl : i = js.length := by omega
      refine Ev.step (fun k => ?_) (ticks 120 0 (by omega))
      simp only [zw.l0]
      rw [if_neg (by omega), List.take_of_length_le (Nat.le_refl _)]
      have e : finL (supp js (onb pat)) (exs js) 0 = List.replicate js.length (-1) := by rw [finL, zdl]
      rw [e]
      rfl
    | succ d ih =>
      intro i hi
      have hil : i < js.length := by omega
      refine Ev.step (fun k => ?_) (ih (i + 1) (by omega))
      simp only [zw.l0]
      rw [if_pos (by omega), if_pos (by omega), if_pos (by rw [List.length_map, List.length_take]; omega), if_pos (by rw [List.length_replicate]; omega), rjT, rj_at js i hil, map_take _ _ _ hil, w64 (by omega) (by omega), List.replicate_succ']
      rfl
  exact build js.length 0 (by omega)
theorem spec_rs (l : List Task) (js : List Job) (b p : Int) (pat : List Bool) (hl : l.length ≤ 2097152) (hj : js.length ≤ 2097152) : Ev (fun k => zw.f k l js b p pat) (RS l js b p pat) := by
  unfold zw.f
  refine Ev.bind (spec_jl l js (by omega) (by omega)) ?_
  have bad : ¬ (PV b p pat ∧ JL l js) → Ev (fun k => zw.j0 k js pat true) (RS l js b p pat) := fun h => by
    unfold RS
    rw [if_neg h]
    exact Ev.step (f := fun _ => some ([], [])) (fun k => by simp [zw.j0]) (Ev.now _)
  by_cases h : JL l js
  · simp only [decide_eq_true h, if_true]
    refine Ev.bind (spec_pat b p pat) ?_
    by_cases hp : PV b p pat
    · rw [decide_eq_true hp]
      unfold RS
      rw [if_pos (⟨hp, h⟩ : PV b p pat ∧ JL l js)]
      refine Ev.step (f := fun k => (zb0.f k js).bind fun t597 => (zw.l0 k js pat (([] : List Int)) t597 0 ([] : List Int))) (fun k => by simp [zw.j0]) ?_
      exact Ev.bind (keys_ev js (by have := h.2.1; omega)) (spec_run_sup h hp.2.1)
    · rw [decide_eq_false hp]
      exact bad (fun hh => hp hh.1)
  · simp only [decide_eq_false h]
    exact bad (fun hh => h hh.2)
theorem sch_congr {js : List Job} {p q : List Int → Nat → Int} (h : ∀ left t, t < 120 → p left t = q left t) : sch js p = sch js q := by
  have key : ∀ t, t ≤ 120 → stL p (exs js) t = stL q (exs js) t ∧ finL p (exs js) t = finL q (exs js) t := by
    intro t
    induction t with
    | zero => intro _; exact ⟨rfl, rfl⟩
    | succ t ih =>
      intro ht
      have h1 := ih (by omega)
      have h2 : runL p (exs js) t = runL q (exs js) t := by unfold runL; rw [h1.1]; exact h _ t (by omega)
      have h3 : stL p (exs js) (t + 1) = stL q (exs js) (t + 1) := by rw [stL, stL, h1.1, h _ t (by omega)]
      refine ⟨h3, ?_⟩
      rw [finL, finL, h2, h3, h1.2]
  unfold sch
  rw [(key 120 (Nat.le_refl _)).2]
  congr 1
  apply List.map_congr_left
  intro t ht
  have ht := List.mem_range.1 ht
  unfold runL
  rw [(key t (by omega)).1]
  exact h _ t ht
end Go.Proofs.Ytkdfjomhichkoaa.Rs
namespace Go.Proofs.Ytkdfjomhichkoaa.DrTask
open Go.RowKit Go.Proofs.Ytkdfjomhichkoaa.P Go.Proofs.Ytkdfjomhichkoaa.Base Go.Proofs.Ytkdfjomhichkoaa.Gen Go.Proofs.Ytkdfjomhichkoaa.Pb Go.Proofs.YtkdfjomhichkoaaW.PrintWords Go.Proofs.YtkdfjomhichkoaaW.PrintLast
theorem rd_bd {xs : List Int} {i : Int} (lo hi : Int) (h0 : 0 ≤ i) (h1 : i < (xs.length : Int)) (h : ∀ x ∈ xs, lo ≤ x ∧ x ≤ hi) : lo ≤ rd xs i ∧ rd xs i ≤ hi := h _ (rd_mem h0 h1)
theorem mx_bd (a b : Int) : a ≤ mx a b ∧ b ≤ mx a b ∧ (mx a b = a ∨ mx a b = b) := by unfold mx; split <;> omega
theorem mn_bd (a b : Int) : mn a b ≤ a ∧ mn a b ≤ b ∧ (mn a b = a ∨ mn a b = b) := by unfold mn; split <;> omega
def SmallT (c d p : Int) : Prop := -20 ≤ c ∧ c ≤ 20 ∧ -20 ≤ d ∧ d ≤ 20 ∧ -20 ≤ p ∧ p ≤ 20
theorem task_tot (s : List Int) (p n : Int) (hs : Bytes s) (hp : 0 ≤ p) (hp2 : p ≤ 900000000) :
    Tot (fun k => zk.f k s p n) (fun r => SmallT r.1 r.2.1 r.2.2.1 ∧ p ≤ r.2.2.2 ∧ r.2.2.2 ≤ p + 9) := by
  have last : ∀ (q c d e : Int), SmallT c d e → p ≤ q → q ≤ p + 9 → Tot (fun k => zk.j0 k s q c d e) (fun r => SmallT r.1 r.2.1 r.2.2.1 ∧ p ≤ r.2.2.2 ∧ r.2.2.2 ≤ p + 9) := by
    intro q c d e h1 h2 h3
    exact Tot.step (fun k => by rw [zk.j0]) (Tot.ret _ ⟨h1, h2, h3⟩)
  unfold zk.f
  refine Tot.bind (zck s p 12 hs hp (by omega)) ?_
  rintro ⟨a, q⟩ ⟨h, ha0, ha1⟩
  simp only at h ha0 ha1 ⊢; subst h
  have ha1 := ha1 (by omega)
  rw [w64 (x := 1 + a) (by omega) (by omega)]
  refine zdk _ ?_
  refine Tot.bind (zck s (p + 1) 8 hs (by omega) (by omega)) ?_
  rintro ⟨b, q⟩ ⟨h, hb0, hb1⟩
  simp only at h hb0 hb1 ⊢; subst h
  have hb1 := hb1 (by omega)
  have hlt : b < ((([2, 3, 4, 6, 8, 12, 1 + a, 5] : List Int).length : Nat) : Int) := by simp; omega
  refine Tot.yes hb0 (Tot.yes hlt ?_)
  have hc := rd_bd 1 12 hb0 hlt (by intro x hx; simp only [List.mem_cons, List.not_mem_nil, or_false] at hx; omega)
  generalize rd [2, 3, 4, 6, 8, 12, 1 + a, 5] b = P at hc ⊢
  refine Tot.bind (zck s (p + 1 + 1) P hs (by omega) (by omega)) ?_
  rintro ⟨c, q⟩ ⟨h, hc0, hc1⟩
  simp only at h hc0 hc1 ⊢; subst h
  have hc1 := hc1 (by omega)
  rw [w64 (x := 1 + c) (by omega) (by omega), w64 (x := P - 1) (by omega) (by omega)]
  have hm := mx_bd 1 (P - 1)
  refine zdk _ ?_
  refine Tot.bind (zck s (p + 1 + 1 + 1) 3 hs (by omega) (by omega)) ?_
  rintro ⟨d, q⟩ ⟨h, hd0, hd1⟩
  simp only at h hd0 hd1 ⊢; subst h
  have hd1 := hd1 (by omega)
  have hlt : d < ((([P, 1 + c, mx 1 (P - 1)] : List Int).length : Nat) : Int) := by simp; omega
  refine Tot.yes hd0 (Tot.yes hlt ?_)
  have hD := rd_bd 1 12 hd0 hlt (by intro x hx; simp only [List.mem_cons, List.not_mem_nil, or_false] at hx; omega)
  generalize rd [P, 1 + c, mx 1 (P - 1)] d = D at hD ⊢
  have e2 := tdiv_ok D 2 (by omega) (by omega)
  have e3 := tdiv_ok D 3 (by omega) (by omega)
  rw [w64 (x := Int.tdiv D 2) (by omega) (by omega), w64 (x := Int.tdiv D 3) (by omega) (by omega)]
  have hm2 := mx_bd 1 (Int.tdiv D 2)
  have hm3 := mx_bd 1 (Int.tdiv D 3)
  refine zdk _ ?_
  refine Tot.bind (zck s (p + 1 + 1 + 1 + 1) 3 hs (by omega) (by omega)) ?_
  rintro ⟨e, q⟩ ⟨h, he0, he1⟩
  simp only at h he0 he1 ⊢; subst h
  have he1 := he1 (by omega)
  have hlt : e < ((([D, mx 1 (Int.tdiv D 2), mx 1 (Int.tdiv D 3)] : List Int).length : Nat) : Int) := by simp; omega
  refine Tot.yes he0 (Tot.yes hlt ?_)
  have hE := rd_bd 1 12 he0 hlt (by intro x hx; simp only [List.mem_cons, List.not_mem_nil, or_false] at hx; omega)
  generalize rd [D, mx 1 (Int.tdiv D 2), mx 1 (Int.tdiv D 3)] e = E at hE ⊢
  have hmn := mn_bd 8 E
  refine Tot.bind (zck s (p + 1 + 1 + 1 + 1 + 1) (mn 8 E) hs (by omega) (by omega)) ?_
  rintro ⟨f, q⟩ ⟨h, hf0, hf1⟩
  simp only at h hf0 hf1 ⊢; subst h
  have hf1 := hf1 (by omega)
  rw [w64 (x := 1 + f) (by omega) (by omega)]
  refine Tot.bind (odd_tot s (p + 1 + 1 + 1 + 1 + 1 + 1) n hs (by omega) (by omega)) ?_
  rintro ⟨g, q⟩ ⟨h1, h2⟩
  simp only at h1 h2 ⊢
  refine Tot.ite (fun _ => ?_) (fun _ => last _ _ _ _ (by unfold SmallT; omega) (by omega) (by omega))
  refine Tot.bind (zck s q 3 hs (by omega) (by omega)) ?_
  rintro ⟨u, q'⟩ ⟨h, hu0, hu1⟩
  simp only at h hu0 hu1 ⊢; subst h
  refine Tot.ite (fun _ => ?_) (fun _ => Tot.ite (fun _ => ?_) (fun _ => ?_))
  · rw [w64 (x := D + 1) (by omega) (by omega)]
    refine zdk _ ?_
    refine Tot.bind (zck s (q + 1) 4 hs (by omega) (by omega)) ?_
    rintro ⟨v, q'⟩ ⟨h, hv0, hv1⟩
    simp only at h hv0 hv1 ⊢; subst h
    have hlt : v < ((([0, -1, 9, D + 1] : List Int).length : Nat) : Int) := by simp; omega
    refine Tot.yes hv0 (Tot.yes hlt ?_)
    have hV := rd_bd (-1) 13 hv0 hlt (by intro x hx; simp only [List.mem_cons, List.not_mem_nil, or_false] at hx; omega)
    exact last _ _ _ _ (by unfold SmallT; omega) (by omega) (by omega)
  · rw [w64 (x := P + 1) (by omega) (by omega)]
    refine zdk _ ?_
    refine Tot.bind (zck s (q + 1) 3 hs (by omega) (by omega)) ?_
    rintro ⟨v, q'⟩ ⟨h, hv0, hv1⟩
    simp only at h hv0 hv1 ⊢; subst h
    have hlt : v < ((([0, P + 1, -1] : List Int).length : Nat) : Int) := by simp; omega
    refine Tot.yes hv0 (Tot.yes hlt ?_)
    have hV := rd_bd (-1) 13 hv0 hlt (by intro x hx; simp only [List.mem_cons, List.not_mem_nil, or_false] at hx; omega)
    exact last _ _ _ _ (by unfold SmallT; omega) (by omega) (by omega)
  · refine zdk _ ?_
    refine Tot.bind (zck s (q + 1) 3 hs (by omega) (by omega)) ?_
    rintro ⟨v, q'⟩ ⟨h, hv0, hv1⟩
    simp only at h hv0 hv1 ⊢; subst h
    have hlt : v < ((([0, 13, -1] : List Int).length : Nat) : Int) := by simp; omega
    refine Tot.yes hv0 (Tot.yes hlt ?_)
    have hV := rd_bd (-1) 13 hv0 hlt (by intro x hx; simp only [List.mem_cons, List.not_mem_nil, or_false] at hx; omega)
    exact last _ _ _ _ (by unfold SmallT; omega) (by omega) (by omega)
end Go.Proofs.Ytkdfjomhichkoaa.DrTask
namespace Go.Proofs.Ytkdfjomhichkoaa.DrSet
open Go.RowKit Go.Proofs.Ytkdfjomhichkoaa.P Go.Proofs.Ytkdfjomhichkoaa.Base Go.Proofs.Ytkdfjomhichkoaa.Gen Go.Proofs.Ytkdfjomhichkoaa.Pb Go.Proofs.Ytkdfjomhichkoaa.DrTask Go.Proofs.YtkdfjomhichkoaaW.PrintWords Go.Proofs.YtkdfjomhichkoaaW.PrintLast
abbrev Task := S88
def Short (p : Int) (r : List Task × Int) : Prop := r.1.length ≤ 20 ∧ p ≤ r.2 ∧ r.2 ≤ p + 300
theorem set_tot (s : List Int) (p n : Int) (hs : Bytes s) (hp : 0 ≤ p) (hp2 : p ≤ 100000) : Tot (fun k => zbz.f k s p n) (Short p) := by
  have more : ∀ (d : Nat) (x : List Task) (q : Int), x.length + d = 6 → p ≤ q → q ≤ p + 100 + 10 * (6 - d) → Tot (fun k => zbz.l1 k x s q) (Short p) := by
    intro d
    induction d with
    | zero =>
      intro x q h1 h2 h3
      refine Tot.step (fun k => by rw [zbz.l1]) (Tot.no (by omega) ?_)
      refine Tot.bind (task_tot s q 2 hs (by omega) (by omega)) ?_
      rintro ⟨a, b, c, q2⟩ ⟨_, h4, h5⟩
      simp only at h4 h5 ⊢
      exact Tot.yes (by omega) (Tot.ret _ ⟨by simp; omega, by simp; omega, by simp; omega⟩)
    | succ d ih =>
      intro x q h1 h2 h3
      refine Tot.step (fun k => by rw [zbz.l1]) (Tot.yes (by omega) ?_)
      refine Tot.bind (task_tot s q 0 hs (by omega) (by omega)) ?_
      rintro ⟨a, b, c, q2⟩ ⟨_, h4, h5⟩
      simp only at h4 h5 ⊢
      exact Tot.yes (by omega) (ih _ _ (by simp; omega) (by omega) (by omega))
  have first : ∀ (d : Nat) (x6 : Int) (x : List Task) (q : Int), x6 = d → x.length + d ≤ 5 → p ≤ q → q ≤ p + 1 + 9 * (5 - d) → Tot (fun k => zbz.l0 k n x x6 s q) (Short p) := by
    intro d
    induction d with
    | zero =>
      intro x6 x q h1 h2 h3 h4
      refine Tot.step (fun k => by rw [zbz.l0]) (Tot.no (by omega) ?_)
      refine Tot.bind (odd_tot s q n hs (by omega) (by omega)) ?_
      rintro ⟨a, q2⟩ ⟨h5, h6⟩
      simp only at h5 h6 ⊢
      refine Tot.ite (fun _ => ?_) (fun _ => Tot.ret _ ⟨by simp; omega, by simp; omega, by simp; omega⟩)
      refine Tot.bind (zck s q2 3 hs (by omega) (by omega)) ?_
      rintro ⟨b, q3⟩ ⟨h7, h8, h9⟩
      simp only at h7 h8 h9 ⊢; subst h7
      refine Tot.ite (fun _ => more (6 - x.length) x _ (by omega) (by omega) (by omega)) (fun _ => ?_)
      refine Tot.bind (task_tot s (q2 + 1) 2 hs (by omega) (by omega)) ?_
      rintro ⟨a, b, c, q4⟩ ⟨_, h10, h11⟩
      simp only at h10 h11 ⊢
      exact Tot.yes (by omega) (Tot.ret _ ⟨by simp; omega, by simp; omega, by simp; omega⟩)
    | succ d ih =>
      intro x6 x q h1 h2 h3 h4
      refine Tot.step (fun k => by rw [zbz.l0]) (Tot.yes (by omega) ?_)
      refine Tot.bind (task_tot s q 0 hs (by omega) (by omega)) ?_
      rintro ⟨a, b, c, q2⟩ ⟨_, h4, h5⟩
      simp only at h4 h5 ⊢
      rw [w64 (x := x6 - 1) (by omega) (by omega)]
      exact Tot.yes (by omega) (ih _ _ _ (by omega) (by simp; omega) (by omega) (by omega))
  unfold zbz.f
  refine Tot.bind (zck s p 6 hs hp (by omega)) ?_
  rintro ⟨a, q2⟩ ⟨h5, h6, h7⟩
  simp only at h5 h6 h7 ⊢; subst h5
  have h7 := h7 (by omega)
  exact first a.toNat a [] _ (by omega) (by simp; omega) (by omega) (by omega)
end Go.Proofs.Ytkdfjomhichkoaa.DrSet
namespace Go.Proofs.Ytkdfjomhichkoaa.DrJobs
open Go.RowKit Go.Proofs.Ytkdfjomhichkoaa.P Go.Proofs.Ytkdfjomhichkoaa.Base Go.Proofs.Ytkdfjomhichkoaa.Gen Go.Proofs.Ytkdfjomhichkoaa.Pb Go.Proofs.Ytkdfjomhichkoaa.Set Go.Proofs.Ytkdfjomhichkoaa.Jobs Go.Proofs.YtkdfjomhichkoaaW.PrintWords Go.Proofs.YtkdfjomhichkoaaW.PrintLast
theorem jobs_tot (s : List Int) (l : List Task) (p n : Int) (hs : Bytes s) (hl : l.length ≤ 5) (hp : 0 ≤ p) (hp2 : p ≤ 990000000) : Tot (fun k => zz.f k s p l n) (fun r => r.1.length ≤ 61) := by
  have fill : ∀ (d : Nat) (x : List Job) (q : Int), x.length + d = 61 → Tot (fun k => zz.l2 k x s q) (fun r => r.1.length ≤ 61) := by
    intro d
    induction d with
    | zero => intro x q hx; exact Tot.step (fun k => by rw [zz.l2]) (Tot.no (by omega) (Tot.ret _ (by simp only; omega)))
    | succ d ih =>
      intro x q hx
      exact Tot.step (fun k => by rw [zz.l2]) (Tot.yes (by omega) (Tot.yes (by omega) (ih _ q (by rw [List.length_append, List.length_singleton]; omega))))
  have last : ∀ (x : List Job) (b : Bool) (q : Int), x.length ≤ 60 → (b = true → 0 < x.length) → 0 ≤ q → q ≤ 999000000 → Tot (fun k => zz.j3 k l x b s q) (fun r => r.1.length ≤ 61) := by
    intro x b q hx hb hq0 hq1
    refine Tot.step (fun k => by rw [zz.j3]) (Tot.ite (fun hbt => ?_) (fun _ => Tot.ret _ (by simp only; omega)))
    have hpos := hb hbt
    refine Tot.bind (zck s q (x.length : Int) hs hq0 (by omega)) ?_
    rintro ⟨a, q2⟩ ⟨h1, h2, h3⟩
    simp only at h1 h2 h3 ⊢; subst h1
    have h3 := h3 (by omega)
    refine Tot.bind (zck s (q + 1) 6 hs (by omega) (by omega)) ?_
    rintro ⟨c, q3⟩ ⟨h4, h5, h6⟩
    simp only at h4 h5 h6 ⊢; subst h4
    refine Tot.ite (fun _ => ?_) (fun _ => Tot.ite (fun _ => ?_) (fun _ => Tot.ite (fun _ => ?_) (fun _ => Tot.ite (fun _ => ?_) (fun _ => Tot.ite (fun _ => ?_) (fun _ => ?_)))))
    · refine zdk _ (Tot.bind (zck s (q + 1 + 1) 2 hs (by omega) (by omega)) ?_)
      rintro ⟨d, q4⟩ ⟨h7, h8, h9⟩
      simp only at h7 h8 h9 ⊢; subst h7
      have h9 := h9 (by omega)
      exact Tot.yes h8 (Tot.yes (by simp; omega) (Tot.yes h2 (Tot.yes h3 (Tot.ret _ (by simp only [List.length_set]; omega)))))
    · refine Tot.yes h2 (Tot.yes h3 (zdk _ (Tot.bind (zck s (q + 1 + 1) 3 hs (by omega) (by omega)) ?_)))
      rintro ⟨d, q4⟩ ⟨h7, h8, h9⟩
      simp only at h7 h8 h9 ⊢; subst h7
      have h9 := h9 (by omega)
      exact Tot.yes h8 (Tot.yes (by simp; omega) (Tot.ret _ (by simp only [List.length_set]; omega)))
    · exact Tot.yes h2 (Tot.yes h3 (Tot.ret _ (by simp only [List.length_set]; omega)))
    · refine zdk _ (Tot.bind (zck s (q + 1 + 1) 2 hs (by omega) (by omega)) ?_)
      rintro ⟨d, q4⟩ ⟨h7, h8, h9⟩
      simp only at h7 h8 h9 ⊢; subst h7
      have h9 := h9 (by omega)
      exact Tot.yes h8 (Tot.yes (by simp; omega) (Tot.yes h2 (Tot.yes h3 (Tot.ret _ (by simp only [List.length_set]; omega)))))
    · exact Tot.yes h2 (Tot.yes h3 (Tot.yes (by omega) (Tot.ret _ (by simp only [List.length_append, List.length_singleton]; omega))))
    · exact fill (61 - x.length) x _ (by omega)
  have inner : ∀ (t : Int) (u : Int), 0 ≤ u → u ≤ 3 → ∀ (R : Int → Prop),
      (∀ (x : List Job) (y : List Int) (q : Int), x.length ≤ 60 → y.length = l.length → R q → Tot (fun k => zz.l0 k l n x y u (wrap64 (t + 1)) s q) (fun r => r.1.length ≤ 61)) →
      ∀ (d i : Nat) (x : List Job) (y : List Int) (q : Int), i + d = l.length → x.length ≤ 60 → y.length = l.length → 0 ≤ q → (∀ q', q ≤ q' → q' ≤ q + 3 * d → R q') → q + 3 * d ≤ 999000000 → Tot (fun k => zz.l1 k l n x y u t (i : Int) s q) (fun r => r.1.length ≤ 61) := by
    intro t u hu0 hu1 R hR d
    induction d with
    | zero =>
      intro i x y q hi hx hy hq hRq _
      exact Tot.step (fun k => by rw [zz.l1]) (Tot.no (by omega) (hR x y q hx hy (hRq q (by omega) (by omega))))
    | succ d ih =>
      intro i x y q hi hx hy hq hRq hqb
      have e1 : wrap64 ((i : Int) + 1) = ((i + 1 : Nat) : Int) := by rw [w64 (by omega) (by omega)]; omega
      have next : ∀ (x2 : List Job) (y2 : List Int) (q2 : Int), x2.length ≤ 60 → y2.length = l.length → q ≤ q2 → q2 ≤ q + 3 → Tot (fun k => zz.l1 k l n x2 y2 u t (wrap64 ((i : Int) + 1)) s q2) (fun r => r.1.length ≤ 61) := by
        intro x2 y2 q2 hx2 hy2 h1 h2
        rw [e1]
        exact ih (i + 1) x2 y2 q2 (by omega) hx2 hy2 (by omega) (fun q' h3 h4 => hRq q' (by omega) (by omega)) (by omega)
      have j2 : ∀ (b : Bool) (q2 : Int), (b = false → x.length < 60) → q ≤ q2 → q2 ≤ q + 1 → Tot (fun k => zz.j2 k l n x y u t (i : Int) b s q2) (fun r => r.1.length ≤ 61) := by
        intro b q2 hb h1 h2
        refine Tot.step (fun k => by rw [zz.j2]) (Tot.ite (fun _ => next x y q2 hx hy h1 (by omega)) (fun hbf => ?_))
        have hlt := hb (by simpa using hbf)
        refine Tot.yes (by omega) (Tot.yes (by omega) ?_)
        refine Tot.bind (zck s q2 3 hs (by omega) (by omega)) ?_
        rintro ⟨a, q3⟩ ⟨h3, h4, h5⟩
        simp only at h3 h4 h5 ⊢; subst h3
        refine Tot.ite (fun _ => ?_) (fun _ => ?_)
        · refine Tot.bind (zck s (q2 + 1) _ hs (by omega) (by omega)) ?_
          rintro ⟨c, q4⟩ ⟨h6, h7, h8⟩
          simp only at h6 h7 h8 ⊢; subst h6
          exact Tot.yes (by omega) (Tot.yes (by omega) (next _ _ _ (by rw [List.length_append, List.length_singleton]; omega) (by rw [List.length_set]; exact hy) (by omega) (by omega)))
        · exact Tot.yes (by omega) (Tot.yes (by omega) (next _ _ _ (by rw [List.length_append, List.length_singleton]; omega) (by rw [List.length_set]; exact hy) (by omega) (by omega)))
      refine Tot.step (fun k => by rw [zz.l1]) (Tot.yes (by omega) (Tot.yes (by omega) (Tot.yes (by omega) ?_)))
      refine Tot.ite (fun _ => j2 true q (by simp) (by omega) (by omega)) (fun _ => Tot.ite (fun _ => j2 true q (by simp) (by omega) (by omega)) (fun h60 => ?_))
      refine Tot.ite (fun _ => ?_) (fun _ => j2 false q (fun _ => by omega) (by omega) (by omega))
      refine Tot.bind (zck s q _ hs hq (by omega)) ?_
      rintro ⟨a, q3⟩ ⟨h3, h4, h5⟩
      simp only at h3 h4 h5 ⊢; subst h3
      exact j2 _ _ (fun _ => by omega) (by omega) (by omega)
  have outer : ∀ (u : Int), 0 ≤ u → u ≤ 3 → ∀ (d i : Nat) (x : List Job) (y : List Int) (q : Int), i + d = 100 → x.length ≤ 60 → y.length = l.length → 0 ≤ q → q + 15 * d ≤ 998000000 → Tot (fun k => zz.l0 k l n x y u (i : Int) s q) (fun r => r.1.length ≤ 61) := by
    intro u hu0 hu1 d
    induction d with
    | zero =>
      intro i x y q hi hx hy hq hqb
      refine Tot.step (fun k => by rw [zz.l0]) (Tot.no (by omega) ?_)
      refine Tot.bind (odd_tot s q n hs hq (by omega)) ?_
      rintro ⟨a, q2⟩ ⟨h1, h2⟩
      simp only at h1 h2 ⊢
      exact Tot.ite (fun _ => last x _ q2 hx (fun h => by have := of_decide_eq_true h; omega) (by omega) (by omega)) (fun _ => last x _ q2 hx (by simp) (by omega) (by omega))
    | succ d ih =>
      intro i x y q hi hx hy hq hqb
      refine Tot.step (fun k => by rw [zz.l0]) (Tot.yes (by omega) ?_)
      refine inner (i : Int) u hu0 hu1 (fun q' => q ≤ q' ∧ q' ≤ q + 15) (fun x2 y2 q2 hx2 hy2 hq2 => ?_) l.length 0 x y q (by omega) hx hy hq (fun q' h1 h2 => ⟨h1, by omega⟩) (by omega)
      rw [show wrap64 ((i : Int) + 1) = ((i + 1 : Nat) : Int) by rw [w64 (by omega) (by omega)]; omega]
      exact ih (i + 1) x2 y2 q2 (by omega) hx2 hy2 (by omega) (by omega)
  unfold zz.f
  refine Tot.yes (by omega) (Tot.yes (by rw [Int.toNat_natCast]; omega) ?_)
  refine Tot.bind (zck s p 3 hs hp (by omega)) ?_
  rintro ⟨a, q2⟩ ⟨h1, h2, h3⟩
  simp only at h1 h2 h3 ⊢; subst h1
  have h3 := h3 (by omega)
  exact outer a h2 (by omega) 100 0 [] _ _ (by omega) (by simp) (by rw [List.length_replicate, Int.toNat_natCast]) (by omega) (by omega)
end Go.Proofs.Ytkdfjomhichkoaa.DrJobs
namespace Go.Proofs.Ytkdfjomhichkoaa.Same
open Go.RowKit Go.Proofs.Ytkdfjomhichkoaa.P Go.Proofs.Ytkdfjomhichkoaa.Base Go.Proofs.Ytkdfjomhichkoaa.Gen Go.Proofs.YtkdfjomhichkoaaW.PrintWords Go.Proofs.YtkdfjomhichkoaaW.PrintLast
theorem same_tot (l : List Int) (hl : l.length ≤ 1048576) : Tot (fun k => zca.f k l l) (fun r => r = true) := by
  have h := Tot.look (r := true) (fun k i => zca.l0 k l l i) l.length (fun k i h => by
    simp only [zca.l0]
    rw [if_pos (by omega), if_pos (by omega), if_pos (by omega), if_pos (by first | trivial | rfl), w64 (by omega) (by omega)]) (fun k => by
    simp only [zca.l0]
    rw [if_neg (by omega)])
  refine Tot.congr (fun k => ?_) h
  unfold zca.f
  rw [if_pos rfl]
end Go.Proofs.Ytkdfjomhichkoaa.Same
namespace Go.Proofs.Ytkdfjomhichkoaa.DrNp
open Go.RowKit Go.Proofs.Ytkdfjomhichkoaa.P Go.Proofs.Ytkdfjomhichkoaa.Base Go.Proofs.Ytkdfjomhichkoaa.Gen Go.Proofs.Ytkdfjomhichkoaa.Pb Go.Proofs.Ytkdfjomhichkoaa.Set Go.Proofs.Ytkdfjomhichkoaa.Tm Go.Proofs.Ytkdfjomhichkoaa.DrSet Go.Proofs.Ytkdfjomhichkoaa.Jobs Go.Proofs.Ytkdfjomhichkoaa.DrJobs Go.Proofs.Ytkdfjomhichkoaa.Same Go.Proofs.YtkdfjomhichkoaaW.PrintWords Go.Proofs.YtkdfjomhichkoaaW.PrintLast
theorem sched_tot (a b : List Int) (ha : a.length ≤ 1048576) (hb : b.length ≤ 1048576) : Tot (fun k => zcd.f k a b a b) (fun r => r = true) := by
  unfold zcd.f
  refine Tot.bind (same_tot a ha) ?_
  rintro _ rfl
  refine Tot.yes rfl (Tot.bind (same_tot b hb) ?_)
  rintro _ rfl
  exact Tot.ret _ rfl
end Go.Proofs.Ytkdfjomhichkoaa.DrNp
namespace Go.Proofs.Ytkdfjomhichkoaa.DrSup
open Go.RowKit Go.Proofs.Ytkdfjomhichkoaa.P Go.Proofs.Ytkdfjomhichkoaa.Base Go.Proofs.Ytkdfjomhichkoaa.Gen Go.Proofs.Ytkdfjomhichkoaa.Pb Go.Proofs.YtkdfjomhichkoaaW.PrintWords Go.Proofs.YtkdfjomhichkoaaW.PrintLast
section
variable (s : List Int) (p n : Int) (hs : Bytes s) (hp : 0 ≤ p) (hp2 : p ≤ 900000000)
include hs hp hp2
theorem supply_tot : Tot (fun k => zde.f k s p n) (fun r => p ≤ r.2.2 ∧ r.2.2 ≤ p + 5 ∧ -100 ≤ r.1 ∧ r.1 ≤ 100 ∧ -100 ≤ r.2.1 ∧ r.2.1 ≤ 100) := by
  unfold zde.f
  refine Tot.bind (zck s p 12 hs hp (by omega)) ?_
  rintro ⟨a, q⟩ ⟨h, ha0, ha1⟩
  simp only at h ha0 ha1; subst h
  have ha2 := ha1 (by omega)
  refine zdk _ ?_
  refine Tot.bind (zck s (p + 1) 4 hs (by omega) (by omega)) ?_
  rintro ⟨b, q⟩ ⟨h, h3, h4⟩
  simp only at h h3 h4; subst h
  refine Tot.yes h3 (Tot.yes (by simp; omega) ?_)
  have hm := rd_mem (xs := [4, 6, 12, wrap64 (1 + a)]) h3 (by simp; omega)
  rw [w64 (x := 1 + a) (by omega) (by omega)] at hm ⊢
  simp only [List.mem_cons, List.not_mem_nil, or_false] at hm
  generalize rd [4, 6, 12, 1 + a] b = c at hm ⊢
  have hc : 1 ≤ c ∧ c ≤ 12 := by omega
  have hd := tdiv_ok c 2 (by omega) (by omega)
  rw [w64 (x := Int.tdiv c 2) (by omega) (by omega), w64 (x := Int.tdiv c 2 + 1) (by omega) (by omega)]
  refine Tot.bind (zck s (p + 1 + 1) _ hs (by omega) (by omega)) ?_
  rintro ⟨d, q⟩ ⟨h, h5, h6⟩
  simp only at h h5 h6; subst h
  have h7 := h6 (by unfold mx; split <;> omega)
  have h8 : mx 1 (Int.tdiv c 2 + 1) ≤ 13 := by unfold mx; split <;> omega
  refine Tot.bind (odd_tot s (p + 1 + 1 + 1) n hs (by omega) (by omega)) ?_
  rintro ⟨e, q⟩ ⟨h1, h2⟩
  simp only at h1 h2
  refine Tot.ite (fun _ => ?_) (fun _ => Tot.ret _ ⟨by show p ≤ q; omega, by show q ≤ p + 5; omega, ?_, ?_, by show -100 ≤ c; omega, by show c ≤ 100; omega⟩)
  · refine zdk _ ?_
    refine Tot.bind (zck s q 3 hs (by omega) (by omega)) ?_
    rintro ⟨d, q'⟩ ⟨h, h3, h4⟩
    simp only at h h3 h4; subst h
    have h9 : d = 0 ∨ d = 1 ∨ d = 2 := by omega
    rcases h9 with rfl | rfl | rfl
    all_goals exact Tot.yes (by omega) (Tot.yes (by dsimp only; decide) (Tot.ret _ ⟨by show p ≤ q + 1; omega, by show q + 1 ≤ p + 5; omega, by dsimp only; decide, by dsimp only; decide, by dsimp only; decide, by dsimp only; decide⟩))
  · show -100 ≤ mx 1 (wrap64 (c - d))
    rw [w64 (by omega) (by omega)]; unfold mx; split <;> omega
  · show mx 1 (wrap64 (c - d)) ≤ 100
    rw [w64 (by omega) (by omega)]; unfold mx; split <;> omega
end
end Go.Proofs.Ytkdfjomhichkoaa.DrSup
namespace Go.Proofs.Ytkdfjomhichkoaa.DrPat
open Go.RowKit Go.Proofs.Ytkdfjomhichkoaa.P Go.Proofs.Ytkdfjomhichkoaa.Base Go.Proofs.Ytkdfjomhichkoaa.Gen Go.Proofs.Ytkdfjomhichkoaa.Pb Go.Proofs.Ytkdfjomhichkoaa.Sup Go.Proofs.YtkdfjomhichkoaaW.PrintWords Go.Proofs.YtkdfjomhichkoaaW.PrintLast
section
variable (s : List Int) (n b p : Int) (hs : Bytes s) (hv : SV b p)
include hs
theorem tail_tot (l : List Bool) (hl : l.length = 120) (a q : Int) (hq : 0 ≤ q) (hq2 : q ≤ 900000000) :
    Tot (fun k => zl.j1 k n l a false s q b p) (fun r => r.1.length ≤ 120 ∧ q ≤ r.2 ∧ r.2 ≤ q + 3) := by
  refine Tot.step (fun k => by rw [zl.j1]) (Tot.no (by simp) ?_)
  refine Tot.bind (odd_tot s q n hs hq (by omega)) ?_
  rintro ⟨c, q1⟩ ⟨h1, h2⟩
  simp only at h1 h2 ⊢
  refine Tot.ite (fun _ => ?_) (fun _ => Tot.ret _ ⟨by simp; omega, by simp; omega, by simp; omega⟩)
  refine Tot.bind (zck s q1 120 hs (by omega) (by omega)) ?_
  rintro ⟨d, q2⟩ ⟨h, h3, h4⟩
  simp only at h h3 h4 ⊢; subst h
  have h4 := h4 (by omega)
  refine Tot.bind (zck s (q1 + 1) 2 hs (by omega) (by omega)) ?_
  rintro ⟨e, q2⟩ ⟨h, h5, h6⟩
  simp only at h h5 h6 ⊢; subst h
  refine Tot.ite (fun _ => Tot.yes h3 (Tot.yes (by omega) (Tot.ret _ ⟨by simp; omega, by simp; omega, by simp; omega⟩))) (fun _ => Tot.yes h3 (Tot.yes (by omega) (Tot.ret _ ⟨by simp; omega, by simp; omega, by simp; omega⟩)))
include hv
theorem inner_tot (a : Int) (ha : 0 ≤ a) (ha2 : a < 120) (q0 : Int) (hq : 0 ≤ q0) (hq2 : q0 ≤ 800000000)
    (H : ∀ (l : List Bool) (q : Int), l.length = 120 → q0 ≤ q → q ≤ q0 + 12 → Tot (fun k => zl.l0 k n l (a + p) s q b p) (fun r => r.1.length ≤ 120 ∧ 0 ≤ r.2 ∧ r.2 ≤ 900000000)) (x9 : Int) :
    ∀ (d : Nat) (j : Nat) (l : List Bool) (left q : Int), (j : Int) + d = p → l.length = 120 → -20 ≤ left → left ≤ 20 → q0 ≤ q → q ≤ q0 + j →
      Tot (fun k => zl.l1 k n l a x9 left (j : Int) s q b p) (fun r => r.1.length ≤ 120 ∧ 0 ≤ r.2 ∧ r.2 ≤ 900000000) := by
  unfold SV at hv
  have out : ∀ (j : Nat) (l : List Bool) (left q : Int), (j : Int) ≤ 12 → l.length = 120 → q0 ≤ q → q ≤ q0 + 12 → Tot (fun k => zl.j3 k n l a x9 left (j : Int) false s q b p) (fun r => r.1.length ≤ 120 ∧ 0 ≤ r.2 ∧ r.2 ≤ 900000000) := by
    intro j l left q hj hl h1 h2
    refine Tot.step (fun k => by rw [zl.j3]) (Tot.no (by simp) ?_)
    rw [w64 (x := a + p) (by omega) (by omega)]
    exact H l q hl h1 h2
  intro d
  induction d with
  | zero =>
    intro j l left q hj hl _ _ h1 h2
    refine Tot.step (fun k => by rw [zl.l1]) (Tot.no (by omega) ?_)
    exact out j l left q (by omega) hl h1 (by omega)
  | succ d ih =>
    intro j l left q hj hl hf hf2 h1 h2
    refine Tot.step (fun k => by rw [zl.l1]) (Tot.yes (by omega) ?_)
    rw [w64 (x := a + j) (by omega) (by omega)]
    by_cases hx : a + j < 120
    · rw [show decide (a + (j : Int) < 120) = true from decide_eq_true hx]
      refine Tot.step (fun k => by rw [zl.j3]) (Tot.yes rfl ?_)
      rw [w64 (x := a + j) (by omega) (by omega), w64 (x := left - 1) (by omega) (by omega), w64 (x := (j : Int) + 1) (by omega) (by omega)]
      have next : ∀ (l' : List Bool) (left' q' : Int), l'.length = 120 → -20 ≤ left' → left' ≤ 20 → q0 ≤ q' → q' ≤ q0 + (j + 1 : Nat) → Tot (fun k => zl.l1 k n l' a x9 left' ((j : Int) + 1) s q' b p) (fun r => r.1.length ≤ 120 ∧ 0 ≤ r.2 ∧ r.2 ≤ 900000000) := by
        intro l' left' q' a1 a2 a3 a4 a5
        exact ih (j + 1) l' left' q' (by push_cast; omega) a1 a2 a3 a4 a5
      have hi : 0 ≤ a + (j : Int) := by omega
      have hlt : a + (j : Int) < (l.length : Int) := by omega
      have set_ : ∀ (v : Bool) (left' : Int), -20 ≤ left' → left' ≤ 20 → Tot (fun k => if 0 ≤ a + (j : Int) then (if a + (j : Int) < (l.length : Int) then zl.l1 k n (l.set (a + (j : Int)).toNat v) a x9 left' ((j : Int) + 1) s q b p else none) else none) (fun r => r.1.length ≤ 120 ∧ 0 ≤ r.2 ∧ r.2 ≤ 900000000) := by
        intro v left' a1 a2
        exact Tot.yes hi (Tot.yes hlt (next _ _ _ (by simp [hl]) a1 a2 h1 (by push_cast; omega)))
      refine Tot.ite (fun hz => ?_) (fun _ => set_ _ _ hf hf2)
      refine Tot.ite (fun _ => set_ _ _ (by omega) (by omega)) (fun _ => ?_)
      refine Tot.ite (fun _ => set_ _ _ (by omega) (by omega)) (fun _ => ?_)
      refine Tot.ite (fun _ => ?_) (fun _ => set_ _ _ hf hf2)
      refine Tot.bind (zck s q 2 hs (by omega) (by omega)) ?_
      rintro ⟨e, q2⟩ ⟨h, h5, h6⟩
      simp only at h h5 h6 ⊢; subst h
      refine Tot.yes hi (Tot.yes hlt (zdk _ ?_))
      exact Tot.ite (fun _ => next _ _ _ (by simp [hl]) (by omega) (by omega) (by omega) (by push_cast; omega)) (fun _ => next _ _ _ (by simp [hl]) hf hf2 (by omega) (by push_cast; omega))
    · rw [show decide (a + (j : Int) < 120) = false from decide_eq_false hx]
      exact out j l left q (by omega) hl h1 (by omega)
theorem outer_tot : ∀ (d : Nat) (a : Int) (l : List Bool) (q : Int), 0 ≤ a → a + d = 132 → l.length = 120 → 0 ≤ q → q ≤ 700000000 + 13 * a →
    Tot (fun k => zl.l0 k n l a s q b p) (fun r => r.1.length ≤ 120 ∧ 0 ≤ r.2 ∧ r.2 ≤ 900000000) := by
  have hv' := hv
  unfold SV at hv'
  intro d
  induction d using Nat.strongRecOn with
  | _ d ih =>
    intro a l q ha hd hl hq hq2
    refine Tot.step (fun k => by rw [zl.l0]) (Tot.bind0 (ssv_f b p) (Tot.yes (decide_eq_true hv) ?_))
    by_cases hx : a < 120
    · rw [show decide (a < 120) = true from decide_eq_true hx]
      refine Tot.step (fun k => by rw [zl.j1]) (Tot.yes rfl ?_)
      refine Tot.bind (zck s q 3 hs hq (by omega)) ?_
      rintro ⟨e, q2⟩ ⟨h, h5, h6⟩
      simp only at h h5 h6 ⊢; subst h
      refine inner_tot s n b p hs hv a ha hx (q + 1) (by omega) (by omega) ?_ e p.toNat 0 l b (q + 1) (by push_cast; omega) hl (by omega) (by omega) (by omega) (by push_cast; omega)
      intro l' q' hl' h1 h2
      exact ih (132 - (a + p)).toNat (by omega) (a + p) l' q' (by omega) (by omega) hl' (by omega) (by omega)
    · rw [show decide (a < 120) = false from decide_eq_false hx]
      exact (tail_tot s n b p hs l hl a q hq (by omega)).mono (fun r hr => ⟨hr.1, by omega, by omega⟩)
end
theorem pattern_tot (s : List Int) (q b p n : Int) (hs : Bytes s) (hq : 0 ≤ q) (hq2 : q ≤ 700000000) : Tot (fun k => zl.f k s q b p n) (fun r => r.1.length ≤ 120 ∧ 0 ≤ r.2 ∧ r.2 ≤ 900000000) := by
  unfold zl.f
  refine Tot.yes (by decide) ?_
  by_cases hv : SV b p
  · exact outer_tot s n b p hs hv 132 0 _ q (by omega) (by omega) (by simp) hq (by omega)
  · refine Tot.step (fun k => by rw [zl.l0]) (Tot.bind0 (ssv_f b p) (Tot.no (fun h => hv (of_decide_eq_true h)) ?_))
    exact (tail_tot s n b p hs _ (by simp) 0 q hq (by omega)).mono (fun r hr => ⟨hr.1, by omega, by omega⟩)
end Go.Proofs.Ytkdfjomhichkoaa.DrPat
namespace Go.Proofs.Ytkdfjomhichkoaa.DrRs
open Go.RowKit Go.Proofs.Ytkdfjomhichkoaa.P Go.Proofs.Ytkdfjomhichkoaa.Base Go.Proofs.Ytkdfjomhichkoaa.Gen Go.Proofs.Ytkdfjomhichkoaa.Pb Go.Proofs.Ytkdfjomhichkoaa.Set Go.Proofs.Ytkdfjomhichkoaa.Tm Go.Proofs.Ytkdfjomhichkoaa.DrSet Go.Proofs.Ytkdfjomhichkoaa.Jobs Go.Proofs.Ytkdfjomhichkoaa.DrJobs Go.Proofs.Ytkdfjomhichkoaa.DrSup Go.Proofs.Ytkdfjomhichkoaa.DrPat Go.Proofs.YtkdfjomhichkoaaW.PrintWords Go.Proofs.YtkdfjomhichkoaaW.PrintLast
def ShortR (r : List DrSet.Task × List Job × Int × Int × List Bool) : Prop := r.1.length ≤ 20 ∧ r.2.1.length ≤ 61 ∧ r.2.2.2.2.length ≤ 120
theorem draw_rs (l0 : List Int) (hl : ∀ x ∈ l0, (Lit.int .u8 x).wf = true) : Tot (fun k => z8.f k l0) ShortR := by
  unfold z8.f
  refine open_tot l0 hl (fun s hs => ?_)
  have last : ∀ (l : List DrSet.Task) (q : Int), l.length ≤ 20 → 0 ≤ q → q ≤ 1000 → Tot (fun k => z8.j1 k l s q) ShortR := by
    intro l q hl20 hq0 hq1
    refine Tot.step (fun k => by rw [z8.j1]) ?_
    refine Tot.bind (supply_tot s q 20 hs hq0 (by omega)) ?_
    rintro ⟨b, p, q2⟩ ⟨h1, h2, _⟩
    simp only at h1 h2 ⊢
    refine Tot.bind (pattern_tot s q2 b p 16 hs (by omega) (by omega)) ?_
    rintro ⟨pat, q3⟩ ⟨h3, h4, h5⟩
    simp only at h3 h4 h5 ⊢
    refine Tot.bind (Tot.val (sset_ev l (by omega))) ?_
    rintro _ rfl
    by_cases hs2 : SetOk l
    · refine Tot.yes (decide_eq_true hs2) (Tot.bind (jobs_tot s l q3 16 hs hs2.1 h4 (by omega)) ?_)
      rintro ⟨js, q4⟩ h6
      exact Tot.ret _ ⟨hl20, h6, h3⟩
    · exact Tot.no (by simp [hs2]) (Tot.ret _ ⟨hl20, by simp, h3⟩)
  have loop : ∀ (d : Nat) (x : Int) (l : List DrSet.Task) (q : Int), x = d → (l.length : Int) + x ≤ 3 → 0 ≤ q → q + 2 * x ≤ 50 → Tot (fun k => z8.l0 k l x s q) ShortR := by
    intro d
    induction d with
    | zero =>
      intro x l q hx hlx hq0 hq1
      refine Tot.step (fun k => by rw [z8.l0]) (Tot.no (by omega) ?_)
      refine Tot.bind (zck s q 3 hs hq0 (by omega)) ?_
      rintro ⟨a, q2⟩ ⟨h1, h2, h3⟩
      simp only at h1 h2 h3 ⊢; subst h1
      refine Tot.ite (fun _ => ?_) (fun _ => last l _ (by omega) (by omega) (by omega))
      refine Tot.bind (set_tot s (q + 1) 16 hs (by omega) (by omega)) ?_
      rintro ⟨l2, q3⟩ ⟨h4, h5, h6⟩
      simp only at h4 h5 h6 ⊢
      exact last l2 q3 h4 (by omega) (by omega)
    | succ d ih =>
      intro x l q hx hlx hq0 hq1
      refine Tot.step (fun k => by rw [z8.l0]) (Tot.yes (by omega) ?_)
      refine Tot.bind (zck s q 2 hs hq0 (by omega)) ?_
      rintro ⟨a, q2⟩ ⟨h1, h2, h3⟩
      simp only at h1 h2 h3 ⊢; subst h1
      refine Tot.bind (zck s (q + 1) 5 hs (by omega) (by omega)) ?_
      rintro ⟨c, q3⟩ ⟨h4, h5, h6⟩
      simp only at h4 h5 h6 ⊢; subst h4
      rw [w64 (x := x - 1) (by omega) (by omega)]
      exact Tot.yes (by omega) (ih (x - 1) _ _ (by omega) (by rw [List.length_append, List.length_singleton]; omega) (by omega) (by omega))
  refine Tot.bind (zck s 0 3 hs (by omega) (by omega)) ?_
  rintro ⟨a, q2⟩ ⟨h1, h2, h3⟩
  simp only at h1 h2 h3 ⊢; subst h1
  have h3 := h3 (by omega)
  exact loop a.toNat a [] _ (by omega) (by simp; omega) (by omega) (by omega)
end Go.Proofs.Ytkdfjomhichkoaa.DrRs
