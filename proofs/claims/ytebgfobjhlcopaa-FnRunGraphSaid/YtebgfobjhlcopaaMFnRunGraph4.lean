/- The law FnRunGraph for every input, part 4 of its proof: what the program's functions answer, and the plain law. No condition. -/
import Derived.Test.YtebgfobjhlcopaaMFnRunGraph1
import Derived.Test.YtebgfobjhlcopaaMFnRunGraph2
import Derived.Test.YtebgfobjhlcopaaMFnRunGraph3
set_option maxRecDepth 100000
namespace Go.Proofs.Ytebgfobjhlcopaa.P
open Go.RowKit Go.Proofs.YtebgfobjhlcopaaW.PrintWords Go.Proofs.YtebgfobjhlcopaaW.PrintLast Go.Proofs.YtebgfobjhlcopaaW.PrintMore
attribute [local go_sem] zfw zfx zhc zhd zfe zff zfy zfz
set_option linter.unusedVariables false
set_option linter.unusedSimpArgs false
theorem Zq14 {X0 P : Prop} (x0 : za X0) (h : X0 → P := by intro x0; (with_reducible repeat (first | apply Kd.zbb | apply Kd.zba | apply Kd.zu)); exact x0) : P := h x0.out
theorem Zq15 {X0 X1 X2 P : Prop} (x0 : za X0) (x1 : za X1) (x2 : za X2) (h : X0 → X1 → X2 → P := by intro x0 x1 x2; repeat (first | (with_reducible first | exact x0 | apply zbo | apply zbk | apply zbr | refine zdn ?_ x1 | refine zdn ?_ x2) | exact x0)) : P := h x0.out x1.out x2.out
theorem Zq16 {X0 X1 X2 X3 P : Prop} (x0 : za X0) (x1 : za X1) (x2 : za X2) (x3 : za X3) (h : X0 → X1 → X2 → X3 → P := by intro x0 x1 x2 x3; repeat (first | (with_reducible first | exact x0 | apply zbo | apply zbk | apply zbr | refine zdn ?_ x1 | refine zdn ?_ x2 | refine zdn ?_ x3) | exact x0)) : P := h x0.out x1.out x2.out x3.out
theorem Kd.Qc_form {α : Type} {d : Kd α} {e base : Nat} {w : World} {ok : Nat → Prop} {v : Value} {xs : List α} (h : Kd.Qc d e w base ok v xs) (hp : 0 < xs.length) : ∃ g cap, v = .slice (some ⟨g, 0, none⟩) xs.length cap ∧ base ≤ g ∧ g < w.heap.size ∧ ∃ cells, w.heap[g]? = some (.cells cells e (0, 0)) := by
 obtain ⟨v', hc, h⟩ := h
 obtain ⟨g, cap, he, h1, h2, h3⟩ := Kd.zf4 h hp
 rcases hc with rfl | ⟨ad, n1, c1, c', e1, e2, h4, h5⟩
 ·exact ⟨g, cap, he, h1, h2, h3⟩
 ·rw [e2] at he
  injection he with e3 e4 e5
  subst e4
  rw [e3] at e1
  exact ⟨g, c1, e1, h1, h2, h3⟩
theorem Kd.Qc_celln {α : Type} {enc : α → Value} {h1 : ∀ x, (enc x).oneCell' = true} {e base g n cap : Nat} {ok : Nat → Prop} {W : World} {xs : List α} (d : α) (h : Kd.Qc (Kd.scalar enc h1) e W base ok (.slice (some ⟨g, 0, none⟩) n cap) xs) (i : Int) (h0 : 0 ≤ i) (hi : i < n) : W.cell? ⟨g, i.toNat, none⟩ = some (enc (rdOf d xs i)) ∧ W.frozen? ⟨g, i.toNat, none⟩ = false := by
 obtain ⟨v', hc, h⟩ := h
 rcases hc with rfl | ⟨ad, n1, c1, c', e1, rfl, h4, h5⟩
 ·exact Kd.zeb d h i h0 hi
 ·injection e1 with e3 e4 e5
  injection e3 with e3
  subst e3 e4 e5
  exact Kd.zeb d h i h0 hi
mutual
def laws_FnRunGraph.j0 : Nat → List Int → List (List Int) → Int → Bool → List (List Int) → List Int → Option (Bool)
 | 0, _, _, _, _, _, _ => none
 | k + 1, x3, x4, x5, x44, x253000, x253001 => if x44 = true then (some false) else (if (x253001.length : Int) = (x3.length : Int) then ((zk.f k x3 x4).bind fun t262 => (laws_FnRunGraph.j1 k x3 x4 x5 (!t262) x253000 x253001)) else (laws_FnRunGraph.j1 k x3 x4 x5 true x253000 x253001))
def laws_FnRunGraph.j1 : Nat → List Int → List (List Int) → Int → Bool → List (List Int) → List Int → Option (Bool)
 | 0, _, _, _, _, _, _ => none
 | k + 1, x3, x4, x5, x56, x253000, x253001 => if x56 = true then ((zdr.f).bind fun t263 => (some t263)) else (if 0 ≤ (x3.length : Int) then (if ((x3.length : Int) : Int).toNat ≤ 35184372088832 then (laws_FnRunGraph.l0 k x3 x4 x5 (List.replicate ((x3.length : Int) : Int).toNat 0) 0 x253000 x253001) else (none)) else (none))
def laws_FnRunGraph.l0 : Nat → List Int → List (List Int) → Int → List Int → Int → List (List Int) → List Int → Option (Bool)
 | 0, _, _, _, _, _, _, _ => none
 | k + 1, x3, x4, x5, x8, x9, x253000, x253001 => if x9 < (x253000.length : Int) then (if 0 ≤ x9 then (if ((zh x253000 x9).length : Int) > x5 then (some false) else (laws_FnRunGraph.l1 k x3 x4 x5 x8 x9 0 x253000 x253001)) else (none)) else ((zbg.f k x3 x4 1).bind fun bt267 => ((zbe.f k x8 x3).bind fun t274 => (if t274 = true then ((zco.f k x3 x4).bind fun t275 => (some ((bt267.1.length : Int) == t275))) else (some false))))
def laws_FnRunGraph.l1 : Nat → List Int → List (List Int) → Int → List Int → Int → Int → List (List Int) → List Int → Option (Bool)
 | 0, _, _, _, _, _, _, _, _ => none
 | k + 1, x3, x4, x5, x8, x9, x10, x253000, x253001 => if 0 ≤ x9 then (if x9 < (x253000.length : Int) then (if x10 < ((zh x253000 x9).length : Int) then (if 0 ≤ x10 then (laws_FnRunGraph.l2 k x3 x4 x5 x8 x9 x10 (rd (zh x253000 x9) x10) 0 x253000 x253001) else (none)) else (laws_FnRunGraph.l0 k x3 x4 x5 x8 (wrap64 (x9 + 1)) x253000 x253001)) else (none)) else (none)
def laws_FnRunGraph.l2 : Nat → List Int → List (List Int) → Int → List Int → Int → Int → Int → Int → List (List Int) → List Int → Option (Bool)
 | 0, _, _, _, _, _, _, _, _, _, _ => none
 | k + 1, x3, x4, x5, x8, x9, x10, x11, x12, x253000, x253001 => if x12 < (x4.length : Int) then (if 0 ≤ x12 then (if 1 < ((zh x4 x12).length : Int) then (if (rd (zh x4 x12) 1) = x11 then (if 0 < ((zh x4 x12).length : Int) then (if 0 ≤ (rd (zh x4 x12) 0) then (if (rd (zh x4 x12) 0) < (x253001.length : Int) then (if (rd x253001 (rd (zh x4 x12) 0)) > x9 then (some false) else (laws_FnRunGraph.l2 k x3 x4 x5 x8 x9 x10 x11 (wrap64 (x12 + 1)) x253000 x253001)) else (none)) else (none)) else (none)) else (laws_FnRunGraph.l2 k x3 x4 x5 x8 x9 x10 x11 (wrap64 (x12 + 1)) x253000 x253001)) else (none)) else (none)) else (if 0 ≤ x11 then (if x11 < (x8.length : Int) then ((some (x8.set (x11 : Int).toNat (wrap64 ((rd x8 x11) + 1)) : List Int)).bind fun y286 => (if x11 < (x3.length : Int) then (if (rd y286 x11) = (rd x3 x11) then (if x11 < (x253001.length : Int) then (if (rd x253001 x11) = (wrap64 (x9 + 1)) then (if (rd y286 x11) > (rd x3 x11) then (some false) else (laws_FnRunGraph.l1 k x3 x4 x5 y286 x9 (wrap64 (x10 + 1)) x253000 x253001)) else (some false)) else (none)) else (if (rd y286 x11) > (rd x3 x11) then (some false) else (laws_FnRunGraph.l1 k x3 x4 x5 y286 x9 (wrap64 (x10 + 1)) x253000 x253001))) else (none))) else (none)) else (none))
end
def laws_FnRunGraph.f (k : Nat) (l0 : List Int) : Option (Bool) := if (l0.length : Int) > 1048576 then (some true) else ((zcc.f k l0).bind fun bt239 => ((zbg.f k bt239.1 bt239.2.1 bt239.2.2).bind fun bt246 => ((zl.f k bt239.1 bt239.2.1 bt239.2.2).bind fun bt253 => ((zbn.f k bt246.1 bt253.1).bind fun t260 => (if t260 = true then ((zbe.f k bt246.2 bt253.2).bind fun t261 => (laws_FnRunGraph.j0 k bt239.1 bt239.2.1 bt239.2.2 (!t261) bt246.1 bt246.2)) else (laws_FnRunGraph.j0 k bt239.1 bt239.2.1 bt239.2.2 true bt246.1 bt246.2))))))
def laws_FnRunGraph.T23 : Bool × List (List Nat × List Nat) := (true, [([], []), ([], []), ([0, 1], [0, 1]), ([2], [2]), ([3], [3]), ([4], [4]), ([], []), ([5, 6], [5, 6]), ([7], [7]), ([8], [8]), ([9, 8], [8, 9]), ([8], [8]), ([8], [8]), ([11, 12, 8], [8, 11, 12]), ([13, 8], [8, 13]), ([14, 8], [8, 14]), ([15, 8], [8, 15]), ([10, 16, 8], [8, 10, 16]), ([17, 8], [8, 17]), ([8], [8]), ([18, 19, 8], [8, 18, 19]), ([8, 20], [8, 20])])
def laws_FnRunGraph.B23 : List Nat := [0, 0, 3, 7, 15, 31, 0, 127, 255, 511, 1023, 511, 511, 6655, 14847, 31231, 63999, 131071, 262143, 511, 1048575, 2097151]
theorem laws_FnRunGraph.tab23 : rtab .any (opsOf Try.f3 23) = laws_FnRunGraph.T23 := by kernel_rfl
theorem laws_FnRunGraph.zh5 : zdw laws_FnRunGraph.T23.2 laws_FnRunGraph.B23 = true := by kernel_rfl
def laws_FnRunGraph.T26 : Bool × List (List Nat × List Nat) := (true, [([], []), ([], []), ([0, 1], [0, 1]), ([2], [2]), ([], []), ([], []), ([4, 5], [4, 5]), ([6], [6]), ([3, 7], [3, 7]), ([8], [8]), ([9], [9]), ([10, 9], [9, 10]), ([9], [9]), ([11, 12, 9], [9, 11, 12]), ([13, 9], [9, 13]), ([9], [9]), ([15, 9], [9, 15]), ([14, 16, 9], [9, 14, 16]), ([9, 17], [9, 17]), ([18, 9], [18]), ([19], [19]), ([19], [19]), ([20, 21, 19], [19, 20, 21]), ([22, 19], [19, 22]), ([19], [19]), ([19], [19]), ([24, 25, 19], [19, 24, 25]), ([26, 19], [19, 26]), ([23, 27, 19], [19, 23, 27]), ([19, 28], [19, 28])])
def laws_FnRunGraph.B26 : List Nat := [0, 0, 3, 7, 0, 0, 48, 112, 255, 511, 1023, 2047, 1023, 8191, 16383, 1023, 33791, 131071, 262143, 524287, 1048575, 1048575, 4194303, 8388607, 1048575, 1048575, 51380223, 118489087, 268435455, 536870911]
theorem laws_FnRunGraph.tab26 : rtab .any (opsOf Try.f3 26) = laws_FnRunGraph.T26 := by kernel_rfl
theorem laws_FnRunGraph.bits26 : zdw laws_FnRunGraph.T26.2 laws_FnRunGraph.B26 = true := by kernel_rfl
def laws_FnRunGraph.T29 : Bool × List (List Nat × List Nat) := (true, [([], []), ([], []), ([0, 1], [0, 1]), ([2, 2], [2]), ([3], [3]), ([4, 3], [3, 4]), ([5, 3], [3, 5]), ([3], [3]), ([3], [3]), ([7, 8, 3, 3], [3, 7, 8]), ([6, 9, 3], [3, 6, 9]), ([3, 10], [3, 10]), ([11, 9, 0, 1, 2, 3, 4, 5, 6, 7, 8, 9, 10, 11], [11])])
def laws_FnRunGraph.B29 : List Nat := [0, 0, 3, 7, 15, 31, 63, 15, 15, 399, 1023, 2047, 4095]
theorem laws_FnRunGraph.tab29 : rtab .any (opsOf Try.f3 29) = laws_FnRunGraph.T29 := by kernel_rfl
theorem laws_FnRunGraph.bits29 : zdw laws_FnRunGraph.T29.2 laws_FnRunGraph.B29 = true := by kernel_rfl
set_option maxHeartbeats 8000000 in
theorem laws_FnRunGraph.calls (k : Nat) (A0 : Option Addr) (c0 : Nat) (l0 : List Int) (r : Bool) (w : World) (hr0 : Kd.C (Kd.int .u8) w A0 l0.length l0) (hc0 : l0.length ≤ c0) (h : laws_FnRunGraph.f k l0 = some r) (hrt : r = true) :
  Calls Try.prog 3 #[.slice A0 l0.length c0] w fun e w' => e = .returned (.bool r) ∧ Below w.heap.size w w' := by
 have HRT := za.mk hrt
 clear hrt
 have hu28 := Try.underlying28
 have HR0 := za.mk hr0
 have HC0 := za.mk hc0
 clear hr0 hc0
 have HB := za.mk (Below.refl w.heap.size w)
 have H : (if (l0.length : Int) > 1048576 then (some true) else ((zcc.f k l0).bind fun bt239 => ((zbg.f k bt239.1 bt239.2.1 bt239.2.2).bind fun bt246 => ((zl.f k bt239.1 bt239.2.1 bt239.2.2).bind fun bt253 => ((zbn.f k bt246.1 bt253.1).bind fun t260 => (if t260 = true then ((zbe.f k bt246.2 bt253.2).bind fun t261 => (laws_FnRunGraph.j0 k bt239.1 bt239.2.1 bt239.2.2 (!t261) bt246.1 bt246.2)) else (laws_FnRunGraph.j0 k bt239.1 bt239.2.1 bt239.2.2 true bt246.1 bt246.2))))))) = some r := h
 clear h
 by_cases c2 : (l0.length : Int) > 1048576
 ·rw [if_pos c2] at H
  have c2b0 : decide (1048576 < (l0.length : Int)) = true := decide_eq_true c2;have c2b1 : decide (1048576 < l0.length) = true := decide_eq_true (by omega);clear c2;obtain rfl := Option.some.inj H;go_enter Try.func3, Try.ntmps3;go_wp2;go_ret;exact ⟨by first | rfl | (simp [zq, zt] <;> rfl) | (simp [*, zq, zt] <;> rfl), Zq1 HB⟩
 ·rw [if_neg c2] at H
  have c2b0 : decide (1048576 < (l0.length : Int)) = false := decide_eq_false c2;have c2b1 : decide (1048576 < l0.length) = false := decide_eq_false (by omega);clear c2;replace H := Option.bind_eq_some_iff.mp H;obtain ⟨⟨t239, t240, t241⟩, A30, H⟩ := H;replace H : ((zbg.f k t239 t240 t241).bind fun bt246 => ((zl.f k t239 t240 t241).bind fun bt253 => ((zbn.f k bt246.1 bt253.1).bind fun t260 => (if t260 = true then ((zbe.f k bt246.2 bt253.2).bind fun t261 => (laws_FnRunGraph.j0 k t239 t240 t241 (!t261) bt246.1 bt246.2)) else (laws_FnRunGraph.j0 k t239 t240 t241 true bt246.1 bt246.2))))) = some r := H;have A3 := za.mk A30;clear A30;replace H := Option.bind_eq_some_iff.mp H;obtain ⟨⟨t246, t249⟩, A40, H⟩ := H;replace H : ((zl.f k t239 t240 t241).bind fun bt253 => ((zbn.f k t246 bt253.1).bind fun t260 => (if t260 = true then ((zbe.f k t249 bt253.2).bind fun t261 => (laws_FnRunGraph.j0 k t239 t240 t241 (!t261) t246 t249)) else (laws_FnRunGraph.j0 k t239 t240 t241 true t246 t249)))) = some r := H;have A4 := za.mk A40;clear A40;replace H := Option.bind_eq_some_iff.mp H;obtain ⟨⟨t253, t256⟩, A50, H⟩ := H;replace H : ((zbn.f k t246 t253).bind fun t260 => (if t260 = true then ((zbe.f k t249 t256).bind fun t261 => (laws_FnRunGraph.j0 k t239 t240 t241 (!t261) t246 t249)) else (laws_FnRunGraph.j0 k t239 t240 t241 true t246 t249))) = some r := H;have A5 := za.mk A50;clear A50;have HC6 := za.mk H;clear H;go_enter Try.func3, Try.ntmps3
  go_upto_region 6 with (first | ((with_reducible refine zbd (f := 8) rfl ?_); refine zb7 (some 19) rfl rfl Try.func8 (by kernel_rfl) rfl #[.slice A0 l0.length c0] rfl Zmt ?_; (with_reducible refine (zcc.calls k _ _ l0 t239 t240 t241 _ ?side1 ?side2 A3.out).mono ?_); (case side1 => exact Zq11 HR0); (case side2 => exact HC0.out); rintro e w7 ⟨v242, v244, rfl, ho0, ho1, hb⟩; replace ho0 := Kd.zgc ho0; replace ho1 := Kd.Qc_of_S ho1; refine ⟨_, rfl, ?_⟩; have n0_ := za.mk (Kd.zc9 ho0 (zbs (Zq1 HB))); have n1_ := za.mk (Kd.zc9 ho1 (zbs (Zq1 HB))); have n2_ := za.mk (zbi (Zq1 HB) hb); clear HB; have HO243 := n0_; have HO245 := n1_; have HB := n2_; clear n0_ n1_ n2_; (try clear hb); (try clear hb2); (try clear hk); (try clear hi); (try clear ho0); (try clear ho1); obtain ⟨Ao8, co8, eo8⟩ := Kd.zde HO243.out; subst eo8; obtain ⟨Ao9, co9, eo9⟩ := Kd.zde HO245.out; subst eo9) | ((with_reducible refine zbd (f := 9) rfl ?_); refine zb7 (some 26) rfl rfl Try.func9 (by kernel_rfl) rfl #[.slice Ao8 t239.length co8, .slice Ao9 t240.length co9, .int .i64 t241] rfl Zmt ?_; (with_reducible refine (zbg.calls k _ _ t239 _ _ t240 t241 t246 t249 _ ?side1 ?side2 ?side3 ?side4 A4.out).mono ?_); (case side1 => exact Zq12 ((Kd.zw HO243.out).2.2)); (case side2 => exact (Kd.zw HO243.out).2.1); (case side3 => exact Zq12 ((Kd.zw HO245.out).2.2)); (case side4 => exact (Kd.zw HO245.out).2.1); rintro e w10 ⟨v247, v250, rfl, ho0, ho1, hb⟩; replace ho1 := Kd.zbh (ok' := fun _ => True) ho1 (fun _ _ => trivial); refine ⟨_, rfl, ?_⟩; have n0_ := za.mk (Kd.zcu (Zq14 HO243) (Kd.zcd ho1) hb); have n1_ := za.mk (Kd.zbh (Kd.zdy (Kd.zdy (Kd.zgw (Zq14 HO245) hb) (Kd.zcd ho0)) (Kd.zcd ho1)) (fun _ h_ => h_.1)); have n2_ := za.mk (Kd.zc9 (Kd.zch (Kd.zch ho0 (Kd.zdz (Zq14 HO243))) (Kd.zdz (Zq14 HO245))) (zbs (Zq1 HB))); have n3_ := za.mk (Kd.zc9 (Kd.zch ho1 (Kd.zdz (Zq14 HO243))) (zbs (Zq1 HB))); have n4_ := za.mk (zbi (Zq1 HB) hb); clear HO243; clear HO245; clear HB; have HO243 := n0_; have HO245 := n1_; have HO248 := n2_; have HO251 := n3_; have HB := n4_; clear n0_ n1_ n2_ n3_ n4_; (try clear hb); (try clear hb2); (try clear hk); (try clear hi); (try clear ho0); (try clear ho1)) | ((with_reducible refine zb8 (N := 6) rfl ?_); (try (refine zca (by rfl) ?_; dsimp only)); refine zdu ?hg (N := 6) ?hd (cs := #[.slice none 0 0, .slice none 0 0]) (t := 28) ?hr ?_; (case hd => rfl); (case hg => rfl); (case hr => first | (go_simp; done) | (go_simp; rfl)); intro gb252 hg w11 hbox hb; have n0_ := za.mk (Kd.zbt (Zq14 HO243) hb); have n1_ := za.mk (Kd.zbt (Zq14 HO245) hb); have n2_ := za.mk (Kd.zbt (Zq14 HO248) hb); have n3_ := za.mk (Kd.zbt (Zq14 HO251) hb); have n4_ := za.mk (zbi (Zq1 HB) hb); have n5_ := za.mk (hbox); have n6_ := za.mk ((by rw [hg]; exact (zbs (Zq1 HB)) : w.heap.size ≤ gb252)); have n7_ := za.mk ((by rw [hg]; exact (zbs (Zq1 HB)) : w.heap.size ≤ gb252)); clear HO243; clear HO245; clear HO248; clear HO251; clear HB; have HO243 := n0_; have HO245 := n1_; have HO248 := n2_; have HO251 := n3_; have HB := n4_; have BK252 := n5_; have GW252 := n6_; have GE252 := n7_; clear n0_ n1_ n2_ n3_ n4_ n5_ n6_ n7_; clear hb hbox hg; obtain ⟨Ao12, co12, eo12⟩ := Kd.zde HO248.out; subst eo12; have hcz13_0 : w11.cell? ⟨gb252, 0, none⟩ = some (.slice none 0 0) := (z8 BK252.out 0).trans rfl; have hcz13_1 : w11.cell? ⟨gb252, 1, none⟩ = some (.slice none 0 0) := (z8 BK252.out 1).trans rfl; have hfz13_0 := zy BK252.out 0; have hfz13_1 := zy BK252.out 1; obtain ⟨Ao14, co14, eo14⟩ := Kd.zde HO251.out; subst eo14) | ((with_reducible refine zbd (f := 10) rfl ?_); refine zb7 (some 30) rfl rfl Try.func10 (by kernel_rfl) rfl #[.slice Ao8 t239.length co8, .slice Ao9 t240.length co9, .int .i64 t241] rfl Zmt ?_; (with_reducible refine (zl.calls k _ _ t239 _ _ t240 t241 t253 t256 _ ?side1 ?side2 ?side3 ?side4 A5.out).mono ?_); (case side1 => refine (Kd.zw (e := 3) (base := w.heap.size) (ok := fun k_ => (True ∧ some k_ ≠ (.slice Ao14 t249.length co14 : Value).ownBlock)) (n := t239.length) (c := co8) ?_).2.2; exact (by (with_reducible repeat (first | apply Kd.zbb | apply Kd.zba | apply Kd.zu)); exact (Kd.zbh (Kd.zbm (p := ⟨gb252, 1, none⟩) (Kd.zbm (p := ⟨gb252, 0, none⟩) (Kd.zbu HO243.out BK252.out (by decide)) (fun _ hk => hk.2) (.slice Ao12 t246.length co12)) (fun _ hk => hk.2) (.slice Ao14 t249.length co14)) (fun _ h_ => h_.1)))); (case side2 => exact (Kd.zw HO243.out).2.1); (case side3 => refine Kd.cut_C (Kd.zw (e := 23) (base := w.heap.size) (ok := fun k_ => ((some k_ ≠ (.slice Ao8 t239.length co8 : Value).ownBlock ∧ some k_ ≠ (.slice Ao12 t246.length co12 : Value).ownBlock) ∧ some k_ ≠ (.slice Ao14 t249.length co14 : Value).ownBlock)) (n := t240.length) (c := co9) ?_).2.2; exact (by (with_reducible repeat (first | apply Kd.zbb | apply Kd.zba | apply Kd.zu)); exact (Kd.zbh (Kd.zbm (p := ⟨gb252, 1, none⟩) (Kd.zbm (p := ⟨gb252, 0, none⟩) (Kd.zbu HO245.out BK252.out (by decide)) (fun _ hk => hk.2) (.slice Ao12 t246.length co12)) (fun _ hk => hk.2) (.slice Ao14 t249.length co14)) (fun _ h_ => h_.1)))); (case side4 => exact (Kd.zw HO245.out).2.1); rintro e w15 ⟨v254, v257, rfl, ho0, ho1, hb⟩; replace ho1 := Kd.zbh (ok' := fun _ => True) ho1 (fun _ _ => trivial); refine ⟨_, rfl, ?_⟩; have n0_ := za.mk (Kd.zcu (by (with_reducible repeat (first | apply Kd.zbb | apply Kd.zba | apply Kd.zu)); exact (Kd.zbh (Kd.zbm (p := ⟨gb252, 1, none⟩) (Kd.zbm (p := ⟨gb252, 0, none⟩) (Kd.zbu HO243.out BK252.out (by decide)) (fun _ hk => hk.2) (.slice Ao12 t246.length co12)) (fun _ hk => hk.2) (.slice Ao14 t249.length co14)) (fun _ h_ => h_.1))) (Kd.zcd ho1) hb); have n1_ := za.mk (Kd.zbh (Kd.zdy (Kd.zdy (Kd.zgw (by (with_reducible repeat (first | apply Kd.zbb | apply Kd.zba | apply Kd.zu)); exact (Kd.zbh (Kd.zbm (p := ⟨gb252, 1, none⟩) (Kd.zbm (p := ⟨gb252, 0, none⟩) (Kd.zbu HO245.out BK252.out (by decide)) (fun _ hk => hk.2) (.slice Ao12 t246.length co12)) (fun _ hk => hk.2) (.slice Ao14 t249.length co14)) (fun _ h_ => h_.1))) hb) (Kd.zcd ho0)) (Kd.zcd ho1)) (fun _ h_ => h_.1)); have n2_ := za.mk (Kd.zbh (Kd.zdy (Kd.zdy (Kd.zgw (by (with_reducible repeat (first | apply Kd.zbb | apply Kd.zba | apply Kd.zu)); exact (Kd.zbh (Kd.zbm (p := ⟨gb252, 1, none⟩) (Kd.zbm (p := ⟨gb252, 0, none⟩) (Kd.zbu HO248.out BK252.out (by decide)) (fun _ hk => hk.2) (.slice Ao12 t246.length co12)) (fun _ hk => hk.2) (.slice Ao14 t249.length co14)) (fun _ h_ => h_.1))) hb) (Kd.zcd ho0)) (Kd.zcd ho1)) (fun _ h_ => h_.1)); have n3_ := za.mk (Kd.zcu (by (with_reducible repeat (first | apply Kd.zbb | apply Kd.zba | apply Kd.zu)); exact (Kd.zbh (Kd.zbm (p := ⟨gb252, 1, none⟩) (Kd.zbm (p := ⟨gb252, 0, none⟩) (Kd.zbu HO251.out BK252.out (by decide)) (fun _ hk => hk.2) (.slice Ao12 t246.length co12)) (fun _ hk => hk.2) (.slice Ao14 t249.length co14)) (fun _ h_ => h_.1))) (Kd.zcd ho1) hb); have n4_ := za.mk (Kd.zc9 (Kd.zch (Kd.zch (Kd.zch (Kd.zch ho0 (Kd.zdz (by (with_reducible repeat (first | apply Kd.zbb | apply Kd.zba | apply Kd.zu)); exact (Kd.zbh (Kd.zbm (p := ⟨gb252, 1, none⟩) (Kd.zbm (p := ⟨gb252, 0, none⟩) (Kd.zbu HO243.out BK252.out (by decide)) (fun _ hk => hk.2) (.slice Ao12 t246.length co12)) (fun _ hk => hk.2) (.slice Ao14 t249.length co14)) (fun _ h_ => h_.1))))) (Kd.zdz (by (with_reducible repeat (first | apply Kd.zbb | apply Kd.zba | apply Kd.zu)); exact (Kd.zbh (Kd.zbm (p := ⟨gb252, 1, none⟩) (Kd.zbm (p := ⟨gb252, 0, none⟩) (Kd.zbu HO245.out BK252.out (by decide)) (fun _ hk => hk.2) (.slice Ao12 t246.length co12)) (fun _ hk => hk.2) (.slice Ao14 t249.length co14)) (fun _ h_ => h_.1))))) (Kd.zdz (by (with_reducible repeat (first | apply Kd.zbb | apply Kd.zba | apply Kd.zu)); exact (Kd.zbh (Kd.zbm (p := ⟨gb252, 1, none⟩) (Kd.zbm (p := ⟨gb252, 0, none⟩) (Kd.zbu HO248.out BK252.out (by decide)) (fun _ hk => hk.2) (.slice Ao12 t246.length co12)) (fun _ hk => hk.2) (.slice Ao14 t249.length co14)) (fun _ h_ => h_.1))))) (Kd.zdz (by (with_reducible repeat (first | apply Kd.zbb | apply Kd.zba | apply Kd.zu)); exact (Kd.zbh (Kd.zbm (p := ⟨gb252, 1, none⟩) (Kd.zbm (p := ⟨gb252, 0, none⟩) (Kd.zbu HO251.out BK252.out (by decide)) (fun _ hk => hk.2) (.slice Ao12 t246.length co12)) (fun _ hk => hk.2) (.slice Ao14 t249.length co14)) (fun _ h_ => h_.1))))) (zbs (Zq3 HB GE252))); have n5_ := za.mk (Kd.zc9 (Kd.zch (Kd.zch ho1 (Kd.zdz (by (with_reducible repeat (first | apply Kd.zbb | apply Kd.zba | apply Kd.zu)); exact (Kd.zbh (Kd.zbm (p := ⟨gb252, 1, none⟩) (Kd.zbm (p := ⟨gb252, 0, none⟩) (Kd.zbu HO243.out BK252.out (by decide)) (fun _ hk => hk.2) (.slice Ao12 t246.length co12)) (fun _ hk => hk.2) (.slice Ao14 t249.length co14)) (fun _ h_ => h_.1))))) (Kd.zdz (by (with_reducible repeat (first | apply Kd.zbb | apply Kd.zba | apply Kd.zu)); exact (Kd.zbh (Kd.zbm (p := ⟨gb252, 1, none⟩) (Kd.zbm (p := ⟨gb252, 0, none⟩) (Kd.zbu HO251.out BK252.out (by decide)) (fun _ hk => hk.2) (.slice Ao12 t246.length co12)) (fun _ hk => hk.2) (.slice Ao14 t249.length co14)) (fun _ h_ => h_.1))))) (zbs (Zq3 HB GE252))); have n6_ := za.mk (zb1 (g := gb252) (o := .cells #[.slice Ao12 t246.length co12, .slice Ao14 t249.length co14] 28 (0, 0)) (by (with_reducible repeat (first | refine zbw ?_ _ | refine zbv ?_ | refine zb0 ?_ _)); refine zcr (cs := #[.slice Ao12 t246.length co12, .slice none 0 0]) ?_ 1 _ rfl; (with_reducible repeat (first | refine zbw ?_ _ | refine zbv ?_ | refine zb0 ?_ _)); refine zcr (cs := #[.slice none 0 0, .slice none 0 0]) ?_ 0 _ rfl; (with_reducible repeat (first | refine zbw ?_ _ | refine zbv ?_ | refine zb0 ?_ _)); exact BK252.out) hb); have n7_ := za.mk (zbi (Zq3 HB GE252) hb); clear HO243; clear HO245; clear HO248; clear HO251; clear BK252; clear HB; have HO243 := n0_; have HO245 := n1_; have HO248 := n2_; have HO251 := n3_; have HO255 := n4_; have HO258 := n5_; have BK252 := n6_; have HB := n7_; clear n0_ n1_ n2_ n3_ n4_ n5_ n6_ n7_; (try clear hb); (try clear hb2); (try clear hk); (try clear hi); (try clear ho0); (try clear ho1)) | ((with_reducible refine zb8 (N := 7) rfl ?_); (try (refine zca (by rfl) ?_; dsimp only)); refine zdu ?hg (N := 7) ?hd (cs := #[.slice none 0 0, .slice none 0 0]) (t := 28) ?hr ?_; (case hd => rfl); (case hg => rfl); (case hr => first | (go_simp; done) | (go_simp; rfl)); intro gb259 hg w16 hbox hb; have n0_ := za.mk (Kd.zbt (Zq14 HO243) hb); have n1_ := za.mk (Kd.zbt (Zq14 HO245) hb); have n2_ := za.mk (Kd.zbt (Zq14 HO248) hb); have n3_ := za.mk (Kd.zbt (Zq14 HO251) hb); have n4_ := za.mk (Kd.zbt (Zq14 HO255) hb); have n5_ := za.mk (Kd.zbt (Zq14 HO258) hb); have n6_ := za.mk (zb1 (g := gb252) (o := .cells #[.slice Ao12 t246.length co12, .slice Ao14 t249.length co14] 28 (0, 0)) (Zq2 BK252) hb); have n7_ := za.mk (zbi (Zq3 HB GE252) hb); have n8_ := za.mk (hbox); have n9_ := za.mk ((by rw [hg]; exact (zbs (Zq3 HB GE252)) : w.heap.size ≤ gb259)); have n10_ := za.mk ((by rw [hg]; exact (zbs (Zq3 HB GE252)) : w.heap.size ≤ gb259)); have n11_ := za.mk ((by rw [hg]; exact Nat.ne_of_lt (zer (g := gb252) (o := .cells #[.slice Ao12 t246.length co12, .slice Ao14 t249.length co14] 28 (0, 0)) (Zq2 BK252)) : gb252 ≠ gb259)); have n12_ := za.mk ((by rw [hg]; exact Nat.ne_of_gt (zer (g := gb252) (o := .cells #[.slice Ao12 t246.length co12, .slice Ao14 t249.length co14] 28 (0, 0)) (Zq2 BK252)) : gb259 ≠ gb252)); clear HO243; clear HO245; clear HO248; clear HO251; clear HO255; clear HO258; clear BK252; clear HB; have HO243 := n0_; have HO245 := n1_; have HO248 := n2_; have HO251 := n3_; have HO255 := n4_; have HO258 := n5_; have BK252 := n6_; have HB := n7_; have BK259 := n8_; have GW259 := n9_; have GE259 := n10_; have NB252_259 := n11_; have NB259_252 := n12_; clear n0_ n1_ n2_ n3_ n4_ n5_ n6_ n7_ n8_ n9_ n10_ n11_ n12_; clear hb hbox hg; obtain ⟨Ao17, co17, eo17⟩ := Kd.zde HO255.out; subst eo17; have hnb18 := NB259_252.out; have hnc18 := NB252_259.out; have hcz19_0 : w16.cell? ⟨gb259, 0, none⟩ = some (.slice none 0 0) := (z8 BK259.out 0).trans rfl; have hcz19_1 : w16.cell? ⟨gb259, 1, none⟩ = some (.slice none 0 0) := (z8 BK259.out 1).trans rfl; have hfz19_0 := zy BK259.out 0; have hfz19_1 := zy BK259.out 1; obtain ⟨Ao20, co20, eo20⟩ := Kd.zde HO258.out; subst eo20))
  (try simp only [Act.put, Zs1, Zs2, Zs3])
  go_cut [44] (fun v44 wc => ∃ (kq : Nat) (x44_5 : Bool), v44 = .bool x44_5 ∧ za (laws_FnRunGraph.j0 kq t239 t240 t241 x44_5 t246 t249 = some r) ∧ za (kq ≤ k) ∧ za (Kd.Qc (Kd.int .i64) 3 wc w.heap.size (fun k_ => some k_ ≠ ((.slice Ao14 t249.length co14) : Value).ownBlock ∧ some k_ ≠ ((.slice Ao20 t256.length co20) : Value).ownBlock) (.slice Ao8 t239.length co8) t239) ∧ za (Kd.Qc (Kd.cut 3 (Kd.int .i64)) 23 wc w.heap.size (fun k_ => some k_ ≠ ((.slice Ao8 t239.length co8) : Value).ownBlock ∧ some k_ ≠ ((.slice Ao12 t246.length co12) : Value).ownBlock ∧ some k_ ≠ ((.slice Ao14 t249.length co14) : Value).ownBlock ∧ some k_ ≠ ((.slice Ao17 t253.length co17) : Value).ownBlock ∧ some k_ ≠ ((.slice Ao20 t256.length co20) : Value).ownBlock) (.slice Ao9 t240.length co9) t240) ∧ za (Kd.Qc (Kd.cut 3 (Kd.int .i64)) 23 wc w.heap.size (fun k_ => some k_ ≠ ((.slice Ao8 t239.length co8) : Value).ownBlock ∧ some k_ ≠ ((.slice Ao9 t240.length co9) : Value).ownBlock ∧ some k_ ≠ ((.slice Ao14 t249.length co14) : Value).ownBlock ∧ some k_ ≠ ((.slice Ao17 t253.length co17) : Value).ownBlock ∧ some k_ ≠ ((.slice Ao20 t256.length co20) : Value).ownBlock) (.slice Ao12 t246.length co12) t246) ∧ za (Kd.Qc (Kd.int .i64) 3 wc w.heap.size (fun k_ => some k_ ≠ ((.slice Ao8 t239.length co8) : Value).ownBlock ∧ some k_ ≠ ((.slice Ao20 t256.length co20) : Value).ownBlock) (.slice Ao14 t249.length co14) t249) ∧ za (Kd.Qc (Kd.cut 3 (Kd.int .i64)) 23 wc w.heap.size (fun k_ => some k_ ≠ ((.slice Ao8 t239.length co8) : Value).ownBlock ∧ some k_ ≠ ((.slice Ao9 t240.length co9) : Value).ownBlock ∧ some k_ ≠ ((.slice Ao12 t246.length co12) : Value).ownBlock ∧ some k_ ≠ ((.slice Ao14 t249.length co14) : Value).ownBlock ∧ some k_ ≠ ((.slice Ao20 t256.length co20) : Value).ownBlock) (.slice Ao17 t253.length co17) t253) ∧ za (Kd.Qc (Kd.int .i64) 3 wc w.heap.size (fun k_ => some k_ ≠ ((.slice Ao8 t239.length co8) : Value).ownBlock ∧ some k_ ≠ ((.slice Ao14 t249.length co14) : Value).ownBlock) (.slice Ao20 t256.length co20) t256) ∧ za (wc.heap[gb252]? = some (.cells #[(.slice Ao12 t246.length co12), (.slice Ao14 t249.length co14)] 28 (0, 0))) ∧ za (wc.heap[gb259]? = some (.cells #[(.slice Ao17 t253.length co17), (.slice Ao20 t256.length co20)] 28 (0, 0))) ∧ za (Below w.heap.size w wc))
  case first =>
   have H := HC6.out;clear HC6;replace H := Option.bind_eq_some_iff.mp H;obtain ⟨t260, A210, H⟩ := H;replace H : (if t260 = true then ((zbe.f k t249 t256).bind fun t261 => (laws_FnRunGraph.j0 k t239 t240 t241 (!t261) t246 t249)) else (laws_FnRunGraph.j0 k t239 t240 t241 true t246 t249)) = some r := H;have A21 := za.mk A210;clear A210;by_cases c22 : t260 = true
   ·subst c22
    have H1 : ((zbe.f k t249 t256).bind fun t261 => (laws_FnRunGraph.j0 k t239 t240 t241 (!t261) t246 t249)) = some r := by rw [if_pos rfl] at H; exact H
    clear H;have H := H1;clear H1;replace H := Option.bind_eq_some_iff.mp H;obtain ⟨t261, A230, H⟩ := H;replace H : (laws_FnRunGraph.j0 k t239 t240 t241 (!t261) t246 t249) = some r := H;have A23 := za.mk A230;clear A230;have H' := za.mk H;clear H;have hnb24 := NB252_259.out;have hnc24 := NB259_252.out;have hcz25_0 : w16.cell? ⟨gb252, 0, none⟩ = some (.slice Ao12 t246.length co12) := (z8 BK252.out 0).trans rfl;have hcz25_1 : w16.cell? ⟨gb252, 1, none⟩ = some (.slice Ao14 t249.length co14) := (z8 BK252.out 1).trans rfl;have hfz25_0 := zy BK252.out 0;have hfz25_1 := zy BK252.out 1;have hcz26_0 : w16.cell? ⟨gb259, 0, none⟩ = some (.slice none 0 0) := (z8 BK259.out 0).trans rfl;have hcz26_1 : w16.cell? ⟨gb259, 1, none⟩ = some (.slice none 0 0) := (z8 BK259.out 1).trans rfl;have hfz26_0 := zy BK259.out 0;have hfz26_1 := zy BK259.out 1;go_wp2_with (first | ((with_reducible refine zbd (f := 11) rfl ?_); refine zb7 (some 35) rfl rfl Try.func11 (by kernel_rfl) rfl #[.slice Ao12 t246.length co12, .slice Ao17 t253.length co17] rfl Zmt ?_; (with_reducible refine (zbn.calls k _ _ t246 _ _ t253 true _ ?side1 ?side2 ?side3 ?side4 A21.out).mono ?_); (case side1 => refine Kd.cut_C (Kd.zw (e := 23) (base := w.heap.size) (ok := fun k_ => ((((some k_ ≠ (.slice Ao14 t249.length co14 : Value).ownBlock ∧ some k_ ≠ (.slice Ao8 t239.length co8 : Value).ownBlock) ∧ some k_ ≠ (.slice Ao9 t240.length co9 : Value).ownBlock) ∧ some k_ ≠ (.slice Ao17 t253.length co17 : Value).ownBlock) ∧ some k_ ≠ (.slice Ao20 t256.length co20 : Value).ownBlock)) (n := t246.length) (c := co12) ?_).2.2; exact (by (with_reducible repeat (first | apply Kd.zbb | apply Kd.zba | apply Kd.zu)); exact (Kd.zbh (Kd.zbm (p := ⟨gb259, 1, none⟩) (Kd.zbm (p := ⟨gb259, 0, none⟩) (Kd.zbu HO248.out BK259.out (by decide)) (fun _ hk => hk.2) (.slice Ao17 t253.length co17)) (fun _ hk => hk.2) (.slice Ao20 t256.length co20)) (fun _ h_ => h_.1)))); (case side2 => exact (Kd.zw HO248.out).2.1); (case side3 => refine Kd.cut_C (Kd.zw (e := 23) (base := w.heap.size) (ok := fun k_ => ((((some k_ ≠ (.slice Ao20 t256.length co20 : Value).ownBlock ∧ some k_ ≠ (.slice Ao8 t239.length co8 : Value).ownBlock) ∧ some k_ ≠ (.slice Ao9 t240.length co9 : Value).ownBlock) ∧ some k_ ≠ (.slice Ao12 t246.length co12 : Value).ownBlock) ∧ some k_ ≠ (.slice Ao14 t249.length co14 : Value).ownBlock)) (n := t253.length) (c := co17) ?_).2.2; exact (by (with_reducible repeat (first | apply Kd.zbb | apply Kd.zba | apply Kd.zu)); exact (Kd.zbh (Kd.zbm (p := ⟨gb259, 1, none⟩) (Kd.zbm (p := ⟨gb259, 0, none⟩) (Kd.zbu HO255.out BK259.out (by decide)) (fun _ hk => hk.2) (.slice Ao17 t253.length co17)) (fun _ hk => hk.2) (.slice Ao20 t256.length co20)) (fun _ h_ => h_.1)))); (case side4 => exact (Kd.zw HO255.out).2.1); rintro e w' ⟨rfl, ⟨nd, rfl⟩⟩; refine ⟨_, rfl, ?_⟩) | (go_at_call 12; (with_reducible refine (zbe.calls k _ _ t249 _ _ t256 t261 _ ?side1 ?side2 ?side3 ?side4 A23.out).mono ?_); (case side1 => refine (Kd.zw (e := 3) (base := w.heap.size) (ok := fun k_ => ((True ∧ some k_ ≠ (.slice Ao8 t239.length co8 : Value).ownBlock) ∧ some k_ ≠ (.slice Ao20 t256.length co20 : Value).ownBlock)) (n := t249.length) (c := co14) ?_).2.2; exact (by (with_reducible repeat (first | apply Kd.zbb | apply Kd.zba | apply Kd.zu)); exact (Kd.zbh (Kd.zbm (p := ⟨gb259, 1, none⟩) (Kd.zbm (p := ⟨gb259, 0, none⟩) (Kd.zbu HO251.out BK259.out (by decide)) (fun _ hk => hk.2) (.slice Ao17 t253.length co17)) (fun _ hk => hk.2) (.slice Ao20 t256.length co20)) (fun _ h_ => h_.1)))); (case side2 => exact (Kd.zw HO251.out).2.1); (case side3 => refine (Kd.zw (e := 3) (base := w.heap.size) (ok := fun k_ => ((True ∧ some k_ ≠ (.slice Ao8 t239.length co8 : Value).ownBlock) ∧ some k_ ≠ (.slice Ao14 t249.length co14 : Value).ownBlock)) (n := t256.length) (c := co20) ?_).2.2; exact (by (with_reducible repeat (first | apply Kd.zbb | apply Kd.zba | apply Kd.zu)); exact (Kd.zbh (Kd.zbm (p := ⟨gb259, 1, none⟩) (Kd.zbm (p := ⟨gb259, 0, none⟩) (Kd.zbu HO258.out BK259.out (by decide)) (fun _ hk => hk.2) (.slice Ao17 t253.length co17)) (fun _ hk => hk.2) (.slice Ao20 t256.length co20)) (fun _ h_ => h_.1)))); (case side4 => exact (Kd.zw HO258.out).2.1); rintro e w' ⟨rfl, ⟨nd, rfl⟩⟩));go_meet
    case rel => exact ⟨_, (!t261), Zrs, H', ⟨by first | omega | exact Nat.le_refl _⟩, ⟨by (with_reducible repeat (first | apply Kd.zbb | apply Kd.zba | apply Kd.zu)); exact Kd.zbh (Kd.zbm (p := ⟨gb259, 1, none⟩) (Kd.zbm (p := ⟨gb259, 0, none⟩) (Kd.zbu HO243.out BK259.out (by decide)) (fun _ hk => hk.2) (.slice Ao17 t253.length co17)) (fun _ hk => hk.2) (.slice Ao20 t256.length co20)) (fun _ hk => ⟨hk.1.1.2, hk.1.2⟩)⟩, ⟨by (with_reducible repeat (first | apply Kd.zbb | apply Kd.zba | apply Kd.zu)); exact Kd.zbh (Kd.zbm (p := ⟨gb259, 1, none⟩) (Kd.zbm (p := ⟨gb259, 0, none⟩) (Kd.zbu HO245.out BK259.out (by decide)) (fun _ hk => hk.2) (.slice Ao17 t253.length co17)) (fun _ hk => hk.2) (.slice Ao20 t256.length co20)) (fun _ hk => ⟨hk.1.1.1.1.1, ⟨hk.1.1.1.1.2, ⟨hk.1.1.1.2, ⟨hk.1.1.2, hk.1.2⟩⟩⟩⟩)⟩, ⟨by (with_reducible repeat (first | apply Kd.zbb | apply Kd.zba | apply Kd.zu)); exact Kd.zbh (Kd.zbm (p := ⟨gb259, 1, none⟩) (Kd.zbm (p := ⟨gb259, 0, none⟩) (Kd.zbu HO248.out BK259.out (by decide)) (fun _ hk => hk.2) (.slice Ao17 t253.length co17)) (fun _ hk => hk.2) (.slice Ao20 t256.length co20)) (fun _ hk => ⟨hk.1.1.1.1.2, ⟨hk.1.1.1.2, ⟨hk.1.1.1.1.1, ⟨hk.1.1.2, hk.1.2⟩⟩⟩⟩)⟩, ⟨by (with_reducible repeat (first | apply Kd.zbb | apply Kd.zba | apply Kd.zu)); exact Kd.zbh (Kd.zbm (p := ⟨gb259, 1, none⟩) (Kd.zbm (p := ⟨gb259, 0, none⟩) (Kd.zbu HO251.out BK259.out (by decide)) (fun _ hk => hk.2) (.slice Ao17 t253.length co17)) (fun _ hk => hk.2) (.slice Ao20 t256.length co20)) (fun _ hk => ⟨hk.1.1.2, hk.1.2⟩)⟩, ⟨by (with_reducible repeat (first | apply Kd.zbb | apply Kd.zba | apply Kd.zu)); exact Kd.zbh (Kd.zbm (p := ⟨gb259, 1, none⟩) (Kd.zbm (p := ⟨gb259, 0, none⟩) (Kd.zbu HO255.out BK259.out (by decide)) (fun _ hk => hk.2) (.slice Ao17 t253.length co17)) (fun _ hk => hk.2) (.slice Ao20 t256.length co20)) (fun _ hk => ⟨hk.1.1.1.1.2, ⟨hk.1.1.1.2, ⟨hk.1.1.2, ⟨hk.1.2, hk.1.1.1.1.1⟩⟩⟩⟩)⟩, ⟨by (with_reducible repeat (first | apply Kd.zbb | apply Kd.zba | apply Kd.zu)); exact Kd.zbh (Kd.zbm (p := ⟨gb259, 1, none⟩) (Kd.zbm (p := ⟨gb259, 0, none⟩) (Kd.zbu HO258.out BK259.out (by decide)) (fun _ hk => hk.2) (.slice Ao17 t253.length co17)) (fun _ hk => hk.2) (.slice Ao20 t256.length co20)) (fun _ hk => ⟨hk.1.1.2, hk.1.2⟩)⟩, ⟨by (with_reducible repeat (first | refine zbw ?_ _ | refine zbv ?_ | refine zb0 ?_ _)); refine zem ?_ NB252_259.out _; (with_reducible repeat (first | refine zbw ?_ _ | refine zbv ?_ | refine zb0 ?_ _)); refine zem ?_ NB252_259.out _; (with_reducible repeat (first | refine zbw ?_ _ | refine zbv ?_ | refine zb0 ?_ _)); exact BK252.out⟩, ⟨by (with_reducible repeat (first | refine zbw ?_ _ | refine zbv ?_ | refine zb0 ?_ _)); refine zcr (cs := #[.slice Ao17 t253.length co17, .slice none 0 0]) ?_ 1 _ rfl; (with_reducible repeat (first | refine zbw ?_ _ | refine zbv ?_ | refine zb0 ?_ _)); refine zcr (cs := #[.slice none 0 0, .slice none 0 0]) ?_ 0 _ rfl; (with_reducible repeat (first | refine zbw ?_ _ | refine zbv ?_ | refine zb0 ?_ _)); exact BK259.out⟩, ⟨Zq15 HB GE252 GE259⟩⟩
   ·replace c22 := Bool.eq_false_iff.mpr c22
    subst c22;have H1 : (laws_FnRunGraph.j0 k t239 t240 t241 true t246 t249) = some r := by rw [if_neg (show ¬ (false = true) by decide)] at H; exact H
    clear H;have H := H1;clear H1;have H' := za.mk H;clear H;have hnb27 := NB252_259.out;have hnc27 := NB259_252.out;have hcz28_0 : w16.cell? ⟨gb252, 0, none⟩ = some (.slice Ao12 t246.length co12) := (z8 BK252.out 0).trans rfl;have hcz28_1 : w16.cell? ⟨gb252, 1, none⟩ = some (.slice Ao14 t249.length co14) := (z8 BK252.out 1).trans rfl;have hfz28_0 := zy BK252.out 0;have hfz28_1 := zy BK252.out 1;have hcz29_0 : w16.cell? ⟨gb259, 0, none⟩ = some (.slice none 0 0) := (z8 BK259.out 0).trans rfl;have hcz29_1 : w16.cell? ⟨gb259, 1, none⟩ = some (.slice none 0 0) := (z8 BK259.out 1).trans rfl;have hfz29_0 := zy BK259.out 0;have hfz29_1 := zy BK259.out 1;go_wp2_with (first | ((with_reducible refine zbd (f := 11) rfl ?_); refine zb7 (some 35) rfl rfl Try.func11 (by kernel_rfl) rfl #[.slice Ao12 t246.length co12, .slice Ao17 t253.length co17] rfl Zmt ?_; (with_reducible refine (zbn.calls k _ _ t246 _ _ t253 false _ ?side1 ?side2 ?side3 ?side4 A21.out).mono ?_); (case side1 => refine Kd.cut_C (Kd.zw (e := 23) (base := w.heap.size) (ok := fun k_ => ((((some k_ ≠ (.slice Ao14 t249.length co14 : Value).ownBlock ∧ some k_ ≠ (.slice Ao8 t239.length co8 : Value).ownBlock) ∧ some k_ ≠ (.slice Ao9 t240.length co9 : Value).ownBlock) ∧ some k_ ≠ (.slice Ao17 t253.length co17 : Value).ownBlock) ∧ some k_ ≠ (.slice Ao20 t256.length co20 : Value).ownBlock)) (n := t246.length) (c := co12) ?_).2.2; exact (by (with_reducible repeat (first | apply Kd.zbb | apply Kd.zba | apply Kd.zu)); exact (Kd.zbh (Kd.zbm (p := ⟨gb259, 1, none⟩) (Kd.zbm (p := ⟨gb259, 0, none⟩) (Kd.zbu HO248.out BK259.out (by decide)) (fun _ hk => hk.2) (.slice Ao17 t253.length co17)) (fun _ hk => hk.2) (.slice Ao20 t256.length co20)) (fun _ h_ => h_.1)))); (case side2 => exact (Kd.zw HO248.out).2.1); (case side3 => refine Kd.cut_C (Kd.zw (e := 23) (base := w.heap.size) (ok := fun k_ => ((((some k_ ≠ (.slice Ao20 t256.length co20 : Value).ownBlock ∧ some k_ ≠ (.slice Ao8 t239.length co8 : Value).ownBlock) ∧ some k_ ≠ (.slice Ao9 t240.length co9 : Value).ownBlock) ∧ some k_ ≠ (.slice Ao12 t246.length co12 : Value).ownBlock) ∧ some k_ ≠ (.slice Ao14 t249.length co14 : Value).ownBlock)) (n := t253.length) (c := co17) ?_).2.2; exact (by (with_reducible repeat (first | apply Kd.zbb | apply Kd.zba | apply Kd.zu)); exact (Kd.zbh (Kd.zbm (p := ⟨gb259, 1, none⟩) (Kd.zbm (p := ⟨gb259, 0, none⟩) (Kd.zbu HO255.out BK259.out (by decide)) (fun _ hk => hk.2) (.slice Ao17 t253.length co17)) (fun _ hk => hk.2) (.slice Ao20 t256.length co20)) (fun _ h_ => h_.1)))); (case side4 => exact (Kd.zw HO255.out).2.1); rintro e w' ⟨rfl, ⟨nd, rfl⟩⟩; refine ⟨_, rfl, ?_⟩));go_meet
    case rel => exact ⟨_, (true), Zrs, H', ⟨by first | omega | exact Nat.le_refl _⟩, ⟨by (with_reducible repeat (first | apply Kd.zbb | apply Kd.zba | apply Kd.zu)); exact Kd.zbh (Kd.zbm (p := ⟨gb259, 1, none⟩) (Kd.zbm (p := ⟨gb259, 0, none⟩) (Kd.zbu HO243.out BK259.out (by decide)) (fun _ hk => hk.2) (.slice Ao17 t253.length co17)) (fun _ hk => hk.2) (.slice Ao20 t256.length co20)) (fun _ hk => ⟨hk.1.1.2, hk.1.2⟩)⟩, ⟨by (with_reducible repeat (first | apply Kd.zbb | apply Kd.zba | apply Kd.zu)); exact Kd.zbh (Kd.zbm (p := ⟨gb259, 1, none⟩) (Kd.zbm (p := ⟨gb259, 0, none⟩) (Kd.zbu HO245.out BK259.out (by decide)) (fun _ hk => hk.2) (.slice Ao17 t253.length co17)) (fun _ hk => hk.2) (.slice Ao20 t256.length co20)) (fun _ hk => ⟨hk.1.1.1.1.1, ⟨hk.1.1.1.1.2, ⟨hk.1.1.1.2, ⟨hk.1.1.2, hk.1.2⟩⟩⟩⟩)⟩, ⟨by (with_reducible repeat (first | apply Kd.zbb | apply Kd.zba | apply Kd.zu)); exact Kd.zbh (Kd.zbm (p := ⟨gb259, 1, none⟩) (Kd.zbm (p := ⟨gb259, 0, none⟩) (Kd.zbu HO248.out BK259.out (by decide)) (fun _ hk => hk.2) (.slice Ao17 t253.length co17)) (fun _ hk => hk.2) (.slice Ao20 t256.length co20)) (fun _ hk => ⟨hk.1.1.1.1.2, ⟨hk.1.1.1.2, ⟨hk.1.1.1.1.1, ⟨hk.1.1.2, hk.1.2⟩⟩⟩⟩)⟩, ⟨by (with_reducible repeat (first | apply Kd.zbb | apply Kd.zba | apply Kd.zu)); exact Kd.zbh (Kd.zbm (p := ⟨gb259, 1, none⟩) (Kd.zbm (p := ⟨gb259, 0, none⟩) (Kd.zbu HO251.out BK259.out (by decide)) (fun _ hk => hk.2) (.slice Ao17 t253.length co17)) (fun _ hk => hk.2) (.slice Ao20 t256.length co20)) (fun _ hk => ⟨hk.1.1.2, hk.1.2⟩)⟩, ⟨by (with_reducible repeat (first | apply Kd.zbb | apply Kd.zba | apply Kd.zu)); exact Kd.zbh (Kd.zbm (p := ⟨gb259, 1, none⟩) (Kd.zbm (p := ⟨gb259, 0, none⟩) (Kd.zbu HO255.out BK259.out (by decide)) (fun _ hk => hk.2) (.slice Ao17 t253.length co17)) (fun _ hk => hk.2) (.slice Ao20 t256.length co20)) (fun _ hk => ⟨hk.1.1.1.1.2, ⟨hk.1.1.1.2, ⟨hk.1.1.2, ⟨hk.1.2, hk.1.1.1.1.1⟩⟩⟩⟩)⟩, ⟨by (with_reducible repeat (first | apply Kd.zbb | apply Kd.zba | apply Kd.zu)); exact Kd.zbh (Kd.zbm (p := ⟨gb259, 1, none⟩) (Kd.zbm (p := ⟨gb259, 0, none⟩) (Kd.zbu HO258.out BK259.out (by decide)) (fun _ hk => hk.2) (.slice Ao17 t253.length co17)) (fun _ hk => hk.2) (.slice Ao20 t256.length co20)) (fun _ hk => ⟨hk.1.1.2, hk.1.2⟩)⟩, ⟨by (with_reducible repeat (first | refine zbw ?_ _ | refine zbv ?_ | refine zb0 ?_ _)); refine zem ?_ NB252_259.out _; (with_reducible repeat (first | refine zbw ?_ _ | refine zbv ?_ | refine zb0 ?_ _)); refine zem ?_ NB252_259.out _; (with_reducible repeat (first | refine zbw ?_ _ | refine zbv ?_ | refine zb0 ?_ _)); exact BK252.out⟩, ⟨by (with_reducible repeat (first | refine zbw ?_ _ | refine zbv ?_ | refine zb0 ?_ _)); refine zcr (cs := #[.slice Ao17 t253.length co17, .slice none 0 0]) ?_ 1 _ rfl; (with_reducible repeat (first | refine zbw ?_ _ | refine zbv ?_ | refine zb0 ?_ _)); refine zcr (cs := #[.slice none 0 0, .slice none 0 0]) ?_ 0 _ rfl; (with_reducible repeat (first | refine zbw ?_ _ | refine zbv ?_ | refine zb0 ?_ _)); exact BK259.out⟩, ⟨Zq15 HB GE252 GE259⟩⟩
  case rest =>
   clear HC6
   (try clear c1);(try clear c2);(try clear c2b0);(try clear c2b1);(try clear p2);(try clear c3);(try clear c8);(try clear c9);(try clear c10);(try clear c11);(try clear c18);(try clear c22);(try clear c24);(try clear c27);(try clear hcz13_0);(try clear hcz13_1);(try clear hcz19_0);(try clear hcz19_1);(try clear hcz25_0);(try clear hcz25_1);(try clear hcz26_0);(try clear hcz26_1);(try clear hcz28_0);(try clear hcz28_1);(try clear hcz29_0);(try clear hcz29_1);(try clear hfz13_0);(try clear hfz13_1);(try clear hfz19_0);(try clear hfz19_1);(try clear hfz25_0);(try clear hfz25_1);(try clear hfz26_0);(try clear hfz26_1);(try clear hfz28_0);(try clear hfz28_1);(try clear hfz29_0);(try clear hfz29_1)
   obtain ⟨kq, x44_5, rfl, HA, HJ5, HO_3, HO_4, HO_253000, HO_253001, HO_260000, HO_260001, BK252, BK259, HB⟩ := hcut
   cases kq with
   | zero => exact absurd HA.out (by simp [laws_FnRunGraph.j0])
   | succ kj5 =>
    have H := HA.out;clear HA;simp only [laws_FnRunGraph.j0] at H;by_cases c30 : x44_5 = true
    ·subst c30
     have H1 : (some false) = some r := by rw [if_pos rfl] at H; exact H
     exact Bool.noConfusion ((Option.some.inj H1).trans HRT.out)
    ·replace c30 := Bool.eq_false_iff.mpr c30
     subst c30;have H1 : (if (t249.length : Int) = (t239.length : Int) then ((zk.f kj5 t239 t240).bind fun t262 => (laws_FnRunGraph.j1 kj5 t239 t240 t241 (!t262) t246 t249)) else (laws_FnRunGraph.j1 kj5 t239 t240 t241 true t246 t249)) = some r := by rw [if_neg (show ¬ (false = true) by decide)] at H; exact H
     clear H;have H := H1;clear H1;have HC31 := za.mk H;clear H
     go_upto_region 8 with (fail)
     go_cut [56] (fun v56 wc => ∃ (kq : Nat) (x56_30 : Bool), v56 = .bool x56_30 ∧ za (laws_FnRunGraph.j1 kq t239 t240 t241 x56_30 t246 t249 = some r) ∧ za (kq ≤ kj5) ∧ za (Kd.Qc (Kd.int .i64) 3 wc w.heap.size (fun k_ => some k_ ≠ ((.slice Ao14 t249.length co14) : Value).ownBlock ∧ some k_ ≠ ((.slice Ao20 t256.length co20) : Value).ownBlock) (.slice Ao8 t239.length co8) t239) ∧ za (Kd.Qc (Kd.cut 3 (Kd.int .i64)) 23 wc w.heap.size (fun k_ => some k_ ≠ ((.slice Ao8 t239.length co8) : Value).ownBlock ∧ some k_ ≠ ((.slice Ao12 t246.length co12) : Value).ownBlock ∧ some k_ ≠ ((.slice Ao14 t249.length co14) : Value).ownBlock ∧ some k_ ≠ ((.slice Ao17 t253.length co17) : Value).ownBlock ∧ some k_ ≠ ((.slice Ao20 t256.length co20) : Value).ownBlock) (.slice Ao9 t240.length co9) t240) ∧ za (Kd.Qc (Kd.cut 3 (Kd.int .i64)) 23 wc w.heap.size (fun k_ => some k_ ≠ ((.slice Ao8 t239.length co8) : Value).ownBlock ∧ some k_ ≠ ((.slice Ao9 t240.length co9) : Value).ownBlock ∧ some k_ ≠ ((.slice Ao14 t249.length co14) : Value).ownBlock ∧ some k_ ≠ ((.slice Ao17 t253.length co17) : Value).ownBlock ∧ some k_ ≠ ((.slice Ao20 t256.length co20) : Value).ownBlock) (.slice Ao12 t246.length co12) t246) ∧ za (Kd.Qc (Kd.int .i64) 3 wc w.heap.size (fun k_ => some k_ ≠ ((.slice Ao8 t239.length co8) : Value).ownBlock ∧ some k_ ≠ ((.slice Ao20 t256.length co20) : Value).ownBlock) (.slice Ao14 t249.length co14) t249) ∧ za (Kd.Qc (Kd.cut 3 (Kd.int .i64)) 23 wc w.heap.size (fun k_ => some k_ ≠ ((.slice Ao8 t239.length co8) : Value).ownBlock ∧ some k_ ≠ ((.slice Ao9 t240.length co9) : Value).ownBlock ∧ some k_ ≠ ((.slice Ao12 t246.length co12) : Value).ownBlock ∧ some k_ ≠ ((.slice Ao14 t249.length co14) : Value).ownBlock ∧ some k_ ≠ ((.slice Ao20 t256.length co20) : Value).ownBlock) (.slice Ao17 t253.length co17) t253) ∧ za (Kd.Qc (Kd.int .i64) 3 wc w.heap.size (fun k_ => some k_ ≠ ((.slice Ao8 t239.length co8) : Value).ownBlock ∧ some k_ ≠ ((.slice Ao14 t249.length co14) : Value).ownBlock) (.slice Ao20 t256.length co20) t256) ∧ za (wc.heap[gb252]? = some (.cells #[(.slice Ao12 t246.length co12), (.slice Ao14 t249.length co14)] 28 (0, 0))) ∧ za (wc.heap[gb259]? = some (.cells #[(.slice Ao17 t253.length co17), (.slice Ao20 t256.length co20)] 28 (0, 0))) ∧ za (Below w.heap.size w wc))
     case first =>
      have H := HC31.out;clear HC31;by_cases c32 : (t249.length : Int) = (t239.length : Int)
      ·rw [if_pos c32] at H
       have c32b0 : ((t249.length : Int) == (t239.length : Int)) = true := beq_iff_eq.mpr c32;have c32b1 : ((t249.length : Int) != (t239.length : Int)) = false := bne_eq_false_iff_eq.mpr c32;have c32b2 : (t249.length == t239.length) = true := by first | simpa using c32 | (simp at c32 ⊢; omega)
       clear c32;(first | rw [c32b0] | (simp only [ze, zf]; rw [c32b0]) | skip);replace H := Option.bind_eq_some_iff.mp H;obtain ⟨t262, A330, H⟩ := H;replace H : (laws_FnRunGraph.j1 kj5 t239 t240 t241 (!t262) t246 t249) = some r := H;have A33 := za.mk A330;clear A330;have H' := za.mk H;clear H;have hnb34 := NB252_259.out;have hnc34 := NB259_252.out;have hcz35_0 : wc.cell? ⟨gb252, 0, none⟩ = some (.slice Ao12 t246.length co12) := (z8 BK252.out 0).trans rfl;have hcz35_1 : wc.cell? ⟨gb252, 1, none⟩ = some (.slice Ao14 t249.length co14) := (z8 BK252.out 1).trans rfl;have hfz35_0 := zy BK252.out 0;have hfz35_1 := zy BK252.out 1;go_wp2_with (first | (go_at_call 13; (with_reducible refine (zk.calls kj5 _ _ t239 _ _ t240 t262 _ ?side1 ?side2 ?side3 ?side4 A33.out).mono ?_); (case side1 => exact Zq12 ((Kd.zw HO_3.out).2.2)); (case side2 => exact (Kd.zw HO_3.out).2.1); (case side3 => exact Zq12 ((Kd.zw HO_4.out).2.2)); (case side4 => exact (Kd.zw HO_4.out).2.1); rintro e w36 ⟨rfl, hb⟩; have n0_ := za.mk (Kd.zbt (Zq14 HO_3) hb); have n1_ := za.mk (Kd.zbt (Zq14 HO_4) hb); have n2_ := za.mk (Kd.zbt (Zq14 HO_253000) hb); have n3_ := za.mk (Kd.zbt (Zq14 HO_253001) hb); have n4_ := za.mk (Kd.zbt (Zq14 HO_260000) hb); have n5_ := za.mk (Kd.zbt (Zq14 HO_260001) hb); have n6_ := za.mk (zb1 (g := gb252) (o := .cells #[.slice Ao12 t246.length co12, .slice Ao14 t249.length co14] 28 (0, 0)) (Zq2 BK252) hb); have n7_ := za.mk (zb1 (g := gb259) (o := .cells #[.slice Ao17 t253.length co17, .slice Ao20 t256.length co20] 28 (0, 0)) (Zq2 BK259) hb); have n8_ := za.mk (zbi (Zq15 HB GE252 GE259) hb); clear HO_3; clear HO_4; clear HO_253000; clear HO_253001; clear HO_260000; clear HO_260001; clear BK252; clear BK259; clear HB; have HO_3 := n0_; have HO_4 := n1_; have HO_253000 := n2_; have HO_253001 := n3_; have HO_260000 := n4_; have HO_260001 := n5_; have BK252 := n6_; have BK259 := n7_; have HB := n8_; clear n0_ n1_ n2_ n3_ n4_ n5_ n6_ n7_ n8_; (try clear hb); (try clear hb2); (try clear hk); (try clear hi)));go_meet
       case rel => exact ⟨_, (!t262), Zrs, H', ⟨by have := HJ5.out; first | omega | exact Nat.le_refl _⟩, ⟨Zq14 HO_3⟩, ⟨Zq14 HO_4⟩, ⟨Zq14 HO_253000⟩, ⟨Zq14 HO_253001⟩, ⟨Zq14 HO_260000⟩, ⟨Zq14 HO_260001⟩, ⟨Zq2 BK252⟩, ⟨Zq2 BK259⟩, ⟨Zq15 HB GE252 GE259⟩⟩
      ·rw [if_neg c32] at H
       have c32b0 : ((t249.length : Int) == (t239.length : Int)) = false := beq_eq_false_iff_ne.mpr c32;have c32b1 : ((t249.length : Int) != (t239.length : Int)) = true := bne_iff_ne.mpr c32;have c32b2 : (t249.length == t239.length) = false := by first | simpa using c32 | (simp at c32 ⊢; omega)
       (first | rw [c32b0] | (simp only [ze, zf]; rw [c32b0]) | skip);have H' := za.mk H;clear H;have hnb37 := NB252_259.out;have hnc37 := NB259_252.out;have hcz38_0 : wc.cell? ⟨gb252, 0, none⟩ = some (.slice Ao12 t246.length co12) := (z8 BK252.out 0).trans rfl;have hcz38_1 : wc.cell? ⟨gb252, 1, none⟩ = some (.slice Ao14 t249.length co14) := (z8 BK252.out 1).trans rfl;have hfz38_0 := zy BK252.out 0;have hfz38_1 := zy BK252.out 1;go_wp2;go_meet
       case rel => exact ⟨_, (true), Zrs, H', ⟨by have := HJ5.out; first | omega | exact Nat.le_refl _⟩, ⟨Zq14 HO_3⟩, ⟨Zq14 HO_4⟩, ⟨Zq14 HO_253000⟩, ⟨Zq14 HO_253001⟩, ⟨Zq14 HO_260000⟩, ⟨Zq14 HO_260001⟩, ⟨Zq2 BK252⟩, ⟨Zq2 BK259⟩, ⟨Zq15 HB GE252 GE259⟩⟩
     case rest =>
      clear HC31
      (try clear c1);(try clear c2);(try clear c2b0);(try clear c2b1);(try clear p2);(try clear c3);(try clear c8);(try clear c9);(try clear c10);(try clear c11);(try clear c18);(try clear c22);(try clear c24);(try clear c27);(try clear c30);(try clear c32);(try clear c32b0);(try clear c32b1);(try clear c32b2);(try clear c34);(try clear c37);(try clear hcz13_0);(try clear hcz13_1);(try clear hcz19_0);(try clear hcz19_1);(try clear hcz25_0);(try clear hcz25_1);(try clear hcz26_0);(try clear hcz26_1);(try clear hcz28_0);(try clear hcz28_1);(try clear hcz29_0);(try clear hcz29_1);(try clear hcz35_0);(try clear hcz35_1);(try clear hcz38_0);(try clear hcz38_1);(try clear hfz13_0);(try clear hfz13_1);(try clear hfz19_0);(try clear hfz19_1);(try clear hfz25_0);(try clear hfz25_1);(try clear hfz26_0);(try clear hfz26_1);(try clear hfz28_0);(try clear hfz28_1);(try clear hfz29_0);(try clear hfz29_1);(try clear hfz35_0);(try clear hfz35_1);(try clear hfz38_0);(try clear hfz38_1);(try clear p2)
      obtain ⟨kq, x56_30, rfl, HA, HJ30, HO_3, HO_4, HO_253000, HO_253001, HO_260000, HO_260001, BK252, BK259, HB⟩ := hcut
      cases kq with
      | zero => exact absurd HA.out (by simp [laws_FnRunGraph.j1])
      | succ kj30 =>
       have H := HA.out;clear HA;simp only [laws_FnRunGraph.j1] at H;by_cases c39 : x56_30 = true
       ·subst c39
        have H1 : ((zdr.f).bind fun t263 => (some t263)) = some r := by rw [if_pos rfl] at H; exact H
        clear H;have H := H1;clear H1;replace H := Option.bind_eq_some_iff.mp H;obtain ⟨t263, A400, H⟩ := H;replace H : (some t263) = some r := H;have A40 := za.mk A400;clear A400;obtain rfl := Option.some.inj H;go_wp2_with (first | ((with_reducible refine zbd (f := 14) rfl ?_); refine zb7 (some 57) rfl rfl Try.func14 (by kernel_rfl) rfl #[] rfl Zmt ?_; (with_reducible refine (zdr.calls  t263 _ A40.out).mono ?_); rintro e w41 ⟨rfl, hb⟩; refine ⟨_, rfl, ?_⟩; have n0_ := za.mk (Kd.zbt (Zq14 HO_3) hb); have n1_ := za.mk (Kd.zbt (Zq14 HO_4) hb); have n2_ := za.mk (Kd.zbt (Zq14 HO_253000) hb); have n3_ := za.mk (Kd.zbt (Zq14 HO_253001) hb); have n4_ := za.mk (Kd.zbt (Zq14 HO_260000) hb); have n5_ := za.mk (Kd.zbt (Zq14 HO_260001) hb); have n6_ := za.mk (zb1 (g := gb252) (o := .cells #[.slice Ao12 t246.length co12, .slice Ao14 t249.length co14] 28 (0, 0)) (Zq2 BK252) hb); have n7_ := za.mk (zb1 (g := gb259) (o := .cells #[.slice Ao17 t253.length co17, .slice Ao20 t256.length co20] 28 (0, 0)) (Zq2 BK259) hb); have n8_ := za.mk (zbi (Zq15 HB GE252 GE259) hb); clear HO_3; clear HO_4; clear HO_253000; clear HO_253001; clear HO_260000; clear HO_260001; clear BK252; clear BK259; clear HB; have HO_3 := n0_; have HO_4 := n1_; have HO_253000 := n2_; have HO_253001 := n3_; have HO_260000 := n4_; have HO_260001 := n5_; have BK252 := n6_; have BK259 := n7_; have HB := n8_; clear n0_ n1_ n2_ n3_ n4_ n5_ n6_ n7_ n8_; (try clear hb); (try clear hb2); (try clear hk); (try clear hi)));go_ret;exact ⟨by first | rfl | (simp [zq, zt] <;> rfl) | (simp [*, zq, zt] <;> rfl), Zq15 HB GE252 GE259⟩
       ·replace c39 := Bool.eq_false_iff.mpr c39
        subst c39;have H1 : (if 0 ≤ (t239.length : Int) then (if ((t239.length : Int) : Int).toNat ≤ 35184372088832 then (laws_FnRunGraph.l0 kj30 t239 t240 t241 (List.replicate ((t239.length : Int) : Int).toNat 0) 0 t246 t249) else (none)) else (none)) = some r := by rw [if_neg (show ¬ (false = true) by decide)] at H; exact H
        clear H;have H := H1;clear H1;by_cases c42 : 0 ≤ (t239.length : Int)
        ·rw [if_pos c42] at H
         have c42b0 := eq_true c42;have c42b1 : decide (0 ≤ (t239.length : Int)) = true := decide_eq_true c42;clear c42;by_cases c43 : ((t239.length : Int) : Int).toNat ≤ 35184372088832
         ·rw [if_pos c43] at H
          have c43b0 := eq_true c43;have c43b1 : decide (((t239.length : Int) : Int).toNat ≤ 35184372088832) = true := decide_eq_true c43;clear c43;obtain ⟨y264, hy264⟩ : ∃ y_ : List Int, y_ = (List.replicate ((t239.length : Int) : Int).toNat 0) := ⟨_, rfl⟩;replace H : (laws_FnRunGraph.l0 kj30 t239 t240 t241 y264 0 t246 t249) = some r := by first | (rw [hy264]; with_reducible exact H) | (have H2_ := (Option.bind_some _ _).symm.trans H; rw [hy264]; with_reducible exact H2_) | (have H2_ := (Option.bind_some _ _).symm.trans H; with_reducible exact H2_) | with_reducible exact H | (rw [hy264]; exact H) | exact H
          have Ny264 := za.mk hy264;clear hy264;have H' := za.mk H;clear H;go_wp2_with (first | ((with_reducible refine zb8 (N := 60) rfl ?_); (try (refine zca (by rfl) ?_; dsimp only)); refine Kd.R_make (Kd.int .i64) _ 3 rfl (N := 60) rfl 23 _ _ rfl (t239.length : Int) rfl rfl Try.underlying23 (.int .i64 0) 8 info3 rfl (by decide) (by omega) 0 (ok := fun _ => True) (okp := fun _ => True) rfl (fun _ hk => hk) trivial (of_decide_eq_true Zas) (Nat.le_trans (Nat.mul_le_mul_right _ (of_decide_eq_true Zas : (t239.length : Int).toNat ≤ 35184372088832)) (by omega)) (Below.refl _ _) (Nat.le_refl _) ?_; intro v265 w44 ho45 hb hg_ hnew_; clear hg_ hnew_; (first | rw [← Ny264.out] at ho45 | (simp only [Int.reduceToNat] at ho45; rw [← Ny264.out] at ho45)); replace ho45 := Kd.zgc ho45; have n0_ := za.mk (Kd.zcu (Zq14 HO_3) (Kd.zcd ho45) hb); have n1_ := za.mk (Kd.zcu (Zq14 HO_4) (Kd.zcd ho45) hb); have n2_ := za.mk (Kd.zcu (Zq14 HO_253000) (Kd.zcd ho45) hb); have n3_ := za.mk (Kd.zcu (Zq14 HO_253001) (Kd.zcd ho45) hb); have n4_ := za.mk (Kd.zcu (Zq14 HO_260000) (Kd.zcd ho45) hb); have n5_ := za.mk (Kd.zcu (Zq14 HO_260001) (Kd.zcd ho45) hb); have n6_ := za.mk (Kd.zc9 (Kd.zch (Kd.zch (Kd.zch ho45 (Kd.zdz (Zq14 HO_3))) (Kd.zdz (Zq14 HO_253001))) (Kd.zdz (Zq14 HO_260001))) (zbs (Zq15 HB GE252 GE259))); have n7_ := za.mk (zb1 (g := gb252) (o := .cells #[.slice Ao12 t246.length co12, .slice Ao14 t249.length co14] 28 (0, 0)) (Zq2 BK252) hb); have n8_ := za.mk (zb1 (g := gb259) (o := .cells #[.slice Ao17 t253.length co17, .slice Ao20 t256.length co20] 28 (0, 0)) (Zq2 BK259) hb); have n9_ := za.mk (zbi (Zq15 HB GE252 GE259) hb); clear HO_3; clear HO_4; clear HO_253000; clear HO_253001; clear HO_260000; clear HO_260001; clear BK252; clear BK259; clear HB; have HO_3 := n0_; have HO_4 := n1_; have HO_253000 := n2_; have HO_253001 := n3_; have HO_260000 := n4_; have HO_260001 := n5_; have HO266 := n6_; have BK252 := n7_; have BK259 := n8_; have HB := n9_; clear n0_ n1_ n2_ n3_ n4_ n5_ n6_ n7_ n8_ n9_; clear hb ho45))
          go_loopg [9] kj30 (fun kq v9 w' => ∃ (x8_3 : List Int) (x9_3 : Int), v9 = .int .i64 x9_3 ∧ za (laws_FnRunGraph.l0 kq t239 t240 t241 x8_3 x9_3 t246 t249 = some r) ∧ za (kq ≤ kj30) ∧ za (Kd.Qc (Kd.int .i64) 3 w' w.heap.size (fun k_ => some k_ ≠ (v265 : Value).ownBlock ∧ some k_ ≠ ((.slice Ao14 t249.length co14) : Value).ownBlock ∧ some k_ ≠ ((.slice Ao20 t256.length co20) : Value).ownBlock) (.slice Ao8 t239.length co8) t239) ∧ za (Kd.Qc (Kd.cut 3 (Kd.int .i64)) 23 w' w.heap.size (fun k_ => some k_ ≠ ((.slice Ao8 t239.length co8) : Value).ownBlock ∧ some k_ ≠ (v265 : Value).ownBlock ∧ some k_ ≠ ((.slice Ao12 t246.length co12) : Value).ownBlock ∧ some k_ ≠ ((.slice Ao14 t249.length co14) : Value).ownBlock ∧ some k_ ≠ ((.slice Ao17 t253.length co17) : Value).ownBlock ∧ some k_ ≠ ((.slice Ao20 t256.length co20) : Value).ownBlock) (.slice Ao9 t240.length co9) t240) ∧ za (Kd.Qc (Kd.int .i64) 3 w' w.heap.size (fun k_ => some k_ ≠ ((.slice Ao8 t239.length co8) : Value).ownBlock ∧ some k_ ≠ ((.slice Ao14 t249.length co14) : Value).ownBlock ∧ some k_ ≠ ((.slice Ao20 t256.length co20) : Value).ownBlock) v265 x8_3) ∧ za (Kd.Qc (Kd.cut 3 (Kd.int .i64)) 23 w' w.heap.size (fun k_ => some k_ ≠ ((.slice Ao8 t239.length co8) : Value).ownBlock ∧ some k_ ≠ ((.slice Ao9 t240.length co9) : Value).ownBlock ∧ some k_ ≠ (v265 : Value).ownBlock ∧ some k_ ≠ ((.slice Ao14 t249.length co14) : Value).ownBlock ∧ some k_ ≠ ((.slice Ao17 t253.length co17) : Value).ownBlock ∧ some k_ ≠ ((.slice Ao20 t256.length co20) : Value).ownBlock) (.slice Ao12 t246.length co12) t246) ∧ za (Kd.Qc (Kd.int .i64) 3 w' w.heap.size (fun k_ => some k_ ≠ ((.slice Ao8 t239.length co8) : Value).ownBlock ∧ some k_ ≠ (v265 : Value).ownBlock ∧ some k_ ≠ ((.slice Ao20 t256.length co20) : Value).ownBlock) (.slice Ao14 t249.length co14) t249) ∧ za (Kd.Qc (Kd.cut 3 (Kd.int .i64)) 23 w' w.heap.size (fun k_ => some k_ ≠ ((.slice Ao8 t239.length co8) : Value).ownBlock ∧ some k_ ≠ ((.slice Ao9 t240.length co9) : Value).ownBlock ∧ some k_ ≠ (v265 : Value).ownBlock ∧ some k_ ≠ ((.slice Ao12 t246.length co12) : Value).ownBlock ∧ some k_ ≠ ((.slice Ao14 t249.length co14) : Value).ownBlock ∧ some k_ ≠ ((.slice Ao20 t256.length co20) : Value).ownBlock) (.slice Ao17 t253.length co17) t253) ∧ za (Kd.Qc (Kd.int .i64) 3 w' w.heap.size (fun k_ => some k_ ≠ ((.slice Ao8 t239.length co8) : Value).ownBlock ∧ some k_ ≠ (v265 : Value).ownBlock ∧ some k_ ≠ ((.slice Ao14 t249.length co14) : Value).ownBlock) (.slice Ao20 t256.length co20) t256) ∧ za (w'.heap[gb252]? = some (.cells #[(.slice Ao12 t246.length co12), (.slice Ao14 t249.length co14)] 28 (0, 0))) ∧ za (w'.heap[gb259]? = some (.cells #[(.slice Ao17 t253.length co17), (.slice Ao20 t256.length co20)] 28 (0, 0))) ∧ za (Below w.heap.size w w'))
          case atStart => exact ⟨(y264), (0), Zrs, H', ⟨Nat.le_refl _⟩, ⟨by (with_reducible repeat (first | apply Kd.zbb | apply Kd.zba | apply Kd.zu)); exact Kd.zbh HO_3.out (fun _ hk => ⟨hk.2, ⟨hk.1.1, hk.1.2⟩⟩)⟩, ⟨by (with_reducible repeat (first | apply Kd.zbb | apply Kd.zba | apply Kd.zu)); exact Kd.zbh HO_4.out (fun _ hk => ⟨hk.1.1, ⟨hk.2, ⟨hk.1.2.1, ⟨hk.1.2.2.1, ⟨hk.1.2.2.2.1, hk.1.2.2.2.2⟩⟩⟩⟩⟩)⟩, ⟨by (with_reducible repeat (first | apply Kd.zbb | apply Kd.zba | apply Kd.zu)); exact Kd.zbh HO266.out (fun _ hk => ⟨hk.1.1.2, ⟨hk.1.2, hk.2⟩⟩)⟩, ⟨by (with_reducible repeat (first | apply Kd.zbb | apply Kd.zba | apply Kd.zu)); exact Kd.zbh HO_253000.out (fun _ hk => ⟨hk.1.1, ⟨hk.1.2.1, ⟨hk.2, ⟨hk.1.2.2.1, ⟨hk.1.2.2.2.1, hk.1.2.2.2.2⟩⟩⟩⟩⟩)⟩, ⟨by (with_reducible repeat (first | apply Kd.zbb | apply Kd.zba | apply Kd.zu)); exact Kd.zbh HO_253001.out (fun _ hk => ⟨hk.1.1, ⟨hk.2, hk.1.2⟩⟩)⟩, ⟨by (with_reducible repeat (first | apply Kd.zbb | apply Kd.zba | apply Kd.zu)); exact Kd.zbh HO_260000.out (fun _ hk => ⟨hk.1.1, ⟨hk.1.2.1, ⟨hk.2, ⟨hk.1.2.2.1, ⟨hk.1.2.2.2.1, hk.1.2.2.2.2⟩⟩⟩⟩⟩)⟩, ⟨by (with_reducible repeat (first | apply Kd.zbb | apply Kd.zba | apply Kd.zu)); exact Kd.zbh HO_260001.out (fun _ hk => ⟨hk.1.1, ⟨hk.2, hk.1.2⟩⟩)⟩, ⟨Zq2 BK252⟩, ⟨Zq2 BK259⟩, ⟨Zq15 HB GE252 GE259⟩⟩
          case round =>
           clear H'
           (try clear c1);(try clear c2);(try clear c2b0);(try clear c2b1);(try clear p2);(try clear c3);(try clear c4);(try clear c8);(try clear c9);(try clear c10);(try clear c11);(try clear c14);(try clear c18);(try clear c22);(try clear c24);(try clear c27);(try clear c30);(try clear c32);(try clear c32b0);(try clear c32b1);(try clear c32b2);(try clear c34);(try clear c37);(try clear c39);(try clear c42);(try clear c42b0);(try clear c42b1);(try clear c43);(try clear c43b0);(try clear c43b1);(try clear hcz13_0);(try clear hcz13_1);(try clear hcz19_0);(try clear hcz19_1);(try clear hcz25_0);(try clear hcz25_1);(try clear hcz26_0);(try clear hcz26_1);(try clear hcz28_0);(try clear hcz28_1);(try clear hcz29_0);(try clear hcz29_1);(try clear hcz35_0);(try clear hcz35_1);(try clear hcz38_0);(try clear hcz38_1);(try clear hfz13_0);(try clear hfz13_1);(try clear hfz19_0);(try clear hfz19_1);(try clear hfz25_0);(try clear hfz25_1);(try clear hfz26_0);(try clear hfz26_1);(try clear hfz28_0);(try clear hfz28_1);(try clear hfz29_0);(try clear hfz29_1);(try clear hfz35_0);(try clear hfz35_1);(try clear hfz38_0);(try clear hfz38_1);(try clear p2)
           obtain ⟨x8_3, x9_3, rfl, HA, HK3, HO_3, HO_4, HO_8, HO_253000, HO_253001, HO_260000, HO_260001, BK252, BK259, HB⟩ := hrel
           cases gk with
           | zero => exact absurd HA.out (by simp [laws_FnRunGraph.l0])
           | succ k3 =>
            have H := HA.out;clear HA;simp only [laws_FnRunGraph.l0] at H;by_cases c46 : x9_3 < (t246.length : Int)
            ·rw [if_pos c46] at H
             have c46b0 : decide (x9_3 < (t246.length : Int)) = true := decide_eq_true c46;clear c46;by_cases c47 : 0 ≤ x9_3
             ·rw [if_pos c47] at H
              have c47b0 : decide (0 ≤ x9_3) = true := decide_eq_true c47;clear c47;by_cases c48 : ((zh t246 x9_3).length : Int) > t241
              ·rw [if_pos c48] at H
               have c48b0 : decide (t241 < ((zh t246 x9_3).length : Int)) = true := decide_eq_true c48;clear c48;obtain rfl := Option.some.inj H;have hnb49 := NB252_259.out;have hnc49 := NB259_252.out;have hcz50_0 : wr.cell? ⟨gb252, 0, none⟩ = some (.slice Ao12 t246.length co12) := (z8 BK252.out 0).trans rfl;have hcz50_1 : wr.cell? ⟨gb252, 1, none⟩ = some (.slice Ao14 t249.length co14) := (z8 BK252.out 1).trans rfl;have hfz50_0 := zy BK252.out 0;have hfz50_1 := zy BK252.out 1;have p276 : 0 ≤ (x9_3 : Int) := of_decide_eq_true Zas;have q276 : x9_3 < (t246.length : Int) := of_decide_eq_true Zas;obtain ⟨ad276, A276_0, c276_0, e276, hx276_0, hl276_0, hi276_0⟩ := zc6 (Kd.zw HO_253000.out).2.2 x9_3 p276 q276
               cases e276
               obtain ⟨ce276, hce276, hMe276, hcc276⟩ := Kd.ze3 HO_253000.out [] x9_3 p276 (by first | exact q276 | exact of_decide_eq_true Zas | (have e_ := (Kd.zw HO_253000.out).1; omega));obtain ⟨ve276_0, rfl, ge276_0⟩ := hMe276;have hv276_0 := hcc276 0 _ rfl;rw [Nat.add_zero, show ((Kd.cut 3 (Kd.int .i64))).sz = 1 from rfl, Nat.mul_one] at hv276_0;replace hv276_0 := Option.some.inj (hv276_0.symm.trans hx276_0);rw [hv276_0] at ge276_0;have HL276_0 := za.mk (show Kd.Qc (Kd.int .i64) 3 _ _ _ _ (zh t246 x9_3) from ge276_0);clear hv276_0 ge276_0;clear hcc276 hce276;have HR276_0 := za.mk hi276_0;have HC276_0 := za.mk hl276_0;clear hi276_0 hl276_0;replace p276 := eq_true p276;replace q276 := eq_true q276;go_wp2;go_ret;exact ⟨by first | rfl | (simp [zq, zt] <;> rfl) | (simp [*, zq, zt] <;> rfl), Zq15 HB GE252 GE259⟩
              ·rw [if_neg c48] at H
               have c48b0 : decide (t241 < ((zh t246 x9_3).length : Int)) = false := decide_eq_false c48;clear c48;have H' := za.mk H;clear H;have hnb51 := NB252_259.out;have hnc51 := NB259_252.out;have hcz52_0 : wr.cell? ⟨gb252, 0, none⟩ = some (.slice Ao12 t246.length co12) := (z8 BK252.out 0).trans rfl;have hcz52_1 : wr.cell? ⟨gb252, 1, none⟩ = some (.slice Ao14 t249.length co14) := (z8 BK252.out 1).trans rfl;have hfz52_0 := zy BK252.out 0;have hfz52_1 := zy BK252.out 1;have p276 : 0 ≤ (x9_3 : Int) := of_decide_eq_true Zas;have q276 : x9_3 < (t246.length : Int) := of_decide_eq_true Zas;obtain ⟨ad276, A276_0, c276_0, e276, hx276_0, hl276_0, hi276_0⟩ := zc6 (Kd.zw HO_253000.out).2.2 x9_3 p276 q276
               cases e276
               obtain ⟨ce276, hce276, hMe276, hcc276⟩ := Kd.ze3 HO_253000.out [] x9_3 p276 (by first | exact q276 | exact of_decide_eq_true Zas | (have e_ := (Kd.zw HO_253000.out).1; omega));obtain ⟨ve276_0, rfl, ge276_0⟩ := hMe276;have hv276_0 := hcc276 0 _ rfl;rw [Nat.add_zero, show ((Kd.cut 3 (Kd.int .i64))).sz = 1 from rfl, Nat.mul_one] at hv276_0;replace hv276_0 := Option.some.inj (hv276_0.symm.trans hx276_0);rw [hv276_0] at ge276_0;have HL276_0 := za.mk (show Kd.Qc (Kd.int .i64) 3 _ _ _ _ (zh t246 x9_3) from ge276_0);clear hv276_0 ge276_0;clear hcc276 hce276;have HR276_0 := za.mk hi276_0;have HC276_0 := za.mk hl276_0;clear hi276_0 hl276_0;replace p276 := eq_true p276;replace q276 := eq_true q276;go_wp2
               go_loopg [10] k3 (fun kq v10 w' => ∃ (x8_4 : List Int) (x10_4 : Int), v10 = .int .i64 x10_4 ∧ za (laws_FnRunGraph.l1 kq t239 t240 t241 x8_4 x9_3 x10_4 t246 t249 = some r) ∧ za (kq ≤ k3) ∧ za (Kd.Qc (Kd.int .i64) 3 w' w.heap.size (fun k_ => some k_ ≠ (v265 : Value).ownBlock ∧ some k_ ≠ ((.slice Ao14 t249.length co14) : Value).ownBlock ∧ some k_ ≠ ((.slice Ao20 t256.length co20) : Value).ownBlock) (.slice Ao8 t239.length co8) t239) ∧ za (Kd.Qc (Kd.cut 3 (Kd.int .i64)) 23 w' w.heap.size (fun k_ => some k_ ≠ ((.slice Ao8 t239.length co8) : Value).ownBlock ∧ some k_ ≠ (v265 : Value).ownBlock ∧ some k_ ≠ ((.slice (some ad276) t246.length co12) : Value).ownBlock ∧ some k_ ≠ ((.slice Ao14 t249.length co14) : Value).ownBlock ∧ some k_ ≠ ((.slice Ao17 t253.length co17) : Value).ownBlock ∧ some k_ ≠ ((.slice Ao20 t256.length co20) : Value).ownBlock) (.slice Ao9 t240.length co9) t240) ∧ za (Kd.Qc (Kd.int .i64) 3 w' w.heap.size (fun k_ => some k_ ≠ ((.slice Ao8 t239.length co8) : Value).ownBlock ∧ some k_ ≠ ((.slice Ao14 t249.length co14) : Value).ownBlock ∧ some k_ ≠ ((.slice Ao20 t256.length co20) : Value).ownBlock) v265 x8_4) ∧ za (Kd.Qc (Kd.cut 3 (Kd.int .i64)) 23 w' w.heap.size (fun k_ => some k_ ≠ ((.slice Ao8 t239.length co8) : Value).ownBlock ∧ some k_ ≠ ((.slice Ao9 t240.length co9) : Value).ownBlock ∧ some k_ ≠ (v265 : Value).ownBlock ∧ some k_ ≠ ((.slice Ao14 t249.length co14) : Value).ownBlock ∧ some k_ ≠ ((.slice Ao17 t253.length co17) : Value).ownBlock ∧ some k_ ≠ ((.slice Ao20 t256.length co20) : Value).ownBlock) (.slice (some ad276) t246.length co12) t246) ∧ za (Kd.Qc (Kd.int .i64) 3 w' w.heap.size (fun k_ => some k_ ≠ ((.slice Ao8 t239.length co8) : Value).ownBlock ∧ some k_ ≠ (v265 : Value).ownBlock ∧ some k_ ≠ ((.slice Ao20 t256.length co20) : Value).ownBlock) (.slice Ao14 t249.length co14) t249) ∧ za (Kd.Qc (Kd.cut 3 (Kd.int .i64)) 23 w' w.heap.size (fun k_ => some k_ ≠ ((.slice Ao8 t239.length co8) : Value).ownBlock ∧ some k_ ≠ ((.slice Ao9 t240.length co9) : Value).ownBlock ∧ some k_ ≠ (v265 : Value).ownBlock ∧ some k_ ≠ ((.slice (some ad276) t246.length co12) : Value).ownBlock ∧ some k_ ≠ ((.slice Ao14 t249.length co14) : Value).ownBlock ∧ some k_ ≠ ((.slice Ao20 t256.length co20) : Value).ownBlock) (.slice Ao17 t253.length co17) t253) ∧ za (Kd.Qc (Kd.int .i64) 3 w' w.heap.size (fun k_ => some k_ ≠ ((.slice Ao8 t239.length co8) : Value).ownBlock ∧ some k_ ≠ (v265 : Value).ownBlock ∧ some k_ ≠ ((.slice Ao14 t249.length co14) : Value).ownBlock) (.slice Ao20 t256.length co20) t256) ∧ za (w'.heap[gb252]? = some (.cells #[(.slice (some ad276) t246.length co12), (.slice Ao14 t249.length co14)] 28 (0, 0))) ∧ za (w'.heap[gb259]? = some (.cells #[(.slice Ao17 t253.length co17), (.slice Ao20 t256.length co20)] 28 (0, 0))) ∧ za (Below w.heap.size w w'))
               case atStart => exact ⟨(x8_3), (0), Zrs, H', ⟨Nat.le_refl _⟩, ⟨Zq14 HO_3⟩, ⟨Zq14 HO_4⟩, ⟨Zq14 HO_8⟩, ⟨Zq14 HO_253000⟩, ⟨Zq14 HO_253001⟩, ⟨Zq14 HO_260000⟩, ⟨Zq14 HO_260001⟩, ⟨Zq2 BK252⟩, ⟨Zq2 BK259⟩, ⟨Zq15 HB GE252 GE259⟩⟩
               case round =>
                clear H'
                (try clear c1);(try clear c2);(try clear c2b0);(try clear c2b1);(try clear p2);(try clear q2);(try clear hx2);(try clear c3);(try clear c4);(try clear c5);(try clear c8);(try clear c9);(try clear c10);(try clear c11);(try clear c14);(try clear c18);(try clear c22);(try clear c24);(try clear c27);(try clear p27);(try clear q27);(try clear hx27);(try clear c30);(try clear c32);(try clear c32b0);(try clear c32b1);(try clear c32b2);(try clear c34);(try clear c37);(try clear c39);(try clear c42);(try clear c42b0);(try clear c42b1);(try clear c43);(try clear c43b0);(try clear c43b1);(try clear c46);(try clear c46b0);(try clear c47);(try clear c47b0);(try clear c48);(try clear c48b0);(try clear c49);(try clear c51);(try clear hcz13_0);(try clear hcz13_1);(try clear hcz19_0);(try clear hcz19_1);(try clear hcz25_0);(try clear hcz25_1);(try clear hcz26_0);(try clear hcz26_1);(try clear hcz28_0);(try clear hcz28_1);(try clear hcz29_0);(try clear hcz29_1);(try clear hcz35_0);(try clear hcz35_1);(try clear hcz38_0);(try clear hcz38_1);(try clear hcz50_0);(try clear hcz50_1);(try clear hcz52_0);(try clear hcz52_1);(try clear hfz13_0);(try clear hfz13_1);(try clear hfz19_0);(try clear hfz19_1);(try clear hfz25_0);(try clear hfz25_1);(try clear hfz26_0);(try clear hfz26_1);(try clear hfz28_0);(try clear hfz28_1);(try clear hfz29_0);(try clear hfz29_1);(try clear hfz35_0);(try clear hfz35_1);(try clear hfz38_0);(try clear hfz38_1);(try clear hfz50_0);(try clear hfz50_1);(try clear hfz52_0);(try clear hfz52_1);(try clear hx276_0);(try clear p2);(try clear p276);(try clear q276)
                obtain ⟨x8_4, x10_4, rfl, HA, HK4, HO_3, HO_4, HO_8, HO_253000, HO_253001, HO_260000, HO_260001, BK252, BK259, HB⟩ := hrel
                cases gk with
                | zero => exact absurd HA.out (by simp [laws_FnRunGraph.l1])
                | succ k4 =>
                 have H := HA.out;clear HA;simp only [laws_FnRunGraph.l1] at H;by_cases c53 : 0 ≤ x9_3
                 ·rw [if_pos c53] at H
                  have c53b0 : decide (0 ≤ x9_3) = true := decide_eq_true c53;clear c53;by_cases c54 : x9_3 < (t246.length : Int)
                  ·rw [if_pos c54] at H
                   have c54b0 : decide (x9_3 < (t246.length : Int)) = true := decide_eq_true c54;clear c54;by_cases c55 : x10_4 < ((zh t246 x9_3).length : Int)
                   ·rw [if_pos c55] at H
                    have c55b0 : decide (x10_4 < ((zh t246 x9_3).length : Int)) = true := decide_eq_true c55;clear c55;by_cases c56 : 0 ≤ x10_4
                    ·rw [if_pos c56] at H
                     have c56b0 : decide (0 ≤ x10_4) = true := decide_eq_true c56;clear c56;have H' := za.mk H;clear H;have hnb57 := NB252_259.out;have hnc57 := NB259_252.out;have hcz58_0 : wr.cell? ⟨gb252, 0, none⟩ = some (.slice (some ad276) t246.length co12) := (z8 BK252.out 0).trans rfl;have hcz58_1 : wr.cell? ⟨gb252, 1, none⟩ = some (.slice Ao14 t249.length co14) := (z8 BK252.out 1).trans rfl;have hfz58_0 := zy BK252.out 0;have hfz58_1 := zy BK252.out 1;have p277 : 0 ≤ (x9_3 : Int) := of_decide_eq_true Zas;have q277 : x9_3 < (t246.length : Int) := of_decide_eq_true Zas;obtain ⟨ad277, A277_0, c277_0, e277, hx277_0, hl277_0, hi277_0⟩ := zc6 (Kd.zw HO_253000.out).2.2 x9_3 p277 q277;obtain rfl : ad276 = ad277 := (by injection e277);obtain ⟨ce277, hce277, hMe277, hcc277⟩ := Kd.ze3 HO_253000.out [] x9_3 p277 (by first | exact q277 | exact of_decide_eq_true Zas | (have e_ := (Kd.zw HO_253000.out).1; omega));obtain ⟨ve277_0, rfl, ge277_0⟩ := hMe277;have hv277_0 := hcc277 0 _ rfl;rw [Nat.add_zero, show ((Kd.cut 3 (Kd.int .i64))).sz = 1 from rfl, Nat.mul_one] at hv277_0;replace hv277_0 := Option.some.inj (hv277_0.symm.trans hx277_0);rw [hv277_0] at ge277_0;have HL277_0 := za.mk (show Kd.Qc (Kd.int .i64) 3 _ _ _ _ (zh t246 x9_3) from ge277_0);clear hv277_0 ge277_0;clear hcc277 hce277;have HR277_0 := za.mk hi277_0;have HC277_0 := za.mk hl277_0;clear hi277_0 hl277_0;replace p277 := eq_true p277;replace q277 := eq_true q277;have p278 : 0 ≤ (x9_3 : Int) := of_decide_eq_true Zas;have q278 : x9_3 < (t246.length : Int) := of_decide_eq_true Zas;obtain ⟨ad278, A278_0, c278_0, e278, hx278_0, hl278_0, hi278_0⟩ := zc6 (Kd.zw HO_253000.out).2.2 x9_3 p278 q278;obtain rfl : ad276 = ad278 := (by injection e278);obtain ⟨ce278, hce278, hMe278, hcc278⟩ := Kd.ze3 HO_253000.out [] x9_3 p278 (by first | exact q278 | exact of_decide_eq_true Zas | (have e_ := (Kd.zw HO_253000.out).1; omega));obtain ⟨ve278_0, rfl, ge278_0⟩ := hMe278;have hv278_0 := hcc278 0 _ rfl;rw [Nat.add_zero, show ((Kd.cut 3 (Kd.int .i64))).sz = 1 from rfl, Nat.mul_one] at hv278_0;replace hv278_0 := Option.some.inj (hv278_0.symm.trans hx278_0);rw [hv278_0] at ge278_0;have HL278_0 := za.mk (show Kd.Qc (Kd.int .i64) 3 _ _ _ _ (zh t246 x9_3) from ge278_0);clear hv278_0 ge278_0;clear hcc278 hce278;have HR278_0 := za.mk hi278_0;have HC278_0 := za.mk hl278_0;clear hi278_0 hl278_0;replace p278 := eq_true p278;replace q278 := eq_true q278;have ea_ := Option.some.inj (hx277_0.symm.trans hx278_0);injection ea_ with ea_ en_ ec_;subst ea_;subst ec_;clear en_;have p279 : 0 ≤ (x10_4 : Int) := of_decide_eq_true Zas;have q279 : x10_4 < ((zh t246 x9_3).length : Int) := of_decide_eq_true Zas;obtain ⟨ad279, e279, hx279_0⟩ := Kd.zbq (by repeat (first | (with_reducible exact HR278_0.out) | (with_reducible refine Kd.zdj ?_ _) | (with_reducible refine Kd.zdc ?_ _) | (with_reducible refine Kd.zdk ?_) | exact HR278_0.out)) x10_4 p279 q279
                     cases e279
                     replace p279 := eq_true p279;replace q279 := eq_true q279;go_wp2
                     go_loopg [12] k4 (fun kq v12 w' => ∃ (x12_5 : Int), v12 = .int .i64 x12_5 ∧ za (laws_FnRunGraph.l2 kq t239 t240 t241 x8_4 x9_3 x10_4 (rd (zh t246 x9_3) x10_4) x12_5 t246 t249 = some r) ∧ za (kq ≤ k4) ∧ za (Kd.Qc (Kd.int .i64) 3 w' w.heap.size (fun k_ => some k_ ≠ (v265 : Value).ownBlock ∧ some k_ ≠ ((.slice Ao14 t249.length co14) : Value).ownBlock ∧ some k_ ≠ ((.slice Ao20 t256.length co20) : Value).ownBlock) (.slice Ao8 t239.length co8) t239) ∧ za (Kd.Qc (Kd.cut 3 (Kd.int .i64)) 23 w' w.heap.size (fun k_ => some k_ ≠ ((.slice Ao8 t239.length co8) : Value).ownBlock ∧ some k_ ≠ (v265 : Value).ownBlock ∧ some k_ ≠ ((.slice (some ad276) t246.length co12) : Value).ownBlock ∧ some k_ ≠ ((.slice Ao14 t249.length co14) : Value).ownBlock ∧ some k_ ≠ ((.slice Ao17 t253.length co17) : Value).ownBlock ∧ some k_ ≠ ((.slice Ao20 t256.length co20) : Value).ownBlock) (.slice Ao9 t240.length co9) t240) ∧ za (Kd.Qc (Kd.int .i64) 3 w' w.heap.size (fun k_ => some k_ ≠ ((.slice Ao8 t239.length co8) : Value).ownBlock ∧ some k_ ≠ ((.slice Ao14 t249.length co14) : Value).ownBlock ∧ some k_ ≠ ((.slice Ao20 t256.length co20) : Value).ownBlock) v265 x8_4) ∧ za (Kd.Qc (Kd.cut 3 (Kd.int .i64)) 23 w' w.heap.size (fun k_ => some k_ ≠ ((.slice Ao8 t239.length co8) : Value).ownBlock ∧ some k_ ≠ ((.slice Ao9 t240.length co9) : Value).ownBlock ∧ some k_ ≠ (v265 : Value).ownBlock ∧ some k_ ≠ ((.slice Ao14 t249.length co14) : Value).ownBlock ∧ some k_ ≠ ((.slice Ao17 t253.length co17) : Value).ownBlock ∧ some k_ ≠ ((.slice Ao20 t256.length co20) : Value).ownBlock) (.slice (some ad276) t246.length co12) t246) ∧ za (Kd.Qc (Kd.int .i64) 3 w' w.heap.size (fun k_ => some k_ ≠ ((.slice Ao8 t239.length co8) : Value).ownBlock ∧ some k_ ≠ (v265 : Value).ownBlock ∧ some k_ ≠ ((.slice Ao20 t256.length co20) : Value).ownBlock) (.slice Ao14 t249.length co14) t249) ∧ za (Kd.Qc (Kd.cut 3 (Kd.int .i64)) 23 w' w.heap.size (fun k_ => some k_ ≠ ((.slice Ao8 t239.length co8) : Value).ownBlock ∧ some k_ ≠ ((.slice Ao9 t240.length co9) : Value).ownBlock ∧ some k_ ≠ (v265 : Value).ownBlock ∧ some k_ ≠ ((.slice (some ad276) t246.length co12) : Value).ownBlock ∧ some k_ ≠ ((.slice Ao14 t249.length co14) : Value).ownBlock ∧ some k_ ≠ ((.slice Ao20 t256.length co20) : Value).ownBlock) (.slice Ao17 t253.length co17) t253) ∧ za (Kd.Qc (Kd.int .i64) 3 w' w.heap.size (fun k_ => some k_ ≠ ((.slice Ao8 t239.length co8) : Value).ownBlock ∧ some k_ ≠ (v265 : Value).ownBlock ∧ some k_ ≠ ((.slice Ao14 t249.length co14) : Value).ownBlock) (.slice Ao20 t256.length co20) t256) ∧ za (w'.heap[gb252]? = some (.cells #[(.slice (some ad276) t246.length co12), (.slice Ao14 t249.length co14)] 28 (0, 0))) ∧ za (w'.heap[gb259]? = some (.cells #[(.slice Ao17 t253.length co17), (.slice Ao20 t256.length co20)] 28 (0, 0))) ∧ za (Kd.C (Kd.int .i64) w' (some ad279) (zh t246 x9_3).length (zh t246 x9_3)) ∧ za (Kd.C (Kd.int .i64) w' (some ad279) (zh t246 x9_3).length (zh t246 x9_3)) ∧ za (Below w.heap.size w w'))
                     case atStart => exact ⟨(0), Zrs, H', ⟨Nat.le_refl _⟩, ⟨Zq14 HO_3⟩, ⟨Zq14 HO_4⟩, ⟨Zq14 HO_8⟩, ⟨Zq14 HO_253000⟩, ⟨Zq14 HO_253001⟩, ⟨Zq14 HO_260000⟩, ⟨Zq14 HO_260001⟩, ⟨Zq2 BK252⟩, ⟨Zq2 BK259⟩, ⟨by repeat (first | (with_reducible exact HR277_0.out) | (with_reducible refine Kd.zdj ?_ _) | (with_reducible refine Kd.zdc ?_ _) | (with_reducible refine Kd.zdk ?_) | exact HR277_0.out)⟩, ⟨by repeat (first | (with_reducible exact HR278_0.out) | (with_reducible refine Kd.zdj ?_ _) | (with_reducible refine Kd.zdc ?_ _) | (with_reducible refine Kd.zdk ?_) | exact HR278_0.out)⟩, ⟨Zq15 HB GE252 GE259⟩⟩
                     case round =>
                      clear H'
                      (try clear c1);(try clear c2);(try clear c2b0);(try clear c2b1);(try clear p2);(try clear q2);(try clear hx2);(try clear c3);(try clear c4);(try clear c5);(try clear c8);(try clear c9);(try clear c10);(try clear c11);(try clear c14);(try clear c18);(try clear c22);(try clear c24);(try clear c27);(try clear p27);(try clear q27);(try clear hx27);(try clear c30);(try clear c32);(try clear c32b0);(try clear c32b1);(try clear c32b2);(try clear c34);(try clear c37);(try clear c39);(try clear c42);(try clear c42b0);(try clear c42b1);(try clear c43);(try clear c43b0);(try clear c43b1);(try clear c46);(try clear c46b0);(try clear c47);(try clear c47b0);(try clear c48);(try clear c48b0);(try clear c49);(try clear c51);(try clear c53);(try clear c53b0);(try clear c54);(try clear c54b0);(try clear c55);(try clear c55b0);(try clear c56);(try clear c56b0);(try clear c57);(try clear hcz13_0);(try clear hcz13_1);(try clear hcz19_0);(try clear hcz19_1);(try clear hcz25_0);(try clear hcz25_1);(try clear hcz26_0);(try clear hcz26_1);(try clear hcz28_0);(try clear hcz28_1);(try clear hcz29_0);(try clear hcz29_1);(try clear hcz35_0);(try clear hcz35_1);(try clear hcz38_0);(try clear hcz38_1);(try clear hcz50_0);(try clear hcz50_1);(try clear hcz52_0);(try clear hcz52_1);(try clear hcz58_0);(try clear hcz58_1);(try clear hfz13_0);(try clear hfz13_1);(try clear hfz19_0);(try clear hfz19_1);(try clear hfz25_0);(try clear hfz25_1);(try clear hfz26_0);(try clear hfz26_1);(try clear hfz28_0);(try clear hfz28_1);(try clear hfz29_0);(try clear hfz29_1);(try clear hfz35_0);(try clear hfz35_1);(try clear hfz38_0);(try clear hfz38_1);(try clear hfz50_0);(try clear hfz50_1);(try clear hfz52_0);(try clear hfz52_1);(try clear hfz58_0);(try clear hfz58_1);(try clear hx276_0);(try clear hx277_0);(try clear hx278_0);(try clear hx279_0);(try clear p2);(try clear p27);(try clear p276);(try clear p277);(try clear p278);(try clear p279);(try clear q2);(try clear q27);(try clear q276);(try clear q277);(try clear q278);(try clear q279)
                      obtain ⟨x12_5, rfl, HA, HK5, HO_3, HO_4, HO_8, HO_253000, HO_253001, HO_260000, HO_260001, BK252, BK259, HR277_0, HR278_0, HB⟩ := hrel
                      cases gk with
                      | zero => exact absurd HA.out (by simp [laws_FnRunGraph.l2])
                      | succ k5 =>
                       have H := HA.out;clear HA;simp only [laws_FnRunGraph.l2] at H;by_cases c59 : x12_5 < (t240.length : Int)
                       ·rw [if_pos c59] at H
                        have c59b0 : decide (x12_5 < (t240.length : Int)) = true := decide_eq_true c59;clear c59;by_cases c60 : 0 ≤ x12_5
                        ·rw [if_pos c60] at H
                         have c60b0 : decide (0 ≤ x12_5) = true := decide_eq_true c60;clear c60;by_cases c61 : 1 < ((zh t240 x12_5).length : Int)
                         ·rw [if_pos c61] at H
                          have c61b0 : decide (1 < ((zh t240 x12_5).length : Int)) = true := decide_eq_true c61;have c61b1 : decide (1 < (zh t240 x12_5).length) = true := decide_eq_true (by omega);clear c61;by_cases c62 : (rd (zh t240 x12_5) 1) = (rd (zh t246 x9_3) x10_4)
                          ·rw [if_pos c62] at H
                           have c62b0 : ((rd (zh t240 x12_5) 1) == (rd (zh t246 x9_3) x10_4)) = true := beq_iff_eq.mpr c62;have c62b1 : ((rd (zh t240 x12_5) 1) != (rd (zh t246 x9_3) x10_4)) = false := bne_eq_false_iff_eq.mpr c62;clear c62;by_cases c63 : 0 < ((zh t240 x12_5).length : Int)
                           ·rw [if_pos c63] at H
                            have c63b0 : decide (0 < ((zh t240 x12_5).length : Int)) = true := decide_eq_true c63;have c63b1 : decide (0 < (zh t240 x12_5).length) = true := decide_eq_true (by omega);clear c63;by_cases c64 : 0 ≤ (rd (zh t240 x12_5) 0)
                            ·rw [if_pos c64] at H
                             have c64b0 : decide (0 ≤ (rd (zh t240 x12_5) 0)) = true := decide_eq_true c64;clear c64;by_cases c65 : (rd (zh t240 x12_5) 0) < (t249.length : Int)
                             ·rw [if_pos c65] at H
                              have c65b0 : decide ((rd (zh t240 x12_5) 0) < (t249.length : Int)) = true := decide_eq_true c65;clear c65;by_cases c66 : (rd t249 (rd (zh t240 x12_5) 0)) > x9_3
                              ·rw [if_pos c66] at H
                               have c66b0 : decide (x9_3 < (rd t249 (rd (zh t240 x12_5) 0))) = true := decide_eq_true c66;clear c66;obtain rfl := Option.some.inj H
                               try go_wp2
                               have n0_ := za.mk (Kd.zu HO_3.out);have n1_ := za.mk (Kd.zu HO_4.out);have n2_ := za.mk (Kd.zu HO_8.out);have n3_ := za.mk (Kd.zu HO_253000.out);have n4_ := za.mk (Kd.zu HO_253001.out);have n5_ := za.mk (Kd.zu HO_260000.out);have n6_ := za.mk (Kd.zu HO_260001.out);have n7_ := za.mk (zbv BK252.out);have n8_ := za.mk (zbv BK259.out);have n9_ := za.mk (Kd.zdk HR277_0.out);have n10_ := za.mk (Kd.zdk HR278_0.out);have n11_ := za.mk (zbr HB.out);clear HO_3;clear HO_4;clear HO_8;clear HO_253000;clear HO_253001;clear HO_260000;clear HO_260001;clear BK252;clear BK259;clear HR277_0;clear HR278_0;clear HB;have HO_3 := n0_;have HO_4 := n1_;have HO_8 := n2_;have HO_253000 := n3_;have HO_253001 := n4_;have HO_260000 := n5_;have HO_260001 := n6_;have BK252 := n7_;have BK259 := n8_;have HR277_0 := n9_;have HR278_0 := n10_;have HB := n11_;clear n0_ n1_ n2_ n3_ n4_ n5_ n6_ n7_ n8_ n9_ n10_ n11_;have p280 : 0 ≤ (x12_5 : Int) := of_decide_eq_true Zas;have q280 : x12_5 < (t240.length : Int) := of_decide_eq_true Zas;obtain ⟨ad280, A280_0, c280_0, e280, hx280_0, hl280_0, hi280_0⟩ := zc6 (Kd.zw HO_4.out).2.2 x12_5 p280 q280
                               cases e280
                               obtain ⟨ce280, hce280, hMe280, hcc280⟩ := Kd.ze3 HO_4.out [] x12_5 p280 (by first | exact q280 | exact of_decide_eq_true Zas | (have e_ := (Kd.zw HO_4.out).1; omega));obtain ⟨ve280_0, rfl, ge280_0⟩ := hMe280;have hv280_0 := hcc280 0 _ rfl;rw [Nat.add_zero, show ((Kd.cut 3 (Kd.int .i64))).sz = 1 from rfl, Nat.mul_one] at hv280_0;replace hv280_0 := Option.some.inj (hv280_0.symm.trans hx280_0);rw [hv280_0] at ge280_0;have HL280_0 := za.mk (show Kd.Qc (Kd.int .i64) 3 _ _ _ _ (zh t240 x12_5) from ge280_0);clear hv280_0 ge280_0;clear hcc280 hce280;have HR280_0 := za.mk hi280_0;have HC280_0 := za.mk hl280_0;clear hi280_0 hl280_0;replace p280 := eq_true p280;replace q280 := eq_true q280;have p281 : 0 ≤ (1 : Int) := (by omega);have q281 : 1 < ((zh t240 x12_5).length : Int) := of_decide_eq_true Zas;obtain ⟨ad281, e281, hx281_0⟩ := Kd.zbq (by repeat (first | (with_reducible exact HR280_0.out) | (with_reducible refine Kd.zdj ?_ _) | (with_reducible refine Kd.zdc ?_ _) | (with_reducible refine Kd.zdk ?_) | exact HR280_0.out)) 1 p281 q281
                               cases e281
                               (try simp only [show (1 : Int).toNat = 1 from rfl, Nat.reduceMul, Nat.reduceEqDiff, Go.Addr.add, ↓reduceIte] at hx281_0);have qi281 : (1 < (zh t240 x12_5).length) = True := eq_true (by omega);(try rw [show ((1 : Int)).toNat = 1 from rfl] at hx281_0);replace p281 := eq_true p281;replace q281 := eq_true q281;have p282 : 0 ≤ (x12_5 : Int) := of_decide_eq_true Zas;have q282 : x12_5 < (t240.length : Int) := of_decide_eq_true Zas;obtain ⟨ad282, A282_0, c282_0, e282, hx282_0, hl282_0, hi282_0⟩ := zc6 (Kd.zw HO_4.out).2.2 x12_5 p282 q282;obtain rfl : ad280 = ad282 := (by injection e282);obtain ⟨ce282, hce282, hMe282, hcc282⟩ := Kd.ze3 HO_4.out [] x12_5 p282 (by first | exact q282 | exact of_decide_eq_true Zas | (have e_ := (Kd.zw HO_4.out).1; omega));obtain ⟨ve282_0, rfl, ge282_0⟩ := hMe282;have hv282_0 := hcc282 0 _ rfl;rw [Nat.add_zero, show ((Kd.cut 3 (Kd.int .i64))).sz = 1 from rfl, Nat.mul_one] at hv282_0;replace hv282_0 := Option.some.inj (hv282_0.symm.trans hx282_0);rw [hv282_0] at ge282_0;have HL282_0 := za.mk (show Kd.Qc (Kd.int .i64) 3 _ _ _ _ (zh t240 x12_5) from ge282_0);clear hv282_0 ge282_0;clear hcc282 hce282;have HR282_0 := za.mk hi282_0;have HC282_0 := za.mk hl282_0;clear hi282_0 hl282_0;replace p282 := eq_true p282;replace q282 := eq_true q282;have ea_ := Option.some.inj (hx280_0.symm.trans hx282_0);injection ea_ with ea_ en_ ec_;subst ea_;subst ec_;clear en_;have p283 : 0 ≤ (0 : Int) := (by omega);have q283 : 0 < ((zh t240 x12_5).length : Int) := of_decide_eq_true Zas;obtain ⟨ad283, e283, hx283_0⟩ := Kd.zbq (by repeat (first | (with_reducible exact HR282_0.out) | (with_reducible refine Kd.zdj ?_ _) | (with_reducible refine Kd.zdc ?_ _) | (with_reducible refine Kd.zdk ?_) | exact HR282_0.out)) 0 p283 q283
                               cases e283
                               have qi283 : (0 < (zh t240 x12_5).length) = True := eq_true (by omega);(try rw [show ((0 : Int)).toNat = 0 from rfl] at hx283_0);(try rw [Addr.add_zero'] at hx283_0);replace p283 := eq_true p283;replace q283 := eq_true q283;have p284 : 0 ≤ ((rd (zh t240 x12_5) 0) : Int) := of_decide_eq_true Zas;have q284 : (rd (zh t240 x12_5) 0) < (t249.length : Int) := of_decide_eq_true Zas;obtain ⟨ad284, e284, hx284_0⟩ := Kd.zbq (Kd.zw HO_253001.out).2.2 (rd (zh t240 x12_5) 0) p284 q284
                               cases e284
                               replace p284 := eq_true p284;replace q284 := eq_true q284;refine zdl (n := 22) (S := fun w' => w'.cell? ⟨gb252, 0, none⟩ = some (.slice (some ad276) t246.length co12) ∧ w'.cell? ⟨gb252, 1, none⟩ = some (.slice (some ad284) t249.length co14) ∧ w'.cell? (ad280.add (x12_5).toNat) = some (.slice (some ad281) (zh t240 x12_5).length c280_0) ∧ w'.cell? ⟨ad281.block, ad281.off + 1, none⟩ = some (.int .i64 (rd (zh t240 x12_5) 1)) ∧ w'.cell? (ad280.add (x12_5).toNat) = some (.slice (some ad281) (zh t240 x12_5).length c280_0) ∧ w'.cell? ad281 = some (.int .i64 (rd (zh t240 x12_5) 0)) ∧ w'.cell? (ad284.add ((rd (zh t240 x12_5) 0)).toNat) = some (.int .i64 (rd t249 (rd (zh t240 x12_5) 0)))) (ds := []) #[false, false, false, false, false, false, false, false, false, false, false, false, false, false, false, false, false, false, false, false, false, false] (by kernel_rfl) rfl rfl ⟨(z8 BK252.out 0).trans rfl, (z8 BK252.out 1).trans rfl, hx280_0, hx281_0, hx282_0, hx283_0, hx284_0⟩ (fun hHeld => ?_); refine zb9 laws_FnRunGraph.tab23 laws_FnRunGraph.zh5 (fun HT_ HW_ => ?_);generalize wr.drew = w67 at HO_3 HO_4 HO_8 HO_253000 HO_253001 HO_260000 HO_260001 BK252 BK259 HR277_0 HR278_0 HB HL280_0 HL282_0 HR280_0 HR282_0 hx280_0 hx281_0 hx282_0 hx283_0 hx284_0 hHeld ⊢;refine zi (i := 0) (N := some 100) (v := ?_) (a' := ?_) #[true, false, false, false, false, false, false, false, false, false, false, false, false, false, false, false, false, false, false, false, false, false] rfl rfl (zb HT_.out (by kernel_rfl)) (fun _ _ _ h => h) (Or.inl ⟨by rfl, ?_⟩) ?_ ?_;rotate_left
                               ·intro w'
                                go_simp;with_reducible rfl
                               rotate_left
                               ·simp only [Act.put, Zs1, Zs2, Zs3, ze, zf]
                                rfl
                               refine zi (i := 1) (N := some 101) (v := ?_) (a' := ?_) #[true, true, false, false, false, false, false, false, false, false, false, false, false, false, false, false, false, false, false, false, false, false] rfl rfl (zb HT_.out (by kernel_rfl)) (fun _ _ _ h => h) (Or.inl ⟨by rfl, ?_⟩) ?_ ?_;rotate_left
                               ·intro w'
                                go_simp;with_reducible rfl
                               rotate_left
                               ·simp only [Act.put, Zs1, Zs2, Zs3, ze, zf]
                                rfl
                               refine zi (i := 2) (N := some 102) (v := ?_) (a' := ?_) #[true, true, true, false, false, false, false, false, false, false, false, false, false, false, false, false, false, false, false, false, false, false] rfl rfl (zb HT_.out (by kernel_rfl)) (fun _ _ _ h => h) (Or.inl ⟨by rfl, ?_⟩) ?_ ?_;rotate_left
                               ·intro w'
                                go_simp;with_reducible rfl
                               rotate_left
                               ·simp only [Act.put, Zs1, Zs2, Zs3, ze, zf]
                                rfl
                               refine zi (i := 6) (N := some 106) (v := ?_) (a' := ?_) #[true, true, true, false, false, false, true, false, false, false, false, false, false, false, false, false, false, false, false, false, false, false] rfl rfl (zb HT_.out (by kernel_rfl)) (fun _ _ _ h => h) (Or.inl ⟨by rfl, ?_⟩) ?_ ?_;rotate_left
                               ·intro w'
                                go_simp;with_reducible rfl
                               rotate_left
                               ·simp only [Act.put, Zs1, Zs2, Zs3, ze, zf]
                                rfl
                               refine zb3 (i := 3) (N := some 103) (v := ?_) (a' := ?_) #[true, true, true, true, false, false, true, false, false, false, false, false, false, false, false, false, false, false, false, false, false, false] rfl rfl (zbf HT_.out HW_.out (by kernel_rfl)) (fun _ _ _ h => h) (Or.inl ⟨by rfl, ?_⟩) hHeld ?_ ?_;rotate_left
                               ·rintro w' ⟨s0, s1, s2, s3, s4, s5, s6⟩
                                go_simp;with_reducible rfl
                               rotate_left
                               ·simp only [Act.put, Zs1, Zs2, Zs3, ze, zf]
                                rfl
                               refine zi (i := 4) (N := some 104) (v := ?_) (a' := ?_) #[true, true, true, true, true, false, true, false, false, false, false, false, false, false, false, false, false, false, false, false, false, false] rfl rfl (zb HT_.out (by kernel_rfl)) (fun _ _ _ h => h) (Or.inl ⟨by rfl, ?_⟩) ?_ ?_;rotate_left
                               ·intro w'
                                go_simp;with_reducible rfl
                               rotate_left
                               ·simp only [Act.put, Zs1, Zs2, Zs3, ze, zf]
                                rfl
                               refine zb3 (i := 5) (N := some 105) (v := ?_) (a' := ?_) #[true, true, true, true, true, true, true, false, false, false, false, false, false, false, false, false, false, false, false, false, false, false] rfl rfl (zbf HT_.out HW_.out (by kernel_rfl)) (fun _ _ _ h => h) (Or.inl ⟨by rfl, ?_⟩) hHeld ?_ ?_;rotate_left
                               ·rintro w' ⟨s0, s1, s2, s3, s4, s5, s6⟩
                                go_simp;with_reducible rfl
                               rotate_left
                               ·simp only [Act.put, Zs1, Zs2, Zs3, ze, zf]
                                rfl
                               refine zi (i := 7) (N := some 107) (v := ?_) (a' := ?_) #[true, true, true, true, true, true, true, true, false, false, false, false, false, false, false, false, false, false, false, false, false, false] rfl rfl (zb HT_.out (by kernel_rfl)) (fun _ _ _ h => h) (Or.inl ⟨by rfl, ?_⟩) ?_ ?_;rotate_left
                               ·intro w'
                                go_simp;with_reducible rfl
                               rotate_left
                               ·simp only [Act.put, Zs1, Zs2, Zs3, ze, zf]
                                rfl
                               refine zi (i := 8) (N := some 108) (v := ?_) (a' := ?_) #[true, true, true, true, true, true, true, true, true, false, false, false, false, false, false, false, false, false, false, false, false, false] rfl rfl (zb HT_.out (by kernel_rfl)) (fun _ _ _ h => h) (Or.inl ⟨by rfl, ?_⟩) ?_ ?_;rotate_left
                               ·intro w'
                                go_simp;with_reducible rfl
                               rotate_left
                               ·simp only [Act.put, Zs1, Zs2, Zs3, ze, zf]
                                rfl
                               refine zi (i := 9) (N := some 109) (v := ?_) (a' := ?_) #[true, true, true, true, true, true, true, true, true, true, false, false, false, false, false, false, false, false, false, false, false, false] rfl rfl (zb HT_.out (by kernel_rfl)) (fun _ _ _ h => h) (Or.inl ⟨by rfl, ?_⟩) ?_ ?_;rotate_left
                               ·intro w'
                                go_simp;with_reducible rfl
                               rotate_left
                               ·simp only [Act.put, Zs1, Zs2, Zs3, ze, zf]
                                rfl
                               refine zi (i := 11) (N := some 111) (v := ?_) (a' := ?_) #[true, true, true, true, true, true, true, true, true, true, false, true, false, false, false, false, false, false, false, false, false, false] rfl rfl (zb HT_.out (by kernel_rfl)) (fun _ _ _ h => h) (Or.inl ⟨by rfl, ?_⟩) ?_ ?_;rotate_left
                               ·intro w'
                                go_simp;with_reducible rfl
                               rotate_left
                               ·simp only [Act.put, Zs1, Zs2, Zs3, ze, zf]
                                rfl
                               refine zi (i := 12) (N := some 112) (v := ?_) (a' := ?_) #[true, true, true, true, true, true, true, true, true, true, false, true, true, false, false, false, false, false, false, false, false, false] rfl rfl (zb HT_.out (by kernel_rfl)) (fun _ _ _ h => h) (Or.inl ⟨by rfl, ?_⟩) ?_ ?_;rotate_left
                               ·intro w'
                                go_simp;with_reducible rfl
                               rotate_left
                               ·simp only [Act.put, Zs1, Zs2, Zs3, ze, zf]
                                rfl
                               refine zi (i := 13) (N := some 113) (v := ?_) (a' := ?_) #[true, true, true, true, true, true, true, true, true, true, false, true, true, true, false, false, false, false, false, false, false, false] rfl rfl (zb HT_.out (by kernel_rfl)) (fun _ _ _ h => h) (Or.inl ⟨by rfl, ?_⟩) ?_ ?_;rotate_left
                               ·intro w'
                                go_simp;with_reducible rfl
                               rotate_left
                               ·simp only [Act.put, Zs1, Zs2, Zs3, ze, zf]
                                rfl
                               refine zi (i := 19) (N := some 119) (v := ?_) (a' := ?_) #[true, true, true, true, true, true, true, true, true, true, false, true, true, true, false, false, false, false, false, true, false, false] rfl rfl (zb HT_.out (by kernel_rfl)) (fun _ _ _ h => h) (Or.inl ⟨by rfl, ?_⟩) ?_ ?_;rotate_left
                               ·intro w'
                                go_simp;with_reducible rfl
                               rotate_left
                               ·simp only [Act.put, Zs1, Zs2, Zs3, ze, zf]
                                rfl
                               refine zb3 (i := 10) (N := some 110) (v := ?_) (a' := ?_) #[true, true, true, true, true, true, true, true, true, true, true, true, true, true, false, false, false, false, false, true, false, false] rfl rfl (zbf HT_.out HW_.out (by kernel_rfl)) (fun _ _ _ h => h) (Or.inl ⟨by rfl, ?_⟩) hHeld ?_ ?_;rotate_left
                               ·rintro w' ⟨s0, s1, s2, s3, s4, s5, s6⟩
                                go_simp;with_reducible rfl
                               rotate_left
                               ·simp only [Act.put, Zs1, Zs2, Zs3, ze, zf]
                                rfl
                               refine zb3 (i := 14) (N := some 114) (v := ?_) (a' := ?_) #[true, true, true, true, true, true, true, true, true, true, true, true, true, true, true, false, false, false, false, true, false, false] rfl rfl (zbf HT_.out HW_.out (by kernel_rfl)) (fun _ _ _ h => h) (Or.inl ⟨by rfl, ?_⟩) hHeld ?_ ?_;rotate_left
                               ·rintro w' ⟨s0, s1, s2, s3, s4, s5, s6⟩
                                go_simp;with_reducible rfl
                               rotate_left
                               ·simp only [Act.put, Zs1, Zs2, Zs3, ze, zf]
                                rfl
                               refine zi (i := 15) (N := some 115) (v := ?_) (a' := ?_) #[true, true, true, true, true, true, true, true, true, true, true, true, true, true, true, true, false, false, false, true, false, false] rfl rfl (zb HT_.out (by kernel_rfl)) (fun _ _ _ h => h) (Or.inl ⟨by rfl, ?_⟩) ?_ ?_;rotate_left
                               ·intro w'
                                go_simp;with_reducible rfl
                               rotate_left
                               ·simp only [Act.put, Zs1, Zs2, Zs3, ze, zf]
                                rfl
                               refine zb3 (i := 16) (N := some 116) (v := ?_) (a' := ?_) #[true, true, true, true, true, true, true, true, true, true, true, true, true, true, true, true, true, false, false, true, false, false] rfl rfl (zbf HT_.out HW_.out (by kernel_rfl)) (fun _ _ _ h => h) (Or.inl ⟨by rfl, ?_⟩) hHeld ?_ ?_;rotate_left
                               ·rintro w' ⟨s0, s1, s2, s3, s4, s5, s6⟩
                                go_simp;with_reducible rfl
                               rotate_left
                               ·simp only [Act.put, Zs1, Zs2, Zs3, ze, zf]
                                rfl
                               refine zi (i := 17) (N := some 117) (v := ?_) (a' := ?_) #[true, true, true, true, true, true, true, true, true, true, true, true, true, true, true, true, true, true, false, true, false, false] rfl rfl (zb HT_.out (by kernel_rfl)) (fun _ _ _ h => h) (Or.inl ⟨by rfl, ?_⟩) ?_ ?_;rotate_left
                               ·intro w'
                                go_simp;with_reducible rfl
                               rotate_left
                               ·simp only [Act.put, Zs1, Zs2, Zs3, ze, zf]
                                rfl
                               refine zb3 (i := 18) (N := some 118) (v := ?_) (a' := ?_) #[true, true, true, true, true, true, true, true, true, true, true, true, true, true, true, true, true, true, true, true, false, false] rfl rfl (zbf HT_.out HW_.out (by kernel_rfl)) (fun _ _ _ h => h) (Or.inl ⟨by rfl, ?_⟩) hHeld ?_ ?_;rotate_left
                               ·rintro w' ⟨s0, s1, s2, s3, s4, s5, s6⟩
                                go_simp;with_reducible rfl
                               rotate_left
                               ·simp only [Act.put, Zs1, Zs2, Zs3, ze, zf]
                                rfl
                               refine zi (i := 20) (N := some 120) (v := ?_) (a' := ?_) #[true, true, true, true, true, true, true, true, true, true, true, true, true, true, true, true, true, true, true, true, true, false] rfl rfl (zb HT_.out (by kernel_rfl)) (fun _ _ _ h => h) (Or.inl ⟨by rfl, ?_⟩) ?_ ?_;rotate_left
                               ·intro w'
                                go_simp;with_reducible rfl
                               rotate_left
                               ·simp only [Act.put, Zs1, Zs2, Zs3, ze, zf]
                                rfl
                               refine zi (i := 21) (N := some 121) (v := ?_) (a' := ?_) #[true, true, true, true, true, true, true, true, true, true, true, true, true, true, true, true, true, true, true, true, true, true] rfl rfl (zb HT_.out (by kernel_rfl)) (fun _ _ _ h => h) (Or.inl ⟨by rfl, ?_⟩) ?_ ?_;rotate_left
                               ·intro w'
                                go_simp;with_reducible rfl
                               rotate_left
                               ·simp only [Act.put, Zs1, Zs2, Zs3, ze, zf]
                                rfl
                               refine zeg (zct HT_.out (by kernel_rfl)) ?_
                               try go_wp2
                               go_ret;exact ⟨by first | rfl | (simp [zq, zt] <;> rfl) | (simp [*, zq, zt] <;> rfl), Zq15 HB GE252 GE259⟩
                              ·rw [if_neg c66] at H
                               have c66b0 : decide (x9_3 < (rd t249 (rd (zh t240 x12_5) 0))) = false := decide_eq_false c66;clear c66;have H' := za.mk H;clear H
                               try go_wp2
                               have n0_ := za.mk (Kd.zu HO_3.out);have n1_ := za.mk (Kd.zu HO_4.out);have n2_ := za.mk (Kd.zu HO_8.out);have n3_ := za.mk (Kd.zu HO_253000.out);have n4_ := za.mk (Kd.zu HO_253001.out);have n5_ := za.mk (Kd.zu HO_260000.out);have n6_ := za.mk (Kd.zu HO_260001.out);have n7_ := za.mk (zbv BK252.out);have n8_ := za.mk (zbv BK259.out);have n9_ := za.mk (Kd.zdk HR277_0.out);have n10_ := za.mk (Kd.zdk HR278_0.out);have n11_ := za.mk (zbr HB.out);clear HO_3;clear HO_4;clear HO_8;clear HO_253000;clear HO_253001;clear HO_260000;clear HO_260001;clear BK252;clear BK259;clear HR277_0;clear HR278_0;clear HB;have HO_3 := n0_;have HO_4 := n1_;have HO_8 := n2_;have HO_253000 := n3_;have HO_253001 := n4_;have HO_260000 := n5_;have HO_260001 := n6_;have BK252 := n7_;have BK259 := n8_;have HR277_0 := n9_;have HR278_0 := n10_;have HB := n11_;clear n0_ n1_ n2_ n3_ n4_ n5_ n6_ n7_ n8_ n9_ n10_ n11_;have p280 : 0 ≤ (x12_5 : Int) := of_decide_eq_true Zas;have q280 : x12_5 < (t240.length : Int) := of_decide_eq_true Zas;obtain ⟨ad280, A280_0, c280_0, e280, hx280_0, hl280_0, hi280_0⟩ := zc6 (Kd.zw HO_4.out).2.2 x12_5 p280 q280
                               cases e280
                               obtain ⟨ce280, hce280, hMe280, hcc280⟩ := Kd.ze3 HO_4.out [] x12_5 p280 (by first | exact q280 | exact of_decide_eq_true Zas | (have e_ := (Kd.zw HO_4.out).1; omega));obtain ⟨ve280_0, rfl, ge280_0⟩ := hMe280;have hv280_0 := hcc280 0 _ rfl;rw [Nat.add_zero, show ((Kd.cut 3 (Kd.int .i64))).sz = 1 from rfl, Nat.mul_one] at hv280_0;replace hv280_0 := Option.some.inj (hv280_0.symm.trans hx280_0);rw [hv280_0] at ge280_0;have HL280_0 := za.mk (show Kd.Qc (Kd.int .i64) 3 _ _ _ _ (zh t240 x12_5) from ge280_0);clear hv280_0 ge280_0;clear hcc280 hce280;have HR280_0 := za.mk hi280_0;have HC280_0 := za.mk hl280_0;clear hi280_0 hl280_0;replace p280 := eq_true p280;replace q280 := eq_true q280;have p281 : 0 ≤ (1 : Int) := (by omega);have q281 : 1 < ((zh t240 x12_5).length : Int) := of_decide_eq_true Zas;obtain ⟨ad281, e281, hx281_0⟩ := Kd.zbq (by repeat (first | (with_reducible exact HR280_0.out) | (with_reducible refine Kd.zdj ?_ _) | (with_reducible refine Kd.zdc ?_ _) | (with_reducible refine Kd.zdk ?_) | exact HR280_0.out)) 1 p281 q281
                               cases e281
                               (try simp only [show (1 : Int).toNat = 1 from rfl, Nat.reduceMul, Nat.reduceEqDiff, Go.Addr.add, ↓reduceIte] at hx281_0);have qi281 : (1 < (zh t240 x12_5).length) = True := eq_true (by omega);(try rw [show ((1 : Int)).toNat = 1 from rfl] at hx281_0);replace p281 := eq_true p281;replace q281 := eq_true q281;have p282 : 0 ≤ (x12_5 : Int) := of_decide_eq_true Zas;have q282 : x12_5 < (t240.length : Int) := of_decide_eq_true Zas;obtain ⟨ad282, A282_0, c282_0, e282, hx282_0, hl282_0, hi282_0⟩ := zc6 (Kd.zw HO_4.out).2.2 x12_5 p282 q282;obtain rfl : ad280 = ad282 := (by injection e282);obtain ⟨ce282, hce282, hMe282, hcc282⟩ := Kd.ze3 HO_4.out [] x12_5 p282 (by first | exact q282 | exact of_decide_eq_true Zas | (have e_ := (Kd.zw HO_4.out).1; omega));obtain ⟨ve282_0, rfl, ge282_0⟩ := hMe282;have hv282_0 := hcc282 0 _ rfl;rw [Nat.add_zero, show ((Kd.cut 3 (Kd.int .i64))).sz = 1 from rfl, Nat.mul_one] at hv282_0;replace hv282_0 := Option.some.inj (hv282_0.symm.trans hx282_0);rw [hv282_0] at ge282_0;have HL282_0 := za.mk (show Kd.Qc (Kd.int .i64) 3 _ _ _ _ (zh t240 x12_5) from ge282_0);clear hv282_0 ge282_0;clear hcc282 hce282;have HR282_0 := za.mk hi282_0;have HC282_0 := za.mk hl282_0;clear hi282_0 hl282_0;replace p282 := eq_true p282;replace q282 := eq_true q282;have ea_ := Option.some.inj (hx280_0.symm.trans hx282_0);injection ea_ with ea_ en_ ec_;subst ea_;subst ec_;clear en_;have p283 : 0 ≤ (0 : Int) := (by omega);have q283 : 0 < ((zh t240 x12_5).length : Int) := of_decide_eq_true Zas;obtain ⟨ad283, e283, hx283_0⟩ := Kd.zbq (by repeat (first | (with_reducible exact HR282_0.out) | (with_reducible refine Kd.zdj ?_ _) | (with_reducible refine Kd.zdc ?_ _) | (with_reducible refine Kd.zdk ?_) | exact HR282_0.out)) 0 p283 q283
                               cases e283
                               have qi283 : (0 < (zh t240 x12_5).length) = True := eq_true (by omega);(try rw [show ((0 : Int)).toNat = 0 from rfl] at hx283_0);(try rw [Addr.add_zero'] at hx283_0);replace p283 := eq_true p283;replace q283 := eq_true q283;have p284 : 0 ≤ ((rd (zh t240 x12_5) 0) : Int) := of_decide_eq_true Zas;have q284 : (rd (zh t240 x12_5) 0) < (t249.length : Int) := of_decide_eq_true Zas;obtain ⟨ad284, e284, hx284_0⟩ := Kd.zbq (Kd.zw HO_253001.out).2.2 (rd (zh t240 x12_5) 0) p284 q284
                               cases e284
                               replace p284 := eq_true p284;replace q284 := eq_true q284;refine zdl (n := 22) (S := fun w' => w'.cell? ⟨gb252, 0, none⟩ = some (.slice (some ad276) t246.length co12) ∧ w'.cell? ⟨gb252, 1, none⟩ = some (.slice (some ad284) t249.length co14) ∧ w'.cell? (ad280.add (x12_5).toNat) = some (.slice (some ad281) (zh t240 x12_5).length c280_0) ∧ w'.cell? ⟨ad281.block, ad281.off + 1, none⟩ = some (.int .i64 (rd (zh t240 x12_5) 1)) ∧ w'.cell? (ad280.add (x12_5).toNat) = some (.slice (some ad281) (zh t240 x12_5).length c280_0) ∧ w'.cell? ad281 = some (.int .i64 (rd (zh t240 x12_5) 0)) ∧ w'.cell? (ad284.add ((rd (zh t240 x12_5) 0)).toNat) = some (.int .i64 (rd t249 (rd (zh t240 x12_5) 0)))) (ds := []) #[false, false, false, false, false, false, false, false, false, false, false, false, false, false, false, false, false, false, false, false, false, false] (by kernel_rfl) rfl rfl ⟨(z8 BK252.out 0).trans rfl, (z8 BK252.out 1).trans rfl, hx280_0, hx281_0, hx282_0, hx283_0, hx284_0⟩ (fun hHeld => ?_); refine zb9 laws_FnRunGraph.tab23 laws_FnRunGraph.zh5 (fun HT_ HW_ => ?_);generalize wr.drew = w68 at HO_3 HO_4 HO_8 HO_253000 HO_253001 HO_260000 HO_260001 BK252 BK259 HR277_0 HR278_0 HB HL280_0 HL282_0 HR280_0 HR282_0 hx280_0 hx281_0 hx282_0 hx283_0 hx284_0 hHeld ⊢;refine zi (i := 0) (N := some 100) (v := ?_) (a' := ?_) #[true, false, false, false, false, false, false, false, false, false, false, false, false, false, false, false, false, false, false, false, false, false] rfl rfl (zb HT_.out (by kernel_rfl)) (fun _ _ _ h => h) (Or.inl ⟨by rfl, ?_⟩) ?_ ?_;rotate_left
                               ·intro w'
                                go_simp;with_reducible rfl
                               rotate_left
                               ·simp only [Act.put, Zs1, Zs2, Zs3, ze, zf]
                                rfl
                               refine zi (i := 1) (N := some 101) (v := ?_) (a' := ?_) #[true, true, false, false, false, false, false, false, false, false, false, false, false, false, false, false, false, false, false, false, false, false] rfl rfl (zb HT_.out (by kernel_rfl)) (fun _ _ _ h => h) (Or.inl ⟨by rfl, ?_⟩) ?_ ?_;rotate_left
                               ·intro w'
                                go_simp;with_reducible rfl
                               rotate_left
                               ·simp only [Act.put, Zs1, Zs2, Zs3, ze, zf]
                                rfl
                               refine zi (i := 2) (N := some 102) (v := ?_) (a' := ?_) #[true, true, true, false, false, false, false, false, false, false, false, false, false, false, false, false, false, false, false, false, false, false] rfl rfl (zb HT_.out (by kernel_rfl)) (fun _ _ _ h => h) (Or.inl ⟨by rfl, ?_⟩) ?_ ?_;rotate_left
                               ·intro w'
                                go_simp;with_reducible rfl
                               rotate_left
                               ·simp only [Act.put, Zs1, Zs2, Zs3, ze, zf]
                                rfl
                               refine zi (i := 6) (N := some 106) (v := ?_) (a' := ?_) #[true, true, true, false, false, false, true, false, false, false, false, false, false, false, false, false, false, false, false, false, false, false] rfl rfl (zb HT_.out (by kernel_rfl)) (fun _ _ _ h => h) (Or.inl ⟨by rfl, ?_⟩) ?_ ?_;rotate_left
                               ·intro w'
                                go_simp;with_reducible rfl
                               rotate_left
                               ·simp only [Act.put, Zs1, Zs2, Zs3, ze, zf]
                                rfl
                               refine zb3 (i := 3) (N := some 103) (v := ?_) (a' := ?_) #[true, true, true, true, false, false, true, false, false, false, false, false, false, false, false, false, false, false, false, false, false, false] rfl rfl (zbf HT_.out HW_.out (by kernel_rfl)) (fun _ _ _ h => h) (Or.inl ⟨by rfl, ?_⟩) hHeld ?_ ?_;rotate_left
                               ·rintro w' ⟨s0, s1, s2, s3, s4, s5, s6⟩
                                go_simp;with_reducible rfl
                               rotate_left
                               ·simp only [Act.put, Zs1, Zs2, Zs3, ze, zf]
                                rfl
                               refine zi (i := 4) (N := some 104) (v := ?_) (a' := ?_) #[true, true, true, true, true, false, true, false, false, false, false, false, false, false, false, false, false, false, false, false, false, false] rfl rfl (zb HT_.out (by kernel_rfl)) (fun _ _ _ h => h) (Or.inl ⟨by rfl, ?_⟩) ?_ ?_;rotate_left
                               ·intro w'
                                go_simp;with_reducible rfl
                               rotate_left
                               ·simp only [Act.put, Zs1, Zs2, Zs3, ze, zf]
                                rfl
                               refine zb3 (i := 5) (N := some 105) (v := ?_) (a' := ?_) #[true, true, true, true, true, true, true, false, false, false, false, false, false, false, false, false, false, false, false, false, false, false] rfl rfl (zbf HT_.out HW_.out (by kernel_rfl)) (fun _ _ _ h => h) (Or.inl ⟨by rfl, ?_⟩) hHeld ?_ ?_;rotate_left
                               ·rintro w' ⟨s0, s1, s2, s3, s4, s5, s6⟩
                                go_simp;with_reducible rfl
                               rotate_left
                               ·simp only [Act.put, Zs1, Zs2, Zs3, ze, zf]
                                rfl
                               refine zi (i := 7) (N := some 107) (v := ?_) (a' := ?_) #[true, true, true, true, true, true, true, true, false, false, false, false, false, false, false, false, false, false, false, false, false, false] rfl rfl (zb HT_.out (by kernel_rfl)) (fun _ _ _ h => h) (Or.inl ⟨by rfl, ?_⟩) ?_ ?_;rotate_left
                               ·intro w'
                                go_simp;with_reducible rfl
                               rotate_left
                               ·simp only [Act.put, Zs1, Zs2, Zs3, ze, zf]
                                rfl
                               refine zi (i := 8) (N := some 108) (v := ?_) (a' := ?_) #[true, true, true, true, true, true, true, true, true, false, false, false, false, false, false, false, false, false, false, false, false, false] rfl rfl (zb HT_.out (by kernel_rfl)) (fun _ _ _ h => h) (Or.inl ⟨by rfl, ?_⟩) ?_ ?_;rotate_left
                               ·intro w'
                                go_simp;with_reducible rfl
                               rotate_left
                               ·simp only [Act.put, Zs1, Zs2, Zs3, ze, zf]
                                rfl
                               refine zi (i := 9) (N := some 109) (v := ?_) (a' := ?_) #[true, true, true, true, true, true, true, true, true, true, false, false, false, false, false, false, false, false, false, false, false, false] rfl rfl (zb HT_.out (by kernel_rfl)) (fun _ _ _ h => h) (Or.inl ⟨by rfl, ?_⟩) ?_ ?_;rotate_left
                               ·intro w'
                                go_simp;with_reducible rfl
                               rotate_left
                               ·simp only [Act.put, Zs1, Zs2, Zs3, ze, zf]
                                rfl
                               refine zi (i := 11) (N := some 111) (v := ?_) (a' := ?_) #[true, true, true, true, true, true, true, true, true, true, false, true, false, false, false, false, false, false, false, false, false, false] rfl rfl (zb HT_.out (by kernel_rfl)) (fun _ _ _ h => h) (Or.inl ⟨by rfl, ?_⟩) ?_ ?_;rotate_left
                               ·intro w'
                                go_simp;with_reducible rfl
                               rotate_left
                               ·simp only [Act.put, Zs1, Zs2, Zs3, ze, zf]
                                rfl
                               refine zi (i := 12) (N := some 112) (v := ?_) (a' := ?_) #[true, true, true, true, true, true, true, true, true, true, false, true, true, false, false, false, false, false, false, false, false, false] rfl rfl (zb HT_.out (by kernel_rfl)) (fun _ _ _ h => h) (Or.inl ⟨by rfl, ?_⟩) ?_ ?_;rotate_left
                               ·intro w'
                                go_simp;with_reducible rfl
                               rotate_left
                               ·simp only [Act.put, Zs1, Zs2, Zs3, ze, zf]
                                rfl
                               refine zi (i := 13) (N := some 113) (v := ?_) (a' := ?_) #[true, true, true, true, true, true, true, true, true, true, false, true, true, true, false, false, false, false, false, false, false, false] rfl rfl (zb HT_.out (by kernel_rfl)) (fun _ _ _ h => h) (Or.inl ⟨by rfl, ?_⟩) ?_ ?_;rotate_left
                               ·intro w'
                                go_simp;with_reducible rfl
                               rotate_left
                               ·simp only [Act.put, Zs1, Zs2, Zs3, ze, zf]
                                rfl
                               refine zi (i := 19) (N := some 119) (v := ?_) (a' := ?_) #[true, true, true, true, true, true, true, true, true, true, false, true, true, true, false, false, false, false, false, true, false, false] rfl rfl (zb HT_.out (by kernel_rfl)) (fun _ _ _ h => h) (Or.inl ⟨by rfl, ?_⟩) ?_ ?_;rotate_left
                               ·intro w'
                                go_simp;with_reducible rfl
                               rotate_left
                               ·simp only [Act.put, Zs1, Zs2, Zs3, ze, zf]
                                rfl
                               refine zb3 (i := 10) (N := some 110) (v := ?_) (a' := ?_) #[true, true, true, true, true, true, true, true, true, true, true, true, true, true, false, false, false, false, false, true, false, false] rfl rfl (zbf HT_.out HW_.out (by kernel_rfl)) (fun _ _ _ h => h) (Or.inl ⟨by rfl, ?_⟩) hHeld ?_ ?_;rotate_left
                               ·rintro w' ⟨s0, s1, s2, s3, s4, s5, s6⟩
                                go_simp;with_reducible rfl
                               rotate_left
                               ·simp only [Act.put, Zs1, Zs2, Zs3, ze, zf]
                                rfl
                               refine zb3 (i := 14) (N := some 114) (v := ?_) (a' := ?_) #[true, true, true, true, true, true, true, true, true, true, true, true, true, true, true, false, false, false, false, true, false, false] rfl rfl (zbf HT_.out HW_.out (by kernel_rfl)) (fun _ _ _ h => h) (Or.inl ⟨by rfl, ?_⟩) hHeld ?_ ?_;rotate_left
                               ·rintro w' ⟨s0, s1, s2, s3, s4, s5, s6⟩
                                go_simp;with_reducible rfl
                               rotate_left
                               ·simp only [Act.put, Zs1, Zs2, Zs3, ze, zf]
                                rfl
                               refine zi (i := 15) (N := some 115) (v := ?_) (a' := ?_) #[true, true, true, true, true, true, true, true, true, true, true, true, true, true, true, true, false, false, false, true, false, false] rfl rfl (zb HT_.out (by kernel_rfl)) (fun _ _ _ h => h) (Or.inl ⟨by rfl, ?_⟩) ?_ ?_;rotate_left
                               ·intro w'
                                go_simp;with_reducible rfl
                               rotate_left
                               ·simp only [Act.put, Zs1, Zs2, Zs3, ze, zf]
                                rfl
                               refine zb3 (i := 16) (N := some 116) (v := ?_) (a' := ?_) #[true, true, true, true, true, true, true, true, true, true, true, true, true, true, true, true, true, false, false, true, false, false] rfl rfl (zbf HT_.out HW_.out (by kernel_rfl)) (fun _ _ _ h => h) (Or.inl ⟨by rfl, ?_⟩) hHeld ?_ ?_;rotate_left
                               ·rintro w' ⟨s0, s1, s2, s3, s4, s5, s6⟩
                                go_simp;with_reducible rfl
                               rotate_left
                               ·simp only [Act.put, Zs1, Zs2, Zs3, ze, zf]
                                rfl
                               refine zi (i := 17) (N := some 117) (v := ?_) (a' := ?_) #[true, true, true, true, true, true, true, true, true, true, true, true, true, true, true, true, true, true, false, true, false, false] rfl rfl (zb HT_.out (by kernel_rfl)) (fun _ _ _ h => h) (Or.inl ⟨by rfl, ?_⟩) ?_ ?_;rotate_left
                               ·intro w'
                                go_simp;with_reducible rfl
                               rotate_left
                               ·simp only [Act.put, Zs1, Zs2, Zs3, ze, zf]
                                rfl
                               refine zb3 (i := 18) (N := some 118) (v := ?_) (a' := ?_) #[true, true, true, true, true, true, true, true, true, true, true, true, true, true, true, true, true, true, true, true, false, false] rfl rfl (zbf HT_.out HW_.out (by kernel_rfl)) (fun _ _ _ h => h) (Or.inl ⟨by rfl, ?_⟩) hHeld ?_ ?_;rotate_left
                               ·rintro w' ⟨s0, s1, s2, s3, s4, s5, s6⟩
                                go_simp;with_reducible rfl
                               rotate_left
                               ·simp only [Act.put, Zs1, Zs2, Zs3, ze, zf]
                                rfl
                               refine zi (i := 20) (N := some 120) (v := ?_) (a' := ?_) #[true, true, true, true, true, true, true, true, true, true, true, true, true, true, true, true, true, true, true, true, true, false] rfl rfl (zb HT_.out (by kernel_rfl)) (fun _ _ _ h => h) (Or.inl ⟨by rfl, ?_⟩) ?_ ?_;rotate_left
                               ·intro w'
                                go_simp;with_reducible rfl
                               rotate_left
                               ·simp only [Act.put, Zs1, Zs2, Zs3, ze, zf]
                                rfl
                               refine zi (i := 21) (N := some 121) (v := ?_) (a' := ?_) #[true, true, true, true, true, true, true, true, true, true, true, true, true, true, true, true, true, true, true, true, true, true] rfl rfl (zb HT_.out (by kernel_rfl)) (fun _ _ _ h => h) (Or.inl ⟨by rfl, ?_⟩) ?_ ?_;rotate_left
                               ·intro w'
                                go_simp;with_reducible rfl
                               rotate_left
                               ·simp only [Act.put, Zs1, Zs2, Zs3, ze, zf]
                                rfl
                               refine zeg (zct HT_.out (by kernel_rfl)) ?_
                               try go_wp2
                               go_roundg k5
                               case measure => have := HJ5.out; have := HJ30.out; have := HK3.out; have := HK4.out; have := HK5.out; omega
                               case rel => exact ⟨(wrap64 (x12_5 + 1)), Zrs, H', ⟨by have := HJ5.out; have := HJ30.out; have := HK3.out; have := HK4.out; have := HK5.out; omega⟩, ⟨Zq14 HO_3⟩, ⟨Zq14 HO_4⟩, ⟨Zq14 HO_8⟩, ⟨Zq14 HO_253000⟩, ⟨Zq14 HO_253001⟩, ⟨Zq14 HO_260000⟩, ⟨Zq14 HO_260001⟩, ⟨Zq2 BK252⟩, ⟨Zq2 BK259⟩, ⟨by repeat (first | (with_reducible exact HR277_0.out) | (with_reducible refine Kd.zdj ?_ _) | (with_reducible refine Kd.zdc ?_ _) | (with_reducible refine Kd.zdk ?_) | exact HR277_0.out)⟩, ⟨by repeat (first | (with_reducible exact HR278_0.out) | (with_reducible refine Kd.zdj ?_ _) | (with_reducible refine Kd.zdc ?_ _) | (with_reducible refine Kd.zdk ?_) | exact HR278_0.out)⟩, ⟨Zq15 HB GE252 GE259⟩⟩
                             ·rw [if_neg c65] at H
                              exact absurd H (by simp)
                            ·rw [if_neg c64] at H
                             exact absurd H (by simp)
                           ·rw [if_neg c63] at H
                            exact absurd H (by simp)
                          ·rw [if_neg c62] at H
                           have c62b0 : ((rd (zh t240 x12_5) 1) == (rd (zh t246 x9_3) x10_4)) = false := beq_eq_false_iff_ne.mpr c62;have c62b1 : ((rd (zh t240 x12_5) 1) != (rd (zh t246 x9_3) x10_4)) = true := bne_iff_ne.mpr c62;have H' := za.mk H;clear H
                           try go_wp2
                           have n0_ := za.mk (Kd.zu HO_3.out);have n1_ := za.mk (Kd.zu HO_4.out);have n2_ := za.mk (Kd.zu HO_8.out);have n3_ := za.mk (Kd.zu HO_253000.out);have n4_ := za.mk (Kd.zu HO_253001.out);have n5_ := za.mk (Kd.zu HO_260000.out);have n6_ := za.mk (Kd.zu HO_260001.out);have n7_ := za.mk (zbv BK252.out);have n8_ := za.mk (zbv BK259.out);have n9_ := za.mk (Kd.zdk HR277_0.out);have n10_ := za.mk (Kd.zdk HR278_0.out);have n11_ := za.mk (zbr HB.out);clear HO_3;clear HO_4;clear HO_8;clear HO_253000;clear HO_253001;clear HO_260000;clear HO_260001;clear BK252;clear BK259;clear HR277_0;clear HR278_0;clear HB;have HO_3 := n0_;have HO_4 := n1_;have HO_8 := n2_;have HO_253000 := n3_;have HO_253001 := n4_;have HO_260000 := n5_;have HO_260001 := n6_;have BK252 := n7_;have BK259 := n8_;have HR277_0 := n9_;have HR278_0 := n10_;have HB := n11_;clear n0_ n1_ n2_ n3_ n4_ n5_ n6_ n7_ n8_ n9_ n10_ n11_;have p280 : 0 ≤ (x12_5 : Int) := of_decide_eq_true Zas;have q280 : x12_5 < (t240.length : Int) := of_decide_eq_true Zas;obtain ⟨ad280, A280_0, c280_0, e280, hx280_0, hl280_0, hi280_0⟩ := zc6 (Kd.zw HO_4.out).2.2 x12_5 p280 q280
                           cases e280
                           obtain ⟨ce280, hce280, hMe280, hcc280⟩ := Kd.ze3 HO_4.out [] x12_5 p280 (by first | exact q280 | exact of_decide_eq_true Zas | (have e_ := (Kd.zw HO_4.out).1; omega));obtain ⟨ve280_0, rfl, ge280_0⟩ := hMe280;have hv280_0 := hcc280 0 _ rfl;rw [Nat.add_zero, show ((Kd.cut 3 (Kd.int .i64))).sz = 1 from rfl, Nat.mul_one] at hv280_0;replace hv280_0 := Option.some.inj (hv280_0.symm.trans hx280_0);rw [hv280_0] at ge280_0;have HL280_0 := za.mk (show Kd.Qc (Kd.int .i64) 3 _ _ _ _ (zh t240 x12_5) from ge280_0);clear hv280_0 ge280_0;clear hcc280 hce280;have HR280_0 := za.mk hi280_0;have HC280_0 := za.mk hl280_0;clear hi280_0 hl280_0;replace p280 := eq_true p280;replace q280 := eq_true q280;have p281 : 0 ≤ (1 : Int) := (by omega);have q281 : 1 < ((zh t240 x12_5).length : Int) := of_decide_eq_true Zas;obtain ⟨ad281, e281, hx281_0⟩ := Kd.zbq (by repeat (first | (with_reducible exact HR280_0.out) | (with_reducible refine Kd.zdj ?_ _) | (with_reducible refine Kd.zdc ?_ _) | (with_reducible refine Kd.zdk ?_) | exact HR280_0.out)) 1 p281 q281
                           cases e281
                           (try simp only [show (1 : Int).toNat = 1 from rfl, Nat.reduceMul, Nat.reduceEqDiff, Go.Addr.add, ↓reduceIte] at hx281_0);have qi281 : (1 < (zh t240 x12_5).length) = True := eq_true (by omega);(try rw [show ((1 : Int)).toNat = 1 from rfl] at hx281_0);replace p281 := eq_true p281;replace q281 := eq_true q281;refine zdl (n := 22) (S := fun w' => w'.cell? (ad280.add (x12_5).toNat) = some (.slice (some ad281) (zh t240 x12_5).length c280_0) ∧ w'.cell? ⟨ad281.block, ad281.off + 1, none⟩ = some (.int .i64 (rd (zh t240 x12_5) 1))) (ds := []) #[false, false, false, false, false, false, false, false, false, false, false, false, false, false, false, false, false, false, false, false, false, false] (by kernel_rfl) rfl rfl ⟨hx280_0, hx281_0⟩ (fun hHeld => ?_); refine zb9 laws_FnRunGraph.tab23 laws_FnRunGraph.zh5 (fun HT_ HW_ => ?_);generalize wr.drew = w69 at HO_3 HO_4 HO_8 HO_253000 HO_253001 HO_260000 HO_260001 BK252 BK259 HR277_0 HR278_0 HB HL280_0 HR280_0 hx280_0 hx281_0 hHeld ⊢;refine zi (i := 0) (N := some 100) (v := ?_) (a' := ?_) #[true, false, false, false, false, false, false, false, false, false, false, false, false, false, false, false, false, false, false, false, false, false] rfl rfl (zb HT_.out (by kernel_rfl)) (fun _ _ _ h => h) (Or.inl ⟨by rfl, ?_⟩) ?_ ?_;rotate_left
                           ·intro w'
                            go_simp;with_reducible rfl
                           rotate_left
                           ·simp only [Act.put, Zs1, Zs2, Zs3, ze, zf]
                            rfl
                           refine zi (i := 1) (N := some 101) (v := ?_) (a' := ?_) #[true, true, false, false, false, false, false, false, false, false, false, false, false, false, false, false, false, false, false, false, false, false] rfl rfl (zb HT_.out (by kernel_rfl)) (fun _ _ _ h => h) (Or.inl ⟨by rfl, ?_⟩) ?_ ?_;rotate_left
                           ·intro w'
                            go_simp;with_reducible rfl
                           rotate_left
                           ·simp only [Act.put, Zs1, Zs2, Zs3, ze, zf]
                            rfl
                           refine zi (i := 2) (N := some 102) (v := ?_) (a' := ?_) #[true, true, true, false, false, false, false, false, false, false, false, false, false, false, false, false, false, false, false, false, false, false] rfl rfl (zb HT_.out (by kernel_rfl)) (fun _ _ _ h => h) (Or.inl ⟨by rfl, ?_⟩) ?_ ?_;rotate_left
                           ·intro w'
                            go_simp;with_reducible rfl
                           rotate_left
                           ·simp only [Act.put, Zs1, Zs2, Zs3, ze, zf]
                            rfl
                           refine zi (i := 6) (N := some 106) (v := ?_) (a' := ?_) #[true, true, true, false, false, false, true, false, false, false, false, false, false, false, false, false, false, false, false, false, false, false] rfl rfl (zb HT_.out (by kernel_rfl)) (fun _ _ _ h => h) (Or.inl ⟨by rfl, ?_⟩) ?_ ?_;rotate_left
                           ·intro w'
                            go_simp;with_reducible rfl
                           rotate_left
                           ·simp only [Act.put, Zs1, Zs2, Zs3, ze, zf]
                            rfl
                           refine zb3 (i := 3) (N := some 103) (v := ?_) (a' := ?_) #[true, true, true, true, false, false, true, false, false, false, false, false, false, false, false, false, false, false, false, false, false, false] rfl rfl (zbf HT_.out HW_.out (by kernel_rfl)) (fun _ _ _ h => h) (Or.inl ⟨by rfl, ?_⟩) hHeld ?_ ?_;rotate_left
                           ·rintro w' ⟨s0, s1⟩
                            go_simp;with_reducible rfl
                           rotate_left
                           ·simp only [Act.put, Zs1, Zs2, Zs3, ze, zf]
                            rfl
                           refine zi (i := 4) (N := some 104) (v := ?_) (a' := ?_) #[true, true, true, true, true, false, true, false, false, false, false, false, false, false, false, false, false, false, false, false, false, false] rfl rfl (zb HT_.out (by kernel_rfl)) (fun _ _ _ h => h) (Or.inl ⟨by rfl, ?_⟩) ?_ ?_;rotate_left
                           ·intro w'
                            go_simp;with_reducible rfl
                           rotate_left
                           ·simp only [Act.put, Zs1, Zs2, Zs3, ze, zf]
                            rfl
                           refine zb3 (i := 5) (N := some 105) (v := ?_) (a' := ?_) #[true, true, true, true, true, true, true, false, false, false, false, false, false, false, false, false, false, false, false, false, false, false] rfl rfl (zbf HT_.out HW_.out (by kernel_rfl)) (fun _ _ _ h => h) (Or.inl ⟨by rfl, ?_⟩) hHeld ?_ ?_;rotate_left
                           ·rintro w' ⟨s0, s1⟩
                            go_simp;with_reducible rfl
                           rotate_left
                           ·simp only [Act.put, Zs1, Zs2, Zs3, ze, zf]
                            rfl
                           refine zi (i := 7) (N := some 107) (v := ?_) (a' := ?_) #[true, true, true, true, true, true, true, true, false, false, false, false, false, false, false, false, false, false, false, false, false, false] rfl rfl (zb HT_.out (by kernel_rfl)) (fun _ _ _ h => h) (Or.inl ⟨by rfl, ?_⟩) ?_ ?_;rotate_left
                           ·intro w'
                            go_simp;with_reducible rfl
                           rotate_left
                           ·simp only [Act.put, Zs1, Zs2, Zs3, ze, zf]
                            rfl
                           refine zi (i := 8) (N := some 108) (v := ?_) (a' := ?_) #[true, true, true, true, true, true, true, true, true, false, false, false, false, false, false, false, false, false, false, false, false, false] rfl rfl (zb HT_.out (by kernel_rfl)) (fun _ _ _ h => h) (Or.inl ⟨by rfl, ?_⟩) ?_ ?_;rotate_left
                           ·intro w'
                            go_simp;with_reducible rfl
                           rotate_left
                           ·simp only [Act.put, Zs1, Zs2, Zs3, ze, zf]
                            rfl
                           refine zi (i := 9) (N := some 109) (v := undef) (a' := ?_) #[true, true, true, true, true, true, true, true, true, true, false, false, false, false, false, false, false, false, false, false, false, false] rfl rfl (zb HT_.out (by kernel_rfl)) (fun _ _ _ h => h) (Or.inr ⟨by rfl, rfl⟩) ?_ ?_;rotate_left
                           ·simp only [Act.put, Zs1, Zs2, Zs3, ze, zf]
                            rfl
                           refine zi (i := 10) (N := some 110) (v := undef) (a' := ?_) #[true, true, true, true, true, true, true, true, true, true, true, false, false, false, false, false, false, false, false, false, false, false] rfl rfl (zb HT_.out (by kernel_rfl)) (fun _ _ _ h => h) (Or.inr ⟨by rfl, rfl⟩) ?_ ?_;rotate_left
                           ·simp only [Act.put, Zs1, Zs2, Zs3, ze, zf]
                            rfl
                           refine zi (i := 11) (N := some 111) (v := undef) (a' := ?_) #[true, true, true, true, true, true, true, true, true, true, true, true, false, false, false, false, false, false, false, false, false, false] rfl rfl (zb HT_.out (by kernel_rfl)) (fun _ _ _ h => h) (Or.inr ⟨by rfl, rfl⟩) ?_ ?_;rotate_left
                           ·simp only [Act.put, Zs1, Zs2, Zs3, ze, zf]
                            rfl
                           refine zi (i := 12) (N := some 112) (v := undef) (a' := ?_) #[true, true, true, true, true, true, true, true, true, true, true, true, true, false, false, false, false, false, false, false, false, false] rfl rfl (zb HT_.out (by kernel_rfl)) (fun _ _ _ h => h) (Or.inr ⟨by rfl, rfl⟩) ?_ ?_;rotate_left
                           ·simp only [Act.put, Zs1, Zs2, Zs3, ze, zf]
                            rfl
                           refine zi (i := 13) (N := some 113) (v := undef) (a' := ?_) #[true, true, true, true, true, true, true, true, true, true, true, true, true, true, false, false, false, false, false, false, false, false] rfl rfl (zb HT_.out (by kernel_rfl)) (fun _ _ _ h => h) (Or.inr ⟨by rfl, rfl⟩) ?_ ?_;rotate_left
                           ·simp only [Act.put, Zs1, Zs2, Zs3, ze, zf]
                            rfl
                           refine zi (i := 14) (N := some 114) (v := undef) (a' := ?_) #[true, true, true, true, true, true, true, true, true, true, true, true, true, true, true, false, false, false, false, false, false, false] rfl rfl (zb HT_.out (by kernel_rfl)) (fun _ _ _ h => h) (Or.inr ⟨by rfl, rfl⟩) ?_ ?_;rotate_left
                           ·simp only [Act.put, Zs1, Zs2, Zs3, ze, zf]
                            rfl
                           refine zi (i := 15) (N := some 115) (v := undef) (a' := ?_) #[true, true, true, true, true, true, true, true, true, true, true, true, true, true, true, true, false, false, false, false, false, false] rfl rfl (zb HT_.out (by kernel_rfl)) (fun _ _ _ h => h) (Or.inr ⟨by rfl, rfl⟩) ?_ ?_;rotate_left
                           ·simp only [Act.put, Zs1, Zs2, Zs3, ze, zf]
                            rfl
                           refine zi (i := 16) (N := some 116) (v := undef) (a' := ?_) #[true, true, true, true, true, true, true, true, true, true, true, true, true, true, true, true, true, false, false, false, false, false] rfl rfl (zb HT_.out (by kernel_rfl)) (fun _ _ _ h => h) (Or.inr ⟨by rfl, rfl⟩) ?_ ?_;rotate_left
                           ·simp only [Act.put, Zs1, Zs2, Zs3, ze, zf]
                            rfl
                           refine zi (i := 17) (N := some 117) (v := undef) (a' := ?_) #[true, true, true, true, true, true, true, true, true, true, true, true, true, true, true, true, true, true, false, false, false, false] rfl rfl (zb HT_.out (by kernel_rfl)) (fun _ _ _ h => h) (Or.inr ⟨by rfl, rfl⟩) ?_ ?_;rotate_left
                           ·simp only [Act.put, Zs1, Zs2, Zs3, ze, zf]
                            rfl
                           refine zi (i := 18) (N := some 118) (v := undef) (a' := ?_) #[true, true, true, true, true, true, true, true, true, true, true, true, true, true, true, true, true, true, true, false, false, false] rfl rfl (zb HT_.out (by kernel_rfl)) (fun _ _ _ h => h) (Or.inr ⟨by rfl, rfl⟩) ?_ ?_;rotate_left
                           ·simp only [Act.put, Zs1, Zs2, Zs3, ze, zf]
                            rfl
                           refine zi (i := 19) (N := some 119) (v := undef) (a' := ?_) #[true, true, true, true, true, true, true, true, true, true, true, true, true, true, true, true, true, true, true, true, false, false] rfl rfl (zb HT_.out (by kernel_rfl)) (fun _ _ _ h => h) (Or.inr ⟨by rfl, rfl⟩) ?_ ?_;rotate_left
                           ·simp only [Act.put, Zs1, Zs2, Zs3, ze, zf]
                            rfl
                           refine zi (i := 20) (N := some 120) (v := undef) (a' := ?_) #[true, true, true, true, true, true, true, true, true, true, true, true, true, true, true, true, true, true, true, true, true, false] rfl rfl (zb HT_.out (by kernel_rfl)) (fun _ _ _ h => h) (Or.inr ⟨by rfl, rfl⟩) ?_ ?_;rotate_left
                           ·simp only [Act.put, Zs1, Zs2, Zs3, ze, zf]
                            rfl
                           refine zi (i := 21) (N := some 121) (v := ?_) (a' := ?_) #[true, true, true, true, true, true, true, true, true, true, true, true, true, true, true, true, true, true, true, true, true, true] rfl rfl (zb HT_.out (by kernel_rfl)) (fun _ _ _ h => h) (Or.inl ⟨by rfl, ?_⟩) ?_ ?_;rotate_left
                           ·intro w'
                            go_simp;with_reducible rfl
                           rotate_left
                           ·simp only [Act.put, Zs1, Zs2, Zs3, ze, zf]
                            rfl
                           refine zeg (zct HT_.out (by kernel_rfl)) ?_
                           try go_wp2
                           go_roundg k5
                           case measure => have := HJ5.out; have := HJ30.out; have := HK3.out; have := HK4.out; have := HK5.out; omega
                           case rel => exact ⟨(wrap64 (x12_5 + 1)), Zrs, H', ⟨by have := HJ5.out; have := HJ30.out; have := HK3.out; have := HK4.out; have := HK5.out; omega⟩, ⟨Zq14 HO_3⟩, ⟨Zq14 HO_4⟩, ⟨Zq14 HO_8⟩, ⟨Zq14 HO_253000⟩, ⟨Zq14 HO_253001⟩, ⟨Zq14 HO_260000⟩, ⟨Zq14 HO_260001⟩, ⟨Zq2 BK252⟩, ⟨Zq2 BK259⟩, ⟨by repeat (first | (with_reducible exact HR277_0.out) | (with_reducible refine Kd.zdj ?_ _) | (with_reducible refine Kd.zdc ?_ _) | (with_reducible refine Kd.zdk ?_) | exact HR277_0.out)⟩, ⟨by repeat (first | (with_reducible exact HR278_0.out) | (with_reducible refine Kd.zdj ?_ _) | (with_reducible refine Kd.zdc ?_ _) | (with_reducible refine Kd.zdk ?_) | exact HR278_0.out)⟩, ⟨Zq15 HB GE252 GE259⟩⟩
                         ·rw [if_neg c61] at H
                          exact absurd H (by simp)
                        ·rw [if_neg c60] at H
                         exact absurd H (by simp)
                       ·rw [if_neg c59] at H
                        have c59b0 : decide (x12_5 < (t240.length : Int)) = false := decide_eq_false c59;clear c59;by_cases c70 : 0 ≤ (rd (zh t246 x9_3) x10_4)
                        ·rw [if_pos c70] at H
                         have c70b0 : decide (0 ≤ (rd (zh t246 x9_3) x10_4)) = true := decide_eq_true c70;clear c70;by_cases c71 : (rd (zh t246 x9_3) x10_4) < (x8_4.length : Int)
                         ·rw [if_pos c71] at H
                          have c71b0 : decide ((rd (zh t246 x9_3) x10_4) < (x8_4.length : Int)) = true := decide_eq_true c71;clear c71;obtain ⟨y286, hy286⟩ : ∃ y_ : List Int, y_ = (x8_4.set ((rd (zh t246 x9_3) x10_4) : Int).toNat (wrap64 ((rd x8_4 (rd (zh t246 x9_3) x10_4)) + 1))) := ⟨_, rfl⟩;replace H : (if (rd (zh t246 x9_3) x10_4) < (t239.length : Int) then (if (rd y286 (rd (zh t246 x9_3) x10_4)) = (rd t239 (rd (zh t246 x9_3) x10_4)) then (if (rd (zh t246 x9_3) x10_4) < (t249.length : Int) then (if (rd t249 (rd (zh t246 x9_3) x10_4)) = (wrap64 (x9_3 + 1)) then (if (rd y286 (rd (zh t246 x9_3) x10_4)) > (rd t239 (rd (zh t246 x9_3) x10_4)) then (some false) else (laws_FnRunGraph.l1 k5 t239 t240 t241 y286 x9_3 (wrap64 (x10_4 + 1)) t246 t249)) else (some false)) else (none)) else (if (rd y286 (rd (zh t246 x9_3) x10_4)) > (rd t239 (rd (zh t246 x9_3) x10_4)) then (some false) else (laws_FnRunGraph.l1 k5 t239 t240 t241 y286 x9_3 (wrap64 (x10_4 + 1)) t246 t249))) else (none)) = some r := by first | (rw [hy286]; with_reducible exact H) | (have H2_ := (Option.bind_some _ _).symm.trans H; rw [hy286]; with_reducible exact H2_) | (have H2_ := (Option.bind_some _ _).symm.trans H; with_reducible exact H2_) | with_reducible exact H | (rw [hy286]; exact H) | exact H
                          have Ny286 := za.mk hy286;clear hy286;by_cases c73 : (rd (zh t246 x9_3) x10_4) < (t239.length : Int)
                          ·rw [if_pos c73] at H
                           have c73b0 : decide ((rd (zh t246 x9_3) x10_4) < (t239.length : Int)) = true := decide_eq_true c73;clear c73;by_cases c74 : (rd y286 (rd (zh t246 x9_3) x10_4)) = (rd t239 (rd (zh t246 x9_3) x10_4))
                           ·rw [if_pos c74] at H
                            have c74b0 : ((rd y286 (rd (zh t246 x9_3) x10_4)) == (rd t239 (rd (zh t246 x9_3) x10_4))) = true := beq_iff_eq.mpr c74;have c74b1 : ((rd y286 (rd (zh t246 x9_3) x10_4)) != (rd t239 (rd (zh t246 x9_3) x10_4))) = false := bne_eq_false_iff_eq.mpr c74;clear c74;by_cases c75 : (rd (zh t246 x9_3) x10_4) < (t249.length : Int)
                            ·rw [if_pos c75] at H
                             have c75b0 : decide ((rd (zh t246 x9_3) x10_4) < (t249.length : Int)) = true := decide_eq_true c75;clear c75;by_cases c76 : (rd t249 (rd (zh t246 x9_3) x10_4)) = (wrap64 (x9_3 + 1))
                             ·rw [if_pos c76] at H
                              have c76b0 : ((rd t249 (rd (zh t246 x9_3) x10_4)) == (wrap64 (x9_3 + 1))) = true := beq_iff_eq.mpr c76;have c76b1 : ((rd t249 (rd (zh t246 x9_3) x10_4)) != (wrap64 (x9_3 + 1))) = false := bne_eq_false_iff_eq.mpr c76;clear c76;by_cases c77 : (rd y286 (rd (zh t246 x9_3) x10_4)) > (rd t239 (rd (zh t246 x9_3) x10_4))
                              ·rw [if_pos c77] at H
                               exact Bool.noConfusion ((Option.some.inj H).trans HRT.out)
                              ·rw [if_neg c77] at H
                               have c77b0 : decide ((rd t239 (rd (zh t246 x9_3) x10_4)) < (rd y286 (rd (zh t246 x9_3) x10_4))) = false := decide_eq_false c77;clear c77;have H' := za.mk H;clear H;obtain ⟨Ao82, co82, eo82⟩ := Kd.zde HO_8.out;subst eo82;have p285 : 0 ≤ ((rd (zh t246 x9_3) x10_4) : Int) := of_decide_eq_true Zas;have q285 : (rd (zh t246 x9_3) x10_4) < (x8_4.length : Int) := of_decide_eq_true Zas;obtain ⟨ad285, e285, hx285_0⟩ := Kd.zbq (Kd.zw HO_8.out).2.2 (rd (zh t246 x9_3) x10_4) p285 q285
                               cases e285
                               replace p285 := eq_true p285;replace q285 := eq_true q285;have p72 : 0 ≤ ((rd (zh t246 x9_3) x10_4) : Int) := of_decide_eq_true Zas;have q72 : ((rd (zh t246 x9_3) x10_4) : Int) < ((x8_4.length : Int) : Int) := of_decide_eq_true Zas;obtain ⟨go72, co72, eo72, gb72, gl72, cl72, HG72⟩ := Kd.Qc_form HO_8.out (by omega);(first | cases eo72 | (injection eo72 with ea_ en_ ec_; (first | subst ea_ | (injection ea_ with ea_; subst ea_)); subst ec_; clear en_));have GB72 := za.mk gb72;have GG72 := za.mk HG72;clear gb72 gl72 HG72;(first | simp only [add_plain] at hx285_0 | skip);obtain ⟨hx72_0, hf72_0⟩ := Kd.Qc_celln 0 HO_8.out ((rd (zh t246 x9_3) x10_4) : Int) p72 q72;replace p72 := eq_true p72;replace q72 := eq_true q72;have HP83 := Kd.zil HO_8.out ((rd (zh t246 x9_3) x10_4) : Int) (wrap64 ((rd x8_4 (rd (zh t246 x9_3) x10_4)) + 1))
                               try go_wp2_with (first | ((with_reducible refine zgt (t := 3) (p := 129) rfl ?_); refine zf6 (t := 3) (p := 129) (v := ?vo_w84) (w1 := (wr.setCell ⟨go72, ((rd (zh t246 x9_3) x10_4) : Int).toNat, none⟩ (.int .i64 (wrap64 ((rd x8_4 (rd (zh t246 x9_3) x10_4)) + 1))))) ?hg ?ho ?hn ?hr ?_; (case ho => rfl); (case hg => rfl); (case hn => rfl); (case hr => first | (go_simp; done) | (go_simp; rfl)); intro w84 hw; have hg : wr.grownBy w84 (some go72) := (by rw [hw]; exact HP83.2); have hp_ : Kd.Qc (Kd.int .i64) 3 w84 w.heap.size (fun k_ => some k_ ≠ (.slice Ao8 t239.length co8 : Value).ownBlock ∧ some k_ ≠ (.slice Ao14 t249.length co14 : Value).ownBlock ∧ some k_ ≠ (.slice Ao20 t256.length co20 : Value).ownBlock) (.slice (some ⟨go72, 0, none⟩) x8_4.length co82) y286 := (by rw [hw, Ny286.out]; exact HP83.1); clear HP83; have n0_ := za.mk (Kd.zdf (v := (.slice (some ⟨go72, 0, none⟩) x8_4.length co82)) (v1 := (.slice (some ⟨go72, 0, none⟩) x8_4.length co82)) (ok := (fun k_ => some k_ ≠ (.slice Ao14 t249.length co14 : Value).ownBlock ∧ some k_ ≠ (.slice Ao20 t256.length co20 : Value).ownBlock)) (by (with_reducible repeat (first | apply Kd.zbb | apply Kd.zba | apply Kd.zu)); exact Kd.zbh HO_3.out (fun _ hk => ⟨⟨hk.2.1, hk.2.2⟩, hk.1⟩)) hg (.inl rfl)); have n1_ := za.mk (Kd.zdf (v := (.slice (some ⟨go72, 0, none⟩) x8_4.length co82)) (v1 := (.slice (some ⟨go72, 0, none⟩) x8_4.length co82)) (ok := (fun k_ => some k_ ≠ (.slice Ao8 t239.length co8 : Value).ownBlock ∧ some k_ ≠ (.slice (some ad276) t246.length co12 : Value).ownBlock ∧ some k_ ≠ (.slice Ao14 t249.length co14 : Value).ownBlock ∧ some k_ ≠ (.slice Ao17 t253.length co17 : Value).ownBlock ∧ some k_ ≠ (.slice Ao20 t256.length co20 : Value).ownBlock)) (by (with_reducible repeat (first | apply Kd.zbb | apply Kd.zba | apply Kd.zu)); exact Kd.zbh HO_4.out (fun _ hk => ⟨⟨hk.1, ⟨hk.2.2.1, ⟨hk.2.2.2.1, ⟨hk.2.2.2.2.1, hk.2.2.2.2.2⟩⟩⟩⟩, hk.2.1⟩)) hg (.inl rfl)); have n2_ := za.mk (hp_); have n3_ := za.mk (Kd.zdf (v := (.slice (some ⟨go72, 0, none⟩) x8_4.length co82)) (v1 := (.slice (some ⟨go72, 0, none⟩) x8_4.length co82)) (ok := (fun k_ => some k_ ≠ (.slice Ao8 t239.length co8 : Value).ownBlock ∧ some k_ ≠ (.slice Ao9 t240.length co9 : Value).ownBlock ∧ some k_ ≠ (.slice Ao14 t249.length co14 : Value).ownBlock ∧ some k_ ≠ (.slice Ao17 t253.length co17 : Value).ownBlock ∧ some k_ ≠ (.slice Ao20 t256.length co20 : Value).ownBlock)) (by (with_reducible repeat (first | apply Kd.zbb | apply Kd.zba | apply Kd.zu)); exact Kd.zbh HO_253000.out (fun _ hk => ⟨⟨hk.1, ⟨hk.2.1, ⟨hk.2.2.2.1, ⟨hk.2.2.2.2.1, hk.2.2.2.2.2⟩⟩⟩⟩, hk.2.2.1⟩)) hg (.inl rfl)); have n4_ := za.mk (Kd.zdf (v := (.slice (some ⟨go72, 0, none⟩) x8_4.length co82)) (v1 := (.slice (some ⟨go72, 0, none⟩) x8_4.length co82)) (ok := (fun k_ => some k_ ≠ (.slice Ao8 t239.length co8 : Value).ownBlock ∧ some k_ ≠ (.slice Ao20 t256.length co20 : Value).ownBlock)) (by (with_reducible repeat (first | apply Kd.zbb | apply Kd.zba | apply Kd.zu)); exact Kd.zbh HO_253001.out (fun _ hk => ⟨⟨hk.1, hk.2.2⟩, hk.2.1⟩)) hg (.inl rfl)); have n5_ := za.mk (Kd.zdf (v := (.slice (some ⟨go72, 0, none⟩) x8_4.length co82)) (v1 := (.slice (some ⟨go72, 0, none⟩) x8_4.length co82)) (ok := (fun k_ => some k_ ≠ (.slice Ao8 t239.length co8 : Value).ownBlock ∧ some k_ ≠ (.slice Ao9 t240.length co9 : Value).ownBlock ∧ some k_ ≠ (.slice (some ad276) t246.length co12 : Value).ownBlock ∧ some k_ ≠ (.slice Ao14 t249.length co14 : Value).ownBlock ∧ some k_ ≠ (.slice Ao20 t256.length co20 : Value).ownBlock)) (by (with_reducible repeat (first | apply Kd.zbb | apply Kd.zba | apply Kd.zu)); exact Kd.zbh HO_260000.out (fun _ hk => ⟨⟨hk.1, ⟨hk.2.1, ⟨hk.2.2.2.1, ⟨hk.2.2.2.2.1, hk.2.2.2.2.2⟩⟩⟩⟩, hk.2.2.1⟩)) hg (.inl rfl)); have n6_ := za.mk (Kd.zdf (v := (.slice (some ⟨go72, 0, none⟩) x8_4.length co82)) (v1 := (.slice (some ⟨go72, 0, none⟩) x8_4.length co82)) (ok := (fun k_ => some k_ ≠ (.slice Ao8 t239.length co8 : Value).ownBlock ∧ some k_ ≠ (.slice Ao14 t249.length co14 : Value).ownBlock)) (by (with_reducible repeat (first | apply Kd.zbb | apply Kd.zba | apply Kd.zu)); exact Kd.zbh HO_260001.out (fun _ hk => ⟨⟨hk.1, hk.2.2⟩, hk.2.1⟩)) hg (.inl rfl)); have n7_ := za.mk (zes (g := gb252) (o := .cells #[.slice (some ad276) t246.length co12, .slice Ao14 t249.length co14] 28 (0, 0)) (Zq2 BK252) hg (Kd.Qc_ne HO_8.out BK252.out (by decide))); have n8_ := za.mk (zes (g := gb259) (o := .cells #[.slice Ao17 t253.length co17, .slice Ao20 t256.length co20] 28 (0, 0)) (Zq2 BK259) hg (Kd.Qc_ne HO_8.out BK259.out (by decide))); have n9_ := za.mk ((by rw [hw]; exact zdn (HB.out) GB72.out : Below w.heap.size w w84)); clear HO_3; clear HO_4; clear HO_8; clear HO_253000; clear HO_253001; clear HO_260000; clear HO_260001; clear BK252; clear BK259; clear HB; have HO_3 := n0_; have HO_4 := n1_; have HO_8 := n2_; have HO_253000 := n3_; have HO_253001 := n4_; have HO_260000 := n5_; have HO_260001 := n6_; have BK252 := n7_; have BK259 := n8_; have HB := n9_; clear n0_ n1_ n2_ n3_ n4_ n5_ n6_ n7_ n8_ n9_; clear hg hw hp_))
                               have n0_ := za.mk (Kd.zu HO_3.out);have n1_ := za.mk (Kd.zu HO_4.out);have n2_ := za.mk (Kd.zu HO_8.out);have n3_ := za.mk (Kd.zu HO_253000.out);have n4_ := za.mk (Kd.zu HO_253001.out);have n5_ := za.mk (Kd.zu HO_260000.out);have n6_ := za.mk (Kd.zu HO_260001.out);have n7_ := za.mk (zbv BK252.out);have n8_ := za.mk (zbv BK259.out);have n9_ := za.mk (zbr HB.out);clear HO_3;clear HO_4;clear HO_8;clear HO_253000;clear HO_253001;clear HO_260000;clear HO_260001;clear BK252;clear BK259;clear HB;have HO_3 := n0_;have HO_4 := n1_;have HO_8 := n2_;have HO_253000 := n3_;have HO_253001 := n4_;have HO_260000 := n5_;have HO_260001 := n6_;have BK252 := n7_;have BK259 := n8_;have HB := n9_;clear n0_ n1_ n2_ n3_ n4_ n5_ n6_ n7_ n8_ n9_;have p287 : 0 ≤ ((rd (zh t246 x9_3) x10_4) : Int) := of_decide_eq_true Zas;have q287 : (rd (zh t246 x9_3) x10_4) < (y286.length : Int) := (by have h_ : ((rd (zh t246 x9_3) x10_4) : Int) < ((x8_4.length : Int) : Int) := of_decide_eq_true Zas; first | (have e_ := (Kd.zw HO_8.out).1; omega) | simpa only [Ny286.out, List.length_set] using h_);have ql287 : (((rd (zh t246 x9_3) x10_4) : Int) < ((x8_4.length : Int) : Int)) = True := eq_true (of_decide_eq_true Zas);obtain ⟨ad287, e287, hx287_0⟩ := Kd.zbq (Kd.zw HO_8.out).2.2 (rd (zh t246 x9_3) x10_4) p287 q287;obtain rfl : (⟨go72, 0, none⟩ : Addr) = ad287 := (by injection e287);(first | simp only [add_plain] at hx287_0 | simp only [zhs] at hx287_0 | simp only [Addr.add, Nat.zero_add] at hx287_0 | skip);replace p287 := eq_true p287;replace q287 := eq_true q287;have p288 : 0 ≤ ((rd (zh t246 x9_3) x10_4) : Int) := of_decide_eq_true Zas;have q288 : (rd (zh t246 x9_3) x10_4) < (t239.length : Int) := of_decide_eq_true Zas;obtain ⟨ad288, e288, hx288_0⟩ := Kd.zbq (Kd.zw HO_3.out).2.2 (rd (zh t246 x9_3) x10_4) p288 q288
                               cases e288
                               replace p288 := eq_true p288;replace q288 := eq_true q288;have p289 : 0 ≤ ((rd (zh t246 x9_3) x10_4) : Int) := of_decide_eq_true Zas;have q289 : (rd (zh t246 x9_3) x10_4) < (t249.length : Int) := of_decide_eq_true Zas;obtain ⟨ad289, e289, hx289_0⟩ := Kd.zbq (Kd.zw HO_253001.out).2.2 (rd (zh t246 x9_3) x10_4) p289 q289
                               cases e289
                               replace p289 := eq_true p289;replace q289 := eq_true q289;have p290 : 0 ≤ ((rd (zh t246 x9_3) x10_4) : Int) := of_decide_eq_true Zas;have q290 : (rd (zh t246 x9_3) x10_4) < (y286.length : Int) := (by have h_ : ((rd (zh t246 x9_3) x10_4) : Int) < ((x8_4.length : Int) : Int) := of_decide_eq_true Zas; first | (have e_ := (Kd.zw HO_8.out).1; omega) | simpa only [Ny286.out, List.length_set] using h_);have ql290 : (((rd (zh t246 x9_3) x10_4) : Int) < ((x8_4.length : Int) : Int)) = True := eq_true (of_decide_eq_true Zas);obtain ⟨ad290, e290, hx290_0⟩ := Kd.zbq (Kd.zw HO_8.out).2.2 (rd (zh t246 x9_3) x10_4) p290 q290;obtain rfl : (⟨go72, 0, none⟩ : Addr) = ad290 := (by injection e290);(first | simp only [add_plain] at hx290_0 | simp only [zhs] at hx290_0 | simp only [Addr.add, Nat.zero_add] at hx290_0 | skip);replace p290 := eq_true p290;replace q290 := eq_true q290;have p291 : 0 ≤ ((rd (zh t246 x9_3) x10_4) : Int) := of_decide_eq_true Zas;have q291 : (rd (zh t246 x9_3) x10_4) < (t239.length : Int) := of_decide_eq_true Zas;obtain ⟨ad291, e291, hx291_0⟩ := Kd.zbq (Kd.zw HO_3.out).2.2 (rd (zh t246 x9_3) x10_4) p291 q291;obtain rfl : ad288 = ad291 := (by injection e291);replace p291 := eq_true p291;replace q291 := eq_true q291;refine zdl (n := 30) (S := fun w' => w'.cell? ⟨gb252, 0, none⟩ = some (.slice (some ad276) t246.length co12) ∧ w'.cell? ⟨gb252, 1, none⟩ = some (.slice (some ad289) t249.length co14) ∧ w'.cell? ⟨go72, ((rd (zh t246 x9_3) x10_4)).toNat, none⟩ = some (.int .i64 (rd y286 (rd (zh t246 x9_3) x10_4))) ∧ w'.cell? (ad288.add ((rd (zh t246 x9_3) x10_4)).toNat) = some (.int .i64 (rd t239 (rd (zh t246 x9_3) x10_4))) ∧ w'.cell? (ad289.add ((rd (zh t246 x9_3) x10_4)).toNat) = some (.int .i64 (rd t249 (rd (zh t246 x9_3) x10_4))) ∧ w'.cell? ⟨go72, ((rd (zh t246 x9_3) x10_4)).toNat, none⟩ = some (.int .i64 (rd y286 (rd (zh t246 x9_3) x10_4))) ∧ w'.cell? (ad288.add ((rd (zh t246 x9_3) x10_4)).toNat) = some (.int .i64 (rd t239 (rd (zh t246 x9_3) x10_4)))) (ds := []) #[false, false, false, false, false, false, false, false, false, false, false, false, false, false, false, false, false, false, false, false, false, false, false, false, false, false, false, false, false, false] (by kernel_rfl) rfl rfl ⟨(z8 BK252.out 0).trans rfl, (z8 BK252.out 1).trans rfl, hx287_0, hx288_0, hx289_0, hx290_0, hx291_0⟩ (fun hHeld => ?_); refine zb9 laws_FnRunGraph.tab26 laws_FnRunGraph.bits26 (fun HT_ HW_ => ?_);generalize w84.drew = w85 at HO_3 HO_4 HO_8 HO_253000 HO_253001 HO_260000 HO_260001 BK252 BK259 HB hx287_0 hx288_0 hx289_0 hx290_0 hx291_0 hHeld ⊢;refine zi (i := 0) (N := some 130) (v := ?_) (a' := ?_) #[true, false, false, false, false, false, false, false, false, false, false, false, false, false, false, false, false, false, false, false, false, false, false, false, false, false, false, false, false, false] rfl rfl (zb HT_.out (by kernel_rfl)) (fun _ _ _ h => h) (Or.inl ⟨by rfl, ?_⟩) ?_ ?_;rotate_left
                               ·intro w'
                                go_simp;with_reducible rfl
                               rotate_left
                               ·simp only [Act.put, Zs1, Zs2, Zs3, ze, zf]
                                rfl
                               refine zi (i := 1) (N := some 131) (v := ?_) (a' := ?_) #[true, true, false, false, false, false, false, false, false, false, false, false, false, false, false, false, false, false, false, false, false, false, false, false, false, false, false, false, false, false] rfl rfl (zb HT_.out (by kernel_rfl)) (fun _ _ _ h => h) (Or.inl ⟨by rfl, ?_⟩) ?_ ?_;rotate_left
                               ·intro w'
                                go_simp;with_reducible rfl
                               rotate_left
                               ·simp only [Act.put, Zs1, Zs2, Zs3, ze, zf]
                                rfl
                               refine zi (i := 2) (N := some 132) (v := ?_) (a' := ?_) #[true, true, true, false, false, false, false, false, false, false, false, false, false, false, false, false, false, false, false, false, false, false, false, false, false, false, false, false, false, false] rfl rfl (zb HT_.out (by kernel_rfl)) (fun _ _ _ h => h) (Or.inl ⟨by rfl, ?_⟩) ?_ ?_;rotate_left
                               ·intro w'
                                go_simp;with_reducible rfl
                               rotate_left
                               ·simp only [Act.put, Zs1, Zs2, Zs3, ze, zf]
                                rfl
                               refine zi (i := 4) (N := some 134) (v := ?_) (a' := ?_) #[true, true, true, false, true, false, false, false, false, false, false, false, false, false, false, false, false, false, false, false, false, false, false, false, false, false, false, false, false, false] rfl rfl (zb HT_.out (by kernel_rfl)) (fun _ _ _ h => h) (Or.inl ⟨by rfl, ?_⟩) ?_ ?_;rotate_left
                               ·intro w'
                                go_simp;with_reducible rfl
                               rotate_left
                               ·simp only [Act.put, Zs1, Zs2, Zs3, ze, zf]
                                rfl
                               refine zi (i := 5) (N := some 135) (v := ?_) (a' := ?_) #[true, true, true, false, true, true, false, false, false, false, false, false, false, false, false, false, false, false, false, false, false, false, false, false, false, false, false, false, false, false] rfl rfl (zb HT_.out (by kernel_rfl)) (fun _ _ _ h => h) (Or.inl ⟨by rfl, ?_⟩) ?_ ?_;rotate_left
                               ·intro w'
                                go_simp;with_reducible rfl
                               rotate_left
                               ·simp only [Act.put, Zs1, Zs2, Zs3, ze, zf]
                                rfl
                               refine zi (i := 6) (N := some 136) (v := ?_) (a' := ?_) #[true, true, true, false, true, true, true, false, false, false, false, false, false, false, false, false, false, false, false, false, false, false, false, false, false, false, false, false, false, false] rfl rfl (zb HT_.out (by kernel_rfl)) (fun _ _ _ h => h) (Or.inl ⟨by rfl, ?_⟩) ?_ ?_;rotate_left
                               ·intro w'
                                go_simp;with_reducible rfl
                               rotate_left
                               ·simp only [Act.put, Zs1, Zs2, Zs3, ze, zf]
                                rfl
                               refine zb3 (i := 3) (N := some 133) (v := ?_) (a' := ?_) #[true, true, true, true, true, true, true, false, false, false, false, false, false, false, false, false, false, false, false, false, false, false, false, false, false, false, false, false, false, false] rfl rfl (zbf HT_.out HW_.out (by kernel_rfl)) (fun _ _ _ h => h) (Or.inl ⟨by rfl, ?_⟩) hHeld ?_ ?_;rotate_left
                               ·rintro w' ⟨s0, s1, s2, s3, s4, s5, s6⟩
                                go_simp;with_reducible rfl
                               rotate_left
                               ·simp only [Act.put, Zs1, Zs2, Zs3, ze, zf]
                                rfl
                               refine zb3 (i := 7) (N := some 137) (v := ?_) (a' := ?_) #[true, true, true, true, true, true, true, true, false, false, false, false, false, false, false, false, false, false, false, false, false, false, false, false, false, false, false, false, false, false] rfl rfl (zbf HT_.out HW_.out (by kernel_rfl)) (fun _ _ _ h => h) (Or.inl ⟨by rfl, ?_⟩) hHeld ?_ ?_;rotate_left
                               ·rintro w' ⟨s0, s1, s2, s3, s4, s5, s6⟩
                                go_simp;with_reducible rfl
                               rotate_left
                               ·simp only [Act.put, Zs1, Zs2, Zs3, ze, zf]
                                rfl
                               refine zi (i := 8) (N := some 138) (v := ?_) (a' := ?_) #[true, true, true, true, true, true, true, true, true, false, false, false, false, false, false, false, false, false, false, false, false, false, false, false, false, false, false, false, false, false] rfl rfl (zb HT_.out (by kernel_rfl)) (fun _ _ _ h => h) (Or.inl ⟨by rfl, ?_⟩) ?_ ?_;rotate_left
                               ·intro w'
                                go_simp;with_reducible rfl
                               rotate_left
                               ·simp only [Act.put, Zs1, Zs2, Zs3, ze, zf]
                                rfl
                               refine zi (i := 9) (N := some 139) (v := ?_) (a' := ?_) #[true, true, true, true, true, true, true, true, true, true, false, false, false, false, false, false, false, false, false, false, false, false, false, false, false, false, false, false, false, false] rfl rfl (zb HT_.out (by kernel_rfl)) (fun _ _ _ h => h) (Or.inl ⟨by rfl, ?_⟩) ?_ ?_;rotate_left
                               ·intro w'
                                go_simp;with_reducible rfl
                               rotate_left
                               ·simp only [Act.put, Zs1, Zs2, Zs3, ze, zf]
                                rfl
                               refine zi (i := 10) (N := some 140) (v := ?_) (a' := ?_) #[true, true, true, true, true, true, true, true, true, true, true, false, false, false, false, false, false, false, false, false, false, false, false, false, false, false, false, false, false, false] rfl rfl (zb HT_.out (by kernel_rfl)) (fun _ _ _ h => h) (Or.inl ⟨by rfl, ?_⟩) ?_ ?_;rotate_left
                               ·intro w'
                                go_simp;with_reducible rfl
                               rotate_left
                               ·simp only [Act.put, Zs1, Zs2, Zs3, ze, zf]
                                rfl
                               refine zi (i := 12) (N := some 142) (v := ?_) (a' := ?_) #[true, true, true, true, true, true, true, true, true, true, true, false, true, false, false, false, false, false, false, false, false, false, false, false, false, false, false, false, false, false] rfl rfl (zb HT_.out (by kernel_rfl)) (fun _ _ _ h => h) (Or.inl ⟨by rfl, ?_⟩) ?_ ?_;rotate_left
                               ·intro w'
                                go_simp;with_reducible rfl
                               rotate_left
                               ·simp only [Act.put, Zs1, Zs2, Zs3, ze, zf]
                                rfl
                               refine zi (i := 15) (N := some 145) (v := ?_) (a' := ?_) #[true, true, true, true, true, true, true, true, true, true, true, false, true, false, false, true, false, false, false, false, false, false, false, false, false, false, false, false, false, false] rfl rfl (zb HT_.out (by kernel_rfl)) (fun _ _ _ h => h) (Or.inl ⟨by rfl, ?_⟩) ?_ ?_;rotate_left
                               ·intro w'
                                go_simp;with_reducible rfl
                               rotate_left
                               ·simp only [Act.put, Zs1, Zs2, Zs3, ze, zf]
                                rfl
                               refine zi (i := 16) (N := some 146) (v := ?_) (a' := ?_) #[true, true, true, true, true, true, true, true, true, true, true, false, true, false, false, true, true, false, false, false, false, false, false, false, false, false, false, false, false, false] rfl rfl (zb HT_.out (by kernel_rfl)) (fun _ _ _ h => h) (Or.inl ⟨by rfl, ?_⟩) ?_ ?_;rotate_left
                               ·intro w'
                                go_simp;with_reducible rfl
                               rotate_left
                               ·simp only [Act.put, Zs1, Zs2, Zs3, ze, zf]
                                rfl
                               refine zb3 (i := 11) (N := some 141) (v := ?_) (a' := ?_) #[true, true, true, true, true, true, true, true, true, true, true, true, true, false, false, true, true, false, false, false, false, false, false, false, false, false, false, false, false, false] rfl rfl (zbf HT_.out HW_.out (by kernel_rfl)) (fun _ _ _ h => h) (Or.inl ⟨by rfl, ?_⟩) hHeld ?_ ?_;rotate_left
                               ·rintro w' ⟨s0, s1, s2, s3, s4, s5, s6⟩
                                go_simp;with_reducible rfl
                               rotate_left
                               ·simp only [Act.put, Zs1, Zs2, Zs3, ze, zf]
                                rfl
                               refine zi (i := 13) (N := some 143) (v := ?_) (a' := ?_) #[true, true, true, true, true, true, true, true, true, true, true, true, true, true, false, true, true, false, false, false, false, false, false, false, false, false, false, false, false, false] rfl rfl (zb HT_.out (by kernel_rfl)) (fun _ _ _ h => h) (Or.inl ⟨by rfl, ?_⟩) ?_ ?_;rotate_left
                               ·intro w'
                                go_simp;with_reducible rfl
                               rotate_left
                               ·simp only [Act.put, Zs1, Zs2, Zs3, ze, zf]
                                rfl
                               refine zb3 (i := 14) (N := some 144) (v := ?_) (a' := ?_) #[true, true, true, true, true, true, true, true, true, true, true, true, true, true, true, true, true, false, false, false, false, false, false, false, false, false, false, false, false, false] rfl rfl (zbf HT_.out HW_.out (by kernel_rfl)) (fun _ _ _ h => h) (Or.inl ⟨by rfl, ?_⟩) hHeld ?_ ?_;rotate_left
                               ·rintro w' ⟨s0, s1, s2, s3, s4, s5, s6⟩
                                go_simp;with_reducible rfl
                               rotate_left
                               ·simp only [Act.put, Zs1, Zs2, Zs3, ze, zf]
                                rfl
                               refine zi (i := 17) (N := some 147) (v := ?_) (a' := ?_) #[true, true, true, true, true, true, true, true, true, true, true, true, true, true, true, true, true, true, false, false, false, false, false, false, false, false, false, false, false, false] rfl rfl (zb HT_.out (by kernel_rfl)) (fun _ _ _ h => h) (Or.inl ⟨by rfl, ?_⟩) ?_ ?_;rotate_left
                               ·intro w'
                                go_simp;with_reducible rfl
                               rotate_left
                               ·simp only [Act.put, Zs1, Zs2, Zs3, ze, zf]
                                rfl
                               refine zi (i := 18) (N := some 148) (v := ?_) (a' := ?_) #[true, true, true, true, true, true, true, true, true, true, true, true, true, true, true, true, true, true, true, false, false, false, false, false, false, false, false, false, false, false] rfl rfl (zb HT_.out (by kernel_rfl)) (fun _ _ _ h => h) (Or.inl ⟨by rfl, ?_⟩) ?_ ?_;rotate_left
                               ·intro w'
                                go_simp;with_reducible rfl
                               rotate_left
                               ·simp only [Act.put, Zs1, Zs2, Zs3, ze, zf]
                                rfl
                               refine zi (i := 19) (N := some 149) (v := ?_) (a' := ?_) #[true, true, true, true, true, true, true, true, true, true, true, true, true, true, true, true, true, true, true, true, false, false, false, false, false, false, false, false, false, false] rfl rfl (zb HT_.out (by kernel_rfl)) (fun _ _ _ h => h) (Or.inl ⟨by rfl, ?_⟩) ?_ ?_;rotate_left
                               ·intro w'
                                go_simp;with_reducible rfl
                               rotate_left
                               ·simp only [Act.put, Zs1, Zs2, Zs3, ze, zf]
                                rfl
                               refine zi (i := 20) (N := some 150) (v := ?_) (a' := ?_) #[true, true, true, true, true, true, true, true, true, true, true, true, true, true, true, true, true, true, true, true, true, false, false, false, false, false, false, false, false, false] rfl rfl (zb HT_.out (by kernel_rfl)) (fun _ _ _ h => h) (Or.inl ⟨by rfl, ?_⟩) ?_ ?_;rotate_left
                               ·intro w'
                                go_simp;with_reducible rfl
                               rotate_left
                               ·simp only [Act.put, Zs1, Zs2, Zs3, ze, zf]
                                rfl
                               refine zi (i := 21) (N := some 151) (v := ?_) (a' := ?_) #[true, true, true, true, true, true, true, true, true, true, true, true, true, true, true, true, true, true, true, true, true, true, false, false, false, false, false, false, false, false] rfl rfl (zb HT_.out (by kernel_rfl)) (fun _ _ _ h => h) (Or.inl ⟨by rfl, ?_⟩) ?_ ?_;rotate_left
                               ·intro w'
                                go_simp;with_reducible rfl
                               rotate_left
                               ·simp only [Act.put, Zs1, Zs2, Zs3, ze, zf]
                                rfl
                               refine zi (i := 22) (N := some 152) (v := ?_) (a' := ?_) #[true, true, true, true, true, true, true, true, true, true, true, true, true, true, true, true, true, true, true, true, true, true, true, false, false, false, false, false, false, false] rfl rfl (zb HT_.out (by kernel_rfl)) (fun _ _ _ h => h) (Or.inl ⟨by rfl, ?_⟩) ?_ ?_;rotate_left
                               ·intro w'
                                go_simp;with_reducible rfl
                               rotate_left
                               ·simp only [Act.put, Zs1, Zs2, Zs3, ze, zf]
                                rfl
                               refine zi (i := 24) (N := some 154) (v := ?_) (a' := ?_) #[true, true, true, true, true, true, true, true, true, true, true, true, true, true, true, true, true, true, true, true, true, true, true, false, true, false, false, false, false, false] rfl rfl (zb HT_.out (by kernel_rfl)) (fun _ _ _ h => h) (Or.inl ⟨by rfl, ?_⟩) ?_ ?_;rotate_left
                               ·intro w'
                                go_simp;with_reducible rfl
                               rotate_left
                               ·simp only [Act.put, Zs1, Zs2, Zs3, ze, zf]
                                rfl
                               refine zi (i := 25) (N := some 155) (v := ?_) (a' := ?_) #[true, true, true, true, true, true, true, true, true, true, true, true, true, true, true, true, true, true, true, true, true, true, true, false, true, true, false, false, false, false] rfl rfl (zb HT_.out (by kernel_rfl)) (fun _ _ _ h => h) (Or.inl ⟨by rfl, ?_⟩) ?_ ?_;rotate_left
                               ·intro w'
                                go_simp;with_reducible rfl
                               rotate_left
                               ·simp only [Act.put, Zs1, Zs2, Zs3, ze, zf]
                                rfl
                               refine zi (i := 26) (N := some 156) (v := ?_) (a' := ?_) #[true, true, true, true, true, true, true, true, true, true, true, true, true, true, true, true, true, true, true, true, true, true, true, false, true, true, true, false, false, false] rfl rfl (zb HT_.out (by kernel_rfl)) (fun _ _ _ h => h) (Or.inl ⟨by rfl, ?_⟩) ?_ ?_;rotate_left
                               ·intro w'
                                go_simp;with_reducible rfl
                               rotate_left
                               ·simp only [Act.put, Zs1, Zs2, Zs3, ze, zf]
                                rfl
                               refine zb3 (i := 23) (N := some 153) (v := ?_) (a' := ?_) #[true, true, true, true, true, true, true, true, true, true, true, true, true, true, true, true, true, true, true, true, true, true, true, true, true, true, true, false, false, false] rfl rfl (zbf HT_.out HW_.out (by kernel_rfl)) (fun _ _ _ h => h) (Or.inl ⟨by rfl, ?_⟩) hHeld ?_ ?_;rotate_left
                               ·rintro w' ⟨s0, s1, s2, s3, s4, s5, s6⟩
                                go_simp;with_reducible rfl
                               rotate_left
                               ·simp only [Act.put, Zs1, Zs2, Zs3, ze, zf]
                                rfl
                               refine zb3 (i := 27) (N := some 157) (v := ?_) (a' := ?_) #[true, true, true, true, true, true, true, true, true, true, true, true, true, true, true, true, true, true, true, true, true, true, true, true, true, true, true, true, false, false] rfl rfl (zbf HT_.out HW_.out (by kernel_rfl)) (fun _ _ _ h => h) (Or.inl ⟨by rfl, ?_⟩) hHeld ?_ ?_;rotate_left
                               ·rintro w' ⟨s0, s1, s2, s3, s4, s5, s6⟩
                                go_simp;with_reducible rfl
                               rotate_left
                               ·simp only [Act.put, Zs1, Zs2, Zs3, ze, zf]
                                rfl
                               refine zi (i := 28) (N := some 158) (v := ?_) (a' := ?_) #[true, true, true, true, true, true, true, true, true, true, true, true, true, true, true, true, true, true, true, true, true, true, true, true, true, true, true, true, true, false] rfl rfl (zb HT_.out (by kernel_rfl)) (fun _ _ _ h => h) (Or.inl ⟨by rfl, ?_⟩) ?_ ?_;rotate_left
                               ·intro w'
                                go_simp;with_reducible rfl
                               rotate_left
                               ·simp only [Act.put, Zs1, Zs2, Zs3, ze, zf]
                                rfl
                               refine zi (i := 29) (N := some 159) (v := ?_) (a' := ?_) #[true, true, true, true, true, true, true, true, true, true, true, true, true, true, true, true, true, true, true, true, true, true, true, true, true, true, true, true, true, true] rfl rfl (zb HT_.out (by kernel_rfl)) (fun _ _ _ h => h) (Or.inl ⟨by rfl, ?_⟩) ?_ ?_;rotate_left
                               ·intro w'
                                go_simp;with_reducible rfl
                               rotate_left
                               ·simp only [Act.put, Zs1, Zs2, Zs3, ze, zf]
                                rfl
                               refine zeg (zct HT_.out (by kernel_rfl)) ?_
                               try go_wp2
                               go_roundg k5
                               case measure => have := HJ5.out; have := HJ30.out; have := HK3.out; have := HK4.out; have := HK5.out; omega
                               case rel => exact ⟨(y286), (wrap64 (x10_4 + 1)), Zrs, H', ⟨by have := HJ5.out; have := HJ30.out; have := HK3.out; have := HK4.out; have := HK5.out; omega⟩, ⟨by (with_reducible repeat (first | apply Kd.zbb | apply Kd.zba | apply Kd.zu)); exact Kd.zbh HO_3.out (fun _ hk => ⟨hk.2, ⟨hk.1.1, hk.1.2⟩⟩)⟩, ⟨by (with_reducible repeat (first | apply Kd.zbb | apply Kd.zba | apply Kd.zu)); exact Kd.zbh HO_4.out (fun _ hk => ⟨hk.1.1, ⟨hk.2, ⟨hk.1.2.1, ⟨hk.1.2.2.1, ⟨hk.1.2.2.2.1, hk.1.2.2.2.2⟩⟩⟩⟩⟩)⟩, ⟨Zq14 HO_8⟩, ⟨by (with_reducible repeat (first | apply Kd.zbb | apply Kd.zba | apply Kd.zu)); exact Kd.zbh HO_253000.out (fun _ hk => ⟨hk.1.1, ⟨hk.1.2.1, ⟨hk.2, ⟨hk.1.2.2.1, ⟨hk.1.2.2.2.1, hk.1.2.2.2.2⟩⟩⟩⟩⟩)⟩, ⟨by (with_reducible repeat (first | apply Kd.zbb | apply Kd.zba | apply Kd.zu)); exact Kd.zbh HO_253001.out (fun _ hk => ⟨hk.1.1, ⟨hk.2, hk.1.2⟩⟩)⟩, ⟨by (with_reducible repeat (first | apply Kd.zbb | apply Kd.zba | apply Kd.zu)); exact Kd.zbh HO_260000.out (fun _ hk => ⟨hk.1.1, ⟨hk.1.2.1, ⟨hk.2, ⟨hk.1.2.2.1, ⟨hk.1.2.2.2.1, hk.1.2.2.2.2⟩⟩⟩⟩⟩)⟩, ⟨by (with_reducible repeat (first | apply Kd.zbb | apply Kd.zba | apply Kd.zu)); exact Kd.zbh HO_260001.out (fun _ hk => ⟨hk.1.1, ⟨hk.2, hk.1.2⟩⟩)⟩, ⟨Zq2 BK252⟩, ⟨Zq2 BK259⟩, ⟨Zq15 HB GE252 GE259⟩⟩
                             ·rw [if_neg c76] at H
                              exact Bool.noConfusion ((Option.some.inj H).trans HRT.out)
                            ·rw [if_neg c75] at H
                             exact absurd H (by simp)
                           ·rw [if_neg c74] at H
                            have c74b0 : ((rd y286 (rd (zh t246 x9_3) x10_4)) == (rd t239 (rd (zh t246 x9_3) x10_4))) = false := beq_eq_false_iff_ne.mpr c74;have c74b1 : ((rd y286 (rd (zh t246 x9_3) x10_4)) != (rd t239 (rd (zh t246 x9_3) x10_4))) = true := bne_iff_ne.mpr c74;by_cases c90 : (rd y286 (rd (zh t246 x9_3) x10_4)) > (rd t239 (rd (zh t246 x9_3) x10_4))
                            ·rw [if_pos c90] at H
                             exact Bool.noConfusion ((Option.some.inj H).trans HRT.out)
                            ·rw [if_neg c90] at H
                             have c90b0 : decide ((rd t239 (rd (zh t246 x9_3) x10_4)) < (rd y286 (rd (zh t246 x9_3) x10_4))) = false := decide_eq_false c90;clear c90;have H' := za.mk H;clear H;obtain ⟨Ao95, co95, eo95⟩ := Kd.zde HO_8.out;subst eo95;have p285 : 0 ≤ ((rd (zh t246 x9_3) x10_4) : Int) := of_decide_eq_true Zas;have q285 : (rd (zh t246 x9_3) x10_4) < (x8_4.length : Int) := of_decide_eq_true Zas;obtain ⟨ad285, e285, hx285_0⟩ := Kd.zbq (Kd.zw HO_8.out).2.2 (rd (zh t246 x9_3) x10_4) p285 q285
                             cases e285
                             replace p285 := eq_true p285;replace q285 := eq_true q285;have p72 : 0 ≤ ((rd (zh t246 x9_3) x10_4) : Int) := of_decide_eq_true Zas;have q72 : ((rd (zh t246 x9_3) x10_4) : Int) < ((x8_4.length : Int) : Int) := of_decide_eq_true Zas;obtain ⟨go72, co72, eo72, gb72, gl72, cl72, HG72⟩ := Kd.Qc_form HO_8.out (by omega);(first | cases eo72 | (injection eo72 with ea_ en_ ec_; (first | subst ea_ | (injection ea_ with ea_; subst ea_)); subst ec_; clear en_));have GB72 := za.mk gb72;have GG72 := za.mk HG72;clear gb72 gl72 HG72;(first | simp only [add_plain] at hx285_0 | skip);obtain ⟨hx72_0, hf72_0⟩ := Kd.Qc_celln 0 HO_8.out ((rd (zh t246 x9_3) x10_4) : Int) p72 q72;replace p72 := eq_true p72;replace q72 := eq_true q72;have HP96 := Kd.zil HO_8.out ((rd (zh t246 x9_3) x10_4) : Int) (wrap64 ((rd x8_4 (rd (zh t246 x9_3) x10_4)) + 1))
                             try go_wp2_with (first | ((with_reducible refine zgt (t := 3) (p := 129) rfl ?_); refine zf6 (t := 3) (p := 129) (v := ?vo_w97) (w1 := (wr.setCell ⟨go72, ((rd (zh t246 x9_3) x10_4) : Int).toNat, none⟩ (.int .i64 (wrap64 ((rd x8_4 (rd (zh t246 x9_3) x10_4)) + 1))))) ?hg ?ho ?hn ?hr ?_; (case ho => rfl); (case hg => rfl); (case hn => rfl); (case hr => first | (go_simp; done) | (go_simp; rfl)); intro w97 hw; have hg : wr.grownBy w97 (some go72) := (by rw [hw]; exact HP96.2); have hp_ : Kd.Qc (Kd.int .i64) 3 w97 w.heap.size (fun k_ => some k_ ≠ (.slice Ao8 t239.length co8 : Value).ownBlock ∧ some k_ ≠ (.slice Ao14 t249.length co14 : Value).ownBlock ∧ some k_ ≠ (.slice Ao20 t256.length co20 : Value).ownBlock) (.slice (some ⟨go72, 0, none⟩) x8_4.length co95) y286 := (by rw [hw, Ny286.out]; exact HP96.1); clear HP96; have n0_ := za.mk (Kd.zdf (v := (.slice (some ⟨go72, 0, none⟩) x8_4.length co95)) (v1 := (.slice (some ⟨go72, 0, none⟩) x8_4.length co95)) (ok := (fun k_ => some k_ ≠ (.slice Ao14 t249.length co14 : Value).ownBlock ∧ some k_ ≠ (.slice Ao20 t256.length co20 : Value).ownBlock)) (by (with_reducible repeat (first | apply Kd.zbb | apply Kd.zba | apply Kd.zu)); exact Kd.zbh HO_3.out (fun _ hk => ⟨⟨hk.2.1, hk.2.2⟩, hk.1⟩)) hg (.inl rfl)); have n1_ := za.mk (Kd.zdf (v := (.slice (some ⟨go72, 0, none⟩) x8_4.length co95)) (v1 := (.slice (some ⟨go72, 0, none⟩) x8_4.length co95)) (ok := (fun k_ => some k_ ≠ (.slice Ao8 t239.length co8 : Value).ownBlock ∧ some k_ ≠ (.slice (some ad276) t246.length co12 : Value).ownBlock ∧ some k_ ≠ (.slice Ao14 t249.length co14 : Value).ownBlock ∧ some k_ ≠ (.slice Ao17 t253.length co17 : Value).ownBlock ∧ some k_ ≠ (.slice Ao20 t256.length co20 : Value).ownBlock)) (by (with_reducible repeat (first | apply Kd.zbb | apply Kd.zba | apply Kd.zu)); exact Kd.zbh HO_4.out (fun _ hk => ⟨⟨hk.1, ⟨hk.2.2.1, ⟨hk.2.2.2.1, ⟨hk.2.2.2.2.1, hk.2.2.2.2.2⟩⟩⟩⟩, hk.2.1⟩)) hg (.inl rfl)); have n2_ := za.mk (hp_); have n3_ := za.mk (Kd.zdf (v := (.slice (some ⟨go72, 0, none⟩) x8_4.length co95)) (v1 := (.slice (some ⟨go72, 0, none⟩) x8_4.length co95)) (ok := (fun k_ => some k_ ≠ (.slice Ao8 t239.length co8 : Value).ownBlock ∧ some k_ ≠ (.slice Ao9 t240.length co9 : Value).ownBlock ∧ some k_ ≠ (.slice Ao14 t249.length co14 : Value).ownBlock ∧ some k_ ≠ (.slice Ao17 t253.length co17 : Value).ownBlock ∧ some k_ ≠ (.slice Ao20 t256.length co20 : Value).ownBlock)) (by (with_reducible repeat (first | apply Kd.zbb | apply Kd.zba | apply Kd.zu)); exact Kd.zbh HO_253000.out (fun _ hk => ⟨⟨hk.1, ⟨hk.2.1, ⟨hk.2.2.2.1, ⟨hk.2.2.2.2.1, hk.2.2.2.2.2⟩⟩⟩⟩, hk.2.2.1⟩)) hg (.inl rfl)); have n4_ := za.mk (Kd.zdf (v := (.slice (some ⟨go72, 0, none⟩) x8_4.length co95)) (v1 := (.slice (some ⟨go72, 0, none⟩) x8_4.length co95)) (ok := (fun k_ => some k_ ≠ (.slice Ao8 t239.length co8 : Value).ownBlock ∧ some k_ ≠ (.slice Ao20 t256.length co20 : Value).ownBlock)) (by (with_reducible repeat (first | apply Kd.zbb | apply Kd.zba | apply Kd.zu)); exact Kd.zbh HO_253001.out (fun _ hk => ⟨⟨hk.1, hk.2.2⟩, hk.2.1⟩)) hg (.inl rfl)); have n5_ := za.mk (Kd.zdf (v := (.slice (some ⟨go72, 0, none⟩) x8_4.length co95)) (v1 := (.slice (some ⟨go72, 0, none⟩) x8_4.length co95)) (ok := (fun k_ => some k_ ≠ (.slice Ao8 t239.length co8 : Value).ownBlock ∧ some k_ ≠ (.slice Ao9 t240.length co9 : Value).ownBlock ∧ some k_ ≠ (.slice (some ad276) t246.length co12 : Value).ownBlock ∧ some k_ ≠ (.slice Ao14 t249.length co14 : Value).ownBlock ∧ some k_ ≠ (.slice Ao20 t256.length co20 : Value).ownBlock)) (by (with_reducible repeat (first | apply Kd.zbb | apply Kd.zba | apply Kd.zu)); exact Kd.zbh HO_260000.out (fun _ hk => ⟨⟨hk.1, ⟨hk.2.1, ⟨hk.2.2.2.1, ⟨hk.2.2.2.2.1, hk.2.2.2.2.2⟩⟩⟩⟩, hk.2.2.1⟩)) hg (.inl rfl)); have n6_ := za.mk (Kd.zdf (v := (.slice (some ⟨go72, 0, none⟩) x8_4.length co95)) (v1 := (.slice (some ⟨go72, 0, none⟩) x8_4.length co95)) (ok := (fun k_ => some k_ ≠ (.slice Ao8 t239.length co8 : Value).ownBlock ∧ some k_ ≠ (.slice Ao14 t249.length co14 : Value).ownBlock)) (by (with_reducible repeat (first | apply Kd.zbb | apply Kd.zba | apply Kd.zu)); exact Kd.zbh HO_260001.out (fun _ hk => ⟨⟨hk.1, hk.2.2⟩, hk.2.1⟩)) hg (.inl rfl)); have n7_ := za.mk (zes (g := gb252) (o := .cells #[.slice (some ad276) t246.length co12, .slice Ao14 t249.length co14] 28 (0, 0)) (Zq2 BK252) hg (Kd.Qc_ne HO_8.out BK252.out (by decide))); have n8_ := za.mk (zes (g := gb259) (o := .cells #[.slice Ao17 t253.length co17, .slice Ao20 t256.length co20] 28 (0, 0)) (Zq2 BK259) hg (Kd.Qc_ne HO_8.out BK259.out (by decide))); have n9_ := za.mk ((by rw [hw]; exact zdn (HB.out) GB72.out : Below w.heap.size w w97)); clear HO_3; clear HO_4; clear HO_8; clear HO_253000; clear HO_253001; clear HO_260000; clear HO_260001; clear BK252; clear BK259; clear HB; have HO_3 := n0_; have HO_4 := n1_; have HO_8 := n2_; have HO_253000 := n3_; have HO_253001 := n4_; have HO_260000 := n5_; have HO_260001 := n6_; have BK252 := n7_; have BK259 := n8_; have HB := n9_; clear n0_ n1_ n2_ n3_ n4_ n5_ n6_ n7_ n8_ n9_; clear hg hw hp_))
                             have n0_ := za.mk (Kd.zu HO_3.out);have n1_ := za.mk (Kd.zu HO_4.out);have n2_ := za.mk (Kd.zu HO_8.out);have n3_ := za.mk (Kd.zu HO_253000.out);have n4_ := za.mk (Kd.zu HO_253001.out);have n5_ := za.mk (Kd.zu HO_260000.out);have n6_ := za.mk (Kd.zu HO_260001.out);have n7_ := za.mk (zbv BK252.out);have n8_ := za.mk (zbv BK259.out);have n9_ := za.mk (zbr HB.out);clear HO_3;clear HO_4;clear HO_8;clear HO_253000;clear HO_253001;clear HO_260000;clear HO_260001;clear BK252;clear BK259;clear HB;have HO_3 := n0_;have HO_4 := n1_;have HO_8 := n2_;have HO_253000 := n3_;have HO_253001 := n4_;have HO_260000 := n5_;have HO_260001 := n6_;have BK252 := n7_;have BK259 := n8_;have HB := n9_;clear n0_ n1_ n2_ n3_ n4_ n5_ n6_ n7_ n8_ n9_;have p287 : 0 ≤ ((rd (zh t246 x9_3) x10_4) : Int) := of_decide_eq_true Zas;have q287 : (rd (zh t246 x9_3) x10_4) < (y286.length : Int) := (by have h_ : ((rd (zh t246 x9_3) x10_4) : Int) < ((x8_4.length : Int) : Int) := of_decide_eq_true Zas; first | (have e_ := (Kd.zw HO_8.out).1; omega) | simpa only [Ny286.out, List.length_set] using h_);have ql287 : (((rd (zh t246 x9_3) x10_4) : Int) < ((x8_4.length : Int) : Int)) = True := eq_true (of_decide_eq_true Zas);obtain ⟨ad287, e287, hx287_0⟩ := Kd.zbq (Kd.zw HO_8.out).2.2 (rd (zh t246 x9_3) x10_4) p287 q287;obtain rfl : (⟨go72, 0, none⟩ : Addr) = ad287 := (by injection e287);(first | simp only [add_plain] at hx287_0 | simp only [zhs] at hx287_0 | simp only [Addr.add, Nat.zero_add] at hx287_0 | skip);replace p287 := eq_true p287;replace q287 := eq_true q287;have p288 : 0 ≤ ((rd (zh t246 x9_3) x10_4) : Int) := of_decide_eq_true Zas;have q288 : (rd (zh t246 x9_3) x10_4) < (t239.length : Int) := of_decide_eq_true Zas;obtain ⟨ad288, e288, hx288_0⟩ := Kd.zbq (Kd.zw HO_3.out).2.2 (rd (zh t246 x9_3) x10_4) p288 q288
                             cases e288
                             replace p288 := eq_true p288;replace q288 := eq_true q288;have p292 : 0 ≤ ((rd (zh t246 x9_3) x10_4) : Int) := of_decide_eq_true Zas;have q292 : (rd (zh t246 x9_3) x10_4) < (y286.length : Int) := (by have h_ : ((rd (zh t246 x9_3) x10_4) : Int) < ((x8_4.length : Int) : Int) := of_decide_eq_true Zas; first | (have e_ := (Kd.zw HO_8.out).1; omega) | simpa only [Ny286.out, List.length_set] using h_);have ql292 : (((rd (zh t246 x9_3) x10_4) : Int) < ((x8_4.length : Int) : Int)) = True := eq_true (of_decide_eq_true Zas);obtain ⟨ad292, e292, hx292_0⟩ := Kd.zbq (Kd.zw HO_8.out).2.2 (rd (zh t246 x9_3) x10_4) p292 q292;obtain rfl : (⟨go72, 0, none⟩ : Addr) = ad292 := (by injection e292);(first | simp only [add_plain] at hx292_0 | simp only [zhs] at hx292_0 | simp only [Addr.add, Nat.zero_add] at hx292_0 | skip);replace p292 := eq_true p292;replace q292 := eq_true q292;have p293 : 0 ≤ ((rd (zh t246 x9_3) x10_4) : Int) := of_decide_eq_true Zas;have q293 : (rd (zh t246 x9_3) x10_4) < (t239.length : Int) := of_decide_eq_true Zas;obtain ⟨ad293, e293, hx293_0⟩ := Kd.zbq (Kd.zw HO_3.out).2.2 (rd (zh t246 x9_3) x10_4) p293 q293;obtain rfl : ad288 = ad293 := (by injection e293);replace p293 := eq_true p293;replace q293 := eq_true q293;refine zdl (n := 30) (S := fun w' => w'.cell? ⟨go72, ((rd (zh t246 x9_3) x10_4)).toNat, none⟩ = some (.int .i64 (rd y286 (rd (zh t246 x9_3) x10_4))) ∧ w'.cell? (ad288.add ((rd (zh t246 x9_3) x10_4)).toNat) = some (.int .i64 (rd t239 (rd (zh t246 x9_3) x10_4))) ∧ w'.cell? ⟨go72, ((rd (zh t246 x9_3) x10_4)).toNat, none⟩ = some (.int .i64 (rd y286 (rd (zh t246 x9_3) x10_4))) ∧ w'.cell? (ad288.add ((rd (zh t246 x9_3) x10_4)).toNat) = some (.int .i64 (rd t239 (rd (zh t246 x9_3) x10_4)))) (ds := []) #[false, false, false, false, false, false, false, false, false, false, false, false, false, false, false, false, false, false, false, false, false, false, false, false, false, false, false, false, false, false] (by kernel_rfl) rfl rfl ⟨hx287_0, hx288_0, hx292_0, hx293_0⟩ (fun hHeld => ?_); refine zb9 laws_FnRunGraph.tab26 laws_FnRunGraph.bits26 (fun HT_ HW_ => ?_);generalize w97.drew = w98 at HO_3 HO_4 HO_8 HO_253000 HO_253001 HO_260000 HO_260001 BK252 BK259 HB hx287_0 hx288_0 hx292_0 hx293_0 hHeld ⊢;refine zi (i := 0) (N := some 130) (v := ?_) (a' := ?_) #[true, false, false, false, false, false, false, false, false, false, false, false, false, false, false, false, false, false, false, false, false, false, false, false, false, false, false, false, false, false] rfl rfl (zb HT_.out (by kernel_rfl)) (fun _ _ _ h => h) (Or.inl ⟨by rfl, ?_⟩) ?_ ?_;rotate_left
                             ·intro w'
                              go_simp;with_reducible rfl
                             rotate_left
                             ·simp only [Act.put, Zs1, Zs2, Zs3, ze, zf]
                              rfl
                             refine zi (i := 1) (N := some 131) (v := ?_) (a' := ?_) #[true, true, false, false, false, false, false, false, false, false, false, false, false, false, false, false, false, false, false, false, false, false, false, false, false, false, false, false, false, false] rfl rfl (zb HT_.out (by kernel_rfl)) (fun _ _ _ h => h) (Or.inl ⟨by rfl, ?_⟩) ?_ ?_;rotate_left
                             ·intro w'
                              go_simp;with_reducible rfl
                             rotate_left
                             ·simp only [Act.put, Zs1, Zs2, Zs3, ze, zf]
                              rfl
                             refine zi (i := 2) (N := some 132) (v := ?_) (a' := ?_) #[true, true, true, false, false, false, false, false, false, false, false, false, false, false, false, false, false, false, false, false, false, false, false, false, false, false, false, false, false, false] rfl rfl (zb HT_.out (by kernel_rfl)) (fun _ _ _ h => h) (Or.inl ⟨by rfl, ?_⟩) ?_ ?_;rotate_left
                             ·intro w'
                              go_simp;with_reducible rfl
                             rotate_left
                             ·simp only [Act.put, Zs1, Zs2, Zs3, ze, zf]
                              rfl
                             refine zi (i := 4) (N := some 134) (v := ?_) (a' := ?_) #[true, true, true, false, true, false, false, false, false, false, false, false, false, false, false, false, false, false, false, false, false, false, false, false, false, false, false, false, false, false] rfl rfl (zb HT_.out (by kernel_rfl)) (fun _ _ _ h => h) (Or.inl ⟨by rfl, ?_⟩) ?_ ?_;rotate_left
                             ·intro w'
                              go_simp;with_reducible rfl
                             rotate_left
                             ·simp only [Act.put, Zs1, Zs2, Zs3, ze, zf]
                              rfl
                             refine zi (i := 5) (N := some 135) (v := ?_) (a' := ?_) #[true, true, true, false, true, true, false, false, false, false, false, false, false, false, false, false, false, false, false, false, false, false, false, false, false, false, false, false, false, false] rfl rfl (zb HT_.out (by kernel_rfl)) (fun _ _ _ h => h) (Or.inl ⟨by rfl, ?_⟩) ?_ ?_;rotate_left
                             ·intro w'
                              go_simp;with_reducible rfl
                             rotate_left
                             ·simp only [Act.put, Zs1, Zs2, Zs3, ze, zf]
                              rfl
                             refine zi (i := 6) (N := some 136) (v := ?_) (a' := ?_) #[true, true, true, false, true, true, true, false, false, false, false, false, false, false, false, false, false, false, false, false, false, false, false, false, false, false, false, false, false, false] rfl rfl (zb HT_.out (by kernel_rfl)) (fun _ _ _ h => h) (Or.inl ⟨by rfl, ?_⟩) ?_ ?_;rotate_left
                             ·intro w'
                              go_simp;with_reducible rfl
                             rotate_left
                             ·simp only [Act.put, Zs1, Zs2, Zs3, ze, zf]
                              rfl
                             refine zb3 (i := 3) (N := some 133) (v := ?_) (a' := ?_) #[true, true, true, true, true, true, true, false, false, false, false, false, false, false, false, false, false, false, false, false, false, false, false, false, false, false, false, false, false, false] rfl rfl (zbf HT_.out HW_.out (by kernel_rfl)) (fun _ _ _ h => h) (Or.inl ⟨by rfl, ?_⟩) hHeld ?_ ?_;rotate_left
                             ·rintro w' ⟨s0, s1, s2, s3⟩
                              go_simp;with_reducible rfl
                             rotate_left
                             ·simp only [Act.put, Zs1, Zs2, Zs3, ze, zf]
                              rfl
                             refine zb3 (i := 7) (N := some 137) (v := ?_) (a' := ?_) #[true, true, true, true, true, true, true, true, false, false, false, false, false, false, false, false, false, false, false, false, false, false, false, false, false, false, false, false, false, false] rfl rfl (zbf HT_.out HW_.out (by kernel_rfl)) (fun _ _ _ h => h) (Or.inl ⟨by rfl, ?_⟩) hHeld ?_ ?_;rotate_left
                             ·rintro w' ⟨s0, s1, s2, s3⟩
                              go_simp;with_reducible rfl
                             rotate_left
                             ·simp only [Act.put, Zs1, Zs2, Zs3, ze, zf]
                              rfl
                             refine zi (i := 8) (N := some 138) (v := ?_) (a' := ?_) #[true, true, true, true, true, true, true, true, true, false, false, false, false, false, false, false, false, false, false, false, false, false, false, false, false, false, false, false, false, false] rfl rfl (zb HT_.out (by kernel_rfl)) (fun _ _ _ h => h) (Or.inl ⟨by rfl, ?_⟩) ?_ ?_;rotate_left
                             ·intro w'
                              go_simp;with_reducible rfl
                             rotate_left
                             ·simp only [Act.put, Zs1, Zs2, Zs3, ze, zf]
                              rfl
                             refine zi (i := 9) (N := some 139) (v := ?_) (a' := ?_) #[true, true, true, true, true, true, true, true, true, true, false, false, false, false, false, false, false, false, false, false, false, false, false, false, false, false, false, false, false, false] rfl rfl (zb HT_.out (by kernel_rfl)) (fun _ _ _ h => h) (Or.inl ⟨by rfl, ?_⟩) ?_ ?_;rotate_left
                             ·intro w'
                              go_simp;with_reducible rfl
                             rotate_left
                             ·simp only [Act.put, Zs1, Zs2, Zs3, ze, zf]
                              rfl
                             refine zi (i := 10) (N := some 140) (v := undef) (a' := ?_) #[true, true, true, true, true, true, true, true, true, true, true, false, false, false, false, false, false, false, false, false, false, false, false, false, false, false, false, false, false, false] rfl rfl (zb HT_.out (by kernel_rfl)) (fun _ _ _ h => h) (Or.inr ⟨by rfl, rfl⟩) ?_ ?_;rotate_left
                             ·simp only [Act.put, Zs1, Zs2, Zs3, ze, zf]
                              rfl
                             refine zi (i := 11) (N := some 141) (v := undef) (a' := ?_) #[true, true, true, true, true, true, true, true, true, true, true, true, false, false, false, false, false, false, false, false, false, false, false, false, false, false, false, false, false, false] rfl rfl (zb HT_.out (by kernel_rfl)) (fun _ _ _ h => h) (Or.inr ⟨by rfl, rfl⟩) ?_ ?_;rotate_left
                             ·simp only [Act.put, Zs1, Zs2, Zs3, ze, zf]
                              rfl
                             refine zi (i := 12) (N := some 142) (v := undef) (a' := ?_) #[true, true, true, true, true, true, true, true, true, true, true, true, true, false, false, false, false, false, false, false, false, false, false, false, false, false, false, false, false, false] rfl rfl (zb HT_.out (by kernel_rfl)) (fun _ _ _ h => h) (Or.inr ⟨by rfl, rfl⟩) ?_ ?_;rotate_left
                             ·simp only [Act.put, Zs1, Zs2, Zs3, ze, zf]
                              rfl
                             refine zi (i := 13) (N := some 143) (v := undef) (a' := ?_) #[true, true, true, true, true, true, true, true, true, true, true, true, true, true, false, false, false, false, false, false, false, false, false, false, false, false, false, false, false, false] rfl rfl (zb HT_.out (by kernel_rfl)) (fun _ _ _ h => h) (Or.inr ⟨by rfl, rfl⟩) ?_ ?_;rotate_left
                             ·simp only [Act.put, Zs1, Zs2, Zs3, ze, zf]
                              rfl
                             refine zi (i := 14) (N := some 144) (v := undef) (a' := ?_) #[true, true, true, true, true, true, true, true, true, true, true, true, true, true, true, false, false, false, false, false, false, false, false, false, false, false, false, false, false, false] rfl rfl (zb HT_.out (by kernel_rfl)) (fun _ _ _ h => h) (Or.inr ⟨by rfl, rfl⟩) ?_ ?_;rotate_left
                             ·simp only [Act.put, Zs1, Zs2, Zs3, ze, zf]
                              rfl
                             refine zi (i := 15) (N := some 145) (v := undef) (a' := ?_) #[true, true, true, true, true, true, true, true, true, true, true, true, true, true, true, true, false, false, false, false, false, false, false, false, false, false, false, false, false, false] rfl rfl (zb HT_.out (by kernel_rfl)) (fun _ _ _ h => h) (Or.inr ⟨by rfl, rfl⟩) ?_ ?_;rotate_left
                             ·simp only [Act.put, Zs1, Zs2, Zs3, ze, zf]
                              rfl
                             refine zi (i := 16) (N := some 146) (v := undef) (a' := ?_) #[true, true, true, true, true, true, true, true, true, true, true, true, true, true, true, true, true, false, false, false, false, false, false, false, false, false, false, false, false, false] rfl rfl (zb HT_.out (by kernel_rfl)) (fun _ _ _ h => h) (Or.inr ⟨by rfl, rfl⟩) ?_ ?_;rotate_left
                             ·simp only [Act.put, Zs1, Zs2, Zs3, ze, zf]
                              rfl
                             refine zi (i := 17) (N := some 147) (v := undef) (a' := ?_) #[true, true, true, true, true, true, true, true, true, true, true, true, true, true, true, true, true, true, false, false, false, false, false, false, false, false, false, false, false, false] rfl rfl (zb HT_.out (by kernel_rfl)) (fun _ _ _ h => h) (Or.inr ⟨by rfl, rfl⟩) ?_ ?_;rotate_left
                             ·simp only [Act.put, Zs1, Zs2, Zs3, ze, zf]
                              rfl
                             refine zi (i := 18) (N := some 148) (v := ?_) (a' := ?_) #[true, true, true, true, true, true, true, true, true, true, true, true, true, true, true, true, true, true, true, false, false, false, false, false, false, false, false, false, false, false] rfl rfl (zb HT_.out (by kernel_rfl)) (fun _ _ _ h => h) (Or.inl ⟨by rfl, ?_⟩) ?_ ?_;rotate_left
                             ·intro w'
                              go_simp;with_reducible rfl
                             rotate_left
                             ·simp only [Act.put, Zs1, Zs2, Zs3, ze, zf]
                              rfl
                             refine zi (i := 19) (N := some 149) (v := ?_) (a' := ?_) #[true, true, true, true, true, true, true, true, true, true, true, true, true, true, true, true, true, true, true, true, false, false, false, false, false, false, false, false, false, false] rfl rfl (zb HT_.out (by kernel_rfl)) (fun _ _ _ h => h) (Or.inl ⟨by rfl, ?_⟩) ?_ ?_;rotate_left
                             ·intro w'
                              go_simp;with_reducible rfl
                             rotate_left
                             ·simp only [Act.put, Zs1, Zs2, Zs3, ze, zf]
                              rfl
                             refine zi (i := 20) (N := some 150) (v := ?_) (a' := ?_) #[true, true, true, true, true, true, true, true, true, true, true, true, true, true, true, true, true, true, true, true, true, false, false, false, false, false, false, false, false, false] rfl rfl (zb HT_.out (by kernel_rfl)) (fun _ _ _ h => h) (Or.inl ⟨by rfl, ?_⟩) ?_ ?_;rotate_left
                             ·intro w'
                              go_simp;with_reducible rfl
                             rotate_left
                             ·simp only [Act.put, Zs1, Zs2, Zs3, ze, zf]
                              rfl
                             refine zi (i := 21) (N := some 151) (v := ?_) (a' := ?_) #[true, true, true, true, true, true, true, true, true, true, true, true, true, true, true, true, true, true, true, true, true, true, false, false, false, false, false, false, false, false] rfl rfl (zb HT_.out (by kernel_rfl)) (fun _ _ _ h => h) (Or.inl ⟨by rfl, ?_⟩) ?_ ?_;rotate_left
                             ·intro w'
                              go_simp;with_reducible rfl
                             rotate_left
                             ·simp only [Act.put, Zs1, Zs2, Zs3, ze, zf]
                              rfl
                             refine zi (i := 22) (N := some 152) (v := ?_) (a' := ?_) #[true, true, true, true, true, true, true, true, true, true, true, true, true, true, true, true, true, true, true, true, true, true, true, false, false, false, false, false, false, false] rfl rfl (zb HT_.out (by kernel_rfl)) (fun _ _ _ h => h) (Or.inl ⟨by rfl, ?_⟩) ?_ ?_;rotate_left
                             ·intro w'
                              go_simp;with_reducible rfl
                             rotate_left
                             ·simp only [Act.put, Zs1, Zs2, Zs3, ze, zf]
                              rfl
                             refine zi (i := 24) (N := some 154) (v := ?_) (a' := ?_) #[true, true, true, true, true, true, true, true, true, true, true, true, true, true, true, true, true, true, true, true, true, true, true, false, true, false, false, false, false, false] rfl rfl (zb HT_.out (by kernel_rfl)) (fun _ _ _ h => h) (Or.inl ⟨by rfl, ?_⟩) ?_ ?_;rotate_left
                             ·intro w'
                              go_simp;with_reducible rfl
                             rotate_left
                             ·simp only [Act.put, Zs1, Zs2, Zs3, ze, zf]
                              rfl
                             refine zi (i := 25) (N := some 155) (v := ?_) (a' := ?_) #[true, true, true, true, true, true, true, true, true, true, true, true, true, true, true, true, true, true, true, true, true, true, true, false, true, true, false, false, false, false] rfl rfl (zb HT_.out (by kernel_rfl)) (fun _ _ _ h => h) (Or.inl ⟨by rfl, ?_⟩) ?_ ?_;rotate_left
                             ·intro w'
                              go_simp;with_reducible rfl
                             rotate_left
                             ·simp only [Act.put, Zs1, Zs2, Zs3, ze, zf]
                              rfl
                             refine zi (i := 26) (N := some 156) (v := ?_) (a' := ?_) #[true, true, true, true, true, true, true, true, true, true, true, true, true, true, true, true, true, true, true, true, true, true, true, false, true, true, true, false, false, false] rfl rfl (zb HT_.out (by kernel_rfl)) (fun _ _ _ h => h) (Or.inl ⟨by rfl, ?_⟩) ?_ ?_;rotate_left
                             ·intro w'
                              go_simp;with_reducible rfl
                             rotate_left
                             ·simp only [Act.put, Zs1, Zs2, Zs3, ze, zf]
                              rfl
                             refine zb3 (i := 23) (N := some 153) (v := ?_) (a' := ?_) #[true, true, true, true, true, true, true, true, true, true, true, true, true, true, true, true, true, true, true, true, true, true, true, true, true, true, true, false, false, false] rfl rfl (zbf HT_.out HW_.out (by kernel_rfl)) (fun _ _ _ h => h) (Or.inl ⟨by rfl, ?_⟩) hHeld ?_ ?_;rotate_left
                             ·rintro w' ⟨s0, s1, s2, s3⟩
                              go_simp;with_reducible rfl
                             rotate_left
                             ·simp only [Act.put, Zs1, Zs2, Zs3, ze, zf]
                              rfl
                             refine zb3 (i := 27) (N := some 157) (v := ?_) (a' := ?_) #[true, true, true, true, true, true, true, true, true, true, true, true, true, true, true, true, true, true, true, true, true, true, true, true, true, true, true, true, false, false] rfl rfl (zbf HT_.out HW_.out (by kernel_rfl)) (fun _ _ _ h => h) (Or.inl ⟨by rfl, ?_⟩) hHeld ?_ ?_;rotate_left
                             ·rintro w' ⟨s0, s1, s2, s3⟩
                              go_simp;with_reducible rfl
                             rotate_left
                             ·simp only [Act.put, Zs1, Zs2, Zs3, ze, zf]
                              rfl
                             refine zi (i := 28) (N := some 158) (v := ?_) (a' := ?_) #[true, true, true, true, true, true, true, true, true, true, true, true, true, true, true, true, true, true, true, true, true, true, true, true, true, true, true, true, true, false] rfl rfl (zb HT_.out (by kernel_rfl)) (fun _ _ _ h => h) (Or.inl ⟨by rfl, ?_⟩) ?_ ?_;rotate_left
                             ·intro w'
                              go_simp;with_reducible rfl
                             rotate_left
                             ·simp only [Act.put, Zs1, Zs2, Zs3, ze, zf]
                              rfl
                             refine zi (i := 29) (N := some 159) (v := ?_) (a' := ?_) #[true, true, true, true, true, true, true, true, true, true, true, true, true, true, true, true, true, true, true, true, true, true, true, true, true, true, true, true, true, true] rfl rfl (zb HT_.out (by kernel_rfl)) (fun _ _ _ h => h) (Or.inl ⟨by rfl, ?_⟩) ?_ ?_;rotate_left
                             ·intro w'
                              go_simp;with_reducible rfl
                             rotate_left
                             ·simp only [Act.put, Zs1, Zs2, Zs3, ze, zf]
                              rfl
                             refine zeg (zct HT_.out (by kernel_rfl)) ?_
                             try go_wp2
                             go_roundg k5
                             case measure => have := HJ5.out; have := HJ30.out; have := HK3.out; have := HK4.out; have := HK5.out; omega
                             case rel => exact ⟨(y286), (wrap64 (x10_4 + 1)), Zrs, H', ⟨by have := HJ5.out; have := HJ30.out; have := HK3.out; have := HK4.out; have := HK5.out; omega⟩, ⟨by (with_reducible repeat (first | apply Kd.zbb | apply Kd.zba | apply Kd.zu)); exact Kd.zbh HO_3.out (fun _ hk => ⟨hk.2, ⟨hk.1.1, hk.1.2⟩⟩)⟩, ⟨by (with_reducible repeat (first | apply Kd.zbb | apply Kd.zba | apply Kd.zu)); exact Kd.zbh HO_4.out (fun _ hk => ⟨hk.1.1, ⟨hk.2, ⟨hk.1.2.1, ⟨hk.1.2.2.1, ⟨hk.1.2.2.2.1, hk.1.2.2.2.2⟩⟩⟩⟩⟩)⟩, ⟨Zq14 HO_8⟩, ⟨by (with_reducible repeat (first | apply Kd.zbb | apply Kd.zba | apply Kd.zu)); exact Kd.zbh HO_253000.out (fun _ hk => ⟨hk.1.1, ⟨hk.1.2.1, ⟨hk.2, ⟨hk.1.2.2.1, ⟨hk.1.2.2.2.1, hk.1.2.2.2.2⟩⟩⟩⟩⟩)⟩, ⟨by (with_reducible repeat (first | apply Kd.zbb | apply Kd.zba | apply Kd.zu)); exact Kd.zbh HO_253001.out (fun _ hk => ⟨hk.1.1, ⟨hk.2, hk.1.2⟩⟩)⟩, ⟨by (with_reducible repeat (first | apply Kd.zbb | apply Kd.zba | apply Kd.zu)); exact Kd.zbh HO_260000.out (fun _ hk => ⟨hk.1.1, ⟨hk.1.2.1, ⟨hk.2, ⟨hk.1.2.2.1, ⟨hk.1.2.2.2.1, hk.1.2.2.2.2⟩⟩⟩⟩⟩)⟩, ⟨by (with_reducible repeat (first | apply Kd.zbb | apply Kd.zba | apply Kd.zu)); exact Kd.zbh HO_260001.out (fun _ hk => ⟨hk.1.1, ⟨hk.2, hk.1.2⟩⟩)⟩, ⟨Zq2 BK252⟩, ⟨Zq2 BK259⟩, ⟨Zq15 HB GE252 GE259⟩⟩
                          ·rw [if_neg c73] at H
                           exact absurd H (by simp)
                         ·rw [if_neg c71] at H
                          exact absurd H (by simp)
                        ·rw [if_neg c70] at H
                         exact absurd H (by simp)
                    ·rw [if_neg c56] at H
                     exact absurd H (by simp)
                   ·rw [if_neg c55] at H
                    have c55b0 : decide (x10_4 < ((zh t246 x9_3).length : Int)) = false := decide_eq_false c55;clear c55;have H' := za.mk H;clear H;have hnb99 := NB252_259.out;have hnc99 := NB259_252.out;have hcz100_0 : wr.cell? ⟨gb252, 0, none⟩ = some (.slice (some ad276) t246.length co12) := (z8 BK252.out 0).trans rfl;have hcz100_1 : wr.cell? ⟨gb252, 1, none⟩ = some (.slice Ao14 t249.length co14) := (z8 BK252.out 1).trans rfl;have hfz100_0 := zy BK252.out 0;have hfz100_1 := zy BK252.out 1;have p277 : 0 ≤ (x9_3 : Int) := of_decide_eq_true Zas;have q277 : x9_3 < (t246.length : Int) := of_decide_eq_true Zas;obtain ⟨ad277, A277_0, c277_0, e277, hx277_0, hl277_0, hi277_0⟩ := zc6 (Kd.zw HO_253000.out).2.2 x9_3 p277 q277;obtain rfl : ad276 = ad277 := (by injection e277);obtain ⟨ce277, hce277, hMe277, hcc277⟩ := Kd.ze3 HO_253000.out [] x9_3 p277 (by first | exact q277 | exact of_decide_eq_true Zas | (have e_ := (Kd.zw HO_253000.out).1; omega));obtain ⟨ve277_0, rfl, ge277_0⟩ := hMe277;have hv277_0 := hcc277 0 _ rfl;rw [Nat.add_zero, show ((Kd.cut 3 (Kd.int .i64))).sz = 1 from rfl, Nat.mul_one] at hv277_0;replace hv277_0 := Option.some.inj (hv277_0.symm.trans hx277_0);rw [hv277_0] at ge277_0;have HL277_0 := za.mk (show Kd.Qc (Kd.int .i64) 3 _ _ _ _ (zh t246 x9_3) from ge277_0);clear hv277_0 ge277_0;clear hcc277 hce277;have HR277_0 := za.mk hi277_0;have HC277_0 := za.mk hl277_0;clear hi277_0 hl277_0;replace p277 := eq_true p277;replace q277 := eq_true q277;go_wp2;go_roundg k4
                    case measure => have := HJ5.out; have := HJ30.out; have := HK3.out; have := HK4.out; omega
                    case rel => exact ⟨(x8_4), (wrap64 (x9_3 + 1)), Zrs, H', ⟨by have := HJ5.out; have := HJ30.out; have := HK3.out; have := HK4.out; omega⟩, ⟨Zq14 HO_3⟩, ⟨Zq14 HO_4⟩, ⟨Zq14 HO_8⟩, ⟨Zq14 HO_253000⟩, ⟨Zq14 HO_253001⟩, ⟨Zq14 HO_260000⟩, ⟨Zq14 HO_260001⟩, ⟨Zq2 BK252⟩, ⟨Zq2 BK259⟩, ⟨Zq15 HB GE252 GE259⟩⟩
                  ·rw [if_neg c54] at H
                   exact absurd H (by simp)
                 ·rw [if_neg c53] at H
                  exact absurd H (by simp)
             ·rw [if_neg c47] at H
              exact absurd H (by simp)
            ·rw [if_neg c46] at H
             have c46b0 : decide (x9_3 < (t246.length : Int)) = false := decide_eq_false c46;clear c46;replace H := Option.bind_eq_some_iff.mp H;obtain ⟨⟨t267, t270⟩, A1010, H⟩ := H;replace H : ((zbe.f k3 x8_3 t239).bind fun t274 => (if t274 = true then ((zco.f k3 t239 t240).bind fun t275 => (some ((t267.length : Int) == t275))) else (some false))) = some r := H;have A101 := za.mk A1010;clear A1010;replace H := Option.bind_eq_some_iff.mp H;obtain ⟨t274, A1020, H⟩ := H;replace H : (if t274 = true then ((zco.f k3 t239 t240).bind fun t275 => (some ((t267.length : Int) == t275))) else (some false)) = some r := H;have A102 := za.mk A1020;clear A1020;by_cases c103 : t274 = true
             ·subst c103
              have H1 : ((zco.f k3 t239 t240).bind fun t275 => (some ((t267.length : Int) == t275))) = some r := by rw [if_pos rfl] at H; exact H
              clear H;have H := H1;clear H1;replace H := Option.bind_eq_some_iff.mp H;obtain ⟨t275, A1040, H⟩ := H;replace H : (some ((t267.length : Int) == t275)) = some r := H;have A104 := za.mk A1040;clear A1040;obtain rfl := Option.some.inj H;have hnb105 := NB252_259.out;have hnc105 := NB259_252.out;have hcz106_0 : wr.cell? ⟨gb252, 0, none⟩ = some (.slice Ao12 t246.length co12) := (z8 BK252.out 0).trans rfl;have hcz106_1 : wr.cell? ⟨gb252, 1, none⟩ = some (.slice Ao14 t249.length co14) := (z8 BK252.out 1).trans rfl;have hfz106_0 := zy BK252.out 0;have hfz106_1 := zy BK252.out 1
              try go_wp2_with (first | ((with_reducible refine zbd (f := 9) rfl ?_); refine zb7 (some 162) rfl rfl Try.func9 (by kernel_rfl) rfl #[.slice Ao8 t239.length co8, .slice Ao9 t240.length co9, .int .i64 1] rfl Zmt ?_; (with_reducible refine (zbg.calls k3 _ _ t239 _ _ t240 1 t267 t270 _ ?side1 ?side2 ?side3 ?side4 A101.out).mono ?_); (case side1 => exact Zq12 ((Kd.zw HO_3.out).2.2)); (case side2 => exact (Kd.zw HO_3.out).2.1); (case side3 => exact Zq12 ((Kd.zw HO_4.out).2.2)); (case side4 => exact (Kd.zw HO_4.out).2.1); rintro e w107 ⟨v268, v271, rfl, ho0, ho1, hb⟩; replace ho1 := Kd.zbh (ok' := fun _ => True) ho1 (fun _ _ => trivial); refine ⟨_, rfl, ?_⟩; have n0_ := za.mk (Kd.zcu (Zq14 HO_3) (Kd.zcd ho1) hb); have n1_ := za.mk (Kd.zbh (Kd.zdy (Kd.zdy (Kd.zgw (Zq14 HO_4) hb) (Kd.zcd ho0)) (Kd.zcd ho1)) (fun _ h_ => h_.1)); have n2_ := za.mk (Kd.zcu (Zq14 HO_8) (Kd.zcd ho1) hb); have n3_ := za.mk (Kd.zbh (Kd.zdy (Kd.zdy (Kd.zgw (Zq14 HO_253000) hb) (Kd.zcd ho0)) (Kd.zcd ho1)) (fun _ h_ => h_.1)); have n4_ := za.mk (Kd.zcu (Zq14 HO_253001) (Kd.zcd ho1) hb); have n5_ := za.mk (Kd.zbh (Kd.zdy (Kd.zdy (Kd.zgw (Zq14 HO_260000) hb) (Kd.zcd ho0)) (Kd.zcd ho1)) (fun _ h_ => h_.1)); have n6_ := za.mk (Kd.zcu (Zq14 HO_260001) (Kd.zcd ho1) hb); have n7_ := za.mk (Kd.zc9 (Kd.zch (Kd.zch (Kd.zch (Kd.zch (Kd.zch (Kd.zch (Kd.zch ho0 (Kd.zdz (Zq14 HO_3))) (Kd.zdz (Zq14 HO_4))) (Kd.zdz (Zq14 HO_8))) (Kd.zdz (Zq14 HO_253000))) (Kd.zdz (Zq14 HO_253001))) (Kd.zdz (Zq14 HO_260000))) (Kd.zdz (Zq14 HO_260001))) (zbs (Zq15 HB GE252 GE259))); have n8_ := za.mk (Kd.zc9 (Kd.zch (Kd.zch (Kd.zch (Kd.zch ho1 (Kd.zdz (Zq14 HO_3))) (Kd.zdz (Zq14 HO_8))) (Kd.zdz (Zq14 HO_253001))) (Kd.zdz (Zq14 HO_260001))) (zbs (Zq15 HB GE252 GE259))); have n9_ := za.mk (zb1 (g := gb252) (o := .cells #[.slice Ao12 t246.length co12, .slice Ao14 t249.length co14] 28 (0, 0)) (Zq2 BK252) hb); have n10_ := za.mk (zb1 (g := gb259) (o := .cells #[.slice Ao17 t253.length co17, .slice Ao20 t256.length co20] 28 (0, 0)) (Zq2 BK259) hb); have n11_ := za.mk (zbi (Zq15 HB GE252 GE259) hb); clear HO_3; clear HO_4; clear HO_8; clear HO_253000; clear HO_253001; clear HO_260000; clear HO_260001; clear BK252; clear BK259; clear HB; have HO_3 := n0_; have HO_4 := n1_; have HO_8 := n2_; have HO_253000 := n3_; have HO_253001 := n4_; have HO_260000 := n5_; have HO_260001 := n6_; have HO269 := n7_; have HO272 := n8_; have BK252 := n9_; have BK259 := n10_; have HB := n11_; clear n0_ n1_ n2_ n3_ n4_ n5_ n6_ n7_ n8_ n9_ n10_ n11_; (try clear hb); (try clear hb2); (try clear hk); (try clear hi); (try clear ho0); (try clear ho1)) | ((with_reducible refine zb8 (N := 13) rfl ?_); (try (refine zca (by rfl) ?_; dsimp only)); refine zdu ?hg (N := 13) ?hd (cs := #[.slice none 0 0, .slice none 0 0]) (t := 28) ?hr ?_; (case hd => rfl); (case hg => rfl); (case hr => first | (go_simp; done) | (go_simp; rfl)); intro gb273 hg w108 hbox hb; have n0_ := za.mk (Kd.zbt (Zq14 HO_3) hb); have n1_ := za.mk (Kd.zbt (Zq14 HO_4) hb); have n2_ := za.mk (Kd.zbt (Zq14 HO_8) hb); have n3_ := za.mk (Kd.zbt (Zq14 HO_253000) hb); have n4_ := za.mk (Kd.zbt (Zq14 HO_253001) hb); have n5_ := za.mk (Kd.zbt (Zq14 HO_260000) hb); have n6_ := za.mk (Kd.zbt (Zq14 HO_260001) hb); have n7_ := za.mk (Kd.zbt (Zq14 HO269) hb); have n8_ := za.mk (Kd.zbt (Zq14 HO272) hb); have n9_ := za.mk (zb1 (g := gb252) (o := .cells #[.slice Ao12 t246.length co12, .slice Ao14 t249.length co14] 28 (0, 0)) (Zq2 BK252) hb); have n10_ := za.mk (zb1 (g := gb259) (o := .cells #[.slice Ao17 t253.length co17, .slice Ao20 t256.length co20] 28 (0, 0)) (Zq2 BK259) hb); have n11_ := za.mk (zbi (Zq15 HB GE252 GE259) hb); have n12_ := za.mk (hbox); have n13_ := za.mk ((by rw [hg]; exact (zbs (Zq15 HB GE252 GE259)) : w.heap.size ≤ gb273)); have n14_ := za.mk ((by rw [hg]; exact (zbs (Zq15 HB GE252 GE259)) : w.heap.size ≤ gb273)); have n15_ := za.mk ((by rw [hg]; exact Nat.ne_of_lt (zer (g := gb252) (o := .cells #[.slice Ao12 t246.length co12, .slice Ao14 t249.length co14] 28 (0, 0)) (Zq2 BK252)) : gb252 ≠ gb273)); have n16_ := za.mk ((by rw [hg]; exact Nat.ne_of_gt (zer (g := gb252) (o := .cells #[.slice Ao12 t246.length co12, .slice Ao14 t249.length co14] 28 (0, 0)) (Zq2 BK252)) : gb273 ≠ gb252)); have n17_ := za.mk ((by rw [hg]; exact Nat.ne_of_lt (zer (g := gb259) (o := .cells #[.slice Ao17 t253.length co17, .slice Ao20 t256.length co20] 28 (0, 0)) (Zq2 BK259)) : gb259 ≠ gb273)); have n18_ := za.mk ((by rw [hg]; exact Nat.ne_of_gt (zer (g := gb259) (o := .cells #[.slice Ao17 t253.length co17, .slice Ao20 t256.length co20] 28 (0, 0)) (Zq2 BK259)) : gb273 ≠ gb259)); clear HO_3; clear HO_4; clear HO_8; clear HO_253000; clear HO_253001; clear HO_260000; clear HO_260001; clear HO269; clear HO272; clear BK252; clear BK259; clear HB; have HO_3 := n0_; have HO_4 := n1_; have HO_8 := n2_; have HO_253000 := n3_; have HO_253001 := n4_; have HO_260000 := n5_; have HO_260001 := n6_; have HO269 := n7_; have HO272 := n8_; have BK252 := n9_; have BK259 := n10_; have HB := n11_; have BK273 := n12_; have GW273 := n13_; have GE273 := n14_; have NB252_273 := n15_; have NB273_252 := n16_; have NB259_273 := n17_; have NB273_259 := n18_; clear n0_ n1_ n2_ n3_ n4_ n5_ n6_ n7_ n8_ n9_ n10_ n11_ n12_ n13_ n14_ n15_ n16_ n17_ n18_; clear hb hbox hg; obtain ⟨Ao109, co109, eo109⟩ := Kd.zde HO269.out; subst eo109; have hnb110 := NB273_252.out; have hnc110 := NB252_273.out; have hnb111 := NB273_259.out; have hnc111 := NB259_273.out; have hcz112_0 : w108.cell? ⟨gb273, 0, none⟩ = some (.slice none 0 0) := (z8 BK273.out 0).trans rfl; have hcz112_1 : w108.cell? ⟨gb273, 1, none⟩ = some (.slice none 0 0) := (z8 BK273.out 1).trans rfl; have hfz112_0 := zy BK273.out 0; have hfz112_1 := zy BK273.out 1; obtain ⟨Ao113, co113, eo113⟩ := Kd.zde HO272.out; subst eo113))
              have n0_ : za (Kd.Qc (Kd.int .i64) 3 ((w108.setCell ⟨gb273, 0, none⟩ (.slice Ao109 t267.length co109)).setCell ⟨gb273, 1, none⟩ (.slice Ao113 t270.length co113)) w.heap.size (fun k_ => some k_ ≠ (v265 : Value).ownBlock ∧ some k_ ≠ (.slice Ao14 t249.length co14 : Value).ownBlock ∧ some k_ ≠ (.slice Ao20 t256.length co20 : Value).ownBlock ∧ some k_ ≠ (.slice Ao113 t270.length co113 : Value).ownBlock) (.slice Ao8 t239.length co8) t239) := ⟨by (with_reducible repeat (first | apply Kd.zbb | apply Kd.zba | apply Kd.zu)); exact Kd.zbh (Kd.zbm (p := ⟨gb273, 1, none⟩) (Kd.zbm (p := ⟨gb273, 0, none⟩) (Kd.zbu HO_3.out BK273.out (by decide)) (fun _ hk => hk.2) (.slice Ao109 t267.length co109)) (fun _ hk => hk.2) (.slice Ao113 t270.length co113)) (fun _ hk => ⟨hk.1.1.1, ⟨hk.1.1.2.1, ⟨hk.1.1.2.2, hk.1.2⟩⟩⟩)⟩;have n1_ : za (Kd.Qc (Kd.cut 3 (Kd.int .i64)) 23 ((w108.setCell ⟨gb273, 0, none⟩ (.slice Ao109 t267.length co109)).setCell ⟨gb273, 1, none⟩ (.slice Ao113 t270.length co113)) w.heap.size (fun k_ => some k_ ≠ (.slice Ao8 t239.length co8 : Value).ownBlock ∧ some k_ ≠ (v265 : Value).ownBlock ∧ some k_ ≠ (.slice Ao12 t246.length co12 : Value).ownBlock ∧ some k_ ≠ (.slice Ao14 t249.length co14 : Value).ownBlock ∧ some k_ ≠ (.slice Ao17 t253.length co17 : Value).ownBlock ∧ some k_ ≠ (.slice Ao20 t256.length co20 : Value).ownBlock ∧ some k_ ≠ (.slice Ao109 t267.length co109 : Value).ownBlock ∧ some k_ ≠ (.slice Ao113 t270.length co113 : Value).ownBlock) (.slice Ao9 t240.length co9) t240) := ⟨by (with_reducible repeat (first | apply Kd.zbb | apply Kd.zba | apply Kd.zu)); exact Kd.zbh (Kd.zbm (p := ⟨gb273, 1, none⟩) (Kd.zbm (p := ⟨gb273, 0, none⟩) (Kd.zbu HO_4.out BK273.out (by decide)) (fun _ hk => hk.2) (.slice Ao109 t267.length co109)) (fun _ hk => hk.2) (.slice Ao113 t270.length co113)) (fun _ hk => ⟨hk.1.1.1.1, ⟨hk.1.1.1.2.1, ⟨hk.1.1.1.2.2.1, ⟨hk.1.1.1.2.2.2.1, ⟨hk.1.1.1.2.2.2.2.1, ⟨hk.1.1.1.2.2.2.2.2, ⟨hk.1.1.2, hk.1.2⟩⟩⟩⟩⟩⟩⟩)⟩;have n2_ : za (Kd.Qc (Kd.int .i64) 3 ((w108.setCell ⟨gb273, 0, none⟩ (.slice Ao109 t267.length co109)).setCell ⟨gb273, 1, none⟩ (.slice Ao113 t270.length co113)) w.heap.size (fun k_ => some k_ ≠ (.slice Ao8 t239.length co8 : Value).ownBlock ∧ some k_ ≠ (.slice Ao14 t249.length co14 : Value).ownBlock ∧ some k_ ≠ (.slice Ao20 t256.length co20 : Value).ownBlock ∧ some k_ ≠ (.slice Ao113 t270.length co113 : Value).ownBlock) v265 x8_3) := ⟨by (with_reducible repeat (first | apply Kd.zbb | apply Kd.zba | apply Kd.zu)); exact Kd.zbh (Kd.zbm (p := ⟨gb273, 1, none⟩) (Kd.zbm (p := ⟨gb273, 0, none⟩) (Kd.zbu HO_8.out BK273.out (by decide)) (fun _ hk => hk.2) (.slice Ao109 t267.length co109)) (fun _ hk => hk.2) (.slice Ao113 t270.length co113)) (fun _ hk => ⟨hk.1.1.1, ⟨hk.1.1.2.1, ⟨hk.1.1.2.2, hk.1.2⟩⟩⟩)⟩;have n3_ : za (Kd.Qc (Kd.cut 3 (Kd.int .i64)) 23 ((w108.setCell ⟨gb273, 0, none⟩ (.slice Ao109 t267.length co109)).setCell ⟨gb273, 1, none⟩ (.slice Ao113 t270.length co113)) w.heap.size (fun k_ => some k_ ≠ (.slice Ao8 t239.length co8 : Value).ownBlock ∧ some k_ ≠ (.slice Ao9 t240.length co9 : Value).ownBlock ∧ some k_ ≠ (v265 : Value).ownBlock ∧ some k_ ≠ (.slice Ao14 t249.length co14 : Value).ownBlock ∧ some k_ ≠ (.slice Ao17 t253.length co17 : Value).ownBlock ∧ some k_ ≠ (.slice Ao20 t256.length co20 : Value).ownBlock ∧ some k_ ≠ (.slice Ao109 t267.length co109 : Value).ownBlock ∧ some k_ ≠ (.slice Ao113 t270.length co113 : Value).ownBlock) (.slice Ao12 t246.length co12) t246) := ⟨by (with_reducible repeat (first | apply Kd.zbb | apply Kd.zba | apply Kd.zu)); exact Kd.zbh (Kd.zbm (p := ⟨gb273, 1, none⟩) (Kd.zbm (p := ⟨gb273, 0, none⟩) (Kd.zbu HO_253000.out BK273.out (by decide)) (fun _ hk => hk.2) (.slice Ao109 t267.length co109)) (fun _ hk => hk.2) (.slice Ao113 t270.length co113)) (fun _ hk => ⟨hk.1.1.1.1, ⟨hk.1.1.1.2.1, ⟨hk.1.1.1.2.2.1, ⟨hk.1.1.1.2.2.2.1, ⟨hk.1.1.1.2.2.2.2.1, ⟨hk.1.1.1.2.2.2.2.2, ⟨hk.1.1.2, hk.1.2⟩⟩⟩⟩⟩⟩⟩)⟩;have n4_ : za (Kd.Qc (Kd.int .i64) 3 ((w108.setCell ⟨gb273, 0, none⟩ (.slice Ao109 t267.length co109)).setCell ⟨gb273, 1, none⟩ (.slice Ao113 t270.length co113)) w.heap.size (fun k_ => some k_ ≠ (.slice Ao8 t239.length co8 : Value).ownBlock ∧ some k_ ≠ (v265 : Value).ownBlock ∧ some k_ ≠ (.slice Ao20 t256.length co20 : Value).ownBlock ∧ some k_ ≠ (.slice Ao113 t270.length co113 : Value).ownBlock) (.slice Ao14 t249.length co14) t249) := ⟨by (with_reducible repeat (first | apply Kd.zbb | apply Kd.zba | apply Kd.zu)); exact Kd.zbh (Kd.zbm (p := ⟨gb273, 1, none⟩) (Kd.zbm (p := ⟨gb273, 0, none⟩) (Kd.zbu HO_253001.out BK273.out (by decide)) (fun _ hk => hk.2) (.slice Ao109 t267.length co109)) (fun _ hk => hk.2) (.slice Ao113 t270.length co113)) (fun _ hk => ⟨hk.1.1.1, ⟨hk.1.1.2.1, ⟨hk.1.1.2.2, hk.1.2⟩⟩⟩)⟩
              have n5_ : za (Kd.Qc (Kd.cut 3 (Kd.int .i64)) 23 ((w108.setCell ⟨gb273, 0, none⟩ (.slice Ao109 t267.length co109)).setCell ⟨gb273, 1, none⟩ (.slice Ao113 t270.length co113)) w.heap.size (fun k_ => some k_ ≠ (.slice Ao8 t239.length co8 : Value).ownBlock ∧ some k_ ≠ (.slice Ao9 t240.length co9 : Value).ownBlock ∧ some k_ ≠ (v265 : Value).ownBlock ∧ some k_ ≠ (.slice Ao12 t246.length co12 : Value).ownBlock ∧ some k_ ≠ (.slice Ao14 t249.length co14 : Value).ownBlock ∧ some k_ ≠ (.slice Ao20 t256.length co20 : Value).ownBlock ∧ some k_ ≠ (.slice Ao109 t267.length co109 : Value).ownBlock ∧ some k_ ≠ (.slice Ao113 t270.length co113 : Value).ownBlock) (.slice Ao17 t253.length co17) t253) := ⟨by (with_reducible repeat (first | apply Kd.zbb | apply Kd.zba | apply Kd.zu)); exact Kd.zbh (Kd.zbm (p := ⟨gb273, 1, none⟩) (Kd.zbm (p := ⟨gb273, 0, none⟩) (Kd.zbu HO_260000.out BK273.out (by decide)) (fun _ hk => hk.2) (.slice Ao109 t267.length co109)) (fun _ hk => hk.2) (.slice Ao113 t270.length co113)) (fun _ hk => ⟨hk.1.1.1.1, ⟨hk.1.1.1.2.1, ⟨hk.1.1.1.2.2.1, ⟨hk.1.1.1.2.2.2.1, ⟨hk.1.1.1.2.2.2.2.1, ⟨hk.1.1.1.2.2.2.2.2, ⟨hk.1.1.2, hk.1.2⟩⟩⟩⟩⟩⟩⟩)⟩;have n6_ : za (Kd.Qc (Kd.int .i64) 3 ((w108.setCell ⟨gb273, 0, none⟩ (.slice Ao109 t267.length co109)).setCell ⟨gb273, 1, none⟩ (.slice Ao113 t270.length co113)) w.heap.size (fun k_ => some k_ ≠ (.slice Ao8 t239.length co8 : Value).ownBlock ∧ some k_ ≠ (v265 : Value).ownBlock ∧ some k_ ≠ (.slice Ao14 t249.length co14 : Value).ownBlock ∧ some k_ ≠ (.slice Ao113 t270.length co113 : Value).ownBlock) (.slice Ao20 t256.length co20) t256) := ⟨by (with_reducible repeat (first | apply Kd.zbb | apply Kd.zba | apply Kd.zu)); exact Kd.zbh (Kd.zbm (p := ⟨gb273, 1, none⟩) (Kd.zbm (p := ⟨gb273, 0, none⟩) (Kd.zbu HO_260001.out BK273.out (by decide)) (fun _ hk => hk.2) (.slice Ao109 t267.length co109)) (fun _ hk => hk.2) (.slice Ao113 t270.length co113)) (fun _ hk => ⟨hk.1.1.1, ⟨hk.1.1.2.1, ⟨hk.1.1.2.2, hk.1.2⟩⟩⟩)⟩;have n7_ : za (Kd.Qc (Kd.cut 3 (Kd.int .i64)) 23 ((w108.setCell ⟨gb273, 0, none⟩ (.slice Ao109 t267.length co109)).setCell ⟨gb273, 1, none⟩ (.slice Ao113 t270.length co113)) w.heap.size (fun k_ => some k_ ≠ (.slice Ao8 t239.length co8 : Value).ownBlock ∧ some k_ ≠ (.slice Ao9 t240.length co9 : Value).ownBlock ∧ some k_ ≠ (v265 : Value).ownBlock ∧ some k_ ≠ (.slice Ao12 t246.length co12 : Value).ownBlock ∧ some k_ ≠ (.slice Ao14 t249.length co14 : Value).ownBlock ∧ some k_ ≠ (.slice Ao17 t253.length co17 : Value).ownBlock ∧ some k_ ≠ (.slice Ao20 t256.length co20 : Value).ownBlock ∧ some k_ ≠ (.slice Ao113 t270.length co113 : Value).ownBlock) (.slice Ao109 t267.length co109) t267) := ⟨by (with_reducible repeat (first | apply Kd.zbb | apply Kd.zba | apply Kd.zu)); exact Kd.zbh (Kd.zbm (p := ⟨gb273, 1, none⟩) (Kd.zbm (p := ⟨gb273, 0, none⟩) (Kd.zbu HO269.out BK273.out (by decide)) (fun _ hk => hk.2) (.slice Ao109 t267.length co109)) (fun _ hk => hk.2) (.slice Ao113 t270.length co113)) (fun _ hk => ⟨hk.1.1.1.1.1.1.1.2, ⟨hk.1.1.1.1.1.1.2, ⟨hk.1.1.1.1.1.2, ⟨hk.1.1.1.1.2, ⟨hk.1.1.1.2, ⟨hk.1.1.2, ⟨hk.1.2, hk.1.1.1.1.1.1.1.1⟩⟩⟩⟩⟩⟩⟩)⟩;have n8_ : za (Kd.Qc (Kd.int .i64) 3 ((w108.setCell ⟨gb273, 0, none⟩ (.slice Ao109 t267.length co109)).setCell ⟨gb273, 1, none⟩ (.slice Ao113 t270.length co113)) w.heap.size (fun k_ => some k_ ≠ (.slice Ao8 t239.length co8 : Value).ownBlock ∧ some k_ ≠ (v265 : Value).ownBlock ∧ some k_ ≠ (.slice Ao14 t249.length co14 : Value).ownBlock ∧ some k_ ≠ (.slice Ao20 t256.length co20 : Value).ownBlock) (.slice Ao113 t270.length co113) t270) := ⟨by (with_reducible repeat (first | apply Kd.zbb | apply Kd.zba | apply Kd.zu)); exact Kd.zbh (Kd.zbm (p := ⟨gb273, 1, none⟩) (Kd.zbm (p := ⟨gb273, 0, none⟩) (Kd.zbu HO272.out BK273.out (by decide)) (fun _ hk => hk.2) (.slice Ao109 t267.length co109)) (fun _ hk => hk.2) (.slice Ao113 t270.length co113)) (fun _ hk => ⟨hk.1.1.1.1.2, ⟨hk.1.1.1.2, ⟨hk.1.1.2, hk.1.2⟩⟩⟩)⟩;have n9_ : za (((w108.setCell ⟨gb273, 0, none⟩ (.slice Ao109 t267.length co109)).setCell ⟨gb273, 1, none⟩ (.slice Ao113 t270.length co113)).heap[gb252]? = some (.cells #[.slice Ao12 t246.length co12, .slice Ao14 t249.length co14] 28 (0, 0))) := ⟨by (with_reducible repeat (first | refine zbw ?_ _ | refine zbv ?_ | refine zb0 ?_ _)); refine zem ?_ NB252_273.out _; (with_reducible repeat (first | refine zbw ?_ _ | refine zbv ?_ | refine zb0 ?_ _)); refine zem ?_ NB252_273.out _; (with_reducible repeat (first | refine zbw ?_ _ | refine zbv ?_ | refine zb0 ?_ _)); exact BK252.out⟩;have n10_ : za (((w108.setCell ⟨gb273, 0, none⟩ (.slice Ao109 t267.length co109)).setCell ⟨gb273, 1, none⟩ (.slice Ao113 t270.length co113)).heap[gb259]? = some (.cells #[.slice Ao17 t253.length co17, .slice Ao20 t256.length co20] 28 (0, 0))) := ⟨by (with_reducible repeat (first | refine zbw ?_ _ | refine zbv ?_ | refine zb0 ?_ _)); refine zem ?_ NB259_273.out _; (with_reducible repeat (first | refine zbw ?_ _ | refine zbv ?_ | refine zb0 ?_ _)); refine zem ?_ NB259_273.out _; (with_reducible repeat (first | refine zbw ?_ _ | refine zbv ?_ | refine zb0 ?_ _)); exact BK259.out⟩
              have n11_ : za (((w108.setCell ⟨gb273, 0, none⟩ (.slice Ao109 t267.length co109)).setCell ⟨gb273, 1, none⟩ (.slice Ao113 t270.length co113)).heap[gb273]? = some (.cells #[.slice Ao109 t267.length co109, .slice Ao113 t270.length co113] 28 (0, 0))) := ⟨by (with_reducible repeat (first | refine zbw ?_ _ | refine zbv ?_ | refine zb0 ?_ _)); refine zcr (cs := #[.slice Ao109 t267.length co109, .slice none 0 0]) ?_ 1 _ rfl; (with_reducible repeat (first | refine zbw ?_ _ | refine zbv ?_ | refine zb0 ?_ _)); refine zcr (cs := #[.slice none 0 0, .slice none 0 0]) ?_ 0 _ rfl; (with_reducible repeat (first | refine zbw ?_ _ | refine zbv ?_ | refine zb0 ?_ _)); exact BK273.out⟩;have n12_ : za (Below w.heap.size w ((w108.setCell ⟨gb273, 0, none⟩ (.slice Ao109 t267.length co109)).setCell ⟨gb273, 1, none⟩ (.slice Ao113 t270.length co113))) := ⟨Zq16 HB GE252 GE259 GE273⟩;(try clear HO_3);(try clear HO_4);(try clear HO_8);(try clear HO_253000);(try clear HO_253001);(try clear HO_260000);(try clear HO_260001);(try clear HO269);(try clear HO272);(try clear BK252);(try clear BK259);(try clear BK273);(try clear HB);generalize ((w108.setCell ⟨gb273, 0, none⟩ (.slice Ao109 t267.length co109)).setCell ⟨gb273, 1, none⟩ (.slice Ao113 t270.length co113)) = w114 at n0_ n1_ n2_ n3_ n4_ n5_ n6_ n7_ n8_ n9_ n10_ n11_ n12_ ⊢;have HO_3 := n0_;have HO_4 := n1_;have HO_8 := n2_;have HO_253000 := n3_;have HO_253001 := n4_;have HO_260000 := n5_;have HO_260001 := n6_;have HO269 := n7_;have HO272 := n8_;have BK252 := n9_;have BK259 := n10_;have BK273 := n11_;have HB := n12_;clear n0_ n1_ n2_ n3_ n4_ n5_ n6_ n7_ n8_ n9_ n10_ n11_ n12_;have n0_ := za.mk (Kd.zu HO_3.out);have n1_ := za.mk (Kd.zu HO_4.out);have n2_ := za.mk (Kd.zu HO_8.out);have n3_ := za.mk (Kd.zu HO_253000.out);have n4_ := za.mk (Kd.zu HO_253001.out);have n5_ := za.mk (Kd.zu HO_260000.out);have n6_ := za.mk (Kd.zu HO_260001.out);have n7_ := za.mk (Kd.zu HO269.out);have n8_ := za.mk (Kd.zu HO272.out);have n9_ := za.mk (zbv BK252.out);have n10_ := za.mk (zbv BK259.out);have n11_ := za.mk (zbv BK273.out);have n12_ := za.mk (zbr HB.out);clear HO_3;clear HO_4;clear HO_8;clear HO_253000;clear HO_253001;clear HO_260000;clear HO_260001;clear HO269;clear HO272;clear BK252;clear BK259;clear BK273;clear HB;have HO_3 := n0_;have HO_4 := n1_;have HO_8 := n2_;have HO_253000 := n3_;have HO_253001 := n4_;have HO_260000 := n5_;have HO_260001 := n6_;have HO269 := n7_;have HO272 := n8_;have BK252 := n9_;have BK259 := n10_;have BK273 := n11_;have HB := n12_;clear n0_ n1_ n2_ n3_ n4_ n5_ n6_ n7_ n8_ n9_ n10_ n11_ n12_;obtain ⟨Ao116, co116, eo116⟩ := Kd.zde HO_8.out;(first | subst eo116 | (injection eo116 with f1_ f2_ f3_; have f4_ := f1_.symm; have f5_ := f3_.symm; clear f1_ f2_ f3_; subst f4_; subst f5_));refine zdl (n := 13) (S := fun w' => w'.cell? ⟨gb273, 0, none⟩ = some (.slice Ao109 t267.length co109) ∧ w'.cell? ⟨gb273, 1, none⟩ = some (.slice Ao113 t270.length co113)) (ds := []) #[false, false, false, false, false, false, false, false, false, false, false, false, false] (by kernel_rfl) rfl rfl ⟨(z8 BK273.out 0).trans rfl, (z8 BK273.out 1).trans rfl⟩ (fun hHeld => ?_); refine zb9 laws_FnRunGraph.tab29 laws_FnRunGraph.bits29 (fun HT_ HW_ => ?_);generalize w114.drew = w115 at HO_3 HO_4 HO_8 HO_253000 HO_253001 HO_260000 HO_260001 HO269 HO272 BK252 BK259 BK273 HB hHeld ⊢;refine zi (i := 0) (N := some 163) (v := ?_) (a' := ?_) #[true, false, false, false, false, false, false, false, false, false, false, false, false] rfl rfl (zb HT_.out (by kernel_rfl)) (fun _ _ _ h => h) (Or.inl ⟨by rfl, ?_⟩) ?_ ?_;rotate_left
              ·intro w'
               go_simp;with_reducible rfl
              rotate_left
              ·simp only [Act.put, Zs1, Zs2, Zs3, ze, zf]
               rfl
              refine zi (i := 1) (N := some 164) (v := ?_) (a' := ?_) #[true, true, false, false, false, false, false, false, false, false, false, false, false] rfl rfl (zb HT_.out (by kernel_rfl)) (fun _ _ _ h => h) (Or.inl ⟨by rfl, ?_⟩) ?_ ?_;rotate_left
              ·intro w'
               go_simp;with_reducible rfl
              rotate_left
              ·simp only [Act.put, Zs1, Zs2, Zs3, ze, zf]
               rfl
              refine one_ (i := 2) (N := some 165) #[true, true, true, false, false, false, false, false, false, false, false, false, false] rfl rfl (zdb HT_.out (by kernel_rfl)) (by decide) (fun K hK => ?_);refine ze4 Try.func12 (by kernel_rfl) rfl #[.slice Ao116 x8_3.length co116, .slice Ao8 t239.length co8] (by rfl) rfl rfl Zmt ?_;with_reducible refine (zbe.calls k3 _ _ x8_3 _ _ t239 true _ ?side1 ?side2 ?side3 ?side4 A102.out).mono ?_
              (case side1 => exact Zq12 ((Kd.zw HO_8.out).2.2));(case side2 => exact (Kd.zw HO_8.out).2.1);(case side3 => exact Zq12 ((Kd.zw HO_3.out).2.2));(case side4 => exact (Kd.zw HO_3.out).2.1);rintro e w' ⟨rfl, ⟨nd, rfl⟩⟩;refine ⟨_, rfl, ?_⟩;refine hK.out _ _ ⟨(z8 BK273.out 0).trans rfl, (z8 BK273.out 1).trans rfl⟩ (fun hHeld => ?_);clear hK K;refine zeu (a' := ?_) ?_ ?_;rotate_left
              ·show Act.put _ (some 165) _ = _
               simp only [Act.put, Zs1, Zs2, Zs3, ze, zf];rfl
              refine zi (i := 3) (N := some 166) (v := ?_) (a' := ?_) #[true, true, true, true, false, false, false, false, false, false, false, false, false] rfl rfl (zb HT_.out (by kernel_rfl)) (fun _ _ _ h => h) (Or.inl ⟨by rfl, ?_⟩) ?_ ?_;rotate_left
              ·intro w'
               go_simp;with_reducible rfl
              rotate_left
              ·simp only [Act.put, Zs1, Zs2, Zs3, ze, zf]
               rfl
              refine zi (i := 4) (N := some 167) (v := ?_) (a' := ?_) #[true, true, true, true, true, false, false, false, false, false, false, false, false] rfl rfl (zb HT_.out (by kernel_rfl)) (fun _ _ _ h => h) (Or.inl ⟨by rfl, ?_⟩) ?_ ?_;rotate_left
              ·intro w'
               go_simp;with_reducible rfl
              rotate_left
              ·simp only [Act.put, Zs1, Zs2, Zs3, ze, zf]
               rfl
              refine zi (i := 7) (N := some 170) (v := ?_) (a' := ?_) #[true, true, true, true, true, false, false, true, false, false, false, false, false] rfl rfl (zb HT_.out (by kernel_rfl)) (fun _ _ _ h => h) (Or.inl ⟨by rfl, ?_⟩) ?_ ?_;rotate_left
              ·intro w'
               go_simp;with_reducible rfl
              rotate_left
              ·simp only [Act.put, Zs1, Zs2, Zs3, ze, zf]
               rfl
              refine zi (i := 8) (N := some 171) (v := ?_) (a' := ?_) #[true, true, true, true, true, false, false, true, true, false, false, false, false] rfl rfl (zb HT_.out (by kernel_rfl)) (fun _ _ _ h => h) (Or.inl ⟨by rfl, ?_⟩) ?_ ?_;rotate_left
              ·intro w'
               go_simp;with_reducible rfl
              rotate_left
              ·simp only [Act.put, Zs1, Zs2, Zs3, ze, zf]
               rfl
              refine zb3 (i := 5) (N := some 168) (v := ?_) (a' := ?_) #[true, true, true, true, true, true, false, true, true, false, false, false, false] rfl rfl (zbf HT_.out HW_.out (by kernel_rfl)) (fun _ _ _ h => h) (Or.inl ⟨by rfl, ?_⟩) hHeld ?_ ?_;rotate_left
              ·rintro w' ⟨s0, s1⟩
               go_simp;with_reducible rfl
              rotate_left
              ·simp only [Act.put, Zs1, Zs2, Zs3, ze, zf]
               rfl
              refine zi (i := 6) (N := some 169) (v := ?_) (a' := ?_) #[true, true, true, true, true, true, true, true, true, false, false, false, false] rfl rfl (zb HT_.out (by kernel_rfl)) (fun _ _ _ h => h) (Or.inl ⟨by rfl, ?_⟩) ?_ ?_;rotate_left
              ·intro w'
               go_simp;with_reducible rfl
              rotate_left
              ·simp only [Act.put, Zs1, Zs2, Zs3, ze, zf]
               rfl
              refine one_ (i := 9) (N := some 172) #[true, true, true, true, true, true, true, true, true, true, false, false, false] rfl rfl (zdb HT_.out (by kernel_rfl)) (by decide) (fun K hK => ?_);refine ze4 Try.func15 (by kernel_rfl) rfl #[.slice Ao8 t239.length co8, .slice Ao9 t240.length co9] (by rfl) rfl rfl Zmt ?_;with_reducible refine (zco.calls k3 _ _ t239 _ _ t240 t275 _ ?side1 ?side2 ?side3 ?side4 A104.out).mono ?_
              (case side1 => exact Zq12 ((Kd.zw HO_3.out).2.2));(case side2 => exact (Kd.zw HO_3.out).2.1);(case side3 => exact Zq12 ((Kd.zw HO_4.out).2.2));(case side4 => exact (Kd.zw HO_4.out).2.1);rintro e w117 ⟨rfl, hb⟩;refine ⟨_, rfl, ?_⟩;have n0_ := za.mk (Kd.zbt (Zq14 HO_3) hb);have n1_ := za.mk (Kd.zbt (Zq14 HO_4) hb);have n2_ := za.mk (Kd.zbt (Zq14 HO_8) hb);have n3_ := za.mk (Kd.zbt (Zq14 HO_253000) hb);have n4_ := za.mk (Kd.zbt (Zq14 HO_253001) hb);have n5_ := za.mk (Kd.zbt (Zq14 HO_260000) hb);have n6_ := za.mk (Kd.zbt (Zq14 HO_260001) hb);have n7_ := za.mk (Kd.zbt (Zq14 HO269) hb);have n8_ := za.mk (Kd.zbt (Zq14 HO272) hb);have n9_ := za.mk (zb1 (g := gb252) (o := .cells #[.slice Ao12 t246.length co12, .slice Ao14 t249.length co14] 28 (0, 0)) (Zq2 BK252) hb);have n10_ := za.mk (zb1 (g := gb259) (o := .cells #[.slice Ao17 t253.length co17, .slice Ao20 t256.length co20] 28 (0, 0)) (Zq2 BK259) hb);have n11_ := za.mk (zb1 (g := gb273) (o := .cells #[.slice Ao109 t267.length co109, .slice Ao113 t270.length co113] 28 (0, 0)) (Zq2 BK273) hb);have n12_ := za.mk (zbi (Zq16 HB GE252 GE259 GE273) hb);clear HO_3;clear HO_4;clear HO_8;clear HO_253000;clear HO_253001;clear HO_260000;clear HO_260001;clear HO269;clear HO272;clear BK252;clear BK259;clear BK273;clear HB;have HO_3 := n0_;have HO_4 := n1_;have HO_8 := n2_;have HO_253000 := n3_;have HO_253001 := n4_;have HO_260000 := n5_;have HO_260001 := n6_;have HO269 := n7_;have HO272 := n8_;have BK252 := n9_;have BK259 := n10_;have BK273 := n11_;have HB := n12_;clear n0_ n1_ n2_ n3_ n4_ n5_ n6_ n7_ n8_ n9_ n10_ n11_ n12_;(try clear hb);(try clear hb2);(try clear hk);(try clear hi);refine hK.out _ _ ⟨(z8 BK273.out 0).trans rfl, (z8 BK273.out 1).trans rfl⟩ (fun hHeld => ?_);clear hK K;refine zeu (a' := ?_) ?_ ?_;rotate_left
              ·show Act.put _ (some 172) _ = _
               simp only [Act.put, Zs1, Zs2, Zs3, ze, zf];rfl
              refine zi (i := 10) (N := some 173) (v := ?_) (a' := ?_) #[true, true, true, true, true, true, true, true, true, true, true, false, false] rfl rfl (zb HT_.out (by kernel_rfl)) (fun _ _ _ h => h) (Or.inl ⟨by rfl, ?_⟩) ?_ ?_;rotate_left
              ·intro w'
               go_simp;with_reducible rfl
              rotate_left
              ·simp only [Act.put, Zs1, Zs2, Zs3, ze, zf]
               rfl
              refine zi (i := 11) (N := some 174) (v := ?_) (a' := ?_) #[true, true, true, true, true, true, true, true, true, true, true, true, false] rfl rfl (zb HT_.out (by kernel_rfl)) (fun _ _ _ h => h) (Or.inl ⟨by rfl, ?_⟩) ?_ ?_;rotate_left
              ·intro w'
               go_simp;with_reducible rfl
              rotate_left
              ·simp only [Act.put, Zs1, Zs2, Zs3, ze, zf]
               rfl
              refine zi (i := 12) (N := some 2) (v := ?_) (a' := ?_) #[true, true, true, true, true, true, true, true, true, true, true, true, true] rfl rfl (zb HT_.out (by kernel_rfl)) (fun _ _ _ h => h) (Or.inl ⟨by rfl, ?_⟩) ?_ ?_;rotate_left
              ·intro w'
               go_simp;with_reducible rfl
              rotate_left
              ·simp only [Act.put, Zs1, Zs2, Zs3, ze, zf]
               rfl
              refine zeg (zct HT_.out (by kernel_rfl)) ?_
              try go_wp2
              go_ret;exact ⟨by first | rfl | (simp [zq, zt] <;> rfl) | (simp [*, zq, zt] <;> rfl), Zq16 HB GE252 GE259 GE273⟩
             ·replace c103 := Bool.eq_false_iff.mpr c103
              subst c103;have H1 : (some false) = some r := by rw [if_neg (show ¬ (false = true) by decide)] at H; exact H
              exact Bool.noConfusion ((Option.some.inj H1).trans HRT.out)
         ·rw [if_neg c43] at H
          exact absurd H (by simp)
        ·rw [if_neg c42] at H
         exact absurd H (by simp)
def laws_FnRunGraph.Pure : Prop := ∀ (l0 : List Int), l0.length * 1 ≤ 140737488351232 → (l0.length ≤ maxLen ∧ ∀ y0 ∈ l0, (Lit.int .u8 y0).wf = true) → ∃ k, laws_FnRunGraph.f k l0 = some true
end Go.Proofs.Ytebgfobjhlcopaa.P
namespace Go.Proofs.Ytebgfobjhlcopaa.Base
open Go.RowKit Go.Proofs.Ytebgfobjhlcopaa.P Go.Proofs.YtebgfobjhlcopaaW.PrintWords Go.Proofs.YtebgfobjhlcopaaW.PrintLast Go.Proofs.YtebgfobjhlcopaaW.PrintMore
theorem w64 {x : Int} (h0 : -9223372036854775808 ≤ x) (h1 : x < 9223372036854775808) : wrap64 x = x := by unfold wrap64; omega
theorem in_f (a b c : Int) : zb5.f a b c = some (decide (b ≤ a ∧ a ≤ c)) := by
  unfold zb5.f
  by_cases h : a ≥ b
  · rw [if_pos h]; simp [show b ≤ a from h]
  · rw [if_neg h]; simp [show ¬ b ≤ a from h]
theorem zgg (a b c : Int) : zcb.f a b c = some (decide (b ≤ a ∧ a ≤ c)) := by
  unfold zcb.f
  by_cases h : a ≥ b
  · rw [if_pos h]; simp [show b ≤ a from h]
  · rw [if_neg h]; simp [show ¬ b ≤ a from h]
theorem zdg {α : Type} (p : Prop) [Decidable p] (x y : Option α) : (some (decide p)).bind (fun t => if t = true then x else y) = if p then x else y := by
  by_cases hp : p <;> simp [hp]
end Go.Proofs.Ytebgfobjhlcopaa.Base
namespace Go.Proofs.Ytebgfobjhlcopaa.Gen
open Go.RowKit Go.Proofs.YtebgfobjhlcopaaW.PrintWords Go.Proofs.YtebgfobjhlcopaaW.PrintLast
def Tot {α : Type} (g : Nat → Option α) (P : α → Prop) : Prop := ∃ r, Ev g r ∧ P r
theorem Tot.ret {α : Type} {P : α → Prop} (a : α) (h : P a) : Tot (fun _ => some a) P := ⟨a, Ev.now a, h⟩
theorem Tot.mono {α : Type} {P Q : α → Prop} {g : Nat → Option α} (h : Tot g P) (hpq : ∀ a, P a → Q a) : Tot g Q := by
  obtain ⟨r, h1, h2⟩ := h
  exact ⟨r, h1, hpq r h2⟩
theorem Tot.congr {α : Type} {P : α → Prop} {g f : Nat → Option α} (e : ∀ k, g k = f k) (h : Tot f P) : Tot g P := by
  have : g = f := funext e
  rw [this]; exact h
theorem Tot.step {α : Type} {P : α → Prop} {g f : Nat → Option α} (e : ∀ k, g (k + 1) = f k) (h : Tot f P) : Tot g P := by
  obtain ⟨r, h1, h2⟩ := h
  exact ⟨r, Ev.step e h1, h2⟩
theorem Tot.bind {α β : Type} {P : α → Prop} {Q : β → Prop} {g : Nat → Option α} {f : Nat → α → Option β} (h : Tot g P) (hf : ∀ a, P a → Tot (fun k => f k a) Q) : Tot (fun k => (g k).bind (f k)) Q := by
  obtain ⟨r, h1, h2⟩ := h
  obtain ⟨q, h3, h4⟩ := hf r h2
  exact ⟨q, Ev.bind h1 h3, h4⟩
theorem Tot.bind0 {α β : Type} {Q : β → Prop} {g : Option α} {f : Nat → α → Option β} {a : α} (h : g = some a) (hf : Tot (fun k => f k a) Q) : Tot (fun k => g.bind (f k)) Q := by
  subst h; exact hf
theorem Tot.yes {α : Type} {P : α → Prop} {c : Prop} [Decidable c] {g f : Nat → Option α} (hc : c) (h : Tot g P) : Tot (fun k => if c then g k else f k) P := by
  simp only [if_pos hc]; exact h
theorem Tot.no {α : Type} {P : α → Prop} {c : Prop} [Decidable c] {g f : Nat → Option α} (hc : ¬ c) (h : Tot f P) : Tot (fun k => if c then g k else f k) P := by
  simp only [if_neg hc]; exact h
theorem Tot.ite {α : Type} {P : α → Prop} {c : Prop} [Decidable c] {g f : Nat → Option α} (h1 : c → Tot g P) (h2 : ¬ c → Tot f P) : Tot (fun k => if c then g k else f k) P := by
  by_cases hc : c
  · exact Tot.yes hc (h1 hc)
  · exact Tot.no hc (h2 hc)
theorem Tot.rounds {g : Nat → Option Bool} (h : Tot g (fun r => r = true)) : ∃ k, g k = some true := by
  obtain ⟨r, h1, rfl⟩ := h
  exact h1.rounds
theorem Tot.val {α : Type} {g : Nat → Option α} {a : α} (h : Ev g a) : Tot g (fun r => r = a) := ⟨a, h, rfl⟩
theorem Tot.ev {α : Type} {g : Nat → Option α} {a : α} (h : Tot g (fun r => r = a)) : Ev g a := by
  obtain ⟨r, h1, rfl⟩ := h
  exact h1
theorem Tot.loop {σ ρ : Type} {P : ρ → Prop} (F : Nat → Nat → σ → Option ρ) (n : Nat) (Inv : Nat → σ → Prop)
    (hstep : ∀ i s, i < n → Inv i s → (∀ s', Inv (i + 1) s' → Tot (fun k => F k (i + 1) s') P) → Tot (fun k => F k i s) P)
    (hend : ∀ s, Inv n s → Tot (fun k => F k n s) P) : ∀ i s, i ≤ n → Inv i s → Tot (fun k => F k i s) P := by
  have key : ∀ d i s, i + d = n → Inv i s → Tot (fun k => F k i s) P := by
    intro d
    induction d with
    | zero => intro i s hi h; obtain rfl : i = n := by omega
              exact hend s h
    | succ d ih => intro i s hi h; exact hstep i s (by omega) h (fun s' hs' => ih (i + 1) s' (by omega) hs')
  intro i s hi h
  exact key (n - i) i s (by omega) h
theorem zd3 (xs : List Int) (i : Nat) (h : i < xs.length) : rd xs (i : Int) = xs[i] := by
  unfold rd
  rw [List.getD_eq_getElem?_getD, Int.toNat_natCast, List.getElem?_eq_getElem h]
  rfl
theorem fill_step {β : Type} (acc tgt : List β) (i : Nat) (hl : acc.length = tgt.length) (h : acc.take i = tgt.take i) (hi : i < tgt.length) : (acc.set i tgt[i]).take (i + 1) = tgt.take (i + 1) := by
  rw [List.take_succ_eq_append_getElem (by simpa [hl] using hi), List.take_succ_eq_append_getElem hi]
  rw [List.take_set_of_le (Nat.le_refl i), h]
  simp
theorem Tot.copy {β : Type} (F : Nat → List β → Int → Option (List β)) (tgt : List β) (z : β)
    (hstep : ∀ k acc (i : Nat) (h : i < tgt.length), acc.length = tgt.length → F (k + 1) acc (i : Int) = F k (acc.set i tgt[i]) ((i : Int) + 1))
    (hend : ∀ k acc, acc.length = tgt.length → F (k + 1) acc (tgt.length : Int) = some acc) : Tot (fun k => F k (List.replicate tgt.length z) 0) (fun r => r = tgt) := by
  have key : ∀ d (i : Nat) acc, i + d = tgt.length → acc.length = tgt.length → acc.take i = tgt.take i → Tot (fun k => F k acc (i : Int)) (fun r => r = tgt) := by
    intro d
    induction d with
    | zero =>
      intro i acc hi hl ht
      obtain rfl : i = tgt.length := by omega
      refine Tot.step (f := fun _ => some acc) (fun k => hend k acc hl) (Tot.ret _ ?_)
      rw [List.take_length, ← hl, List.take_length] at ht
      exact ht
    | succ d ih =>
      intro i acc hi hl ht
      have hlt : i < tgt.length := by omega
      refine Tot.step (fun k => hstep k acc i hlt hl) ?_
      have := ih (i + 1) (acc.set i tgt[i]) (by omega) (by simpa using hl) (fill_step acc tgt i hl ht hlt)
      simpa using this
  simpa using key tgt.length 0 (List.replicate tgt.length z) (by omega) (by simp) (by simp)
theorem Tot.look {ρ : Type} {r : ρ} (F : Nat → Int → Option ρ) (n : Nat) (hstep : ∀ k (i : Nat), i < n → F (k + 1) (i : Int) = F k ((i : Int) + 1)) (hend : ∀ k, F (k + 1) (n : Int) = some r) : Tot (fun k => F k 0) (fun q => q = r) := by
  have key : ∀ d (i : Nat), i + d = n → Tot (fun k => F k (i : Int)) (fun q => q = r) := by
    intro d
    induction d with
    | zero => intro i hi; obtain rfl : i = n := by omega
              exact Tot.step (f := fun _ => some r) (fun k => hend k) (Tot.ret _ rfl)
    | succ d ih => intro i hi; exact Tot.step (fun k => hstep k i (by omega)) (by simpa using ih (i + 1) (by omega))
  simpa using key n 0 (by omega)
end Go.Proofs.Ytebgfobjhlcopaa.Gen
namespace Go.Proofs.Ytebgfobjhlcopaa.Graph
open Go.RowKit Go.Proofs.Ytebgfobjhlcopaa.P Go.Proofs.Ytebgfobjhlcopaa.Base Go.Proofs.Ytebgfobjhlcopaa.Gen Go.Proofs.YtebgfobjhlcopaaW.PrintWords Go.Proofs.YtebgfobjhlcopaaW.PrintLast
def zei (m : Int) (e : List Int) : Prop := e.length = 2 ∧ 0 ≤ rd e 0 ∧ rd e 0 < rd e 1 ∧ rd e 1 < m
instance (m : Int) (e : List Int) : Decidable (zei m e) := by unfold zei; infer_instance
def ze5 (c : List Int) : Prop := ∀ x ∈ c, 1 ≤ x ∧ x ≤ 8
instance (c : List Int) : Decidable (ze5 c) := by unfold ze5; infer_instance
def GV (c : List Int) (es : List (List Int)) : Prop := c.length ≤ 8 ∧ es.length ≤ 64 ∧ ze5 c ∧ ∀ e ∈ es, zei c.length e
instance (c : List Int) (es : List (List Int)) : Decidable (GV c es) := by unfold GV; infer_instance
theorem zh6 (xs : List (List Int)) (i : Nat) (h : i < xs.length) : zh xs (i : Int) = xs[i] := by
  unfold zh
  rw [List.getD_eq_getElem?_getD, Int.toNat_natCast, List.getElem?_eq_getElem h]
  rfl
theorem costs_f (c : List Int) : zcl.f c = some (decide (¬ ze5 c)) := by
  unfold zcl.f
  congr 1
  rw [Bool.eq_iff_iff, List.any_eq_true]
  unfold ze5
  simp only [zcl.bad, decide_eq_true_eq]
  constructor
  · rintro ⟨x, hx, h⟩ hh
    have := hh x hx
    simp at h
    omega
  · intro hh
    refine Classical.byContradiction fun hc => hh fun x hx => ?_
    refine Classical.byContradiction fun h2 => hc ⟨x, hx, ?_⟩
    simp; omega
theorem all_of {α : Type} {P : α → Prop} {l : List α} (h : ∀ i (h : i < l.length), P l[i]) : ∀ x ∈ l, P x := by
  intro x hx
  obtain ⟨i, hi, rfl⟩ := List.mem_iff_getElem.1 hx
  exact h i hi
theorem upto {α : Type} {P : α → Prop} {l : List α} {j : Nat} (hj : j < l.length) (hm : ∀ i (h : i < l.length), i < j → P l[i]) (h : P l[j]) : ∀ i (h : i < l.length), i < j + 1 → P l[i] := by
  intro i hi hij
  rcases Nat.lt_or_ge i j with h' | h'
  · exact hm i hi h'
  · obtain rfl : i = j := by omega
    exact h
theorem impl_gv (c : List Int) (es : List (List Int)) (hc : c.length ≤ 2097152) (he : es.length ≤ 2097152) : Ev (fun k => zm.f k c es) (decide (GV c es)) := by
  have loop : ∀ d j, j + d = es.length → (∀ i (h : i < es.length), i < j → zei c.length es[i]) → Ev (fun k => zm.l0 k c es es (es.length : Int) (j : Int)) (decide (GV c es)) := by
    intro d
    induction d with
    | zero =>
      intro j hj hm
      have ha : ∀ e ∈ es, zei c.length e := all_of (fun i hi => hm i hi (by omega))
      refine Ev.step (f := fun _ => some (decide (GV c es))) (fun k => ?_) (Ev.now _)
      simp only [zm.l0]
      rw [if_neg (by omega)]
      by_cases h1 : c.length ≤ 8
      · rw [if_pos (by omega)]
        by_cases h2 : es.length ≤ 64
        · rw [if_pos (by omega), costs_f]
          simp only [Option.bind_some]
          congr 1
          rw [Bool.eq_iff_iff]
          unfold GV
          simp [h1, h2]
          exact fun _ => ha
        · rw [if_neg (by omega), decide_eq_false (fun h => h2 h.2.1)]
      · rw [if_neg (by omega), decide_eq_false (fun h => h1 h.1)]
    | succ d ih =>
      intro j hj hm
      have hjl : j < es.length := by omega
      by_cases hok : zei c.length es[j]
      · refine Ev.step (fun k => ?_) (ih (j + 1) (by omega) (upto hjl hm hok))
        unfold zei at hok
        simp only [zm.l0]
        rw [if_pos (by omega), if_pos (by omega), if_pos (by omega), zh6 es j hjl, if_pos (by omega), if_pos (by omega), in_f, zdg, w64 (x := (c.length : Int) - 1) (by omega) (by omega), if_pos (by omega), if_pos (by omega), in_f, zdg, if_pos (by omega), if_neg (by omega), w64 (by omega) (by omega)]
        rfl
      · rw [decide_eq_false (fun h => hok (h.2.2.2 _ (List.getElem_mem hjl)))]
        refine Ev.step (f := fun _ => some false) (fun k => ?_) (Ev.now _)
        unfold zei at hok
        simp only [zm.l0]
        rw [if_pos (by omega), if_pos (by omega), if_pos (by omega), zh6 es j hjl]
        by_cases h1 : es[j].length = 2
        · rw [if_pos (by omega), if_pos (by omega), in_f, zdg, w64 (x := (c.length : Int) - 1) (by omega) (by omega)]
          by_cases h2 : 0 ≤ rd es[j] 0 ∧ rd es[j] 0 ≤ (c.length : Int) - 1
          · rw [if_pos h2, if_pos (by omega), in_f, zdg]
            by_cases h3 : rd es[j] 0 ≤ rd es[j] 1 ∧ rd es[j] 1 ≤ (c.length : Int) - 1
            · rw [if_pos h3, if_pos (by omega)]
            · rw [if_neg h3]
          · rw [if_neg h2]
        · rw [if_neg (by omega)]
  have h := loop es.length 0 (by omega) (fun i _ h => by omega)
  refine Ev.congr (fun k => ?_) h
  unfold zm.f
  rfl
theorem spec_gv (c : List Int) (es : List (List Int)) : Ev (fun k => zk.f k c es) (decide (GV c es)) := by
  have no : ¬ GV c es → Ev (fun k => zk.j0 k c es true) (decide (GV c es)) := by
    intro h
    rw [decide_eq_false h]
    exact Ev.step (f := fun _ => some false) (fun k => by simp [zk.j0]) (Ev.now _)
  by_cases h1 : c.length ≤ 8
  · by_cases h2 : es.length ≤ 64
    · have edges : ze5 c → ∀ d j, j + d = es.length → (∀ i (h : i < es.length), i < j → zei c.length es[i]) → Ev (fun k => zk.l1 k c es (j : Int)) (decide (GV c es)) := by
        intro hco d
        induction d with
        | zero =>
          intro j hj hm
          have ha : ∀ e ∈ es, zei c.length e := all_of (fun i hi => hm i hi (by omega))
          rw [decide_eq_true (show GV c es from ⟨h1, h2, hco, ha⟩)]
          refine Ev.step (f := fun _ => some true) (fun k => ?_) (Ev.now _)
          simp only [zk.l1]
          rw [if_neg (by omega)]
        | succ d ih =>
          intro j hj hm
          have hjl : j < es.length := by omega
          by_cases hok : zei c.length es[j]
          · refine Ev.step (fun k => ?_) (ih (j + 1) (by omega) (upto hjl hm hok))
            unfold zei at hok
            simp only [zk.l1]
            rw [if_pos (by omega), if_pos (by omega), zh6 es j hjl, if_pos (by omega), if_pos (by omega), zgg, zdg, w64 (x := (c.length : Int) - 1) (by omega) (by omega), if_pos (by omega), if_pos (by omega), zgg, zdg, w64 (x := rd es[j] 1 - 1) (by omega) (by omega), if_pos (by omega), w64 (by omega) (by omega)]
            rfl
          · rw [decide_eq_false (fun h => hok (h.2.2.2 _ (List.getElem_mem hjl)))]
            refine Ev.step (f := fun _ => some false) (fun k => ?_) (Ev.now _)
            unfold zei at hok
            simp only [zk.l1]
            rw [if_pos (by omega), if_pos (by omega), zh6 es j hjl]
            by_cases h3 : es[j].length = 2
            · rw [if_pos (by omega), if_pos (by omega), zgg, zdg, w64 (x := (c.length : Int) - 1) (by omega) (by omega)]
              by_cases h4 : 0 ≤ rd es[j] 1 ∧ rd es[j] 1 ≤ (c.length : Int) - 1
              · rw [if_pos h4, if_pos (by omega), zgg, zdg, w64 (x := rd es[j] 1 - 1) (by omega) (by omega), if_neg (by omega)]
              · rw [if_neg h4]
            · rw [if_neg (by omega)]
      have costs : ∀ d j, j + d = c.length → (∀ i (h : i < c.length), i < j → 1 ≤ c[i] ∧ c[i] ≤ 8) → Ev (fun k => zk.l0 k c es (j : Int)) (decide (GV c es)) := by
        intro d
        induction d with
        | zero =>
          intro j hj hm
          have ha : ze5 c := all_of (fun i hi => hm i hi (by omega))
          refine Ev.step (fun k => ?_) (edges ha es.length 0 (by omega) (fun i _ h => by omega))
          simp only [zk.l0]
          rw [if_neg (by omega)]
          rfl
        | succ d ih =>
          intro j hj hm
          have hjl : j < c.length := by omega
          by_cases hok : 1 ≤ c[j] ∧ c[j] ≤ 8
          · refine Ev.step (fun k => ?_) (ih (j + 1) (by omega) (upto (P := fun x => 1 ≤ x ∧ x ≤ 8) hjl hm hok))
            simp only [zk.l0]
            rw [if_pos (by omega), if_pos (by omega), zd3 c j hjl, zgg, zdg, if_pos hok, w64 (by omega) (by omega)]
            rfl
          · rw [decide_eq_false (fun h => hok (h.2.2.1 _ (List.getElem_mem hjl)))]
            refine Ev.step (f := fun _ => some false) (fun k => ?_) (Ev.now _)
            simp only [zk.l0]
            rw [if_pos (by omega), if_pos (by omega), zd3 c j hjl, zgg, zdg, if_neg hok]
      have hs : Ev (fun k => zk.j0 k c es (decide ((es.length : Int) > 64))) (decide (GV c es)) := by
        refine Ev.step (fun k => ?_) (costs c.length 0 (by omega) (fun i _ h => by omega))
        simp only [zk.j0]
        rw [if_neg (by simp; omega)]
        rfl
      refine Ev.congr (fun k => ?_) hs
      unfold zk.f
      rw [if_neg (by omega)]
    · refine Ev.congr (fun k => ?_) (no (fun h => h2 h.2.1))
      unfold zk.f
      rw [if_neg (by omega), decide_eq_true (by omega)]
  · refine Ev.congr (fun k => ?_) (no (fun h => h1 h.1))
    unfold zk.f
    rw [if_pos (by omega)]
end Go.Proofs.Ytebgfobjhlcopaa.Graph
namespace Go.Proofs.Ytebgfobjhlcopaa.Crit
open Go.RowKit Go.Proofs.Ytebgfobjhlcopaa.P Go.Proofs.Ytebgfobjhlcopaa.Base Go.Proofs.Ytebgfobjhlcopaa.Gen Go.Proofs.Ytebgfobjhlcopaa.Graph Go.Proofs.YtebgfobjhlcopaaW.PrintWords Go.Proofs.YtebgfobjhlcopaaW.PrintLast
def stp (out : List Int) (b : Int) (t : Int) (e : List Int) : Int := if rd e 1 = b then max t (rd out (rd e 0)) else t
def bst (out : List Int) (b : Int) (es : List (List Int)) (t : Int) : Int := es.foldl (stp out b) t
def ends (c : List Int) (es : List (List Int)) : Nat → List Int
  | 0 => []
  | n + 1 => ends c es n ++ [bst (ends c es n) (n : Int) es 0 + rd c (n : Int)]
def EV (c : List Int) (es : List (List Int)) (i : Nat) : Int := rd (ends c es (i + 1)) (i : Int)
def mxl (l : List Int) (t : Int) : Int := l.foldl max t
def lng (c : List Int) (es : List (List Int)) : Int := mxl (ends c es c.length) 0
def vl (c : List Int) : Int := c.foldl (· + ·) 0
def zda (c : List Int) : Nat → Int
  | 0 => 0
  | n + 1 => zda c n + rd c (n : Int)
theorem zf0 (c : List Int) (es : List (List Int)) (n : Nat) : (ends c es n).length = n := by
  induction n with
  | zero => rfl
  | succ n ih => simp [ends, ih]
theorem rd_app_lt (a b : List Int) (i : Nat) (h : i < a.length) : rd (a ++ b) (i : Int) = rd a (i : Int) := by
  rw [zd3 _ i (by simp; omega), zd3 _ i h, List.getElem_append_left h]
theorem rd_app_eq (a : List Int) (x : Int) (n : Nat) (h : a.length = n) : rd (a ++ [x]) (n : Int) = x := by
  subst h
  rw [zd3 _ _ (by simp)]
  simp
theorem zd0 (c : List Int) (es : List (List Int)) (n i : Nat) (h : i < n) : rd (ends c es n) (i : Int) = EV c es i := by
  induction n with
  | zero => omega
  | succ n ih =>
    rcases Nat.lt_or_ge i n with h' | h'
    · rw [ends, rd_app_lt _ _ _ (by rw [zf0]; exact h'), ih h']
    · obtain rfl : i = n := by omega
      rfl
theorem ziq (c : List Int) (es : List (List Int)) (n : Nat) : EV c es n = bst (ends c es n) (n : Int) es 0 + rd c (n : Int) := by
  unfold EV
  rw [ends]
  exact rd_app_eq _ _ _ (zf0 c es n)
theorem zez (out : List Int) (b : Int) (es : List (List Int)) : ∀ t, t ≤ bst out b es t := by
  induction es with
  | nil => intro t; exact Int.le_refl _
  | cons e es ih =>
    intro t
    refine Int.le_trans ?_ (ih _)
    unfold stp; split <;> omega
theorem bst_ge (out : List Int) (b : Int) (es : List (List Int)) : ∀ t, ∀ e ∈ es, rd e 1 = b → rd out (rd e 0) ≤ bst out b es t := by
  induction es with
  | nil => intro t e he; simp at he
  | cons e es ih =>
    intro t x hx hb
    rcases List.mem_cons.1 hx with rfl | hx
    · refine Int.le_trans ?_ (zez out b es _)
      unfold stp; rw [if_pos hb]; omega
    · exact ih _ x hx hb
theorem zgx (out : List Int) (b M : Int) (es : List (List Int)) : ∀ t, t ≤ M → (∀ e ∈ es, rd e 1 = b → rd out (rd e 0) ≤ M) → bst out b es t ≤ M := by
  induction es with
  | nil => intro t h _; exact h
  | cons e es ih =>
    intro t h hh
    refine ih _ ?_ (fun x hx => hh x (List.mem_cons_of_mem _ hx))
    unfold stp
    split
    · rename_i hb
      have := hh e (List.mem_cons_self ..) hb
      omega
    · exact h
theorem mxl_init (l : List Int) : ∀ t, t ≤ mxl l t := by
  induction l with
  | nil => intro t; exact Int.le_refl _
  | cons a l ih => intro t; exact Int.le_trans (by omega) (ih _)
theorem mxl_ge (l : List Int) : ∀ t, ∀ x ∈ l, x ≤ mxl l t := by
  induction l with
  | nil => intro t x hx; simp at hx
  | cons a l ih =>
    intro t x hx
    rcases List.mem_cons.1 hx with rfl | hx
    · exact Int.le_trans (by omega) (mxl_init l _)
    · exact ih _ x hx
theorem mxl_le (l : List Int) (M : Int) : ∀ t, t ≤ M → (∀ x ∈ l, x ≤ M) → mxl l t ≤ M := by
  induction l with
  | nil => intro t h _; exact h
  | cons a l ih =>
    intro t h hh
    refine ih _ ?_ (fun x hx => hh x (List.mem_cons_of_mem _ hx))
    have := hh a (List.mem_cons_self ..)
    omega
theorem vl_take (l : List Int) (i : Nat) (h : i < l.length) : vl (l.take (i + 1)) = vl (l.take i) + l[i] := by
  unfold vl
  rw [List.take_succ_eq_append_getElem h, List.foldl_append]
  rfl
theorem vl_sum (c : List Int) (n : Nat) (h : n ≤ c.length) : vl (c.take n) = zda c n := by
  induction n with
  | zero => rfl
  | succ n ih => rw [vl_take _ _ (by omega), ih (by omega), zda, zd3]
theorem vl_eq (c : List Int) : vl c = zda c c.length := by
  have := vl_sum c c.length (Nat.le_refl _)
  rwa [List.take_length] at this
def Up (m : Int) (es : List (List Int)) : Prop := ∀ e ∈ es, 0 ≤ rd e 0 ∧ rd e 0 < rd e 1 ∧ rd e 1 < m
def Pos (c : List Int) : Prop := ∀ i : Nat, i < c.length → 1 ≤ rd c (i : Int)
theorem gv_up {c : List Int} {es : List (List Int)} (h : GV c es) : Up c.length es := fun e he => (h.2.2.2 e he).2
theorem zgy {c : List Int} {es : List (List Int)} (h : GV c es) : Pos c := fun i hi => by
  rw [zd3 c i hi]
  exact (h.2.2.1 _ (List.getElem_mem hi)).1
theorem zgh {c : List Int} {es : List (List Int)} (h : GV c es) (i : Nat) (hi : i < c.length) : 1 ≤ rd c (i : Int) ∧ rd c (i : Int) ≤ 8 := by
  rw [zd3 c i hi]
  exact h.2.2.1 _ (List.getElem_mem hi)
theorem zea {m : Int} {es : List (List Int)} (h : Up m es) {e : List Int} (he : e ∈ es) : ∃ a b : Nat, rd e 0 = (a : Int) ∧ rd e 1 = (b : Int) ∧ a < b ∧ (b : Int) < m := by
  have := h e he
  exact ⟨(rd e 0).toNat, (rd e 1).toNat, by omega, by omega, by omega, by omega⟩
theorem EV_ge (c : List Int) (es : List (List Int)) (n : Nat) : rd c (n : Int) ≤ EV c es n := by
  rw [ziq]
  have := zez (ends c es n) (n : Int) es 0
  omega
theorem lng_ge (c : List Int) (es : List (List Int)) (i : Nat) (h : i < c.length) : EV c es i ≤ lng c es := by
  rw [← zd0 c es c.length i h, zd3 _ i (by rw [zf0]; exact h)]
  exact mxl_ge _ _ _ (List.getElem_mem _)
theorem lng_le (c : List Int) (es : List (List Int)) (M : Int) (h0 : 0 ≤ M) (h : ∀ i, i < c.length → EV c es i ≤ M) : lng c es ≤ M := by
  refine mxl_le _ _ _ h0 (fun x hx => ?_)
  obtain ⟨i, hi, rfl⟩ := List.mem_iff_getElem.1 hx
  have hl := zf0 c es c.length
  have := h i (by omega)
  rwa [← zd0 c es c.length i (by omega), zd3 _ i hi] at this
theorem zfn (c : List Int) (es : List (List Int)) : 0 ≤ lng c es := mxl_init _ _
end Go.Proofs.Ytebgfobjhlcopaa.Crit
