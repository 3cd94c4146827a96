/- The law FnRunSupply for every input, part 3 of its proof: what the program's functions answer, and the plain law. No condition. -/
import Derived.Test.YtkdfjomhichkoaaMFnRunSupply1
import Derived.Test.YtkdfjomhichkoaaMFnRunSupply2
namespace Go.Proofs.Ytkdfjomhichkoaa.P
open Go.RowKit Go.Proofs.YtkdfjomhichkoaaW.PrintWords Go.Proofs.YtkdfjomhichkoaaW.PrintLast Go.Proofs.YtkdfjomhichkoaaW.PrintMore
attribute [local go_sem] max2_int min2_int max_two min_two max_three min_three max_four min_four
set_option linter.unusedVariables false
set_option linter.unusedSimpArgs false
mutual
def zbz.l0 : Nat → Int → List (S88) → Int → List Int → Int → Option ((List (S88)) × Int)
 | 0, _, _, _, _, _ => none
 | k + 1, x1, x5, x6, x1000, x1001 => if x6 > 0 then ((zk.f k x1000 x1001 0).bind fun bt162 => (if x5.length < 5864062014805 then (zbz.l0 k x1 (x5 ++ [(⟨bt162.1, bt162.2.1, bt162.2.2.1⟩ : S88)]) (wrap64 (x6 - 1)) x1000 bt162.2.2.2) else (none))) else ((zbk.f k x1000 x1001 x1).bind fun bt169 => (if bt169.1 = true then ((zb.f k x1000 bt169.2 3).bind fun bt171 => (if bt171.1 = 0 then (zbz.l1 k x5 x1000 bt171.2) else ((zk.f k x1000 bt171.2 2).bind fun bt187 => (if x5.length < 5864062014805 then (some ((x5 ++ [(⟨bt187.1, bt187.2.1, bt187.2.2.1⟩ : S88)]), bt187.2.2.2)) else (none))))) else (some (x5, bt169.2))))
def zbz.l1 : Nat → List (S88) → List Int → Int → Option ((List (S88)) × Int)
 | 0, _, _, _ => none
 | k + 1, x5, x1000, x1001 => if (x5.length : Int) ≤ 5 then ((zk.f k x1000 x1001 0).bind fun bt173 => (if x5.length < 5864062014805 then (zbz.l1 k (x5 ++ [(⟨bt173.1, bt173.2.1, bt173.2.2.1⟩ : S88)]) x1000 bt173.2.2.2) else (none))) else ((zk.f k x1000 x1001 2).bind fun bt180 => (if x5.length < 5864062014805 then (some ((x5 ++ [(⟨bt180.1, bt180.2.1, bt180.2.2.1⟩ : S88)]), bt180.2.2.2)) else (none)))
end
def zbz.f (k : Nat) (s0_0 : List Int) (s0_1 : Int) (a1 : Int) : Option ((List (S88)) × Int) := (zb.f k s0_0 s0_1 6).bind fun bt160 => (zbz.l0 k a1 (([] : List (S88))) bt160.1 s0_0 bt160.2)
set_option maxHeartbeats 8000000 in
set_option maxRecDepth 100000 in
theorem zbz.calls (k : Nat) (g : Nat) (s0_0 : List Int) (s0_1 : Int) (a1 : Int) (r1 : List (S88)) (r2 : Int) (w0 w : World) (hI : zf w0 w g s0_0 s0_1) (hB : Below w0.heap.size w0 w) (h : zbz.f k s0_0 s0_1 a1 = some (r1, r2)) :
  Calls Try.prog 69 #[.pointer (some ⟨g, 0, none⟩), .int .i64 a1] w fun e w' => ∃ v0_ : Value, e = .returned (v0_) ∧ Kd.R k88 88 w' w.heap.size (fun _ => True) v0_ r1 ∧ zf w0 w' g s0_0 r2 ∧ Below w0.heap.size w0 w' ∧ zi w w' g none := by
 have HI0 := za.mk hI
 have HK := za.mk (zi.refl w g none)
 have HL := za.mk hB.size
 clear hI
 have HW0 := za.mk hB.size
 have HB := za.mk hB
 clear hB
 have H : ((zb.f k s0_0 s0_1 6).bind fun bt160 => (zbz.l0 k a1 (([] : List (S88))) bt160.1 s0_0 bt160.2)) = some (r1, r2) := h
 clear h
 obtain ⟨y157, hy157⟩ : ∃ y_ : List (S88), y_ = (([] : List (S88))) := ⟨_, rfl⟩
 replace H : ((zb.f k s0_0 s0_1 6).bind fun bt160 => (zbz.l0 k a1 y157 bt160.1 s0_0 bt160.2)) = some (r1, r2) := by first | (rw [hy157]; with_reducible exact H) | (have H2_ := (Option.bind_some _ _).symm.trans H; rw [hy157]; with_reducible exact H2_) | (have H2_ := (Option.bind_some _ _).symm.trans H; with_reducible exact H2_) | with_reducible exact H | (rw [hy157]; exact H) | exact H
 have Ny157 := za.mk hy157
 clear hy157
 replace H := Option.bind_eq_some_iff.mp H
 obtain ⟨⟨t160, t161⟩, A30, H⟩ := H
 replace H : (zbz.l0 k a1 y157 t160 s0_0 t161) = some (r1, r2) := H
 have A3 := za.mk A30
 clear A30
 have H' := za.mk H
 clear H
 go_enter Try.func69, Try.ntmps69
 go_wp2_with (first | ((with_reducible refine zbp (N := 7) rfl ?_); refine Kd.R_lit k88 _ 88 ?hg (N := 7) ?hd (xs := ([] : List (S88))) (inner := []) (ok := fun _ => True) (okp := fun _ => True) ?hr ?hp (fun _ hk => hk) trivial (Below.refl _ _) (Nat.le_refl _) (by simp) ?_; (case hd => rfl); (case hg => rfl); (case hr => first | (go_simp; done) | (go_simp; rfl)); (case hp => exact (Reps.none _ _)); intro v158 w4 ho5 hb hg_ hnew_; clear hg_ hnew_; (first | rw [← Ny157.out] at ho5 | (simp only [Int.reduceToNat] at ho5; rw [← Ny157.out] at ho5)); have n0_ := za.mk (Kd.zb2 ho5 (zb4 (w := w) (g := g) (row := none) (Zq9 HK.out))); have n1_ := za.mk (zf.below (Zq8 HI0.out) hb); have n2_ := za.mk (zi.trans (Zq9 HK.out) (zi.of_below hb g none) (.inl rfl)); have n3_ := za.mk (zo (Zq5 HB.out (zf.ge HI0.out)) hb); clear HI0; clear HK; clear HB; have HO159 := n0_; have HI0 := n1_; have HK := n2_; have HB := n3_; clear n0_ n1_ n2_ n3_; clear hb ho5) | ((with_reducible refine zba (f := 68) rfl ?_); refine zbv (some 9) rfl rfl Try.func68 (by kernel_rfl) rfl #[.pointer (some ⟨g, 0, none⟩), .int .i64 6] rfl Zmt ?_; (with_reducible refine (zb.calls k g s0_0 s0_1 6 t160 t161 w0 _ ?side1 ?side2 A3.out).mono ?_); (case side1 => exact Zq8 HI0.out); (case side2 => exact Zq5 HB.out (zf.ge HI0.out)); rintro e w6 ⟨rfl, hi, hb, hk⟩; refine ⟨_, rfl, ?_⟩; have n0_ := za.mk (Kd.zy (Kd.zbo (zf.apart (show zf w0 _ g s0_0 s0_1 from Zq8 HI0.out) (Zq12 HO159.out) (by decide)) hk (fun _ h => h.2)) (fun _ h => h.1)); have n1_ := za.mk (zi.trans (Zq9 HK.out) hk (.inl rfl)); have n2_ := za.mk (hb); have n3_ := za.mk (hi); clear HO159; clear HK; clear HB; clear HI0; have HO159 := n0_; have HK := n1_; have HB := n2_; have HI0 := n3_; clear n0_ n1_ n2_ n3_; (try clear hb); (try clear hb2); (try clear hk); (try clear hi)))
 go_loopg [5, 6] k (fun kq v5 v6 w' => ∃ (x5_1 : List (S88)) (x6_1 : Int) (x1001_1 : Int), v6 = .int .i64 x6_1 ∧ za (zbz.l0 kq a1 x5_1 x6_1 s0_0 x1001_1 = some (r1, r2)) ∧ za (kq ≤ k) ∧ za (Kd.R k88 88 w' w.heap.size (fun _ => True) v5 x5_1) ∧ za (zf w0 w' g s0_0 x1001_1) ∧ za (zi w w' g none) ∧ za (Below w0.heap.size w0 w'))
 case atStart => exact ⟨(y157), (t160), (t161), Zrs, H', ⟨Nat.le_refl _⟩, ⟨Zq12 HO159.out⟩, ⟨Zq8 HI0.out⟩, ⟨Zq9 HK.out⟩, ⟨Zq5 HB.out (zf.ge HI0.out)⟩⟩
 case round =>
  clear H'
  try clear p2
  try clear c6
  obtain ⟨x5_1, x6_1, x1001_1, rfl, HA, HK1, HO_5, HI0, HK, HB⟩ := hrel
  cases gk with
  | zero => exact absurd HA.out (by simp [zbz.l0])
  | succ k1 =>
   have H := HA.out
   clear HA
   simp only [zbz.l0] at H
   by_cases c7 : x6_1 > 0
   ·rw [if_pos c7] at H
    have c7b0 : decide (0 < x6_1) = true := decide_eq_true c7
    clear c7
    replace H := Option.bind_eq_some_iff.mp H
    obtain ⟨⟨t162, t163, t164, t165⟩, A80, H⟩ := H
    replace H : (if x5_1.length < 5864062014805 then (zbz.l0 k1 a1 (x5_1 ++ [(⟨t162, t163, t164⟩ : S88)]) (wrap64 (x6_1 - 1)) s0_0 t165) else (none)) = some (r1, r2) := H
    have A8 := za.mk A80
    clear A80
    by_cases c9 : x5_1.length < 5864062014805
    ·rw [if_pos c9] at H
     have LMc9 := za.mk c9
     clear c9
     obtain ⟨y166, hy166⟩ : ∃ y_ : List (S88), y_ = (x5_1 ++ [(⟨t162, t163, t164⟩ : S88)]) := ⟨_, rfl⟩
     replace H : (zbz.l0 k1 a1 y166 (wrap64 (x6_1 - 1)) s0_0 t165) = some (r1, r2) := by first | (rw [hy166]; with_reducible exact H) | (have H2_ := (Option.bind_some _ _).symm.trans H; rw [hy166]; with_reducible exact H2_) | (have H2_ := (Option.bind_some _ _).symm.trans H; with_reducible exact H2_) | with_reducible exact H | (rw [hy166]; exact H) | exact H
     have Ny166 := za.mk hy166
     clear hy166
     have H' := za.mk H
     clear H
     go_wp2_with (first | ((with_reducible refine zba (f := 106) rfl ?_); refine zbv (some 16) rfl rfl Try.func106 (by kernel_rfl) rfl #[.pointer (some ⟨g, 0, none⟩), .int .i64 0] rfl Zmt ?_; (with_reducible refine (zk.calls k1 g s0_0 x1001_1 0 t162 t163 t164 t165 w0 _ ?side1 ?side2 A8.out).mono ?_); (case side1 => exact Zq8 HI0.out); (case side2 => exact Zq5 HB.out (zf.ge HI0.out)); rintro e w10 ⟨rfl, hi, hb, hk⟩; refine ⟨_, rfl, ?_⟩; have n0_ := za.mk (Kd.zy (Kd.zbo (zf.apart (show zf w0 _ g s0_0 x1001_1 from Zq8 HI0.out) (Zq12 HO_5.out) (by decide)) hk (fun _ h => h.2)) (fun _ h => h.1)); have n1_ := za.mk (zi.trans (Zq9 HK.out) hk (.inl rfl)); have n2_ := za.mk (hb); have n3_ := za.mk (hi); clear HO_5; clear HK; clear HB; clear HI0; have HO_5 := n0_; have HK := n1_; have HB := n2_; have HI0 := n3_; clear n0_ n1_ n2_ n3_; (try clear hb); (try clear hb2); (try clear hk); (try clear hi)) | ((with_reducible refine zcq (b := .append) (xs := #[.tmp 14, .tmp 17]) rfl ?_); at_builtin; refine Kd.zdg k88 w.heap.size rfl (.tmp 14) (.tmp 17) 23 88 (.agg #[(.int .i64 0), (.int .i64 0), (.int .i64 0)]) 24 rfl Try.underlying23 info88 rfl (by decide) (by omega) u5 x5_1 (⟨t162, t163, t164⟩ : S88) [.int .i64 t162, .int .i64 t163, .int .i64 t164] (fun _ => True) (fun _ => False) rfl rfl ?aP (fun _ hk => hk.elim) ?aF ?aO (Below.refl _ _) ?aS ?aL ?_; (case aP => exact k88_mkM _ _ _ (⟨t162, t163, t164⟩ : S88)); (case aF => exact (fun _ _ => trivial)); (case aO => exact (Zq12 HO_5.out)); (case aS => exact (zb4 (w := w) (g := g) (row := none) (Zq9 HK.out))); (case aL => have := LMc9.out; omega); intro v167 w11 ho hb hg hat; rw [← Ny166.out] at ho; have n0_ := za.mk (zf.grown (Zq8 HI0.out) hg (zf.own_ne HI0.out HO_5.out (by decide))); have n1_ := za.mk (zdb (Zq5 HB.out (zf.ge HI0.out)) HL.out hb); have n2_ := za.mk (zi.trans (Zq9 HK.out) (zi.zcy hg g) (Kd.zdi HO_5.out)); have n3_ := za.mk (ho); clear HI0; clear HB; clear HK; clear HO_5; have HI0 := n0_; have HB := n1_; have HK := n2_; have HO168 := n3_; clear n0_ n1_ n2_ n3_; clear ho hb hg hat))
     go_roundg k1
     case measure => have := HK1.out; omega
     case rel => exact ⟨(y166), (wrap64 (x6_1 - 1)), (t165), Zrs, H', ⟨by have := HK1.out; omega⟩, ⟨Zq12 HO168.out⟩, ⟨Zq8 HI0.out⟩, ⟨Zq9 HK.out⟩, ⟨Zq5 HB.out (zf.ge HI0.out)⟩⟩
    ·rw [if_neg c9] at H
     exact absurd H (by simp)
   ·rw [if_neg c7] at H
    have c7b0 : decide (0 < x6_1) = false := decide_eq_false c7
    clear c7
    replace H := Option.bind_eq_some_iff.mp H
    obtain ⟨⟨t169, t170⟩, A120, H⟩ := H
    replace H : (if t169 = true then ((zb.f k1 s0_0 t170 3).bind fun bt171 => (if bt171.1 = 0 then (zbz.l1 k1 x5_1 s0_0 bt171.2) else ((zk.f k1 s0_0 bt171.2 2).bind fun bt187 => (if x5_1.length < 5864062014805 then (some ((x5_1 ++ [(⟨bt187.1, bt187.2.1, bt187.2.2.1⟩ : S88)]), bt187.2.2.2)) else (none))))) else (some (x5_1, t170))) = some (r1, r2) := H
    have A12 := za.mk A120
    clear A120
    by_cases c13 : t169 = true
    ·subst c13
     have H1 : ((zb.f k1 s0_0 t170 3).bind fun bt171 => (if bt171.1 = 0 then (zbz.l1 k1 x5_1 s0_0 bt171.2) else ((zk.f k1 s0_0 bt171.2 2).bind fun bt187 => (if x5_1.length < 5864062014805 then (some ((x5_1 ++ [(⟨bt187.1, bt187.2.1, bt187.2.2.1⟩ : S88)]), bt187.2.2.2)) else (none))))) = some (r1, r2) := by rw [if_pos rfl] at H; exact H
     clear H
     have H := H1
     clear H1
     replace H := Option.bind_eq_some_iff.mp H
     obtain ⟨⟨t171, t172⟩, A140, H⟩ := H
     replace H : (if t171 = 0 then (zbz.l1 k1 x5_1 s0_0 t172) else ((zk.f k1 s0_0 t172 2).bind fun bt187 => (if x5_1.length < 5864062014805 then (some ((x5_1 ++ [(⟨bt187.1, bt187.2.1, bt187.2.2.1⟩ : S88)]), bt187.2.2.2)) else (none)))) = some (r1, r2) := H
     have A14 := za.mk A140
     clear A140
     by_cases c15 : t171 = 0
     ·rw [if_pos c15] at H
      have c15b0 : (t171 == 0) = true := beq_iff_eq.mpr c15
      have c15b1 : (t171 != 0) = false := bne_eq_false_iff_eq.mpr c15
      clear c15
      have H' := za.mk H
      clear H
      go_wp2_with (first | ((with_reducible refine zba (f := 89) rfl ?_); refine zbv (some 21) rfl rfl Try.func89 (by kernel_rfl) rfl #[.pointer (some ⟨g, 0, none⟩), .int .i64 a1] rfl Zmt ?_; (with_reducible refine (zbk.calls k1 g s0_0 x1001_1 a1 true t170 w0 _ ?side1 ?side2 A12.out).mono ?_); (case side1 => exact Zq8 HI0.out); (case side2 => exact Zq5 HB.out (zf.ge HI0.out)); rintro e w16 ⟨rfl, hi, hb, hk⟩; refine ⟨_, rfl, ?_⟩; have n0_ := za.mk (Kd.zy (Kd.zbo (zf.apart (show zf w0 _ g s0_0 x1001_1 from Zq8 HI0.out) (Zq12 HO_5.out) (by decide)) hk (fun _ h => h.2)) (fun _ h => h.1)); have n1_ := za.mk (zi.trans (Zq9 HK.out) hk (.inl rfl)); have n2_ := za.mk (hb); have n3_ := za.mk (hi); clear HO_5; clear HK; clear HB; clear HI0; have HO_5 := n0_; have HK := n1_; have HB := n2_; have HI0 := n3_; clear n0_ n1_ n2_ n3_; (try clear hb); (try clear hb2); (try clear hk); (try clear hi)) | ((with_reducible refine zba (f := 68) rfl ?_); refine zbv (some 23) rfl rfl Try.func68 (by kernel_rfl) rfl #[.pointer (some ⟨g, 0, none⟩), .int .i64 3] rfl Zmt ?_; (with_reducible refine (zb.calls k1 g s0_0 t170 3 t171 t172 w0 _ ?side1 ?side2 A14.out).mono ?_); (case side1 => exact Zq8 HI0.out); (case side2 => exact Zq5 HB.out (zf.ge HI0.out)); rintro e w17 ⟨rfl, hi, hb, hk⟩; refine ⟨_, rfl, ?_⟩; have n0_ := za.mk (Kd.zy (Kd.zbo (zf.apart (show zf w0 _ g s0_0 t170 from Zq8 HI0.out) (Zq12 HO_5.out) (by decide)) hk (fun _ h => h.2)) (fun _ h => h.1)); have n1_ := za.mk (zi.trans (Zq9 HK.out) hk (.inl rfl)); have n2_ := za.mk (hb); have n3_ := za.mk (hi); clear HO_5; clear HK; clear HB; clear HI0; have HO_5 := n0_; have HK := n1_; have HB := n2_; have HI0 := n3_; clear n0_ n1_ n2_ n3_; (try clear hb); (try clear hb2); (try clear hk); (try clear hi)))
      go_loopg [5] k1 (fun kq v5 w' => ∃ (x5_2 : List (S88)) (x1001_2 : Int), za (zbz.l1 kq x5_2 s0_0 x1001_2 = some (r1, r2)) ∧ za (kq ≤ k1) ∧ za (Kd.R k88 88 w' w.heap.size (fun _ => True) v5 x5_2) ∧ za (zf w0 w' g s0_0 x1001_2) ∧ za (zi w w' g none) ∧ za (Below w0.heap.size w0 w'))
      case atStart => exact ⟨(x5_1), (t172), H', ⟨Nat.le_refl _⟩, ⟨Zq12 HO_5.out⟩, ⟨Zq8 HI0.out⟩, ⟨Zq9 HK.out⟩, ⟨Zq5 HB.out (zf.ge HI0.out)⟩⟩
      case round =>
       clear H'
       try clear c1
       try clear p2
       try clear c6
       try clear p6
       try clear c7
       try clear c7b0
       try clear c8
       try clear c9
       try clear c10
       try clear c13
       try clear c15
       try clear c15b0
       try clear c15b1
       try clear p2
       obtain ⟨x5_2, x1001_2, HA, HK2, HO_5, HI0, HK, HB⟩ := hrel
       cases gk with
       | zero => exact absurd HA.out (by simp [zbz.l1])
       | succ k2 =>
        have H := HA.out
        clear HA
        simp only [zbz.l1] at H
        by_cases c18 : (x5_2.length : Int) ≤ 5
        ·rw [if_pos c18] at H
         have c18b0 : decide ((x5_2.length : Int) ≤ 5) = true := decide_eq_true c18
         have c18b1 : decide (x5_2.length ≤ 5) = true := decide_eq_true (by omega)
         clear c18
         replace H := Option.bind_eq_some_iff.mp H
         obtain ⟨⟨t173, t174, t175, t176⟩, A190, H⟩ := H
         replace H : (if x5_2.length < 5864062014805 then (zbz.l1 k2 (x5_2 ++ [(⟨t173, t174, t175⟩ : S88)]) s0_0 t176) else (none)) = some (r1, r2) := H
         have A19 := za.mk A190
         clear A190
         by_cases c20 : x5_2.length < 5864062014805
         ·rw [if_pos c20] at H
          have LMc20 := za.mk c20
          clear c20
          obtain ⟨y177, hy177⟩ : ∃ y_ : List (S88), y_ = (x5_2 ++ [(⟨t173, t174, t175⟩ : S88)]) := ⟨_, rfl⟩
          replace H : (zbz.l1 k2 y177 s0_0 t176) = some (r1, r2) := by first | (rw [hy177]; with_reducible exact H) | (have H2_ := (Option.bind_some _ _).symm.trans H; rw [hy177]; with_reducible exact H2_) | (have H2_ := (Option.bind_some _ _).symm.trans H; with_reducible exact H2_) | with_reducible exact H | (rw [hy177]; exact H) | exact H
          have Ny177 := za.mk hy177
          clear hy177
          have H' := za.mk H
          clear H
          obtain ⟨Ao21, co21, eo21⟩ := Kd.zbs HO_5.out
          subst eo21
          go_wp2_with (first | ((with_reducible refine zba (f := 106) rfl ?_); refine zbv (some 30) rfl rfl Try.func106 (by kernel_rfl) rfl #[.pointer (some ⟨g, 0, none⟩), .int .i64 0] rfl Zmt ?_; (with_reducible refine (zk.calls k2 g s0_0 x1001_2 0 t173 t174 t175 t176 w0 _ ?side1 ?side2 A19.out).mono ?_); (case side1 => exact Zq8 HI0.out); (case side2 => exact Zq5 HB.out (zf.ge HI0.out)); rintro e w22 ⟨rfl, hi, hb, hk⟩; refine ⟨_, rfl, ?_⟩; have n0_ := za.mk (Kd.zy (Kd.zbo (zf.apart (show zf w0 _ g s0_0 x1001_2 from Zq8 HI0.out) (Zq12 HO_5.out) (by decide)) hk (fun _ h => h.2)) (fun _ h => h.1)); have n1_ := za.mk (zi.trans (Zq9 HK.out) hk (.inl rfl)); have n2_ := za.mk (hb); have n3_ := za.mk (hi); clear HO_5; clear HK; clear HB; clear HI0; have HO_5 := n0_; have HK := n1_; have HB := n2_; have HI0 := n3_; clear n0_ n1_ n2_ n3_; (try clear hb); (try clear hb2); (try clear hk); (try clear hi)) | ((with_reducible refine zcq (b := .append) (xs := #[.tmp 28, .tmp 31]) rfl ?_); at_builtin; refine Kd.zdg k88 w.heap.size rfl (.tmp 28) (.tmp 31) 23 88 (.agg #[(.int .i64 0), (.int .i64 0), (.int .i64 0)]) 24 rfl Try.underlying23 info88 rfl (by decide) (by omega) (.slice Ao21 x5_2.length co21) x5_2 (⟨t173, t174, t175⟩ : S88) [.int .i64 t173, .int .i64 t174, .int .i64 t175] (fun _ => True) (fun _ => False) rfl rfl ?aP (fun _ hk => hk.elim) ?aF ?aO (Below.refl _ _) ?aS ?aL ?_; (case aP => exact k88_mkM _ _ _ (⟨t173, t174, t175⟩ : S88)); (case aF => exact (fun _ _ => trivial)); (case aO => exact (Zq12 HO_5.out)); (case aS => exact (zb4 (w := w) (g := g) (row := none) (Zq9 HK.out))); (case aL => have := LMc20.out; omega); intro v178 w23 ho hb hg hat; rw [← Ny177.out] at ho; have n0_ := za.mk (zf.grown (Zq8 HI0.out) hg (zf.own_ne HI0.out HO_5.out (by decide))); have n1_ := za.mk (zdb (Zq5 HB.out (zf.ge HI0.out)) HL.out hb); have n2_ := za.mk (zi.trans (Zq9 HK.out) (zi.zcy hg g) (Kd.zdi HO_5.out)); have n3_ := za.mk (ho); clear HI0; clear HB; clear HK; clear HO_5; have HI0 := n0_; have HB := n1_; have HK := n2_; have HO179 := n3_; clear n0_ n1_ n2_ n3_; clear ho hb hg hat))
          go_roundg k2
          case measure => have := HK1.out; have := HK2.out; omega
          case rel => exact ⟨(y177), (t176), H', ⟨by have := HK1.out; have := HK2.out; omega⟩, ⟨Zq12 HO179.out⟩, ⟨Zq8 HI0.out⟩, ⟨Zq9 HK.out⟩, ⟨Zq5 HB.out (zf.ge HI0.out)⟩⟩
         ·rw [if_neg c20] at H
          exact absurd H (by simp)
        ·rw [if_neg c18] at H
         have c18b0 : decide ((x5_2.length : Int) ≤ 5) = false := decide_eq_false c18
         have c18b1 : decide (x5_2.length ≤ 5) = false := decide_eq_false (by omega)
         clear c18
         replace H := Option.bind_eq_some_iff.mp H
         obtain ⟨⟨t180, t181, t182, t183⟩, A240, H⟩ := H
         replace H : (if x5_2.length < 5864062014805 then (some ((x5_2 ++ [(⟨t180, t181, t182⟩ : S88)]), t183)) else (none)) = some (r1, r2) := H
         have A24 := za.mk A240
         clear A240
         by_cases c25 : x5_2.length < 5864062014805
         ·rw [if_pos c25] at H
          have LMc25 := za.mk c25
          clear c25
          obtain ⟨y184, hy184⟩ : ∃ y_ : List (S88), y_ = (x5_2 ++ [(⟨t180, t181, t182⟩ : S88)]) := ⟨_, rfl⟩
          replace H : (some (y184, t183)) = some (r1, r2) := by first | (rw [hy184]; with_reducible exact H) | (have H2_ := (Option.bind_some _ _).symm.trans H; rw [hy184]; with_reducible exact H2_) | (have H2_ := (Option.bind_some _ _).symm.trans H; with_reducible exact H2_) | with_reducible exact H | (rw [hy184]; exact H) | exact H
          have Ny184 := za.mk hy184
          clear hy184
          simp only [Option.some.injEq, Prod.mk.injEq] at H
          obtain ⟨rfl, rfl⟩ := H
          obtain ⟨Ao26, co26, eo26⟩ := Kd.zbs HO_5.out
          subst eo26
          go_wp2_with (first | ((with_reducible refine zba (f := 106) rfl ?_); refine zbv (some 35) rfl rfl Try.func106 (by kernel_rfl) rfl #[.pointer (some ⟨g, 0, none⟩), .int .i64 2] rfl Zmt ?_; (with_reducible refine (zk.calls k2 g s0_0 x1001_2 2 t180 t181 t182 t183 w0 _ ?side1 ?side2 A24.out).mono ?_); (case side1 => exact Zq8 HI0.out); (case side2 => exact Zq5 HB.out (zf.ge HI0.out)); rintro e w27 ⟨rfl, hi, hb, hk⟩; refine ⟨_, rfl, ?_⟩; have n0_ := za.mk (Kd.zy (Kd.zbo (zf.apart (show zf w0 _ g s0_0 x1001_2 from Zq8 HI0.out) (Zq12 HO_5.out) (by decide)) hk (fun _ h => h.2)) (fun _ h => h.1)); have n1_ := za.mk (zi.trans (Zq9 HK.out) hk (.inl rfl)); have n2_ := za.mk (hb); have n3_ := za.mk (hi); clear HO_5; clear HK; clear HB; clear HI0; have HO_5 := n0_; have HK := n1_; have HB := n2_; have HI0 := n3_; clear n0_ n1_ n2_ n3_; (try clear hb); (try clear hb2); (try clear hk); (try clear hi)) | ((with_reducible refine zcq (b := .append) (xs := #[.tmp 33, .tmp 36]) rfl ?_); at_builtin; refine Kd.zdg k88 w.heap.size rfl (.tmp 33) (.tmp 36) 23 88 (.agg #[(.int .i64 0), (.int .i64 0), (.int .i64 0)]) 24 rfl Try.underlying23 info88 rfl (by decide) (by omega) (.slice Ao26 x5_2.length co26) x5_2 (⟨t180, t181, t182⟩ : S88) [.int .i64 t180, .int .i64 t181, .int .i64 t182] (fun _ => True) (fun _ => False) rfl rfl ?aP (fun _ hk => hk.elim) ?aF ?aO (Below.refl _ _) ?aS ?aL ?_; (case aP => exact k88_mkM _ _ _ (⟨t180, t181, t182⟩ : S88)); (case aF => exact (fun _ _ => trivial)); (case aO => exact (Zq12 HO_5.out)); (case aS => exact (zb4 (w := w) (g := g) (row := none) (Zq9 HK.out))); (case aL => have := LMc25.out; omega); intro v185 w28 ho hb hg hat; rw [← Ny184.out] at ho; have n0_ := za.mk (zf.grown (Zq8 HI0.out) hg (zf.own_ne HI0.out HO_5.out (by decide))); have n1_ := za.mk (zdb (Zq5 HB.out (zf.ge HI0.out)) HL.out hb); have n2_ := za.mk (zi.trans (Zq9 HK.out) (zi.zcy hg g) (Kd.zdi HO_5.out)); have n3_ := za.mk (ho); clear HI0; clear HB; clear HK; clear HO_5; have HI0 := n0_; have HB := n1_; have HK := n2_; have HO186 := n3_; clear n0_ n1_ n2_ n3_; clear ho hb hg hat))
          go_ret
          exact ⟨_, by first | rfl | (simp [zbc, zbd] <;> rfl) | (simp [*, zbc, zbd] <;> rfl), Zq12 HO186.out, Zq8 HI0.out, Zq5 HB.out (zf.ge HI0.out), Zq9 HK.out⟩
         ·rw [if_neg c25] at H
          exact absurd H (by simp)
     ·rw [if_neg c15] at H
      have c15b0 : (t171 == 0) = false := beq_eq_false_iff_ne.mpr c15
      have c15b1 : (t171 != 0) = true := bne_iff_ne.mpr c15
      replace H := Option.bind_eq_some_iff.mp H
      obtain ⟨⟨t187, t188, t189, t190⟩, A290, H⟩ := H
      replace H : (if x5_1.length < 5864062014805 then (some ((x5_1 ++ [(⟨t187, t188, t189⟩ : S88)]), t190)) else (none)) = some (r1, r2) := H
      have A29 := za.mk A290
      clear A290
      by_cases c30 : x5_1.length < 5864062014805
      ·rw [if_pos c30] at H
       have LMc30 := za.mk c30
       clear c30
       obtain ⟨y191, hy191⟩ : ∃ y_ : List (S88), y_ = (x5_1 ++ [(⟨t187, t188, t189⟩ : S88)]) := ⟨_, rfl⟩
       replace H : (some (y191, t190)) = some (r1, r2) := by first | (rw [hy191]; with_reducible exact H) | (have H2_ := (Option.bind_some _ _).symm.trans H; rw [hy191]; with_reducible exact H2_) | (have H2_ := (Option.bind_some _ _).symm.trans H; with_reducible exact H2_) | with_reducible exact H | (rw [hy191]; exact H) | exact H
       have Ny191 := za.mk hy191
       clear hy191
       simp only [Option.some.injEq, Prod.mk.injEq] at H
       obtain ⟨rfl, rfl⟩ := H
       go_wp2_with (first | ((with_reducible refine zba (f := 89) rfl ?_); refine zbv (some 21) rfl rfl Try.func89 (by kernel_rfl) rfl #[.pointer (some ⟨g, 0, none⟩), .int .i64 a1] rfl Zmt ?_; (with_reducible refine (zbk.calls k1 g s0_0 x1001_1 a1 true t170 w0 _ ?side1 ?side2 A12.out).mono ?_); (case side1 => exact Zq8 HI0.out); (case side2 => exact Zq5 HB.out (zf.ge HI0.out)); rintro e w31 ⟨rfl, hi, hb, hk⟩; refine ⟨_, rfl, ?_⟩; have n0_ := za.mk (Kd.zy (Kd.zbo (zf.apart (show zf w0 _ g s0_0 x1001_1 from Zq8 HI0.out) (Zq12 HO_5.out) (by decide)) hk (fun _ h => h.2)) (fun _ h => h.1)); have n1_ := za.mk (zi.trans (Zq9 HK.out) hk (.inl rfl)); have n2_ := za.mk (hb); have n3_ := za.mk (hi); clear HO_5; clear HK; clear HB; clear HI0; have HO_5 := n0_; have HK := n1_; have HB := n2_; have HI0 := n3_; clear n0_ n1_ n2_ n3_; (try clear hb); (try clear hb2); (try clear hk); (try clear hi)) | ((with_reducible refine zba (f := 68) rfl ?_); refine zbv (some 23) rfl rfl Try.func68 (by kernel_rfl) rfl #[.pointer (some ⟨g, 0, none⟩), .int .i64 3] rfl Zmt ?_; (with_reducible refine (zb.calls k1 g s0_0 t170 3 t171 t172 w0 _ ?side1 ?side2 A14.out).mono ?_); (case side1 => exact Zq8 HI0.out); (case side2 => exact Zq5 HB.out (zf.ge HI0.out)); rintro e w32 ⟨rfl, hi, hb, hk⟩; refine ⟨_, rfl, ?_⟩; have n0_ := za.mk (Kd.zy (Kd.zbo (zf.apart (show zf w0 _ g s0_0 t170 from Zq8 HI0.out) (Zq12 HO_5.out) (by decide)) hk (fun _ h => h.2)) (fun _ h => h.1)); have n1_ := za.mk (zi.trans (Zq9 HK.out) hk (.inl rfl)); have n2_ := za.mk (hb); have n3_ := za.mk (hi); clear HO_5; clear HK; clear HB; clear HI0; have HO_5 := n0_; have HK := n1_; have HB := n2_; have HI0 := n3_; clear n0_ n1_ n2_ n3_; (try clear hb); (try clear hb2); (try clear hk); (try clear hi)) | ((with_reducible refine zba (f := 106) rfl ?_); refine zbv (some 35) rfl rfl Try.func106 (by kernel_rfl) rfl #[.pointer (some ⟨g, 0, none⟩), .int .i64 2] rfl Zmt ?_; (with_reducible refine (zk.calls k1 g s0_0 t172 2 t187 t188 t189 t190 w0 _ ?side1 ?side2 A29.out).mono ?_); (case side1 => exact Zq8 HI0.out); (case side2 => exact Zq5 HB.out (zf.ge HI0.out)); rintro e w33 ⟨rfl, hi, hb, hk⟩; refine ⟨_, rfl, ?_⟩; have n0_ := za.mk (Kd.zy (Kd.zbo (zf.apart (show zf w0 _ g s0_0 t172 from Zq8 HI0.out) (Zq12 HO_5.out) (by decide)) hk (fun _ h => h.2)) (fun _ h => h.1)); have n1_ := za.mk (zi.trans (Zq9 HK.out) hk (.inl rfl)); have n2_ := za.mk (hb); have n3_ := za.mk (hi); clear HO_5; clear HK; clear HB; clear HI0; have HO_5 := n0_; have HK := n1_; have HB := n2_; have HI0 := n3_; clear n0_ n1_ n2_ n3_; (try clear hb); (try clear hb2); (try clear hk); (try clear hi)) | ((with_reducible refine zcq (b := .append) (xs := #[.tmp 33, .tmp 36]) rfl ?_); at_builtin; refine Kd.zdg k88 w.heap.size rfl (.tmp 33) (.tmp 36) 23 88 (.agg #[(.int .i64 0), (.int .i64 0), (.int .i64 0)]) 24 rfl Try.underlying23 info88 rfl (by decide) (by omega) u5 x5_1 (⟨t187, t188, t189⟩ : S88) [.int .i64 t187, .int .i64 t188, .int .i64 t189] (fun _ => True) (fun _ => False) rfl rfl ?aP (fun _ hk => hk.elim) ?aF ?aO (Below.refl _ _) ?aS ?aL ?_; (case aP => exact k88_mkM _ _ _ (⟨t187, t188, t189⟩ : S88)); (case aF => exact (fun _ _ => trivial)); (case aO => exact (Zq12 HO_5.out)); (case aS => exact (zb4 (w := w) (g := g) (row := none) (Zq9 HK.out))); (case aL => have := LMc30.out; omega); intro v192 w34 ho hb hg hat; rw [← Ny191.out] at ho; have n0_ := za.mk (zf.grown (Zq8 HI0.out) hg (zf.own_ne HI0.out HO_5.out (by decide))); have n1_ := za.mk (zdb (Zq5 HB.out (zf.ge HI0.out)) HL.out hb); have n2_ := za.mk (zi.trans (Zq9 HK.out) (zi.zcy hg g) (Kd.zdi HO_5.out)); have n3_ := za.mk (ho); clear HI0; clear HB; clear HK; clear HO_5; have HI0 := n0_; have HB := n1_; have HK := n2_; have HO193 := n3_; clear n0_ n1_ n2_ n3_; clear ho hb hg hat))
       go_ret
       exact ⟨_, by first | rfl | (simp [zbc, zbd] <;> rfl) | (simp [*, zbc, zbd] <;> rfl), Zq12 HO193.out, Zq8 HI0.out, Zq5 HB.out (zf.ge HI0.out), Zq9 HK.out⟩
      ·rw [if_neg c30] at H
       exact absurd H (by simp)
    ·replace c13 := Bool.eq_false_iff.mpr c13
     subst c13
     have H1 : (some (x5_1, t170)) = some (r1, r2) := by rw [if_neg (show ¬ (false = true) by decide)] at H; exact H
     clear H
     have H := H1
     clear H1
     simp only [Option.some.injEq, Prod.mk.injEq] at H
     obtain ⟨rfl, rfl⟩ := H
     go_wp2_with (first | ((with_reducible refine zba (f := 89) rfl ?_); refine zbv (some 21) rfl rfl Try.func89 (by kernel_rfl) rfl #[.pointer (some ⟨g, 0, none⟩), .int .i64 a1] rfl Zmt ?_; (with_reducible refine (zbk.calls k1 g s0_0 x1001_1 a1 false t170 w0 _ ?side1 ?side2 A12.out).mono ?_); (case side1 => exact Zq8 HI0.out); (case side2 => exact Zq5 HB.out (zf.ge HI0.out)); rintro e w35 ⟨rfl, hi, hb, hk⟩; refine ⟨_, rfl, ?_⟩; have n0_ := za.mk (Kd.zy (Kd.zbo (zf.apart (show zf w0 _ g s0_0 x1001_1 from Zq8 HI0.out) (Zq12 HO_5.out) (by decide)) hk (fun _ h => h.2)) (fun _ h => h.1)); have n1_ := za.mk (zi.trans (Zq9 HK.out) hk (.inl rfl)); have n2_ := za.mk (hb); have n3_ := za.mk (hi); clear HO_5; clear HK; clear HB; clear HI0; have HO_5 := n0_; have HK := n1_; have HB := n2_; have HI0 := n3_; clear n0_ n1_ n2_ n3_; (try clear hb); (try clear hb2); (try clear hk); (try clear hi)))
     go_ret
     exact ⟨_, by first | rfl | (simp [zbc, zbd] <;> rfl) | (simp [*, zbc, zbd] <;> rfl), Zq12 HO_5.out, Zq8 HI0.out, Zq5 HB.out (zf.ge HI0.out), Zq9 HK.out⟩
def zbw.f (a0 : Int) (a1 : Int) (a2 : Int) : Option (Bool) := if a0 ≥ a1 then (some (decide (a0 ≤ a2))) else (some false)
set_option maxHeartbeats 8000000 in
set_option maxRecDepth 100000 in
theorem zbw.calls (a0 : Int) (a1 : Int) (a2 : Int) (r : Bool) (w : World) (h : zbw.f a0 a1 a2 = some r) :
  Calls Try.prog 102 #[.int .i64 a0, .int .i64 a1, .int .i64 a2] w fun e w' => e = .returned (.bool r) ∧ zcj w w' := by
 have H : (if a0 ≥ a1 then (some (decide (a0 ≤ a2))) else (some false)) = some r := h
 clear h
 by_cases c4 : a0 ≥ a1
 ·rw [if_pos c4] at H
  have c4b0 : decide (a1 ≤ a0) = true := decide_eq_true c4
  clear c4
  obtain rfl := Option.some.inj H
  go_enter Try.func102, Try.ntmps102
  go_wp2
  go_ret
  exact ⟨by first | rfl | (simp; done) | (simp [*]; done), by repeat (first | exact zcj.refl _ | apply zcj.step)⟩
 ·rw [if_neg c4] at H
  have c4b0 : decide (a1 ≤ a0) = false := decide_eq_false c4
  clear c4
  obtain rfl := Option.some.inj H
  go_enter Try.func102, Try.ntmps102
  go_wp2
  go_ret
  exact ⟨by first | rfl | (simp; done) | (simp [*]; done), by repeat (first | exact zcj.refl _ | apply zcj.step)⟩
def zdd.f (a0_0 : Int) (a0_1 : Int) (a0_2 : Int) : Option (Bool) := (zbw.f a0_0 1 8).bind fun t203 => (if t203 = true then ((zbw.f a0_1 a0_0 a0_2).bind fun t204 => (if t204 = true then ((zbw.f a0_2 1 12).bind fun t205 => (some t205)) else (some false))) else (some false))
set_option maxHeartbeats 8000000 in
set_option maxRecDepth 100000 in
theorem zdd.calls (a0_0 : Int) (a0_1 : Int) (a0_2 : Int) (r : Bool) (w : World) (h : zdd.f a0_0 a0_1 a0_2 = some r) :
  Calls Try.prog 90 #[.agg #[.int .i64 a0_0, .int .i64 a0_1, .int .i64 a0_2]] w fun e w' => e = .returned (.bool r) ∧ Below w.heap.size w w' := by
 have hu88 := Try.underlying88
 have HB := za.mk (Below.refl w.heap.size w)
 have H : ((zbw.f a0_0 1 8).bind fun t203 => (if t203 = true then ((zbw.f a0_1 a0_0 a0_2).bind fun t204 => (if t204 = true then ((zbw.f a0_2 1 12).bind fun t205 => (some t205)) else (some false))) else (some false))) = some r := h
 clear h
 replace H := Option.bind_eq_some_iff.mp H
 obtain ⟨t203, A20, H⟩ := H
 replace H : (if t203 = true then ((zbw.f a0_1 a0_0 a0_2).bind fun t204 => (if t204 = true then ((zbw.f a0_2 1 12).bind fun t205 => (some t205)) else (some false))) else (some false)) = some r := H
 have A2 := za.mk A20
 clear A20
 by_cases c3 : t203 = true
 ·subst c3
  have H1 : ((zbw.f a0_1 a0_0 a0_2).bind fun t204 => (if t204 = true then ((zbw.f a0_2 1 12).bind fun t205 => (some t205)) else (some false))) = some r := by rw [if_pos rfl] at H; exact H
  clear H
  have H := H1
  clear H1
  replace H := Option.bind_eq_some_iff.mp H
  obtain ⟨t204, A40, H⟩ := H
  replace H : (if t204 = true then ((zbw.f a0_2 1 12).bind fun t205 => (some t205)) else (some false)) = some r := H
  have A4 := za.mk A40
  clear A40
  by_cases c5 : t204 = true
  ·subst c5
   have H1 : ((zbw.f a0_2 1 12).bind fun t205 => (some t205)) = some r := by rw [if_pos rfl] at H; exact H
   clear H
   have H := H1
   clear H1
   replace H := Option.bind_eq_some_iff.mp H
   obtain ⟨t205, A60, H⟩ := H
   replace H : (some t205) = some r := H
   have A6 := za.mk A60
   clear A60
   obtain rfl := Option.some.inj H
   go_enter Try.func90, Try.ntmps90
   go_wp2_with (first | ((with_reducible refine zbp (N := 1) rfl ?_); refine zb1 ?hg (N := 1) ?hd (cs := #[.int .i64 a0_0, .int .i64 a0_1, .int .i64 a0_2]) (t := 88) ?hr ?_; (case hd => rfl); (case hg => rfl); (case hr => first | (go_simp; done) | (go_simp; rfl)); intro gb202 hg w7 hbox hb; have n0_ := za.mk (zo (Zq3 HB.out) hb); have n1_ := za.mk (hbox); have n2_ := za.mk ((by rw [hg]; exact (zbb (Zq3 HB.out)) : w.heap.size ≤ gb202)); have n3_ := za.mk ((by rw [hg]; exact (zbb (Zq3 HB.out)) : w.heap.size ≤ gb202)); clear HB; have HB := n0_; have BK202 := n1_; have GW202 := n2_; have GE202 := n3_; clear n0_ n1_ n2_ n3_; clear hb hbox hg; have hcz8_0 : w7.cell? ⟨gb202, 0, none⟩ = some (.int .i64 a0_0) := (zh BK202.out 0).trans rfl; have hcz8_1 : w7.cell? ⟨gb202, 1, none⟩ = some (.int .i64 a0_1) := (zh BK202.out 1).trans rfl; have hcz8_2 : w7.cell? ⟨gb202, 2, none⟩ = some (.int .i64 a0_2) := (zh BK202.out 2).trans rfl; have hfz8_0 := zg BK202.out 0; have hfz8_1 := zg BK202.out 1; have hfz8_2 := zg BK202.out 2) | ((with_reducible refine zba (f := 102) rfl ?_); refine zbv (some 5) rfl rfl Try.func102 (by kernel_rfl) rfl #[.int .i64 a0_0, .int .i64 1, .int .i64 8] rfl Zmt ?_; (with_reducible refine (zbw.calls a0_0 1 8 true _ A2.out).mono ?_); rintro e w' ⟨rfl, ⟨nd, rfl⟩⟩; refine ⟨_, rfl, ?_⟩) | (go_at_call 102; (with_reducible refine (zbw.calls a0_1 a0_0 a0_2 true _ A4.out).mono ?_); rintro e w' ⟨rfl, ⟨nd, rfl⟩⟩) | (go_at_call 102; (with_reducible refine (zbw.calls a0_2 1 12 t205 _ A6.out).mono ?_); rintro e w' ⟨rfl, ⟨nd, rfl⟩⟩))
   go_ret
   exact ⟨by first | rfl | (simp [zbc, zbd] <;> rfl) | (simp [*, zbc, zbd] <;> rfl), Zq5 HB.out GE202.out⟩
  ·replace c5 := Bool.eq_false_iff.mpr c5
   subst c5
   have H1 : (some false) = some r := by rw [if_neg (show ¬ (false = true) by decide)] at H; exact H
   clear H
   have H := H1
   clear H1
   obtain rfl := Option.some.inj H
   go_enter Try.func90, Try.ntmps90
   go_wp2_with (first | ((with_reducible refine zbp (N := 1) rfl ?_); refine zb1 ?hg (N := 1) ?hd (cs := #[.int .i64 a0_0, .int .i64 a0_1, .int .i64 a0_2]) (t := 88) ?hr ?_; (case hd => rfl); (case hg => rfl); (case hr => first | (go_simp; done) | (go_simp; rfl)); intro gb202 hg w9 hbox hb; have n0_ := za.mk (zo (Zq3 HB.out) hb); have n1_ := za.mk (hbox); have n2_ := za.mk ((by rw [hg]; exact (zbb (Zq3 HB.out)) : w.heap.size ≤ gb202)); have n3_ := za.mk ((by rw [hg]; exact (zbb (Zq3 HB.out)) : w.heap.size ≤ gb202)); clear HB; have HB := n0_; have BK202 := n1_; have GW202 := n2_; have GE202 := n3_; clear n0_ n1_ n2_ n3_; clear hb hbox hg; have hcz10_0 : w9.cell? ⟨gb202, 0, none⟩ = some (.int .i64 a0_0) := (zh BK202.out 0).trans rfl; have hcz10_1 : w9.cell? ⟨gb202, 1, none⟩ = some (.int .i64 a0_1) := (zh BK202.out 1).trans rfl; have hcz10_2 : w9.cell? ⟨gb202, 2, none⟩ = some (.int .i64 a0_2) := (zh BK202.out 2).trans rfl; have hfz10_0 := zg BK202.out 0; have hfz10_1 := zg BK202.out 1; have hfz10_2 := zg BK202.out 2) | ((with_reducible refine zba (f := 102) rfl ?_); refine zbv (some 5) rfl rfl Try.func102 (by kernel_rfl) rfl #[.int .i64 a0_0, .int .i64 1, .int .i64 8] rfl Zmt ?_; (with_reducible refine (zbw.calls a0_0 1 8 true _ A2.out).mono ?_); rintro e w' ⟨rfl, ⟨nd, rfl⟩⟩; refine ⟨_, rfl, ?_⟩) | (go_at_call 102; (with_reducible refine (zbw.calls a0_1 a0_0 a0_2 false _ A4.out).mono ?_); rintro e w' ⟨rfl, ⟨nd, rfl⟩⟩))
   go_ret
   exact ⟨by first | rfl | (simp [zbc, zbd] <;> rfl) | (simp [*, zbc, zbd] <;> rfl), Zq5 HB.out GE202.out⟩
 ·replace c3 := Bool.eq_false_iff.mpr c3
  subst c3
  have H1 : (some false) = some r := by rw [if_neg (show ¬ (false = true) by decide)] at H; exact H
  clear H
  have H := H1
  clear H1
  obtain rfl := Option.some.inj H
  go_enter Try.func90, Try.ntmps90
  go_wp2_with (first | ((with_reducible refine zbp (N := 1) rfl ?_); refine zb1 ?hg (N := 1) ?hd (cs := #[.int .i64 a0_0, .int .i64 a0_1, .int .i64 a0_2]) (t := 88) ?hr ?_; (case hd => rfl); (case hg => rfl); (case hr => first | (go_simp; done) | (go_simp; rfl)); intro gb202 hg w11 hbox hb; have n0_ := za.mk (zo (Zq3 HB.out) hb); have n1_ := za.mk (hbox); have n2_ := za.mk ((by rw [hg]; exact (zbb (Zq3 HB.out)) : w.heap.size ≤ gb202)); have n3_ := za.mk ((by rw [hg]; exact (zbb (Zq3 HB.out)) : w.heap.size ≤ gb202)); clear HB; have HB := n0_; have BK202 := n1_; have GW202 := n2_; have GE202 := n3_; clear n0_ n1_ n2_ n3_; clear hb hbox hg; have hcz12_0 : w11.cell? ⟨gb202, 0, none⟩ = some (.int .i64 a0_0) := (zh BK202.out 0).trans rfl; have hcz12_1 : w11.cell? ⟨gb202, 1, none⟩ = some (.int .i64 a0_1) := (zh BK202.out 1).trans rfl; have hcz12_2 : w11.cell? ⟨gb202, 2, none⟩ = some (.int .i64 a0_2) := (zh BK202.out 2).trans rfl; have hfz12_0 := zg BK202.out 0; have hfz12_1 := zg BK202.out 1; have hfz12_2 := zg BK202.out 2) | ((with_reducible refine zba (f := 102) rfl ?_); refine zbv (some 5) rfl rfl Try.func102 (by kernel_rfl) rfl #[.int .i64 a0_0, .int .i64 1, .int .i64 8] rfl Zmt ?_; (with_reducible refine (zbw.calls a0_0 1 8 false _ A2.out).mono ?_); rintro e w' ⟨rfl, ⟨nd, rfl⟩⟩; refine ⟨_, rfl, ?_⟩))
  go_ret
  exact ⟨by first | rfl | (simp [zbc, zbd] <;> rfl) | (simp [*, zbc, zbd] <;> rfl), Zq5 HB.out GE202.out⟩
def zbx.l0 : Nat → List (S88) → Int → Option (Bool)
 | 0, _, _ => none
 | k + 1, x0, x3 => if x3 < (x0.length : Int) then (if 0 ≤ x3 then ((zdd.f ((zbf x0 x3).f0) ((zbf x0 x3).f1) ((zbf x0 x3).f2)).bind fun t207 => (if t207 = true then (zbx.l0 k x0 (wrap64 (x3 + 1))) else (some false))) else (none)) else (some (decide ((x0.length : Int) ≤ 5)))
def zbx.f (k : Nat) (l0 : List (S88)) : Option (Bool) := zbx.l0 k l0 0
set_option maxHeartbeats 8000000 in
set_option maxRecDepth 100000 in
theorem zbx.calls (k : Nat) (A0 : Option Addr) (c0 : Nat) (l0 : List (S88)) (r : Bool) (w : World) (hr0 : Kd.C k88 w A0 l0.length l0) (hc0 : l0.length ≤ c0) (h : zbx.f k l0 = some r) :
  Calls Try.prog 46 #[.slice A0 l0.length c0] w fun e w' => e = .returned (.bool r) ∧ Below w.heap.size w w' := by
 have hu88 := Try.underlying88
 have HR0 := za.mk hr0
 have HC0 := za.mk hc0
 clear hr0 hc0
 have HB := za.mk (Below.refl w.heap.size w)
 have H : (zbx.l0 k l0 0) = some r := h
 clear h
 have H' := za.mk H
 clear H
 go_enter Try.func46, Try.ntmps46
 go_wp2
 go_loopg [3] k (fun kq v3 w' => ∃ (x3_1 : Int), v3 = .int .i64 x3_1 ∧ za (zbx.l0 kq l0 x3_1 = some r) ∧ za (kq ≤ k) ∧ za (Below w.heap.size w w'))
 case atStart => exact ⟨(0), Zrs, H', ⟨Nat.le_refl _⟩, ⟨Zq3 HB.out⟩⟩
 case round =>
  clear H'
  obtain ⟨x3_1, rfl, HA, HK1, HB⟩ := hrel
  cases gk with
  | zero => exact absurd HA.out (by simp [zbx.l0])
  | succ k1 =>
   have H := HA.out
   clear HA
   simp only [zbx.l0] at H
   by_cases c2 : x3_1 < (l0.length : Int)
   ·rw [if_pos c2] at H
    have c2b0 : decide (x3_1 < (l0.length : Int)) = true := decide_eq_true c2
    clear c2
    by_cases c3 : 0 ≤ x3_1
    ·rw [if_pos c3] at H
     have c3b0 : decide (0 ≤ x3_1) = true := decide_eq_true c3
     clear c3
     replace H := Option.bind_eq_some_iff.mp H
     obtain ⟨t207, A40, H⟩ := H
     replace H : (if t207 = true then (zbx.l0 k1 l0 (wrap64 (x3_1 + 1))) else (some false)) = some r := H
     have A4 := za.mk A40
     clear A40
     by_cases c5 : t207 = true
     ·subst c5
      have H1 : (zbx.l0 k1 l0 (wrap64 (x3_1 + 1))) = some r := by rw [if_pos rfl] at H; exact H
      clear H
      have H := H1
      clear H1
      have H' := za.mk H
      clear H
      have p206 : 0 ≤ (x3_1 : Int) := of_decide_eq_true Zas
      have q206 : x3_1 < (l0.length : Int) := of_decide_eq_true Zas
      obtain ⟨ad206, e206, hx206_0, hx206_1, hx206_2⟩ := at_T88 HR0.out x3_1 p206 q206
      cases e206
      replace hx206_0 := (HB.out.cell (World.block_lt_of_cell? w _ hx206_0)).trans hx206_0
      replace hx206_1 := (HB.out.cell (World.block_lt_of_cell? w _ hx206_1)).trans hx206_1
      replace hx206_2 := (HB.out.cell (World.block_lt_of_cell? w _ hx206_2)).trans hx206_2
      replace p206 := eq_true p206
      replace q206 := eq_true q206
      go_wp2_with (first | ((with_reducible refine zba (f := 90) rfl ?_); refine zbv (some 14) rfl rfl Try.func90 (by kernel_rfl) rfl #[.agg #[.int .i64 ((zbf l0 x3_1).f0), .int .i64 ((zbf l0 x3_1).f1), .int .i64 ((zbf l0 x3_1).f2)]] rfl Zmt ?_; (with_reducible refine (zdd.calls ((zbf l0 x3_1).f0) ((zbf l0 x3_1).f1) ((zbf l0 x3_1).f2) true _ A4.out).mono ?_); rintro e w6 ⟨rfl, hb⟩; refine ⟨_, rfl, ?_⟩; have n0_ := za.mk (zo (Zq3 HB.out) hb); clear HB; have HB := n0_; clear n0_; (try clear hb); (try clear hb2); (try clear hk); (try clear hi)))
      go_roundg k1
      case measure => have := HK1.out; omega
      case rel => exact ⟨(wrap64 (x3_1 + 1)), Zrs, H', ⟨by have := HK1.out; omega⟩, ⟨Zq3 HB.out⟩⟩
     ·replace c5 := Bool.eq_false_iff.mpr c5
      subst c5
      have H1 : (some false) = some r := by rw [if_neg (show ¬ (false = true) by decide)] at H; exact H
      clear H
      have H := H1
      clear H1
      obtain rfl := Option.some.inj H
      have p206 : 0 ≤ (x3_1 : Int) := of_decide_eq_true Zas
      have q206 : x3_1 < (l0.length : Int) := of_decide_eq_true Zas
      obtain ⟨ad206, e206, hx206_0, hx206_1, hx206_2⟩ := at_T88 HR0.out x3_1 p206 q206
      cases e206
      replace hx206_0 := (HB.out.cell (World.block_lt_of_cell? w _ hx206_0)).trans hx206_0
      replace hx206_1 := (HB.out.cell (World.block_lt_of_cell? w _ hx206_1)).trans hx206_1
      replace hx206_2 := (HB.out.cell (World.block_lt_of_cell? w _ hx206_2)).trans hx206_2
      replace p206 := eq_true p206
      replace q206 := eq_true q206
      go_wp2_with (first | ((with_reducible refine zba (f := 90) rfl ?_); refine zbv (some 14) rfl rfl Try.func90 (by kernel_rfl) rfl #[.agg #[.int .i64 ((zbf l0 x3_1).f0), .int .i64 ((zbf l0 x3_1).f1), .int .i64 ((zbf l0 x3_1).f2)]] rfl Zmt ?_; (with_reducible refine (zdd.calls ((zbf l0 x3_1).f0) ((zbf l0 x3_1).f1) ((zbf l0 x3_1).f2) false _ A4.out).mono ?_); rintro e w7 ⟨rfl, hb⟩; refine ⟨_, rfl, ?_⟩; have n0_ := za.mk (zo (Zq3 HB.out) hb); clear HB; have HB := n0_; clear n0_; (try clear hb); (try clear hb2); (try clear hk); (try clear hi)))
      go_ret
      exact ⟨by first | rfl | (simp [zbc, zbd] <;> rfl) | (simp [*, zbc, zbd] <;> rfl), Zq3 HB.out⟩
    ·rw [if_neg c3] at H
     exact absurd H (by simp)
   ·rw [if_neg c2] at H
    have c2b0 : decide (x3_1 < (l0.length : Int)) = false := decide_eq_false c2
    clear c2
    obtain rfl := Option.some.inj H
    go_wp2
    go_ret
    exact ⟨by first | rfl | (simp [zbc, zbd] <;> rfl) | (simp [*, zbc, zbd] <;> rfl), Zq3 HB.out⟩
mutual
def zz.l0 : Nat → List (S88) → Int → List (S34) → List Int → Int → Int → List Int → Int → Option ((List (S34)) × Int)
 | 0, _, _, _, _, _, _, _, _ => none
 | k + 1, x1, x2, x7, x8, x9, x10, x1000, x1001 => if x10 < 100 then (zz.l1 k x1 x2 x7 x8 x9 x10 0 x1000 x1001) else ((zbk.f k x1000 x1001 x2).bind fun bt236 => (if bt236.1 = true then (zz.j3 k x1 x7 (decide ((x7.length : Int) > 0)) x1000 bt236.2) else (zz.j3 k x1 x7 false x1000 bt236.2)))
def zz.l1 : Nat → List (S88) → Int → List (S34) → List Int → Int → Int → Int → List Int → Int → Option ((List (S34)) × Int)
 | 0, _, _, _, _, _, _, _, _, _ => none
 | k + 1, x1, x2, x7, x8, x9, x10, x11, x1000, x1001 => if x11 < (x1.length : Int) then (if 0 ≤ x11 then (if x11 < (x8.length : Int) then (if x10 < (rd x8 x11) then (zz.j2 k x1 x2 x7 x8 x9 x10 x11 true x1000 x1001) else (if (x7.length : Int) = 60 then (zz.j2 k x1 x2 x7 x8 x9 x10 x11 true x1000 x1001) else (if x9 < 2 then ((zb.f k x1000 x1001 (wrap64 (3 + (wrap64 (7 * x9))))).bind fun bt217 => (zz.j2 k x1 x2 x7 x8 x9 x10 x11 (decide (bt217.1 > 1)) x1000 bt217.2)) else (zz.j2 k x1 x2 x7 x8 x9 x10 x11 false x1000 x1001)))) else (none)) else (none)) else (zz.l0 k x1 x2 x7 x8 x9 (wrap64 (x10 + 1)) x1000 x1001)
def zz.j2 : Nat → List (S88) → Int → List (S34) → List Int → Int → Int → Int → Bool → List Int → Int → Option ((List (S34)) × Int)
 | 0, _, _, _, _, _, _, _, _, _, _ => none
 | k + 1, x1, x2, x7, x8, x9, x10, x11, x52, x1000, x1001 => if x52 = true then (zz.l1 k x1 x2 x7 x8 x9 x10 (wrap64 (x11 + 1)) x1000 x1001) else (if 0 ≤ x11 then (if x11 < (x1.length : Int) then ((zb.f k x1000 x1001 3).bind fun bt220 => (if bt220.1 = 0 then ((zb.f k x1000 bt220.2 ((zbf x1 x11).f0)).bind fun bt222 => (if x7.length < 4398046511104 then (if x11 < (x8.length : Int) then (zz.l1 k x1 x2 (x7 ++ [(⟨x11, x10, wrap64 (x10 + ((zbf x1 x11).f1)), wrap64 (1 + bt222.1)⟩ : S34)]) (x8.set (x11 : Int).toNat (wrap64 (x10 + ((zbf x1 x11).f2)))) x9 x10 (wrap64 (x11 + 1)) x1000 bt222.2) else (none)) else (none))) else (if x7.length < 4398046511104 then (if x11 < (x8.length : Int) then (zz.l1 k x1 x2 (x7 ++ [(⟨x11, x10, wrap64 (x10 + ((zbf x1 x11).f1)), (zbf x1 x11).f0⟩ : S34)]) (x8.set (x11 : Int).toNat (wrap64 (x10 + ((zbf x1 x11).f2)))) x9 x10 (wrap64 (x11 + 1)) x1000 bt220.2) else (none)) else (none)))) else (none)) else (none))
def zz.j3 : Nat → List (S88) → List (S34) → Bool → List Int → Int → Option ((List (S34)) × Int)
 | 0, _, _, _, _, _ => none
 | k + 1, x1, x7, x96, x1000, x1001 => if x96 = true then ((zb.f k x1000 x1001 (x7.length : Int)).bind fun bt238 => ((zb.f k x1000 bt238.2 6).bind fun bt240 => (if bt240.1 = 0 then ((some (([(-1), (x1.length : Int)] : List Int) : List Int)).bind fun y242 => ((zb.f k x1000 bt240.2 2).bind fun bt245 => (if 0 ≤ bt245.1 then (if bt245.1 < (y242.length : Int) then (if 0 ≤ bt238.1 then (if bt238.1 < (x7.length : Int) then (some ((x7.set (bt238.1 : Int).toNat (⟨rd y242 bt245.1, (ze x7 bt238.1).f1, (ze x7 bt238.1).f2, (ze x7 bt238.1).f3⟩ : S34)), bt245.2)) else (none)) else (none)) else (none)) else (none)))) else (if bt240.1 = 1 then (if 0 ≤ bt238.1 then (if bt238.1 < (x7.length : Int) then ((some (([(-1), 120, wrap64 (((ze x7 bt238.1).f1) + 1)] : List Int) : List Int)).bind fun y250 => ((zb.f k x1000 bt240.2 3).bind fun bt253 => (if 0 ≤ bt253.1 then (if bt253.1 < (y250.length : Int) then (some ((x7.set (bt238.1 : Int).toNat (⟨(ze x7 bt238.1).f0, rd y250 bt253.1, (ze x7 bt238.1).f2, (ze x7 bt238.1).f3⟩ : S34)), bt253.2)) else (none)) else (none)))) else (none)) else (none)) else (if bt240.1 = 2 then (if 0 ≤ bt238.1 then (if bt238.1 < (x7.length : Int) then (some ((x7.set (bt238.1 : Int).toNat (⟨(ze x7 bt238.1).f0, (ze x7 bt238.1).f1, wrap64 (((ze x7 bt238.1).f2) + 1), (ze x7 bt238.1).f3⟩ : S34)), bt240.2)) else (none)) else (none)) else (if bt240.1 = 3 then ((some (([0, 9] : List Int) : List Int)).bind fun y259 => ((zb.f k x1000 bt240.2 2).bind fun bt262 => (if 0 ≤ bt262.1 then (if bt262.1 < (y259.length : Int) then (if 0 ≤ bt238.1 then (if bt238.1 < (x7.length : Int) then (some ((x7.set (bt238.1 : Int).toNat (⟨(ze x7 bt238.1).f0, (ze x7 bt238.1).f1, (ze x7 bt238.1).f2, rd y259 bt262.1⟩ : S34)), bt262.2)) else (none)) else (none)) else (none)) else (none)))) else (if bt240.1 = 4 then (if 0 ≤ bt238.1 then (if bt238.1 < (x7.length : Int) then (if x7.length < 4398046511104 then (some ((x7 ++ [(⟨(ze x7 bt238.1).f0, (ze x7 bt238.1).f1, (ze x7 bt238.1).f2, (ze x7 bt238.1).f3⟩ : S34)]), bt240.2)) else (none)) else (none)) else (none)) else (zz.l2 k x7 x1000 bt240.2)))))))) else (some (x7, x1001))
def zz.l2 : Nat → List (S34) → List Int → Int → Option ((List (S34)) × Int)
 | 0, _, _, _ => none
 | k + 1, x7, x1000, x1001 => if (x7.length : Int) ≤ 60 then (if x7.length < 4398046511104 then (zz.l2 k (x7 ++ [(⟨0, 119, 120, 1⟩ : S34)]) x1000 x1001) else (none)) else (some (x7, x1001))
end
def zz.f (k : Nat) (s0_0 : List Int) (s0_1 : Int) (l1 : List (S88)) (a2 : Int) : Option ((List (S34)) × Int) := if 0 ≤ (l1.length : Int) then (if ((l1.length : Int) : Int).toNat ≤ 35184372088832 then ((zb.f k s0_0 s0_1 3).bind fun bt214 => (zz.l0 k l1 a2 (([] : List (S34))) (List.replicate ((l1.length : Int) : Int).toNat 0) bt214.1 0 s0_0 bt214.2)) else (none)) else (none)
def zz.T24 : Bool × List (List Nat × List Nat) := (true, [([], []), ([], []), ([], []), ([], []), ([2, 3], [2, 3]), ([4], [4]), ([5], [5]), ([6], [6]), ([7], [7]), ([], []), ([9], [9]), ([8, 10], [8, 10]), ([11], [11]), ([0, 1, 0, 1, 2, 3, 4, 5, 6, 7, 8, 9, 10, 11, 12], [0, 1]), ([13, 0, 1, 2, 3, 4, 5, 6, 7, 8, 9, 10, 11, 12], [13]), ([14, 12, 10, 0, 1, 2, 3, 4, 5, 6, 7, 8, 9, 10, 11, 12], [12, 14])])
def zz.B24 : List Nat := [0, 0, 0, 0, 12, 28, 60, 124, 252, 0, 512, 2044, 4092, 8191, 16383, 32767]
theorem zz.tab24 : rtab .any (opsOf Try.f47 24) = zz.T24 := by kernel_rfl
theorem zz.bits24 : waitsOk zz.T24.2 zz.B24 = true := by kernel_rfl
set_option maxHeartbeats 8000000 in
set_option maxRecDepth 100000 in
theorem zz.calls (k : Nat) (g : Nat) (s0_0 : List Int) (s0_1 : Int) (A1 : Option Addr) (c1 : Nat) (l1 : List (S88)) (a2 : Int) (r1 : List (S34)) (r2 : Int) (w0 w : World) (hI : zf w0 w g s0_0 s0_1) (hB : Below w0.heap.size w0 w) (hr1 : ∀ W_, zi w W_ g none → Kd.C k88 W_ A1 l1.length l1) (hc1 : l1.length ≤ c1) (h : zz.f k s0_0 s0_1 l1 a2 = some (r1, r2)) :
  Calls Try.prog 47 #[.pointer (some ⟨g, 0, none⟩), .slice A1 l1.length c1, .int .i64 a2] w fun e w' => ∃ v0_ : Value, e = .returned (v0_) ∧ Kd.R k34 34 w' w.heap.size (fun _ => True) v0_ r1 ∧ zf w0 w' g s0_0 r2 ∧ Below w0.heap.size w0 w' ∧ zi w w' g none := by
 have hu34 := Try.underlying34
 have HR1 := za.mk hr1
 have HC1 := za.mk hc1
 clear hr1 hc1
 have HI0 := za.mk hI
 have HK := za.mk (zi.refl w g none)
 have HL := za.mk hB.size
 clear hI
 have HW0 := za.mk hB.size
 have HB := za.mk hB
 clear hB
 have H : (if 0 ≤ (l1.length : Int) then (if ((l1.length : Int) : Int).toNat ≤ 35184372088832 then ((zb.f k s0_0 s0_1 3).bind fun bt214 => (zz.l0 k l1 a2 (([] : List (S34))) (List.replicate ((l1.length : Int) : Int).toNat 0) bt214.1 0 s0_0 bt214.2)) else (none)) else (none)) = some (r1, r2) := h
 clear h
 obtain ⟨y208, hy208⟩ : ∃ y_ : List (S34), y_ = (([] : List (S34))) := ⟨_, rfl⟩
 replace H : (if 0 ≤ (l1.length : Int) then (if ((l1.length : Int) : Int).toNat ≤ 35184372088832 then ((zb.f k s0_0 s0_1 3).bind fun bt214 => (zz.l0 k l1 a2 y208 (List.replicate ((l1.length : Int) : Int).toNat 0) bt214.1 0 s0_0 bt214.2)) else (none)) else (none)) = some (r1, r2) := by first | (rw [hy208]; with_reducible exact H) | (have H2_ := (Option.bind_some _ _).symm.trans H; rw [hy208]; with_reducible exact H2_) | (have H2_ := (Option.bind_some _ _).symm.trans H; with_reducible exact H2_) | with_reducible exact H | (rw [hy208]; exact H) | exact H
 have Ny208 := za.mk hy208
 clear hy208
 by_cases c4 : 0 ≤ (l1.length : Int)
 ·rw [if_pos c4] at H
  have c4b0 := eq_true c4
  have c4b1 : decide (0 ≤ (l1.length : Int)) = true := decide_eq_true c4
  clear c4
  by_cases c5 : ((l1.length : Int) : Int).toNat ≤ 35184372088832
  ·rw [if_pos c5] at H
   have c5b0 := eq_true c5
   have c5b1 : decide (((l1.length : Int) : Int).toNat ≤ 35184372088832) = true := decide_eq_true c5
   clear c5
   obtain ⟨y211, hy211⟩ : ∃ y_ : List Int, y_ = (List.replicate ((l1.length : Int) : Int).toNat 0) := ⟨_, rfl⟩
   replace H : ((zb.f k s0_0 s0_1 3).bind fun bt214 => (zz.l0 k l1 a2 y208 y211 bt214.1 0 s0_0 bt214.2)) = some (r1, r2) := by first | (rw [hy211]; with_reducible exact H) | (have H2_ := (Option.bind_some _ _).symm.trans H; rw [hy211]; with_reducible exact H2_) | (have H2_ := (Option.bind_some _ _).symm.trans H; with_reducible exact H2_) | with_reducible exact H | (rw [hy211]; exact H) | exact H
   have Ny211 := za.mk hy211
   clear hy211
   replace H := Option.bind_eq_some_iff.mp H
   obtain ⟨⟨t214, t215⟩, A60, H⟩ := H
   replace H : (zz.l0 k l1 a2 y208 y211 t214 0 s0_0 t215) = some (r1, r2) := H
   have A6 := za.mk A60
   clear A60
   have H' := za.mk H
   clear H
   go_enter Try.func47, Try.ntmps47
   go_wp2_with (first | ((with_reducible refine zbp (N := 14) rfl ?_); (try (refine zcg (by rfl) ?_; dsimp only)); refine Kd.R_lit k34 _ 34 ?hg (N := 14) ?hd (xs := ([] : List (S34))) (inner := []) (ok := fun _ => True) (okp := fun _ => True) ?hr ?hp (fun _ hk => hk) trivial (Below.refl _ _) (Nat.le_refl _) (by simp) ?_; (case hd => rfl); (case hg => rfl); (case hr => first | (go_simp; done) | (go_simp; rfl)); (case hp => exact (Reps.none _ _)); intro v209 w7 ho8 hb hg_ hnew_; clear hg_ hnew_; (first | rw [← Ny208.out] at ho8 | (simp only [Int.reduceToNat] at ho8; rw [← Ny208.out] at ho8)); have n0_ := za.mk (Kd.zb2 ho8 (zb4 (w := w) (g := g) (row := none) (Zq9 HK.out))); have n1_ := za.mk (zf.below (Zq8 HI0.out) hb); have n2_ := za.mk (zi.trans (Zq9 HK.out) (zi.of_below hb g none) (.inl rfl)); have n3_ := za.mk (zo (Zq5 HB.out (zf.ge HI0.out)) hb); clear HI0; clear HK; clear HB; have HO210 := n0_; have HI0 := n1_; have HK := n2_; have HB := n3_; clear n0_ n1_ n2_ n3_; clear hb ho8) | ((with_reducible refine zbp (N := 17) rfl ?_); (try (refine zcg (by rfl) ?_; dsimp only)); refine Kd.R_make (Kd.int .i64) _ 3 rfl (N := 17) rfl 27 _ _ rfl (l1.length : Int) rfl rfl Try.underlying27 (.int .i64 0) 8 info3 rfl (by decide) (by omega) 0 (ok := fun _ => True) (okp := fun _ => True) rfl (fun _ hk => hk) trivial (of_decide_eq_true Zas) (Nat.le_trans (Nat.mul_le_mul_right _ (of_decide_eq_true Zas : (l1.length : Int).toNat ≤ 35184372088832)) (by omega)) (Below.refl _ _) (Nat.le_refl _) ?_; intro v212 w9 ho10 hb hg_ hnew_; clear hg_ hnew_; (first | rw [← Ny211.out] at ho10 | (simp only [Int.reduceToNat] at ho10; rw [← Ny211.out] at ho10)); have n0_ := za.mk (Kd.zbl (Zq12 HO210.out) hb); have n1_ := za.mk (Kd.zb2 ho10 (zb4 (w := w) (g := g) (row := none) (Zq9 HK.out))); have n2_ := za.mk (zf.below (Zq8 HI0.out) hb); have n3_ := za.mk (zi.trans (Zq9 HK.out) (zi.of_below hb g none) (.inl rfl)); have n4_ := za.mk (zo (Zq5 HB.out (zf.ge HI0.out)) hb); clear HO210; clear HI0; clear HK; clear HB; have HO210 := n0_; have HO213 := n1_; have HI0 := n2_; have HK := n3_; have HB := n4_; clear n0_ n1_ n2_ n3_ n4_; clear hb ho10) | ((with_reducible refine zba (f := 68) rfl ?_); refine zbv (some 19) rfl rfl Try.func68 (by kernel_rfl) rfl #[.pointer (some ⟨g, 0, none⟩), .int .i64 3] rfl Zmt ?_; (with_reducible refine (zb.calls k g s0_0 s0_1 3 t214 t215 w0 _ ?side1 ?side2 A6.out).mono ?_); (case side1 => exact Zq8 HI0.out); (case side2 => exact Zq5 HB.out (zf.ge HI0.out)); rintro e w11 ⟨rfl, hi, hb, hk⟩; refine ⟨_, rfl, ?_⟩; have n0_ := za.mk (Kd.zy (Kd.zbo (zf.apart (show zf w0 _ g s0_0 s0_1 from Zq8 HI0.out) (Zq12 HO210.out) (by decide)) hk (fun _ h => h.2)) (fun _ h => h.1)); have n1_ := za.mk (Kd.zy (Kd.zbo (zf.apart (show zf w0 _ g s0_0 s0_1 from Zq8 HI0.out) (Zq12 HO213.out) (by decide)) hk (fun _ h => h.2)) (fun _ h => h.1)); have n2_ := za.mk (zi.trans (Zq9 HK.out) hk (.inl rfl)); have n3_ := za.mk (hb); have n4_ := za.mk (hi); clear HO210; clear HO213; clear HK; clear HB; clear HI0; have HO210 := n0_; have HO213 := n1_; have HK := n2_; have HB := n3_; have HI0 := n4_; clear n0_ n1_ n2_ n3_ n4_; (try clear hb); (try clear hb2); (try clear hk); (try clear hi)))
   go_loopg [7, 10] k (fun kq v7 v10 w' => ∃ (x7_1 : List (S34)) (x8_1 : List Int) (x10_1 : Int) (x1001_1 : Int), v10 = .int .i64 x10_1 ∧ za (zz.l0 kq l1 a2 x7_1 x8_1 t214 x10_1 s0_0 x1001_1 = some (r1, r2)) ∧ za (kq ≤ k) ∧ za (Kd.R k34 34 w' w.heap.size (fun _ => True) v7 x7_1) ∧ za (Kd.R (Kd.int .i64) 3 w' w.heap.size (fun _ => True) v212 x8_1) ∧ za (zf w0 w' g s0_0 x1001_1) ∧ za (zi w w' g none) ∧ za (Below w0.heap.size w0 w'))
   case atStart => exact ⟨(y208), (y211), (0), (t215), Zrs, H', ⟨Nat.le_refl _⟩, ⟨Zq12 HO210.out⟩, ⟨Zq12 HO213.out⟩, ⟨Zq8 HI0.out⟩, ⟨Zq9 HK.out⟩, ⟨Zq5 HB.out (zf.ge HI0.out)⟩⟩
   case round =>
    clear H'
    try clear c1
    try clear p2
    try clear c4
    try clear c4b0
    try clear c4b1
    try clear c5
    try clear c5b0
    try clear c5b1
    try clear c6
    obtain ⟨x7_1, x8_1, x10_1, x1001_1, rfl, HA, HK1, HO_7, HO_8, HI0, HK, HB⟩ := hrel
    cases gk with
    | zero => exact absurd HA.out (by simp [zz.l0])
    | succ k1 =>
     have H := HA.out
     clear HA
     simp only [zz.l0] at H
     by_cases c12 : x10_1 < 100
     ·rw [if_pos c12] at H
      have c12b0 : decide (x10_1 < 100) = true := decide_eq_true c12
      clear c12
      have H' := za.mk H
      clear H
      go_wp2
      go_loopg [7, 11] k1 (fun kq v7 v11 w' => ∃ (x7_2 : List (S34)) (x8_2 : List Int) (x11_2 : Int) (x1001_2 : Int), v11 = .int .i64 x11_2 ∧ za (zz.l1 kq l1 a2 x7_2 x8_2 t214 x10_1 x11_2 s0_0 x1001_2 = some (r1, r2)) ∧ za (kq ≤ k1) ∧ za (Kd.R k34 34 w' w.heap.size (fun _ => True) v7 x7_2) ∧ za (Kd.R (Kd.int .i64) 3 w' w.heap.size (fun _ => True) v212 x8_2) ∧ za (zf w0 w' g s0_0 x1001_2) ∧ za (zi w w' g none) ∧ za (Below w0.heap.size w0 w'))
      case atStart => exact ⟨(x7_1), (x8_1), (0), (x1001_1), Zrs, H', ⟨Nat.le_refl _⟩, ⟨Zq12 HO_7.out⟩, ⟨Zq12 HO_8.out⟩, ⟨Zq8 HI0.out⟩, ⟨Zq9 HK.out⟩, ⟨Zq5 HB.out (zf.ge HI0.out)⟩⟩
      case round =>
       clear H'
       try clear c1
       try clear p2
       try clear c4
       try clear c4b0
       try clear c4b1
       try clear c5
       try clear c5b0
       try clear c5b1
       try clear c6
       try clear c12
       try clear c12b0
       try clear p2
       obtain ⟨x7_2, x8_2, x11_2, x1001_2, rfl, HA, HK2, HO_7, HO_8, HI0, HK, HB⟩ := hrel
       cases gk with
       | zero => exact absurd HA.out (by simp [zz.l1])
       | succ k2 =>
        have H := HA.out
        clear HA
        simp only [zz.l1] at H
        by_cases c13 : x11_2 < (l1.length : Int)
        ·rw [if_pos c13] at H
         have c13b0 : decide (x11_2 < (l1.length : Int)) = true := decide_eq_true c13
         clear c13
         have HC14 := za.mk H
         clear H
         go_upto_region 10 with (fail)
         go_cut [52] (fun v52 wc => ∃ (kq : Nat) (x52_13 : Bool) (x1001_13 : Int), v52 = .bool x52_13 ∧ za (zz.j2 kq l1 a2 x7_2 x8_2 t214 x10_1 x11_2 x52_13 s0_0 x1001_13 = some (r1, r2)) ∧ za (kq ≤ k2) ∧ za (Kd.R k34 34 wc w.heap.size (fun _ => True) u7 x7_2) ∧ za (Kd.R (Kd.int .i64) 3 wc w.heap.size (fun _ => True) v212 x8_2) ∧ za (zf w0 wc g s0_0 x1001_13) ∧ za (zi w wc g none) ∧ za (Below w0.heap.size w0 wc))
         case first =>
          have H := HC14.out
          clear HC14
          by_cases c15 : 0 ≤ x11_2
          ·rw [if_pos c15] at H
           have c15b0 : decide (0 ≤ x11_2) = true := decide_eq_true c15
           clear c15
           (first | rw [c15b0] | (simp only [zbq, zbt]; rw [c15b0]) | skip)
           by_cases c16 : x11_2 < (x8_2.length : Int)
           ·rw [if_pos c16] at H
            have c16b0 : decide (x11_2 < (x8_2.length : Int)) = true := decide_eq_true c16
            clear c16
            by_cases c17 : x10_1 < (rd x8_2 x11_2)
            ·rw [if_pos c17] at H
             have c17b0 : decide (x10_1 < (rd x8_2 x11_2)) = true := decide_eq_true c17
             clear c17
             have H' := za.mk H
             clear H
             obtain ⟨Ao18, co18, eo18⟩ := Kd.zbs HO_8.out
             subst eo18
             have p216 : 0 ≤ (x11_2 : Int) := of_decide_eq_true Zas
             have q216 : x11_2 < (x8_2.length : Int) := of_decide_eq_true Zas
             obtain ⟨ad216, e216, hx216_0⟩ := Kd.zcn (Kd.zbe HO_8.out).2.2 x11_2 p216 q216
             cases e216
             replace p216 := eq_true p216
             replace q216 := eq_true q216
             go_wp2
             go_meet
             case rel => exact ⟨_, (true), (x1001_2), Zrs, H', ⟨by have := HK1.out; have := HK2.out; first | omega | exact Nat.le_refl _⟩, ⟨Zq12 HO_7.out⟩, ⟨Zq12 HO_8.out⟩, ⟨Zq8 HI0.out⟩, ⟨Zq9 HK.out⟩, ⟨Zq5 HB.out (zf.ge HI0.out)⟩⟩
            ·rw [if_neg c17] at H
             have c17b0 : decide (x10_1 < (rd x8_2 x11_2)) = false := decide_eq_false c17
             clear c17
             by_cases c19 : (x7_2.length : Int) = 60
             ·rw [if_pos c19] at H
              have c19b0 : ((x7_2.length : Int) == 60) = true := beq_iff_eq.mpr c19
              have c19b1 : ((x7_2.length : Int) != 60) = false := bne_eq_false_iff_eq.mpr c19
              clear c19
              have H' := za.mk H
              clear H
              obtain ⟨Ao20, co20, eo20⟩ := Kd.zbs HO_8.out
              subst eo20
              have p216 : 0 ≤ (x11_2 : Int) := of_decide_eq_true Zas
              have q216 : x11_2 < (x8_2.length : Int) := of_decide_eq_true Zas
              obtain ⟨ad216, e216, hx216_0⟩ := Kd.zcn (Kd.zbe HO_8.out).2.2 x11_2 p216 q216
              cases e216
              replace p216 := eq_true p216
              replace q216 := eq_true q216
              obtain ⟨Ao21, co21, eo21⟩ := Kd.zbs HO_7.out
              subst eo21
              go_wp2
              go_meet
              case rel => exact ⟨_, (true), (x1001_2), Zrs, H', ⟨by have := HK1.out; have := HK2.out; first | omega | exact Nat.le_refl _⟩, ⟨Zq12 HO_7.out⟩, ⟨Zq12 HO_8.out⟩, ⟨Zq8 HI0.out⟩, ⟨Zq9 HK.out⟩, ⟨Zq5 HB.out (zf.ge HI0.out)⟩⟩
             ·rw [if_neg c19] at H
              have c19b0 : ((x7_2.length : Int) == 60) = false := beq_eq_false_iff_ne.mpr c19
              have c19b1 : ((x7_2.length : Int) != 60) = true := bne_iff_ne.mpr c19
              by_cases c22 : t214 < 2
              ·rw [if_pos c22] at H
               have c22b0 : decide (t214 < 2) = true := decide_eq_true c22
               clear c22
               replace H := Option.bind_eq_some_iff.mp H
               obtain ⟨⟨t217, t218⟩, A230, H⟩ := H
               replace H : (zz.j2 k2 l1 a2 x7_2 x8_2 t214 x10_1 x11_2 (decide (t217 > 1)) s0_0 t218) = some (r1, r2) := H
               have A23 := za.mk A230
               clear A230
               have H' := za.mk H
               clear H
               obtain ⟨Ao24, co24, eo24⟩ := Kd.zbs HO_8.out
               subst eo24
               have p216 : 0 ≤ (x11_2 : Int) := of_decide_eq_true Zas
               have q216 : x11_2 < (x8_2.length : Int) := of_decide_eq_true Zas
               obtain ⟨ad216, e216, hx216_0⟩ := Kd.zcn (Kd.zbe HO_8.out).2.2 x11_2 p216 q216
               cases e216
               replace p216 := eq_true p216
               replace q216 := eq_true q216
               obtain ⟨Ao25, co25, eo25⟩ := Kd.zbs HO_7.out
               subst eo25
               go_wp2_with (first | (go_at_call 68; (with_reducible refine (zb.calls k2 g s0_0 x1001_2 (wrap64 (3 + (wrap64 (7 * t214)))) t217 t218 w0 _ ?side1 ?side2 A23.out).mono ?_); (case side1 => exact Zq8 HI0.out); (case side2 => exact Zq5 HB.out (zf.ge HI0.out)); rintro e w26 ⟨rfl, hi, hb, hk⟩; have n0_ := za.mk (Kd.zy (Kd.zbo (zf.apart (show zf w0 _ g s0_0 x1001_2 from Zq8 HI0.out) (Zq12 HO_7.out) (by decide)) hk (fun _ h => h.2)) (fun _ h => h.1)); have n1_ := za.mk (Kd.zy (Kd.zbo (zf.apart (show zf w0 _ g s0_0 x1001_2 from Zq8 HI0.out) (Zq12 HO_8.out) (by decide)) hk (fun _ h => h.2)) (fun _ h => h.1)); have n2_ := za.mk (zi.trans (Zq9 HK.out) hk (.inl rfl)); have n3_ := za.mk (hb); have n4_ := za.mk (hi); clear HO_7; clear HO_8; clear HK; clear HB; clear HI0; have HO_7 := n0_; have HO_8 := n1_; have HK := n2_; have HB := n3_; have HI0 := n4_; clear n0_ n1_ n2_ n3_ n4_; (try clear hb); (try clear hb2); (try clear hk); (try clear hi)))
               go_meet
               case rel => exact ⟨_, (decide (t217 > 1)), (t218), Zrs, H', ⟨by have := HK1.out; have := HK2.out; first | omega | exact Nat.le_refl _⟩, ⟨Zq12 HO_7.out⟩, ⟨Zq12 HO_8.out⟩, ⟨Zq8 HI0.out⟩, ⟨Zq9 HK.out⟩, ⟨Zq5 HB.out (zf.ge HI0.out)⟩⟩
              ·rw [if_neg c22] at H
               have c22b0 : decide (t214 < 2) = false := decide_eq_false c22
               clear c22
               have H' := za.mk H
               clear H
               obtain ⟨Ao27, co27, eo27⟩ := Kd.zbs HO_8.out
               subst eo27
               have p216 : 0 ≤ (x11_2 : Int) := of_decide_eq_true Zas
               have q216 : x11_2 < (x8_2.length : Int) := of_decide_eq_true Zas
               obtain ⟨ad216, e216, hx216_0⟩ := Kd.zcn (Kd.zbe HO_8.out).2.2 x11_2 p216 q216
               cases e216
               replace p216 := eq_true p216
               replace q216 := eq_true q216
               obtain ⟨Ao28, co28, eo28⟩ := Kd.zbs HO_7.out
               subst eo28
               go_wp2
               go_meet
               case rel => exact ⟨_, (false), (x1001_2), Zrs, H', ⟨by have := HK1.out; have := HK2.out; first | omega | exact Nat.le_refl _⟩, ⟨Zq12 HO_7.out⟩, ⟨Zq12 HO_8.out⟩, ⟨Zq8 HI0.out⟩, ⟨Zq9 HK.out⟩, ⟨Zq5 HB.out (zf.ge HI0.out)⟩⟩
           ·rw [if_neg c16] at H
            exact absurd H (by simp)
          ·rw [if_neg c15] at H
           exact absurd H (by simp)
         case rest =>
          clear HC14
          try clear c1
          try clear c2
          try clear p2
          try clear q2
          try clear hx2
          try clear c4
          try clear c4b0
          try clear c4b1
          try clear c5
          try clear c5b0
          try clear c5b1
          try clear c6
          try clear p6
          try clear c12
          try clear c12b0
          try clear c13
          try clear c13b0
          try clear c15
          try clear c15b0
          try clear c16
          try clear c16b0
          try clear c17
          try clear c17b0
          try clear c19
          try clear c19b0
          try clear c19b1
          try clear p21
          try clear q21
          try clear hx21
          try clear c22
          try clear c22b0
          try clear hx216_0
          try clear p2
          try clear p216
          try clear q216
          obtain ⟨kq, x52_13, x1001_13, rfl, HA, HJ13, HO_7, HO_8, HI0, HK, HB⟩ := hcut
          cases kq with
          | zero => exact absurd HA.out (by simp [zz.j2])
          | succ kj13 =>
           have H := HA.out
           clear HA
           simp only [zz.j2] at H
           by_cases c29 : x52_13 = true
           ·subst c29
            have H1 : (zz.l1 kj13 l1 a2 x7_2 x8_2 t214 x10_1 (wrap64 (x11_2 + 1)) s0_0 x1001_13) = some (r1, r2) := by rw [if_pos rfl] at H; exact H
            clear H
            have H := H1
            clear H1
            have H' := za.mk H
            clear H
            go_wp2
            go_roundg kj13
            case measure => have := HK1.out; have := HK2.out; have := HJ13.out; omega
            case rel => exact ⟨(x7_2), (x8_2), (wrap64 (x11_2 + 1)), (x1001_13), Zrs, H', ⟨by have := HK1.out; have := HK2.out; have := HJ13.out; omega⟩, ⟨Zq12 HO_7.out⟩, ⟨Zq12 HO_8.out⟩, ⟨Zq8 HI0.out⟩, ⟨Zq9 HK.out⟩, ⟨Zq5 HB.out (zf.ge HI0.out)⟩⟩
           ·replace c29 := Bool.eq_false_iff.mpr c29
            subst c29
            have H1 : (if 0 ≤ x11_2 then (if x11_2 < (l1.length : Int) then ((zb.f kj13 s0_0 x1001_13 3).bind fun bt220 => (if bt220.1 = 0 then ((zb.f kj13 s0_0 bt220.2 ((zbf l1 x11_2).f0)).bind fun bt222 => (if x7_2.length < 4398046511104 then (if x11_2 < (x8_2.length : Int) then (zz.l1 kj13 l1 a2 (x7_2 ++ [(⟨x11_2, x10_1, wrap64 (x10_1 + ((zbf l1 x11_2).f1)), wrap64 (1 + bt222.1)⟩ : S34)]) (x8_2.set (x11_2 : Int).toNat (wrap64 (x10_1 + ((zbf l1 x11_2).f2)))) t214 x10_1 (wrap64 (x11_2 + 1)) s0_0 bt222.2) else (none)) else (none))) else (if x7_2.length < 4398046511104 then (if x11_2 < (x8_2.length : Int) then (zz.l1 kj13 l1 a2 (x7_2 ++ [(⟨x11_2, x10_1, wrap64 (x10_1 + ((zbf l1 x11_2).f1)), (zbf l1 x11_2).f0⟩ : S34)]) (x8_2.set (x11_2 : Int).toNat (wrap64 (x10_1 + ((zbf l1 x11_2).f2)))) t214 x10_1 (wrap64 (x11_2 + 1)) s0_0 bt220.2) else (none)) else (none)))) else (none)) else (none)) = some (r1, r2) := by rw [if_neg (show ¬ (false = true) by decide)] at H; exact H
            clear H
            have H := H1
            clear H1
            by_cases c30 : 0 ≤ x11_2
            ·rw [if_pos c30] at H
             have c30b0 : decide (0 ≤ x11_2) = true := decide_eq_true c30
             clear c30
             by_cases c31 : x11_2 < (l1.length : Int)
             ·rw [if_pos c31] at H
              have c31b0 : decide (x11_2 < (l1.length : Int)) = true := decide_eq_true c31
              clear c31
              replace H := Option.bind_eq_some_iff.mp H
              obtain ⟨⟨t220, t221⟩, A320, H⟩ := H
              replace H : (if t220 = 0 then ((zb.f kj13 s0_0 t221 ((zbf l1 x11_2).f0)).bind fun bt222 => (if x7_2.length < 4398046511104 then (if x11_2 < (x8_2.length : Int) then (zz.l1 kj13 l1 a2 (x7_2 ++ [(⟨x11_2, x10_1, wrap64 (x10_1 + ((zbf l1 x11_2).f1)), wrap64 (1 + bt222.1)⟩ : S34)]) (x8_2.set (x11_2 : Int).toNat (wrap64 (x10_1 + ((zbf l1 x11_2).f2)))) t214 x10_1 (wrap64 (x11_2 + 1)) s0_0 bt222.2) else (none)) else (none))) else (if x7_2.length < 4398046511104 then (if x11_2 < (x8_2.length : Int) then (zz.l1 kj13 l1 a2 (x7_2 ++ [(⟨x11_2, x10_1, wrap64 (x10_1 + ((zbf l1 x11_2).f1)), (zbf l1 x11_2).f0⟩ : S34)]) (x8_2.set (x11_2 : Int).toNat (wrap64 (x10_1 + ((zbf l1 x11_2).f2)))) t214 x10_1 (wrap64 (x11_2 + 1)) s0_0 t221) else (none)) else (none))) = some (r1, r2) := H
              have A32 := za.mk A320
              clear A320
              by_cases c33 : t220 = 0
              ·rw [if_pos c33] at H
               have c33b0 : (t220 == 0) = true := beq_iff_eq.mpr c33
               have c33b1 : (t220 != 0) = false := bne_eq_false_iff_eq.mpr c33
               clear c33
               replace H := Option.bind_eq_some_iff.mp H
               obtain ⟨⟨t222, t223⟩, A340, H⟩ := H
               replace H : (if x7_2.length < 4398046511104 then (if x11_2 < (x8_2.length : Int) then (zz.l1 kj13 l1 a2 (x7_2 ++ [(⟨x11_2, x10_1, wrap64 (x10_1 + ((zbf l1 x11_2).f1)), wrap64 (1 + t222)⟩ : S34)]) (x8_2.set (x11_2 : Int).toNat (wrap64 (x10_1 + ((zbf l1 x11_2).f2)))) t214 x10_1 (wrap64 (x11_2 + 1)) s0_0 t223) else (none)) else (none)) = some (r1, r2) := H
               have A34 := za.mk A340
               clear A340
               by_cases c35 : x7_2.length < 4398046511104
               ·rw [if_pos c35] at H
                have LMc35 := za.mk c35
                clear c35
                obtain ⟨y225, hy225⟩ : ∃ y_ : List (S34), y_ = (x7_2 ++ [(⟨x11_2, x10_1, wrap64 (x10_1 + ((zbf l1 x11_2).f1)), wrap64 (1 + t222)⟩ : S34)]) := ⟨_, rfl⟩
                replace H : (if x11_2 < (x8_2.length : Int) then (zz.l1 kj13 l1 a2 y225 (x8_2.set (x11_2 : Int).toNat (wrap64 (x10_1 + ((zbf l1 x11_2).f2)))) t214 x10_1 (wrap64 (x11_2 + 1)) s0_0 t223) else (none)) = some (r1, r2) := by first | (rw [hy225]; with_reducible exact H) | (have H2_ := (Option.bind_some _ _).symm.trans H; rw [hy225]; with_reducible exact H2_) | (have H2_ := (Option.bind_some _ _).symm.trans H; with_reducible exact H2_) | with_reducible exact H | (rw [hy225]; exact H) | exact H
                have Ny225 := za.mk hy225
                clear hy225
                by_cases c36 : x11_2 < (x8_2.length : Int)
                ·rw [if_pos c36] at H
                 have c36b0 : decide (x11_2 < (x8_2.length : Int)) = true := decide_eq_true c36
                 clear c36
                 obtain ⟨y229, hy229⟩ : ∃ y_ : List Int, y_ = (x8_2.set (x11_2 : Int).toNat (wrap64 (x10_1 + ((zbf l1 x11_2).f2)))) := ⟨_, rfl⟩
                 replace H : (zz.l1 kj13 l1 a2 y225 y229 t214 x10_1 (wrap64 (x11_2 + 1)) s0_0 t223) = some (r1, r2) := by first | (rw [hy229]; with_reducible exact H) | (have H2_ := (Option.bind_some _ _).symm.trans H; rw [hy229]; with_reducible exact H2_) | (have H2_ := (Option.bind_some _ _).symm.trans H; with_reducible exact H2_) | with_reducible exact H | (rw [hy229]; exact H) | exact H
                 have Ny229 := za.mk hy229
                 clear hy229
                 have H' := za.mk H
                 clear H
                 have p219 : 0 ≤ (x11_2 : Int) := of_decide_eq_true Zas
                 have q219 : x11_2 < (l1.length : Int) := of_decide_eq_true Zas
                 obtain ⟨ad219, e219, hx219_0, hx219_1, hx219_2⟩ := at_T88 (Kd.C_foot_now HR1.out HK.out) x11_2 p219 q219
                 cases e219
                 replace p219 := eq_true p219
                 replace q219 := eq_true q219
                 go_wp2_with (first | ((with_reducible refine zba (f := 68) rfl ?_); refine zbv (some 59) rfl rfl Try.func68 (by kernel_rfl) rfl #[.pointer (some ⟨g, 0, none⟩), .int .i64 3] rfl Zmt ?_; (with_reducible refine (zb.calls kj13 g s0_0 x1001_13 3 t220 t221 w0 _ ?side1 ?side2 A32.out).mono ?_); (case side1 => exact Zq8 HI0.out); (case side2 => exact Zq5 HB.out (zf.ge HI0.out)); rintro e w38 ⟨rfl, hi, hb, hk⟩; refine ⟨_, rfl, ?_⟩; have n0_ := za.mk (Kd.zy (Kd.zbo (zf.apart (show zf w0 _ g s0_0 x1001_13 from Zq8 HI0.out) (Zq12 HO_7.out) (by decide)) hk (fun _ h => h.2)) (fun _ h => h.1)); have n1_ := za.mk (Kd.zy (Kd.zbo (zf.apart (show zf w0 _ g s0_0 x1001_13 from Zq8 HI0.out) (Zq12 HO_8.out) (by decide)) hk (fun _ h => h.2)) (fun _ h => h.1)); have n2_ := za.mk (zi.trans (Zq9 HK.out) hk (.inl rfl)); have n3_ := za.mk (hb); have n4_ := za.mk (hi); clear HO_7; clear HO_8; clear HK; clear HB; clear HI0; have HO_7 := n0_; have HO_8 := n1_; have HK := n2_; have HB := n3_; have HI0 := n4_; clear n0_ n1_ n2_ n3_ n4_; (try clear hb); (try clear hb2); (try clear hk); (try clear hi)) | ((with_reducible refine zba (f := 68) rfl ?_); refine zbv (some 63) rfl rfl Try.func68 (by kernel_rfl) rfl #[.pointer (some ⟨g, 0, none⟩), .int .i64 ((zbf l1 x11_2).f0)] rfl Zmt ?_; (with_reducible refine (zb.calls kj13 g s0_0 t221 ((zbf l1 x11_2).f0) t222 t223 w0 _ ?side1 ?side2 A34.out).mono ?_); (case side1 => exact Zq8 HI0.out); (case side2 => exact Zq5 HB.out (zf.ge HI0.out)); rintro e w39 ⟨rfl, hi, hb, hk⟩; refine ⟨_, rfl, ?_⟩; have n0_ := za.mk (Kd.zy (Kd.zbo (zf.apart (show zf w0 _ g s0_0 t221 from Zq8 HI0.out) (Zq12 HO_7.out) (by decide)) hk (fun _ h => h.2)) (fun _ h => h.1)); have n1_ := za.mk (Kd.zy (Kd.zbo (zf.apart (show zf w0 _ g s0_0 t221 from Zq8 HI0.out) (Zq12 HO_8.out) (by decide)) hk (fun _ h => h.2)) (fun _ h => h.1)); have n2_ := za.mk (zi.trans (Zq9 HK.out) hk (.inl rfl)); have n3_ := za.mk (hb); have n4_ := za.mk (hi); clear HO_7; clear HO_8; clear HK; clear HB; clear HI0; have HO_7 := n0_; have HO_8 := n1_; have HK := n2_; have HB := n3_; have HI0 := n4_; clear n0_ n1_ n2_ n3_ n4_; (try clear hb); (try clear hb2); (try clear hk); (try clear hi); have p224 : 0 ≤ (x11_2 : Int) := of_decide_eq_true Zas; have q224 : x11_2 < (l1.length : Int) := of_decide_eq_true Zas; obtain ⟨ad224, e224, hx224_0, hx224_1, hx224_2⟩ := at_T88 (Kd.C_foot_now HR1.out HK.out) x11_2 p224 q224; obtain rfl : ad219 = ad224 := (by injection e224); replace p224 := eq_true p224; replace q224 := eq_true q224) | ((with_reducible refine zcq (b := .append) (xs := #[.tmp 65, .tmp 77]) rfl ?_); (try (refine zcg (by rfl) ?_; dsimp only)); at_builtin; refine Kd.zdg k34 w.heap.size rfl (.tmp 65) (.tmp 77) 24 34 (.agg #[(.int .i64 0), (.int .i64 0), (.int .i64 0), (.int .i64 0)]) 32 rfl Try.underlying24 info34 rfl (by decide) (by omega) u7 x7_2 (⟨x11_2, x10_1, wrap64 (x10_1 + ((zbf l1 x11_2).f1)), wrap64 (1 + t222)⟩ : S34) [.int .i64 x11_2, .int .i64 x10_1, .int .i64 (wrap64 (x10_1 + ((zbf l1 x11_2).f1))), .int .i64 (wrap64 (1 + t222))] (fun _ => True) (fun _ => False) rfl rfl ?aP (fun _ hk => hk.elim) ?aF ?aO (Below.refl _ _) ?aS ?aL ?_; (case aP => exact k34_mkM _ _ _ (⟨x11_2, x10_1, wrap64 (x10_1 + ((zbf l1 x11_2).f1)), wrap64 (1 + t222)⟩ : S34)); (case aF => exact (fun _ _ => trivial)); (case aO => exact (Zq12 HO_7.out)); (case aS => exact (zb4 (w := w) (g := g) (row := none) (Zq9 HK.out))); (case aL => have := LMc35.out; omega); intro v226 w40 ho hb hg hat; rw [← Ny225.out] at ho; have n0_ := za.mk (Kd.zdx (Zq12 HO_8.out) (Kd.zdw (Zq12 HO_7.out)) (by decide) hg); have n1_ := za.mk (zf.grown (Zq8 HI0.out) hg (zf.own_ne HI0.out HO_7.out (by decide))); have n2_ := za.mk (zdb (Zq5 HB.out (zf.ge HI0.out)) HL.out hb); have n3_ := za.mk (zi.trans (Zq9 HK.out) (zi.zcy hg g) (Kd.zdi HO_7.out)); have n4_ := za.mk (ho); clear HO_8; clear HI0; clear HB; clear HK; clear HO_7; have HO_8 := n0_; have HI0 := n1_; have HB := n2_; have HK := n3_; have HO227 := n4_; clear n0_ n1_ n2_ n3_ n4_; clear ho hb hg hat; have p228 : 0 ≤ (x11_2 : Int) := of_decide_eq_true Zas; have q228 : x11_2 < (l1.length : Int) := of_decide_eq_true Zas; obtain ⟨ad228, e228, hx228_0, hx228_1, hx228_2⟩ := at_T88 (Kd.C_foot_now HR1.out HK.out) x11_2 p228 q228; obtain rfl : ad219 = ad228 := (by injection e228); replace p228 := eq_true p228; replace q228 := eq_true q228; have p37 : 0 ≤ (x11_2 : Int) := of_decide_eq_true Zas; have q37 : (x11_2 : Int) < ((x8_2.length : Int) : Int) := of_decide_eq_true Zas; obtain ⟨go37, co37, eo37, gb37, gl37, cl37, HG37⟩ := Kd.zdo HO_8.out (by omega); (first | cases eo37 | (injection eo37 with ea_ en_ ec_; (first | subst ea_ | (injection ea_ with ea_; subst ea_)); subst ec_; clear en_)); have GB37 := za.mk gb37; have GG37 := za.mk HG37; clear gb37 gl37 HG37; obtain ⟨hx37_0, hf37_0⟩ := Kd.zcw 0 HO_8.out (x11_2 : Int) p37 q37; replace p37 := eq_true p37; replace q37 := eq_true q37; obtain ⟨hy41_, hz41_⟩ := Kd.zcw 0 HO_8.out (x11_2 : Int) (of_decide_eq_true Zas) (of_decide_eq_true Zas); have HP41 := Kd.zc1 HO_8.out (x11_2 : Int) (wrap64 (x10_1 + ((zbf l1 x11_2).f2)))) | ((with_reducible refine zcf (t := 3) (p := 88) rfl ?_); refine zcc (t := 3) (p := 88) (v := ?vo_w42) (w1 := (w40.setCell ⟨go37, (x11_2 : Int).toNat, none⟩ (.int .i64 (wrap64 (x10_1 + ((zbf l1 x11_2).f2)))))) ?hg ?ho ?hn ?hr ?_; (case ho => rfl); (case hg => rfl); (case hn => rfl); (case hr => first | (go_simp; done) | (go_simp; rfl)); intro w42 hw; have hg : w40.grownBy w42 (some go37) := (by rw [hw]; exact HP41.2); have hp_ : Kd.R (Kd.int .i64) 3 w42 w.heap.size (fun _ => True) (.slice (some ⟨go37, 0, none⟩) x8_2.length co37) y229 := (by rw [hw, Ny229.out]; exact HP41.1); clear HP41; have n0_ := za.mk (hp_); have n1_ := za.mk (zf.grown (Zq8 HI0.out) hg (zf.own_ne HI0.out HO_8.out (by decide))); have n2_ := za.mk (Kd.zdx (v := (.slice (some ⟨go37, 0, none⟩) x8_2.length co37)) (Zq12 HO227.out) (Kd.zdw HO_8.out) (by decide) hg); have n3_ := za.mk ((by rw [hw]; exact zb3 (HB.out) (Nat.le_trans HL.out GB37.out) : Below w0.heap.size w0 w42)); have n4_ := za.mk (zi.trans (Zq9 HK.out) (zi.zcy hg g) (Kd.zdi HO_8.out)); clear HO_8; clear HI0; clear HO227; clear HB; clear HK; have HO_8 := n0_; have HI0 := n1_; have HO227 := n2_; have HB := n3_; have HK := n4_; clear n0_ n1_ n2_ n3_ n4_; clear hg hw hp_))
                 go_roundg kj13
                 case measure => have := HK1.out; have := HK2.out; have := HJ13.out; omega
                 case rel => exact ⟨(y225), (y229), (wrap64 (x11_2 + 1)), (t223), Zrs, H', ⟨by have := HK1.out; have := HK2.out; have := HJ13.out; omega⟩, ⟨Zq12 HO227.out⟩, ⟨Zq12 HO_8.out⟩, ⟨Zq8 HI0.out⟩, ⟨Zq9 HK.out⟩, ⟨Zq5 HB.out (zf.ge HI0.out)⟩⟩
                ·rw [if_neg c36] at H
                 exact absurd H (by simp)
               ·rw [if_neg c35] at H
                exact absurd H (by simp)
              ·rw [if_neg c33] at H
               have c33b0 : (t220 == 0) = false := beq_eq_false_iff_ne.mpr c33
               have c33b1 : (t220 != 0) = true := bne_iff_ne.mpr c33
               by_cases c43 : x7_2.length < 4398046511104
               ·rw [if_pos c43] at H
                have LMc43 := za.mk c43
                clear c43
                obtain ⟨y231, hy231⟩ : ∃ y_ : List (S34), y_ = (x7_2 ++ [(⟨x11_2, x10_1, wrap64 (x10_1 + ((zbf l1 x11_2).f1)), (zbf l1 x11_2).f0⟩ : S34)]) := ⟨_, rfl⟩
                replace H : (if x11_2 < (x8_2.length : Int) then (zz.l1 kj13 l1 a2 y231 (x8_2.set (x11_2 : Int).toNat (wrap64 (x10_1 + ((zbf l1 x11_2).f2)))) t214 x10_1 (wrap64 (x11_2 + 1)) s0_0 t221) else (none)) = some (r1, r2) := by first | (rw [hy231]; with_reducible exact H) | (have H2_ := (Option.bind_some _ _).symm.trans H; rw [hy231]; with_reducible exact H2_) | (have H2_ := (Option.bind_some _ _).symm.trans H; with_reducible exact H2_) | with_reducible exact H | (rw [hy231]; exact H) | exact H
                have Ny231 := za.mk hy231
                clear hy231
                by_cases c44 : x11_2 < (x8_2.length : Int)
                ·rw [if_pos c44] at H
                 have c44b0 : decide (x11_2 < (x8_2.length : Int)) = true := decide_eq_true c44
                 clear c44
                 obtain ⟨y235, hy235⟩ : ∃ y_ : List Int, y_ = (x8_2.set (x11_2 : Int).toNat (wrap64 (x10_1 + ((zbf l1 x11_2).f2)))) := ⟨_, rfl⟩
                 replace H : (zz.l1 kj13 l1 a2 y231 y235 t214 x10_1 (wrap64 (x11_2 + 1)) s0_0 t221) = some (r1, r2) := by first | (rw [hy235]; with_reducible exact H) | (have H2_ := (Option.bind_some _ _).symm.trans H; rw [hy235]; with_reducible exact H2_) | (have H2_ := (Option.bind_some _ _).symm.trans H; with_reducible exact H2_) | with_reducible exact H | (rw [hy235]; exact H) | exact H
                 have Ny235 := za.mk hy235
                 clear hy235
                 have H' := za.mk H
                 clear H
                 have p219 : 0 ≤ (x11_2 : Int) := of_decide_eq_true Zas
                 have q219 : x11_2 < (l1.length : Int) := of_decide_eq_true Zas
                 obtain ⟨ad219, e219, hx219_0, hx219_1, hx219_2⟩ := at_T88 (Kd.C_foot_now HR1.out HK.out) x11_2 p219 q219
                 cases e219
                 replace p219 := eq_true p219
                 replace q219 := eq_true q219
                 go_wp2_with (first | ((with_reducible refine zba (f := 68) rfl ?_); refine zbv (some 59) rfl rfl Try.func68 (by kernel_rfl) rfl #[.pointer (some ⟨g, 0, none⟩), .int .i64 3] rfl Zmt ?_; (with_reducible refine (zb.calls kj13 g s0_0 x1001_13 3 t220 t221 w0 _ ?side1 ?side2 A32.out).mono ?_); (case side1 => exact Zq8 HI0.out); (case side2 => exact Zq5 HB.out (zf.ge HI0.out)); rintro e w46 ⟨rfl, hi, hb, hk⟩; refine ⟨_, rfl, ?_⟩; have n0_ := za.mk (Kd.zy (Kd.zbo (zf.apart (show zf w0 _ g s0_0 x1001_13 from Zq8 HI0.out) (Zq12 HO_7.out) (by decide)) hk (fun _ h => h.2)) (fun _ h => h.1)); have n1_ := za.mk (Kd.zy (Kd.zbo (zf.apart (show zf w0 _ g s0_0 x1001_13 from Zq8 HI0.out) (Zq12 HO_8.out) (by decide)) hk (fun _ h => h.2)) (fun _ h => h.1)); have n2_ := za.mk (zi.trans (Zq9 HK.out) hk (.inl rfl)); have n3_ := za.mk (hb); have n4_ := za.mk (hi); clear HO_7; clear HO_8; clear HK; clear HB; clear HI0; have HO_7 := n0_; have HO_8 := n1_; have HK := n2_; have HB := n3_; have HI0 := n4_; clear n0_ n1_ n2_ n3_ n4_; (try clear hb); (try clear hb2); (try clear hk); (try clear hi); have p230 : 0 ≤ (x11_2 : Int) := of_decide_eq_true Zas; have q230 : x11_2 < (l1.length : Int) := of_decide_eq_true Zas; obtain ⟨ad230, e230, hx230_0, hx230_1, hx230_2⟩ := at_T88 (Kd.C_foot_now HR1.out HK.out) x11_2 p230 q230; obtain rfl : ad219 = ad230 := (by injection e230); replace p230 := eq_true p230; replace q230 := eq_true q230) | ((with_reducible refine zcq (b := .append) (xs := #[.tmp 65, .tmp 77]) rfl ?_); (try (refine zcg (by rfl) ?_; dsimp only)); at_builtin; refine Kd.zdg k34 w.heap.size rfl (.tmp 65) (.tmp 77) 24 34 (.agg #[(.int .i64 0), (.int .i64 0), (.int .i64 0), (.int .i64 0)]) 32 rfl Try.underlying24 info34 rfl (by decide) (by omega) u7 x7_2 (⟨x11_2, x10_1, wrap64 (x10_1 + ((zbf l1 x11_2).f1)), (zbf l1 x11_2).f0⟩ : S34) [.int .i64 x11_2, .int .i64 x10_1, .int .i64 (wrap64 (x10_1 + ((zbf l1 x11_2).f1))), .int .i64 ((zbf l1 x11_2).f0)] (fun _ => True) (fun _ => False) rfl rfl ?aP (fun _ hk => hk.elim) ?aF ?aO (Below.refl _ _) ?aS ?aL ?_; (case aP => exact k34_mkM _ _ _ (⟨x11_2, x10_1, wrap64 (x10_1 + ((zbf l1 x11_2).f1)), (zbf l1 x11_2).f0⟩ : S34)); (case aF => exact (fun _ _ => trivial)); (case aO => exact (Zq12 HO_7.out)); (case aS => exact (zb4 (w := w) (g := g) (row := none) (Zq9 HK.out))); (case aL => have := LMc43.out; omega); intro v232 w47 ho hb hg hat; rw [← Ny231.out] at ho; have n0_ := za.mk (Kd.zdx (Zq12 HO_8.out) (Kd.zdw (Zq12 HO_7.out)) (by decide) hg); have n1_ := za.mk (zf.grown (Zq8 HI0.out) hg (zf.own_ne HI0.out HO_7.out (by decide))); have n2_ := za.mk (zdb (Zq5 HB.out (zf.ge HI0.out)) HL.out hb); have n3_ := za.mk (zi.trans (Zq9 HK.out) (zi.zcy hg g) (Kd.zdi HO_7.out)); have n4_ := za.mk (ho); clear HO_8; clear HI0; clear HB; clear HK; clear HO_7; have HO_8 := n0_; have HI0 := n1_; have HB := n2_; have HK := n3_; have HO233 := n4_; clear n0_ n1_ n2_ n3_ n4_; clear ho hb hg hat; have p234 : 0 ≤ (x11_2 : Int) := of_decide_eq_true Zas; have q234 : x11_2 < (l1.length : Int) := of_decide_eq_true Zas; obtain ⟨ad234, e234, hx234_0, hx234_1, hx234_2⟩ := at_T88 (Kd.C_foot_now HR1.out HK.out) x11_2 p234 q234; obtain rfl : ad219 = ad234 := (by injection e234); replace p234 := eq_true p234; replace q234 := eq_true q234; have p45 : 0 ≤ (x11_2 : Int) := of_decide_eq_true Zas; have q45 : (x11_2 : Int) < ((x8_2.length : Int) : Int) := of_decide_eq_true Zas; obtain ⟨go45, co45, eo45, gb45, gl45, cl45, HG45⟩ := Kd.zdo HO_8.out (by omega); (first | cases eo45 | (injection eo45 with ea_ en_ ec_; (first | subst ea_ | (injection ea_ with ea_; subst ea_)); subst ec_; clear en_)); have GB45 := za.mk gb45; have GG45 := za.mk HG45; clear gb45 gl45 HG45; obtain ⟨hx45_0, hf45_0⟩ := Kd.zcw 0 HO_8.out (x11_2 : Int) p45 q45; replace p45 := eq_true p45; replace q45 := eq_true q45; obtain ⟨hy48_, hz48_⟩ := Kd.zcw 0 HO_8.out (x11_2 : Int) (of_decide_eq_true Zas) (of_decide_eq_true Zas); have HP48 := Kd.zc1 HO_8.out (x11_2 : Int) (wrap64 (x10_1 + ((zbf l1 x11_2).f2)))) | ((with_reducible refine zcf (t := 3) (p := 88) rfl ?_); refine zcc (t := 3) (p := 88) (v := ?vo_w49) (w1 := (w47.setCell ⟨go45, (x11_2 : Int).toNat, none⟩ (.int .i64 (wrap64 (x10_1 + ((zbf l1 x11_2).f2)))))) ?hg ?ho ?hn ?hr ?_; (case ho => rfl); (case hg => rfl); (case hn => rfl); (case hr => first | (go_simp; done) | (go_simp; rfl)); intro w49 hw; have hg : w47.grownBy w49 (some go45) := (by rw [hw]; exact HP48.2); have hp_ : Kd.R (Kd.int .i64) 3 w49 w.heap.size (fun _ => True) (.slice (some ⟨go45, 0, none⟩) x8_2.length co45) y235 := (by rw [hw, Ny235.out]; exact HP48.1); clear HP48; have n0_ := za.mk (hp_); have n1_ := za.mk (zf.grown (Zq8 HI0.out) hg (zf.own_ne HI0.out HO_8.out (by decide))); have n2_ := za.mk (Kd.zdx (v := (.slice (some ⟨go45, 0, none⟩) x8_2.length co45)) (Zq12 HO233.out) (Kd.zdw HO_8.out) (by decide) hg); have n3_ := za.mk ((by rw [hw]; exact zb3 (HB.out) (Nat.le_trans HL.out GB45.out) : Below w0.heap.size w0 w49)); have n4_ := za.mk (zi.trans (Zq9 HK.out) (zi.zcy hg g) (Kd.zdi HO_8.out)); clear HO_8; clear HI0; clear HO233; clear HB; clear HK; have HO_8 := n0_; have HI0 := n1_; have HO233 := n2_; have HB := n3_; have HK := n4_; clear n0_ n1_ n2_ n3_ n4_; clear hg hw hp_))
                 go_roundg kj13
                 case measure => have := HK1.out; have := HK2.out; have := HJ13.out; omega
                 case rel => exact ⟨(y231), (y235), (wrap64 (x11_2 + 1)), (t221), Zrs, H', ⟨by have := HK1.out; have := HK2.out; have := HJ13.out; omega⟩, ⟨Zq12 HO233.out⟩, ⟨Zq12 HO_8.out⟩, ⟨Zq8 HI0.out⟩, ⟨Zq9 HK.out⟩, ⟨Zq5 HB.out (zf.ge HI0.out)⟩⟩
                ·rw [if_neg c44] at H
                 exact absurd H (by simp)
               ·rw [if_neg c43] at H
                exact absurd H (by simp)
             ·rw [if_neg c31] at H
              exact absurd H (by simp)
            ·rw [if_neg c30] at H
             exact absurd H (by simp)
        ·rw [if_neg c13] at H
         have c13b0 : decide (x11_2 < (l1.length : Int)) = false := decide_eq_false c13
         clear c13
         have H' := za.mk H
         clear H
         go_wp2
         go_roundg k2
         case measure => have := HK1.out; have := HK2.out; omega
         case rel => exact ⟨(x7_2), (x8_2), (wrap64 (x10_1 + 1)), (x1001_2), Zrs, H', ⟨by have := HK1.out; have := HK2.out; omega⟩, ⟨Zq12 HO_7.out⟩, ⟨Zq12 HO_8.out⟩, ⟨Zq8 HI0.out⟩, ⟨Zq9 HK.out⟩, ⟨Zq5 HB.out (zf.ge HI0.out)⟩⟩
     ·rw [if_neg c12] at H
      have c12b0 : decide (x10_1 < 100) = false := decide_eq_false c12
      clear c12
      have HC50 := za.mk H
      clear H
      go_upto_region 16 with (fail)
      go_cut [96] (fun v96 wc => ∃ (kq : Nat) (x96_49 : Bool) (x1001_49 : Int), v96 = .bool x96_49 ∧ za (zz.j3 kq l1 x7_1 x96_49 s0_0 x1001_49 = some (r1, r2)) ∧ za (kq ≤ k1) ∧ za (Kd.R k34 34 wc w.heap.size (fun _ => True) u7 x7_1) ∧ za (zf w0 wc g s0_0 x1001_49) ∧ za (zi w wc g none) ∧ za (Below w0.heap.size w0 wc))
      case first =>
       have H := HC50.out
       clear HC50
       replace H := Option.bind_eq_some_iff.mp H
       obtain ⟨⟨t236, t237⟩, A510, H⟩ := H
       replace H : (if t236 = true then (zz.j3 k1 l1 x7_1 (decide ((x7_1.length : Int) > 0)) s0_0 t237) else (zz.j3 k1 l1 x7_1 false s0_0 t237)) = some (r1, r2) := H
       have A51 := za.mk A510
       clear A510
       by_cases c52 : t236 = true
       ·subst c52
        have H1 : (zz.j3 k1 l1 x7_1 (decide ((x7_1.length : Int) > 0)) s0_0 t237) = some (r1, r2) := by rw [if_pos rfl] at H; exact H
        clear H
        have H := H1
        clear H1
        have H' := za.mk H
        clear H
        go_wp2_with (first | ((with_reducible refine zba (f := 89) rfl ?_); refine zbv (some 91) rfl rfl Try.func89 (by kernel_rfl) rfl #[.pointer (some ⟨g, 0, none⟩), .int .i64 a2] rfl Zmt ?_; (with_reducible refine (zbk.calls k1 g s0_0 x1001_1 a2 true t237 w0 _ ?side1 ?side2 A51.out).mono ?_); (case side1 => exact Zq8 HI0.out); (case side2 => exact Zq5 HB.out (zf.ge HI0.out)); rintro e w53 ⟨rfl, hi, hb, hk⟩; refine ⟨_, rfl, ?_⟩; have n0_ := za.mk (Kd.zy (Kd.zbo (zf.apart (show zf w0 _ g s0_0 x1001_1 from Zq8 HI0.out) (Zq12 HO_7.out) (by decide)) hk (fun _ h => h.2)) (fun _ h => h.1)); have n1_ := za.mk (Kd.zy (Kd.zbo (zf.apart (show zf w0 _ g s0_0 x1001_1 from Zq8 HI0.out) (Zq12 HO_8.out) (by decide)) hk (fun _ h => h.2)) (fun _ h => h.1)); have n2_ := za.mk (zi.trans (Zq9 HK.out) hk (.inl rfl)); have n3_ := za.mk (hb); have n4_ := za.mk (hi); clear HO_7; clear HO_8; clear HK; clear HB; clear HI0; have HO_7 := n0_; have HO_8 := n1_; have HK := n2_; have HB := n3_; have HI0 := n4_; clear n0_ n1_ n2_ n3_ n4_; (try clear hb); (try clear hb2); (try clear hk); (try clear hi); obtain ⟨Ao54, co54, eo54⟩ := Kd.zbs HO_7.out; subst eo54))
        go_meet
        case rel => exact ⟨_, (decide ((x7_1.length : Int) > 0)), (t237), Zrs, H', ⟨by have := HK1.out; first | omega | exact Nat.le_refl _⟩, ⟨Zq12 HO_7.out⟩, ⟨Zq8 HI0.out⟩, ⟨Zq9 HK.out⟩, ⟨Zq5 HB.out (zf.ge HI0.out)⟩⟩
       ·replace c52 := Bool.eq_false_iff.mpr c52
        subst c52
        have H1 : (zz.j3 k1 l1 x7_1 false s0_0 t237) = some (r1, r2) := by rw [if_neg (show ¬ (false = true) by decide)] at H; exact H
        clear H
        have H := H1
        clear H1
        have H' := za.mk H
        clear H
        go_wp2_with (first | ((with_reducible refine zba (f := 89) rfl ?_); refine zbv (some 91) rfl rfl Try.func89 (by kernel_rfl) rfl #[.pointer (some ⟨g, 0, none⟩), .int .i64 a2] rfl Zmt ?_; (with_reducible refine (zbk.calls k1 g s0_0 x1001_1 a2 false t237 w0 _ ?side1 ?side2 A51.out).mono ?_); (case side1 => exact Zq8 HI0.out); (case side2 => exact Zq5 HB.out (zf.ge HI0.out)); rintro e w55 ⟨rfl, hi, hb, hk⟩; refine ⟨_, rfl, ?_⟩; have n0_ := za.mk (Kd.zy (Kd.zbo (zf.apart (show zf w0 _ g s0_0 x1001_1 from Zq8 HI0.out) (Zq12 HO_7.out) (by decide)) hk (fun _ h => h.2)) (fun _ h => h.1)); have n1_ := za.mk (Kd.zy (Kd.zbo (zf.apart (show zf w0 _ g s0_0 x1001_1 from Zq8 HI0.out) (Zq12 HO_8.out) (by decide)) hk (fun _ h => h.2)) (fun _ h => h.1)); have n2_ := za.mk (zi.trans (Zq9 HK.out) hk (.inl rfl)); have n3_ := za.mk (hb); have n4_ := za.mk (hi); clear HO_7; clear HO_8; clear HK; clear HB; clear HI0; have HO_7 := n0_; have HO_8 := n1_; have HK := n2_; have HB := n3_; have HI0 := n4_; clear n0_ n1_ n2_ n3_ n4_; (try clear hb); (try clear hb2); (try clear hk); (try clear hi)))
        go_meet
        case rel => exact ⟨_, (false), (t237), Zrs, H', ⟨by have := HK1.out; first | omega | exact Nat.le_refl _⟩, ⟨Zq12 HO_7.out⟩, ⟨Zq8 HI0.out⟩, ⟨Zq9 HK.out⟩, ⟨Zq5 HB.out (zf.ge HI0.out)⟩⟩
      case rest =>
       clear HC50
       try clear c1
       try clear c2
       try clear p2
       try clear q2
       try clear hx2
       try clear c3
       try clear p3
       try clear q3
       try clear hx3
       try clear hf3
       try clear c4
       try clear c4b0
       try clear c4b1
       try clear p4
       try clear q4
       try clear hx4
       try clear hf4
       try clear c5
       try clear c5b0
       try clear c5b1
       try clear c6
       try clear p6
       try clear c8
       try clear c12
       try clear c12b0
       try clear c13
       try clear c13b0
       try clear c15
       try clear c15b0
       try clear c16
       try clear c16b0
       try clear c17
       try clear c17b0
       try clear c19
       try clear c19b0
       try clear c19b1
       try clear p21
       try clear q21
       try clear hx21
       try clear c22
       try clear c22b0
       try clear p22
       try clear q22
       try clear hx22
       try clear p23
       try clear q23
       try clear hx23
       try clear c29
       try clear c30
       try clear c30b0
       try clear c31
       try clear c31b0
       try clear c33
       try clear c33b0
       try clear c33b1
       try clear c35
       try clear c36
       try clear c36b0
       try clear p37
       try clear q37
       try clear hx37
       try clear hf37
       try clear c43
       try clear c44
       try clear c44b0
       try clear p45
       try clear q45
       try clear hx45
       try clear hf45
       try clear c47
       try clear c52
       try clear hx216_0
       try clear hx219_0
       try clear hx219_1
       try clear hx219_2
       try clear hx224_0
       try clear hx224_1
       try clear hx224_2
       try clear hx228_0
       try clear hx228_1
       try clear hx228_2
       try clear hx230_0
       try clear hx230_1
       try clear hx230_2
       try clear hx234_0
       try clear hx234_1
       try clear hx234_2
       try clear hx37_0
       try clear hx45_0
       try clear p2
       try clear p21
       try clear p216
       try clear p219
       try clear p224
       try clear p228
       try clear p230
       try clear p234
       try clear p37
       try clear p45
       try clear p6
       try clear q2
       try clear q21
       try clear q216
       try clear q219
       try clear q224
       try clear q228
       try clear q230
       try clear q234
       try clear q37
       try clear q45
       obtain ⟨kq, x96_49, x1001_49, rfl, HA, HJ49, HO_7, HI0, HK, HB⟩ := hcut
       cases kq with
       | zero => exact absurd HA.out (by simp [zz.j3])
       | succ kj49 =>
        have H := HA.out
        clear HA
        simp only [zz.j3] at H
        by_cases c56 : x96_49 = true
        ·subst c56
         have H1 : ((zb.f kj49 s0_0 x1001_49 (x7_1.length : Int)).bind fun bt238 => ((zb.f kj49 s0_0 bt238.2 6).bind fun bt240 => (if bt240.1 = 0 then ((some (([(-1), (l1.length : Int)] : List Int) : List Int)).bind fun y242 => ((zb.f kj49 s0_0 bt240.2 2).bind fun bt245 => (if 0 ≤ bt245.1 then (if bt245.1 < (y242.length : Int) then (if 0 ≤ bt238.1 then (if bt238.1 < (x7_1.length : Int) then (some ((x7_1.set (bt238.1 : Int).toNat (⟨rd y242 bt245.1, (ze x7_1 bt238.1).f1, (ze x7_1 bt238.1).f2, (ze x7_1 bt238.1).f3⟩ : S34)), bt245.2)) else (none)) else (none)) else (none)) else (none)))) else (if bt240.1 = 1 then (if 0 ≤ bt238.1 then (if bt238.1 < (x7_1.length : Int) then ((some (([(-1), 120, wrap64 (((ze x7_1 bt238.1).f1) + 1)] : List Int) : List Int)).bind fun y250 => ((zb.f kj49 s0_0 bt240.2 3).bind fun bt253 => (if 0 ≤ bt253.1 then (if bt253.1 < (y250.length : Int) then (some ((x7_1.set (bt238.1 : Int).toNat (⟨(ze x7_1 bt238.1).f0, rd y250 bt253.1, (ze x7_1 bt238.1).f2, (ze x7_1 bt238.1).f3⟩ : S34)), bt253.2)) else (none)) else (none)))) else (none)) else (none)) else (if bt240.1 = 2 then (if 0 ≤ bt238.1 then (if bt238.1 < (x7_1.length : Int) then (some ((x7_1.set (bt238.1 : Int).toNat (⟨(ze x7_1 bt238.1).f0, (ze x7_1 bt238.1).f1, wrap64 (((ze x7_1 bt238.1).f2) + 1), (ze x7_1 bt238.1).f3⟩ : S34)), bt240.2)) else (none)) else (none)) else (if bt240.1 = 3 then ((some (([0, 9] : List Int) : List Int)).bind fun y259 => ((zb.f kj49 s0_0 bt240.2 2).bind fun bt262 => (if 0 ≤ bt262.1 then (if bt262.1 < (y259.length : Int) then (if 0 ≤ bt238.1 then (if bt238.1 < (x7_1.length : Int) then (some ((x7_1.set (bt238.1 : Int).toNat (⟨(ze x7_1 bt238.1).f0, (ze x7_1 bt238.1).f1, (ze x7_1 bt238.1).f2, rd y259 bt262.1⟩ : S34)), bt262.2)) else (none)) else (none)) else (none)) else (none)))) else (if bt240.1 = 4 then (if 0 ≤ bt238.1 then (if bt238.1 < (x7_1.length : Int) then (if x7_1.length < 4398046511104 then (some ((x7_1 ++ [(⟨(ze x7_1 bt238.1).f0, (ze x7_1 bt238.1).f1, (ze x7_1 bt238.1).f2, (ze x7_1 bt238.1).f3⟩ : S34)]), bt240.2)) else (none)) else (none)) else (none)) else (zz.l2 kj49 x7_1 s0_0 bt240.2)))))))) = some (r1, r2) := by rw [if_pos rfl] at H; exact H
         clear H
         have H := H1
         clear H1
         replace H := Option.bind_eq_some_iff.mp H
         obtain ⟨⟨t238, t239⟩, A570, H⟩ := H
         replace H : ((zb.f kj49 s0_0 t239 6).bind fun bt240 => (if bt240.1 = 0 then ((some (([(-1), (l1.length : Int)] : List Int) : List Int)).bind fun y242 => ((zb.f kj49 s0_0 bt240.2 2).bind fun bt245 => (if 0 ≤ bt245.1 then (if bt245.1 < (y242.length : Int) then (if 0 ≤ t238 then (if t238 < (x7_1.length : Int) then (some ((x7_1.set (t238 : Int).toNat (⟨rd y242 bt245.1, (ze x7_1 t238).f1, (ze x7_1 t238).f2, (ze x7_1 t238).f3⟩ : S34)), bt245.2)) else (none)) else (none)) else (none)) else (none)))) else (if bt240.1 = 1 then (if 0 ≤ t238 then (if t238 < (x7_1.length : Int) then ((some (([(-1), 120, wrap64 (((ze x7_1 t238).f1) + 1)] : List Int) : List Int)).bind fun y250 => ((zb.f kj49 s0_0 bt240.2 3).bind fun bt253 => (if 0 ≤ bt253.1 then (if bt253.1 < (y250.length : Int) then (some ((x7_1.set (t238 : Int).toNat (⟨(ze x7_1 t238).f0, rd y250 bt253.1, (ze x7_1 t238).f2, (ze x7_1 t238).f3⟩ : S34)), bt253.2)) else (none)) else (none)))) else (none)) else (none)) else (if bt240.1 = 2 then (if 0 ≤ t238 then (if t238 < (x7_1.length : Int) then (some ((x7_1.set (t238 : Int).toNat (⟨(ze x7_1 t238).f0, (ze x7_1 t238).f1, wrap64 (((ze x7_1 t238).f2) + 1), (ze x7_1 t238).f3⟩ : S34)), bt240.2)) else (none)) else (none)) else (if bt240.1 = 3 then ((some (([0, 9] : List Int) : List Int)).bind fun y259 => ((zb.f kj49 s0_0 bt240.2 2).bind fun bt262 => (if 0 ≤ bt262.1 then (if bt262.1 < (y259.length : Int) then (if 0 ≤ t238 then (if t238 < (x7_1.length : Int) then (some ((x7_1.set (t238 : Int).toNat (⟨(ze x7_1 t238).f0, (ze x7_1 t238).f1, (ze x7_1 t238).f2, rd y259 bt262.1⟩ : S34)), bt262.2)) else (none)) else (none)) else (none)) else (none)))) else (if bt240.1 = 4 then (if 0 ≤ t238 then (if t238 < (x7_1.length : Int) then (if x7_1.length < 4398046511104 then (some ((x7_1 ++ [(⟨(ze x7_1 t238).f0, (ze x7_1 t238).f1, (ze x7_1 t238).f2, (ze x7_1 t238).f3⟩ : S34)]), bt240.2)) else (none)) else (none)) else (none)) else (zz.l2 kj49 x7_1 s0_0 bt240.2))))))) = some (r1, r2) := H
         have A57 := za.mk A570
         clear A570
         replace H := Option.bind_eq_some_iff.mp H
         obtain ⟨⟨t240, t241⟩, A580, H⟩ := H
         replace H : (if t240 = 0 then ((some (([(-1), (l1.length : Int)] : List Int) : List Int)).bind fun y242 => ((zb.f kj49 s0_0 t241 2).bind fun bt245 => (if 0 ≤ bt245.1 then (if bt245.1 < (y242.length : Int) then (if 0 ≤ t238 then (if t238 < (x7_1.length : Int) then (some ((x7_1.set (t238 : Int).toNat (⟨rd y242 bt245.1, (ze x7_1 t238).f1, (ze x7_1 t238).f2, (ze x7_1 t238).f3⟩ : S34)), bt245.2)) else (none)) else (none)) else (none)) else (none)))) else (if t240 = 1 then (if 0 ≤ t238 then (if t238 < (x7_1.length : Int) then ((some (([(-1), 120, wrap64 (((ze x7_1 t238).f1) + 1)] : List Int) : List Int)).bind fun y250 => ((zb.f kj49 s0_0 t241 3).bind fun bt253 => (if 0 ≤ bt253.1 then (if bt253.1 < (y250.length : Int) then (some ((x7_1.set (t238 : Int).toNat (⟨(ze x7_1 t238).f0, rd y250 bt253.1, (ze x7_1 t238).f2, (ze x7_1 t238).f3⟩ : S34)), bt253.2)) else (none)) else (none)))) else (none)) else (none)) else (if t240 = 2 then (if 0 ≤ t238 then (if t238 < (x7_1.length : Int) then (some ((x7_1.set (t238 : Int).toNat (⟨(ze x7_1 t238).f0, (ze x7_1 t238).f1, wrap64 (((ze x7_1 t238).f2) + 1), (ze x7_1 t238).f3⟩ : S34)), t241)) else (none)) else (none)) else (if t240 = 3 then ((some (([0, 9] : List Int) : List Int)).bind fun y259 => ((zb.f kj49 s0_0 t241 2).bind fun bt262 => (if 0 ≤ bt262.1 then (if bt262.1 < (y259.length : Int) then (if 0 ≤ t238 then (if t238 < (x7_1.length : Int) then (some ((x7_1.set (t238 : Int).toNat (⟨(ze x7_1 t238).f0, (ze x7_1 t238).f1, (ze x7_1 t238).f2, rd y259 bt262.1⟩ : S34)), bt262.2)) else (none)) else (none)) else (none)) else (none)))) else (if t240 = 4 then (if 0 ≤ t238 then (if t238 < (x7_1.length : Int) then (if x7_1.length < 4398046511104 then (some ((x7_1 ++ [(⟨(ze x7_1 t238).f0, (ze x7_1 t238).f1, (ze x7_1 t238).f2, (ze x7_1 t238).f3⟩ : S34)]), t241)) else (none)) else (none)) else (none)) else (zz.l2 kj49 x7_1 s0_0 t241)))))) = some (r1, r2) := H
         have A58 := za.mk A580
         clear A580
         by_cases c59 : t240 = 0
         ·rw [if_pos c59] at H
          have c59b0 : (t240 == 0) = true := beq_iff_eq.mpr c59
          have c59b1 : (t240 != 0) = false := bne_eq_false_iff_eq.mpr c59
          clear c59
          obtain ⟨y242, hy242⟩ : ∃ y_ : List Int, y_ = (([(-1), (l1.length : Int)] : List Int)) := ⟨_, rfl⟩
          replace H : ((zb.f kj49 s0_0 t241 2).bind fun bt245 => (if 0 ≤ bt245.1 then (if bt245.1 < (y242.length : Int) then (if 0 ≤ t238 then (if t238 < (x7_1.length : Int) then (some ((x7_1.set (t238 : Int).toNat (⟨rd y242 bt245.1, (ze x7_1 t238).f1, (ze x7_1 t238).f2, (ze x7_1 t238).f3⟩ : S34)), bt245.2)) else (none)) else (none)) else (none)) else (none))) = some (r1, r2) := by first | (rw [hy242]; with_reducible exact H) | (have H2_ := (Option.bind_some _ _).symm.trans H; rw [hy242]; with_reducible exact H2_) | (have H2_ := (Option.bind_some _ _).symm.trans H; with_reducible exact H2_) | with_reducible exact H | (rw [hy242]; exact H) | exact H
          have Ny242 := za.mk hy242
          clear hy242
          replace H := Option.bind_eq_some_iff.mp H
          obtain ⟨⟨t245, t246⟩, A600, H⟩ := H
          replace H : (if 0 ≤ t245 then (if t245 < (y242.length : Int) then (if 0 ≤ t238 then (if t238 < (x7_1.length : Int) then (some ((x7_1.set (t238 : Int).toNat (⟨rd y242 t245, (ze x7_1 t238).f1, (ze x7_1 t238).f2, (ze x7_1 t238).f3⟩ : S34)), t246)) else (none)) else (none)) else (none)) else (none)) = some (r1, r2) := H
          have A60 := za.mk A600
          clear A600
          by_cases c61 : 0 ≤ t245
          ·rw [if_pos c61] at H
           have c61b0 : decide (0 ≤ t245) = true := decide_eq_true c61
           clear c61
           by_cases c62 : t245 < (y242.length : Int)
           ·rw [if_pos c62] at H
            have c62b0 : decide (t245 < (y242.length : Int)) = true := decide_eq_true c62
            clear c62
            by_cases c63 : 0 ≤ t238
            ·rw [if_pos c63] at H
             have c63b0 : decide (0 ≤ t238) = true := decide_eq_true c63
             clear c63
             by_cases c64 : t238 < (x7_1.length : Int)
             ·rw [if_pos c64] at H
              have c64b0 : decide (t238 < (x7_1.length : Int)) = true := decide_eq_true c64
              clear c64
              obtain ⟨y248, hy248⟩ : ∃ y_ : List (S34), y_ = (x7_1.set (t238 : Int).toNat (⟨rd y242 t245, (ze x7_1 t238).f1, (ze x7_1 t238).f2, (ze x7_1 t238).f3⟩ : S34)) := ⟨_, rfl⟩
              replace H : (some (y248, t246)) = some (r1, r2) := by first | (rw [hy248]; with_reducible exact H) | (have H2_ := (Option.bind_some _ _).symm.trans H; rw [hy248]; with_reducible exact H2_) | (have H2_ := (Option.bind_some _ _).symm.trans H; with_reducible exact H2_) | with_reducible exact H | (rw [hy248]; exact H) | exact H
              have Ny248 := za.mk hy248
              clear hy248
              simp only [Option.some.injEq, Prod.mk.injEq] at H
              obtain ⟨rfl, rfl⟩ := H
              obtain ⟨Ao66, co66, eo66⟩ := Kd.zbs HO_7.out
              subst eo66
              go_wp2_with (first | ((with_reducible refine zba (f := 68) rfl ?_); refine zbv (some 100) rfl rfl Try.func68 (by kernel_rfl) rfl #[.pointer (some ⟨g, 0, none⟩), .int .i64 (x7_1.length : Int)] rfl Zmt ?_; (with_reducible refine (zb.calls kj49 g s0_0 x1001_49 (x7_1.length : Int) t238 t239 w0 _ ?side1 ?side2 A57.out).mono ?_); (case side1 => exact Zq8 HI0.out); (case side2 => exact Zq5 HB.out (zf.ge HI0.out)); rintro e w67 ⟨rfl, hi, hb, hk⟩; refine ⟨_, rfl, ?_⟩; have n0_ := za.mk (Kd.zy (Kd.zbo (zf.apart (show zf w0 _ g s0_0 x1001_49 from Zq8 HI0.out) (Zq12 HO_7.out) (by decide)) hk (fun _ h => h.2)) (fun _ h => h.1)); have n1_ := za.mk (zi.trans (Zq9 HK.out) hk (.inl rfl)); have n2_ := za.mk (hb); have n3_ := za.mk (hi); clear HO_7; clear HK; clear HB; clear HI0; have HO_7 := n0_; have HK := n1_; have HB := n2_; have HI0 := n3_; clear n0_ n1_ n2_ n3_; (try clear hb); (try clear hb2); (try clear hk); (try clear hi)) | ((with_reducible refine zba (f := 68) rfl ?_); refine zbv (some 102) rfl rfl Try.func68 (by kernel_rfl) rfl #[.pointer (some ⟨g, 0, none⟩), .int .i64 6] rfl Zmt ?_; (with_reducible refine (zb.calls kj49 g s0_0 t239 6 t240 t241 w0 _ ?side1 ?side2 A58.out).mono ?_); (case side1 => exact Zq8 HI0.out); (case side2 => exact Zq5 HB.out (zf.ge HI0.out)); rintro e w68 ⟨rfl, hi, hb, hk⟩; refine ⟨_, rfl, ?_⟩; have n0_ := za.mk (Kd.zy (Kd.zbo (zf.apart (show zf w0 _ g s0_0 t239 from Zq8 HI0.out) (Zq12 HO_7.out) (by decide)) hk (fun _ h => h.2)) (fun _ h => h.1)); have n1_ := za.mk (zi.trans (Zq9 HK.out) hk (.inl rfl)); have n2_ := za.mk (hb); have n3_ := za.mk (hi); clear HO_7; clear HK; clear HB; clear HI0; have HO_7 := n0_; have HK := n1_; have HB := n2_; have HI0 := n3_; clear n0_ n1_ n2_ n3_; (try clear hb); (try clear hb2); (try clear hk); (try clear hi)) | ((with_reducible refine zbp (N := 116) rfl ?_); (try (refine zcg (by rfl) ?_; dsimp only)); refine Kd.R_lit (Kd.int .i64) _ 3 ?hg (N := 116) ?hd (xs := ([(-1), (l1.length : Int)] : List Int)) (inner := [.int .i64 (-1), .int .i64 (l1.length : Int)]) (ok := fun _ => True) (okp := fun _ => True) ?hr ?hp (fun _ hk => hk) trivial (Below.refl _ _) (Nat.le_refl _) (by simp) ?_; (case hd => rfl); (case hg => rfl); (case hr => first | (go_simp; done) | (go_simp; rfl)); (case hp => exact (Reps.one (show Kd.M (Kd.int .i64) _ _ _ (-1) [.int .i64 (-1)] from rfl) (Reps.one (show Kd.M (Kd.int .i64) _ _ _ (l1.length : Int) [.int .i64 (l1.length : Int)] from rfl) (Reps.none _ _)))); intro v243 w69 ho70 hb hg_ hnew_; clear hg_ hnew_; (first | rw [← Ny242.out] at ho70 | (simp only [Int.reduceToNat] at ho70; rw [← Ny242.out] at ho70)); have n0_ := za.mk (Kd.zbl (Zq12 HO_7.out) hb); have n1_ := za.mk (Kd.zb2 ho70 (zb4 (w := w) (g := g) (row := none) (Zq9 HK.out))); have n2_ := za.mk (zf.below (Zq8 HI0.out) hb); have n3_ := za.mk (zi.trans (Zq9 HK.out) (zi.of_below hb g none) (.inl rfl)); have n4_ := za.mk (zo (Zq5 HB.out (zf.ge HI0.out)) hb); clear HO_7; clear HI0; clear HK; clear HB; have HO_7 := n0_; have HO244 := n1_; have HI0 := n2_; have HK := n3_; have HB := n4_; clear n0_ n1_ n2_ n3_ n4_; clear hb ho70) | ((with_reducible refine zba (f := 68) rfl ?_); refine zbv (some 118) rfl rfl Try.func68 (by kernel_rfl) rfl #[.pointer (some ⟨g, 0, none⟩), .int .i64 2] rfl Zmt ?_; (with_reducible refine (zb.calls kj49 g s0_0 t241 2 t245 t246 w0 _ ?side1 ?side2 A60.out).mono ?_); (case side1 => exact Zq8 HI0.out); (case side2 => exact Zq5 HB.out (zf.ge HI0.out)); rintro e w71 ⟨rfl, hi, hb, hk⟩; refine ⟨_, rfl, ?_⟩; have n0_ := za.mk (Kd.zy (Kd.zbo (zf.apart (show zf w0 _ g s0_0 t241 from Zq8 HI0.out) (Zq12 HO_7.out) (by decide)) hk (fun _ h => h.2)) (fun _ h => h.1)); have n1_ := za.mk (Kd.zy (Kd.zbo (zf.apart (show zf w0 _ g s0_0 t241 from Zq8 HI0.out) (Zq12 HO244.out) (by decide)) hk (fun _ h => h.2)) (fun _ h => h.1)); have n2_ := za.mk (zi.trans (Zq9 HK.out) hk (.inl rfl)); have n3_ := za.mk (hb); have n4_ := za.mk (hi); clear HO_7; clear HO244; clear HK; clear HB; clear HI0; have HO_7 := n0_; have HO244 := n1_; have HK := n2_; have HB := n3_; have HI0 := n4_; clear n0_ n1_ n2_ n3_ n4_; (try clear hb); (try clear hb2); (try clear hk); (try clear hi); obtain ⟨Ao72, co72, eo72⟩ := Kd.zbs HO244.out; subst eo72; have p247 : 0 ≤ (t245 : Int) := of_decide_eq_true Zas; have q247 : t245 < (y242.length : Int) := of_decide_eq_true Zas; obtain ⟨ad247, e247, hx247_0⟩ := Kd.zcn (Kd.zbe HO244.out).2.2 t245 p247 q247; cases e247; replace p247 := eq_true p247; replace q247 := eq_true q247; have p65 : 0 ≤ (t238 : Int) := of_decide_eq_true Zas; have q65 : (t238 : Int) < ((x7_1.length : Int) : Int) := of_decide_eq_true Zas; obtain ⟨go65, co65, eo65, gb65, gl65, cl65, HG65⟩ := Kd.zdo HO_7.out (by omega); (first | cases eo65 | (injection eo65 with ea_ en_ ec_; (first | subst ea_ | (injection ea_ with ea_; subst ea_)); subst ec_; clear en_)); have GB65 := za.mk gb65; have GG65 := za.mk HG65; clear gb65 gl65 HG65; obtain ⟨ce65, hcl65, hM65, hcc65, hfr65⟩ := Kd.R_elem HO_7.out z34 (t238 : Int) p65 q65; obtain rfl := k34_openM hM65; have hx65_0 : w71.cell? ⟨go65, (t238 : Int).toNat * 4, none⟩ = some (.int .i64 ((ze x7_1 t238).f0)) := hcc65 0 _ rfl; have hx65_1 : w71.cell? ⟨go65, (t238 : Int).toNat * 4 + 1, none⟩ = some (.int .i64 ((ze x7_1 t238).f1)) := hcc65 1 _ rfl; have hx65_2 : w71.cell? ⟨go65, (t238 : Int).toNat * 4 + 2, none⟩ = some (.int .i64 ((ze x7_1 t238).f2)) := hcc65 2 _ rfl; have hx65_3 : w71.cell? ⟨go65, (t238 : Int).toNat * 4 + 3, none⟩ = some (.int .i64 ((ze x7_1 t238).f3)) := hcc65 3 _ rfl; have hf65_0 : w71.frozen? ⟨go65, (t238 : Int).toNat * 4, none⟩ = false := hfr65 0; have hf65_1 : w71.frozen? ⟨go65, (t238 : Int).toNat * 4 + 1, none⟩ = false := hfr65 1; have hf65_2 : w71.frozen? ⟨go65, (t238 : Int).toNat * 4 + 2, none⟩ = false := hfr65 2; have hf65_3 : w71.frozen? ⟨go65, (t238 : Int).toNat * 4 + 3, none⟩ = false := hfr65 3; (try clear hcl65); (try clear hcc65); (try clear hfr65); (try clear hM65); replace p65 := eq_true p65; replace q65 := eq_true q65; have HX73 := za.mk (show Kd.R k34 34 w71 w.heap.size (fun _ => True) (.slice (some ⟨go65, 0, none⟩) x7_1.length co66) x7_1 from (Zq12 HO_7.out)); obtain ⟨ce73, hcl73, hM73, hcc73, hfr73⟩ := Kd.R_elem HX73.out z34 (t238 : Int) (of_decide_eq_true Zas) (by have h_ : (t238 : Int) < ((x7_1.length : Int) : Int) := of_decide_eq_true Zas; first | exact h_ | (have e_ := (Kd.zbe HO_7.out).1; omega) | simpa using h_); obtain rfl := k34_openM hM73; have HP73 := Kd.R_seg HX73.out (t238 : Int) (of_decide_eq_true Zas) (by have h_ : (t238 : Int) < ((x7_1.length : Int) : Int) := of_decide_eq_true Zas; first | exact h_ | (have e_ := (Kd.zbe HO_7.out).1; omega) | simpa using h_) (seg := [.int .i64 (rd y242 t245)]) (j := 0) hcl73 hcc73 (show 1 ≤ 4 from by decide) (x' := (⟨rd y242 t245, (ze x7_1 t238).f1, (ze x7_1 t238).f2, (ze x7_1 t238).f3⟩ : S34)) (k34_mkM _ _ _ (⟨rd y242 t245, (ze x7_1 t238).f1, (ze x7_1 t238).f2, (ze x7_1 t238).f3⟩ : S34) ) (fun _ hk => hk); have hx73_0 := hcc73 0 _ rfl; (try simp only [show (k34).sz = 4 from rfl, Nat.mul_one, Nat.add_zero] at hx73_0); have hf73_0 := hfr73 0; (try simp only [show (k34).sz = 4 from rfl, Nat.mul_one, Nat.add_zero] at hf73_0); (try clear hcl73); (try clear hcc73); (try clear hfr73); (try clear hM73)) | ((with_reducible refine zcf (t := 3) (p := 122) rfl ?_); refine zcc (t := 3) (p := 122) (v := ?vo_w74) (w1 := (w71.setCell ⟨go65, (t238 : Int).toNat * 4, none⟩ (.int .i64 (rd y242 t245)))) ?hg ?ho ?hn ?hr ?_; (case ho => rfl); (case hg => rfl); (case hn => rfl); (case hr => first | (go_simp; done) | (go_simp; rfl)); intro w74 hw; have hg : w71.grownBy w74 (some go65) := (by rw [hw]; exact HP73.2); have hp_ : Kd.R k34 34 w74 w.heap.size (fun _ => True) (.slice (some ⟨go65, 0, none⟩) x7_1.length co66) y248 := (by rw [hw, Ny248.out]; exact HP73.1); clear HP73; have n0_ := za.mk (hp_); have n1_ := za.mk (zf.grown (Zq8 HI0.out) hg (zf.own_ne HI0.out HO_7.out (by decide))); have n2_ := za.mk (Kd.zdx (v := (.slice (some ⟨go65, 0, none⟩) x7_1.length co66)) (Zq12 HO244.out) (Kd.zdw HO_7.out) (by decide) hg); have n3_ := za.mk ((by rw [hw]; exact zb3 (HB.out) (Nat.le_trans HL.out GB65.out) : Below w0.heap.size w0 w74)); have n4_ := za.mk (zi.trans (Zq9 HK.out) (zi.zcy hg g) (Kd.zdi HO_7.out)); clear HO_7; clear HI0; clear HO244; clear HB; clear HK; have HO_7 := n0_; have HI0 := n1_; have HO244 := n2_; have HB := n3_; have HK := n4_; clear n0_ n1_ n2_ n3_ n4_; clear hg hw hp_))
              go_ret
              exact ⟨_, by first | rfl | (simp [zbc, zbd] <;> rfl) | (simp [*, zbc, zbd] <;> rfl), Zq12 HO_7.out, Zq8 HI0.out, Zq5 HB.out (zf.ge HI0.out), Zq9 HK.out⟩
             ·rw [if_neg c64] at H
              exact absurd H (by simp)
            ·rw [if_neg c63] at H
             exact absurd H (by simp)
           ·rw [if_neg c62] at H
            exact absurd H (by simp)
          ·rw [if_neg c61] at H
           exact absurd H (by simp)
         ·rw [if_neg c59] at H
          have c59b0 : (t240 == 0) = false := beq_eq_false_iff_ne.mpr c59
          have c59b1 : (t240 != 0) = true := bne_iff_ne.mpr c59
          by_cases c75 : t240 = 1
          ·rw [if_pos c75] at H
           have c75b0 : (t240 == 1) = true := beq_iff_eq.mpr c75
           have c75b1 : (t240 != 1) = false := bne_eq_false_iff_eq.mpr c75
           clear c75
           by_cases c76 : 0 ≤ t238
           ·rw [if_pos c76] at H
            have c76b0 : decide (0 ≤ t238) = true := decide_eq_true c76
            clear c76
            by_cases c77 : t238 < (x7_1.length : Int)
            ·rw [if_pos c77] at H
             have c77b0 : decide (t238 < (x7_1.length : Int)) = true := decide_eq_true c77
             clear c77
             obtain ⟨y250, hy250⟩ : ∃ y_ : List Int, y_ = (([(-1), 120, wrap64 (((ze x7_1 t238).f1) + 1)] : List Int)) := ⟨_, rfl⟩
             replace H : ((zb.f kj49 s0_0 t241 3).bind fun bt253 => (if 0 ≤ bt253.1 then (if bt253.1 < (y250.length : Int) then (some ((x7_1.set (t238 : Int).toNat (⟨(ze x7_1 t238).f0, rd y250 bt253.1, (ze x7_1 t238).f2, (ze x7_1 t238).f3⟩ : S34)), bt253.2)) else (none)) else (none))) = some (r1, r2) := by first | (rw [hy250]; with_reducible exact H) | (have H2_ := (Option.bind_some _ _).symm.trans H; rw [hy250]; with_reducible exact H2_) | (have H2_ := (Option.bind_some _ _).symm.trans H; with_reducible exact H2_) | with_reducible exact H | (rw [hy250]; exact H) | exact H
             have Ny250 := za.mk hy250
             clear hy250
             replace H := Option.bind_eq_some_iff.mp H
             obtain ⟨⟨t253, t254⟩, A780, H⟩ := H
             replace H : (if 0 ≤ t253 then (if t253 < (y250.length : Int) then (some ((x7_1.set (t238 : Int).toNat (⟨(ze x7_1 t238).f0, rd y250 t253, (ze x7_1 t238).f2, (ze x7_1 t238).f3⟩ : S34)), t254)) else (none)) else (none)) = some (r1, r2) := H
             have A78 := za.mk A780
             clear A780
             by_cases c79 : 0 ≤ t253
             ·rw [if_pos c79] at H
              have c79b0 : decide (0 ≤ t253) = true := decide_eq_true c79
              clear c79
              by_cases c80 : t253 < (y250.length : Int)
              ·rw [if_pos c80] at H
               have c80b0 : decide (t253 < (y250.length : Int)) = true := decide_eq_true c80
               clear c80
               obtain ⟨y256, hy256⟩ : ∃ y_ : List (S34), y_ = (x7_1.set (t238 : Int).toNat (⟨(ze x7_1 t238).f0, rd y250 t253, (ze x7_1 t238).f2, (ze x7_1 t238).f3⟩ : S34)) := ⟨_, rfl⟩
               replace H : (some (y256, t254)) = some (r1, r2) := by first | (rw [hy256]; with_reducible exact H) | (have H2_ := (Option.bind_some _ _).symm.trans H; rw [hy256]; with_reducible exact H2_) | (have H2_ := (Option.bind_some _ _).symm.trans H; with_reducible exact H2_) | with_reducible exact H | (rw [hy256]; exact H) | exact H
               have Ny256 := za.mk hy256
               clear hy256
               simp only [Option.some.injEq, Prod.mk.injEq] at H
               obtain ⟨rfl, rfl⟩ := H
               obtain ⟨Ao82, co82, eo82⟩ := Kd.zbs HO_7.out
               subst eo82
               try go_wp2_with (first | ((with_reducible refine zba (f := 68) rfl ?_); refine zbv (some 100) rfl rfl Try.func68 (by kernel_rfl) rfl #[.pointer (some ⟨g, 0, none⟩), .int .i64 (x7_1.length : Int)] rfl Zmt ?_; (with_reducible refine (zb.calls kj49 g s0_0 x1001_49 (x7_1.length : Int) t238 t239 w0 _ ?side1 ?side2 A57.out).mono ?_); (case side1 => exact Zq8 HI0.out); (case side2 => exact Zq5 HB.out (zf.ge HI0.out)); rintro e w83 ⟨rfl, hi, hb, hk⟩; refine ⟨_, rfl, ?_⟩; have n0_ := za.mk (Kd.zy (Kd.zbo (zf.apart (show zf w0 _ g s0_0 x1001_49 from Zq8 HI0.out) (Zq12 HO_7.out) (by decide)) hk (fun _ h => h.2)) (fun _ h => h.1)); have n1_ := za.mk (zi.trans (Zq9 HK.out) hk (.inl rfl)); have n2_ := za.mk (hb); have n3_ := za.mk (hi); clear HO_7; clear HK; clear HB; clear HI0; have HO_7 := n0_; have HK := n1_; have HB := n2_; have HI0 := n3_; clear n0_ n1_ n2_ n3_; (try clear hb); (try clear hb2); (try clear hk); (try clear hi)) | ((with_reducible refine zba (f := 68) rfl ?_); refine zbv (some 102) rfl rfl Try.func68 (by kernel_rfl) rfl #[.pointer (some ⟨g, 0, none⟩), .int .i64 6] rfl Zmt ?_; (with_reducible refine (zb.calls kj49 g s0_0 t239 6 t240 t241 w0 _ ?side1 ?side2 A58.out).mono ?_); (case side1 => exact Zq8 HI0.out); (case side2 => exact Zq5 HB.out (zf.ge HI0.out)); rintro e w84 ⟨rfl, hi, hb, hk⟩; refine ⟨_, rfl, ?_⟩; have n0_ := za.mk (Kd.zy (Kd.zbo (zf.apart (show zf w0 _ g s0_0 t239 from Zq8 HI0.out) (Zq12 HO_7.out) (by decide)) hk (fun _ h => h.2)) (fun _ h => h.1)); have n1_ := za.mk (zi.trans (Zq9 HK.out) hk (.inl rfl)); have n2_ := za.mk (hb); have n3_ := za.mk (hi); clear HO_7; clear HK; clear HB; clear HI0; have HO_7 := n0_; have HK := n1_; have HB := n2_; have HI0 := n3_; clear n0_ n1_ n2_ n3_; (try clear hb); (try clear hb2); (try clear hk); (try clear hi)))
               have pi255 : (0 ≤ (t253 : Int)) = True := eq_true (of_decide_eq_true Zas)
               have qi255 : (t253 < (y250.length : Int)) = True := eq_true (of_decide_eq_true Zas)
               have n0_ := za.mk (Kd.zbj HO_7.out)
               have n1_ := za.mk (zf.drew HI0.out)
               have n2_ := za.mk (keep_drew HK.out)
               have n3_ := za.mk (zb6 HB.out)
               clear HO_7
               clear HI0
               clear HK
               clear HB
               have HO_7 := n0_
               have HI0 := n1_
               have HK := n2_
               have HB := n3_
               clear n0_ n1_ n2_ n3_
               have p249 : 0 ≤ (t238 : Int) := of_decide_eq_true Zas
               have q249 : t238 < (x7_1.length : Int) := of_decide_eq_true Zas
               obtain ⟨ad249, e249, hx249_0, hx249_1, hx249_2, hx249_3⟩ := zc9 (Kd.zbe HO_7.out).2.2 t238 p249 q249
               cases e249
               replace p249 := eq_true p249
               replace q249 := eq_true q249
               refine start_ (n := 16) (S := fun w' => w'.cell? (ad249.add ((t238).toNat * 4)) = some (.int .i64 ((ze x7_1 t238).f0)) ∧ w'.cell? ⟨(ad249.add ((t238).toNat * 4)).block, (ad249.add ((t238).toNat * 4)).off + 1, none⟩ = some (.int .i64 ((ze x7_1 t238).f1)) ∧ w'.cell? ⟨(ad249.add ((t238).toNat * 4)).block, (ad249.add ((t238).toNat * 4)).off + 2, none⟩ = some (.int .i64 ((ze x7_1 t238).f2)) ∧ w'.cell? ⟨(ad249.add ((t238).toNat * 4)).block, (ad249.add ((t238).toNat * 4)).off + 3, none⟩ = some (.int .i64 ((ze x7_1 t238).f3))) (ds := [15]) #[false, false, false, false, false, false, false, false, false, false, false, false, false, false, false, false] (by kernel_rfl) rfl rfl ⟨hx249_0, hx249_1, hx249_2, hx249_3⟩ (fun hHeld => ?_); refine zdq zz.tab24 zz.bits24 (fun HT_ HW_ => ?_)
               generalize w84.drew = w85 at HO_7 HI0 HK HB hx249_0 hx249_1 hx249_2 hx249_3 hHeld ⊢
               refine zce (i := 0) (N := some 125) (v := ?_) (a' := ?_) #[true, false, false, false, false, false, false, false, false, false, false, false, false, false, false, false] rfl rfl (zby HT_.out (by kernel_rfl)) (fun _ _ _ h => h) (Or.inl ⟨by rfl, ?_⟩) ?_ ?_
               rotate_left
               ·intro w'
                go_simp
                with_reducible rfl
               rotate_left
               ·simp only [Act.put, List.setIfInBounds_toArray, List.set_cons_zero, List.set_cons_succ, zbq, zbt]
                rfl
               refine zce (i := 1) (N := some 126) (v := ?_) (a' := ?_) #[true, true, false, false, false, false, false, false, false, false, false, false, false, false, false, false] rfl rfl (zby HT_.out (by kernel_rfl)) (fun _ _ _ h => h) (Or.inl ⟨by rfl, ?_⟩) ?_ ?_
               rotate_left
               ·intro w'
                go_simp
                with_reducible rfl
               rotate_left
               ·simp only [Act.put, List.setIfInBounds_toArray, List.set_cons_zero, List.set_cons_succ, zbq, zbt]
                rfl
               refine zce (i := 2) (N := some 127) (v := ?_) (a' := ?_) #[true, true, true, false, false, false, false, false, false, false, false, false, false, false, false, false] rfl rfl (zby HT_.out (by kernel_rfl)) (fun _ _ _ h => h) (Or.inl ⟨by rfl, ?_⟩) ?_ ?_
               rotate_left
               ·intro w'
                go_simp
                with_reducible rfl
               rotate_left
               ·simp only [Act.put, List.setIfInBounds_toArray, List.set_cons_zero, List.set_cons_succ, zbq, zbt]
                rfl
               refine zce (i := 3) (N := some 128) (v := ?_) (a' := ?_) #[true, true, true, true, false, false, false, false, false, false, false, false, false, false, false, false] rfl rfl (zby HT_.out (by kernel_rfl)) (fun _ _ _ h => h) (Or.inl ⟨by rfl, ?_⟩) ?_ ?_
               rotate_left
               ·intro w'
                go_simp
                with_reducible rfl
               rotate_left
               ·simp only [Act.put, List.setIfInBounds_toArray, List.set_cons_zero, List.set_cons_succ, zbq, zbt]
                rfl
               refine zce (i := 4) (N := some 129) (v := ?_) (a' := ?_) #[true, true, true, true, true, false, false, false, false, false, false, false, false, false, false, false] rfl rfl (zby HT_.out (by kernel_rfl)) (fun _ _ _ h => h) (Or.inl ⟨by rfl, ?_⟩) ?_ ?_
               rotate_left
               ·intro w'
                go_simp
                with_reducible rfl
               rotate_left
               ·simp only [Act.put, List.setIfInBounds_toArray, List.set_cons_zero, List.set_cons_succ, zbq, zbt]
                rfl
               refine zce (i := 5) (N := some 130) (v := ?_) (a' := ?_) #[true, true, true, true, true, true, false, false, false, false, false, false, false, false, false, false] rfl rfl (zby HT_.out (by kernel_rfl)) (fun _ _ _ h => h) (Or.inl ⟨by rfl, ?_⟩) ?_ ?_
               rotate_left
               ·intro w'
                go_simp
                with_reducible rfl
               rotate_left
               ·simp only [Act.put, List.setIfInBounds_toArray, List.set_cons_zero, List.set_cons_succ, zbq, zbt]
                rfl
               refine zce (i := 9) (N := some 134) (v := ?_) (a' := ?_) #[true, true, true, true, true, true, false, false, false, true, false, false, false, false, false, false] rfl rfl (zby HT_.out (by kernel_rfl)) (fun _ _ _ h => h) (Or.inl ⟨by rfl, ?_⟩) ?_ ?_
               rotate_left
               ·intro w'
                go_simp
                with_reducible rfl
               rotate_left
               ·simp only [Act.put, List.setIfInBounds_toArray, List.set_cons_zero, List.set_cons_succ, zbq, zbt]
                rfl
               refine take_ (i := 6) (N := some 131) (v := ?_) (a' := ?_) #[true, true, true, true, true, true, true, false, false, true, false, false, false, false, false, false] rfl rfl (zc5 HT_.out HW_.out (by kernel_rfl)) (fun _ _ _ h => h) (Or.inl ⟨by rfl, ?_⟩) hHeld ?_ ?_
               rotate_left
               ·rintro w' ⟨s0, s1, s2, s3⟩
                go_simp
                with_reducible rfl
               rotate_left
               ·simp only [Act.put, List.setIfInBounds_toArray, List.set_cons_zero, List.set_cons_succ, zbq, zbt]
                rfl
               refine zce (i := 7) (N := some 132) (v := ?_) (a' := ?_) #[true, true, true, true, true, true, true, true, false, true, false, false, false, false, false, false] rfl rfl (zby HT_.out (by kernel_rfl)) (fun _ _ _ h => h) (Or.inl ⟨by rfl, ?_⟩) ?_ ?_
               rotate_left
               ·intro w'
                go_simp
                with_reducible rfl
               rotate_left
               ·simp only [Act.put, List.setIfInBounds_toArray, List.set_cons_zero, List.set_cons_succ, zbq, zbt]
                rfl
               refine join_ (σ := Value × Addr) 5 #[true, true, true, true, true, true, true, true, true, true, true, false, false, false, false, false] (fun s_ => [(133, s_.1), (135, .int .i64 t253)]) (fun s_ w' => (w'.cell? (ad249.add ((t238).toNat * 4)) = some (.int .i64 ((ze x7_1 t238).f0)) ∧ w'.cell? ⟨(ad249.add ((t238).toNat * 4)).block, (ad249.add ((t238).toNat * 4)).off + 1, none⟩ = some (.int .i64 ((ze x7_1 t238).f1)) ∧ w'.cell? ⟨(ad249.add ((t238).toNat * 4)).block, (ad249.add ((t238).toNat * 4)).off + 2, none⟩ = some (.int .i64 ((ze x7_1 t238).f2)) ∧ w'.cell? ⟨(ad249.add ((t238).toNat * 4)).block, (ad249.add ((t238).toNat * 4)).off + 3, none⟩ = some (.int .i64 ((ze x7_1 t238).f3))) ∧ (Kd.R (Kd.int .i64) 3 w' w.heap.size (fun _ => True) s_.1 y250) ∧ (Kd.R k34 34 w' w.heap.size (fun _ => True) (.slice (some ad249) x7_1.length co82) x7_1) ∧ (∃ c_, (s_.1 : Value) = .slice (some s_.2) y250.length c_) ∧ (zf w0 w' g s0_0 t254) ∧ (zi w w' g none) ∧ (Below w0.heap.size w0 w')) ?_ ?_
               rotate_left
               ·intro hCont
                refine two_ (i := 8) (j := 10) (Ni := some 133) (Nj := some 135) #[true, true, true, true, true, true, true, true, true, true, false, false, false, false, false, false] #[true, true, true, true, true, true, true, true, false, true, true, false, false, false, false, false] rfl rfl rfl rfl (two_of HT_.out (by kernel_rfl)) (by decide) (by decide) (fun K hK => ?_) (fun K hK => ?_)
                ·skip
                 refine Kd.zdj (Kd.int .i64) _ 3 ?hg (N := 133) ?hd (xs := ([(-1), 120, wrap64 (((ze x7_1 t238).f1) + 1)] : List Int)) (inner := [.int .i64 (-1), .int .i64 120, .int .i64 (wrap64 (((ze x7_1 t238).f1) + 1))]) (ok := fun _ => True) (okp := fun _ => True) ?hr ?hp (fun _ hk => hk) trivial (Below.refl _ _) (Nat.le_refl _) (by simp) ?_; (case hd => rfl); (case hg => rfl); (case hr => first | (go_simp; done) | (go_simp; rfl)); (case hp => exact (Reps.one (show Kd.M (Kd.int .i64) _ _ _ (-1) [.int .i64 (-1)] from rfl) (Reps.one (show Kd.M (Kd.int .i64) _ _ _ 120 [.int .i64 120] from rfl) (Reps.one (show Kd.M (Kd.int .i64) _ _ _ (wrap64 (((ze x7_1 t238).f1) + 1)) [.int .i64 (wrap64 (((ze x7_1 t238).f1) + 1))] from rfl) (Reps.none _ _)))))
                 intro v251 w86 ho87 hb hg_ hnew_
                 have HS0_ := (hb.cell (World.block_lt_of_cell? _ _ (hHeld.1))).trans (hHeld.1)
                 have HS1_ := (hb.cell (World.block_lt_of_cell? _ _ (hHeld.2.1))).trans (hHeld.2.1)
                 have HS2_ := (hb.cell (World.block_lt_of_cell? _ _ (hHeld.2.2.1))).trans (hHeld.2.2.1)
                 have HS3_ := (hb.cell (World.block_lt_of_cell? _ _ (hHeld.2.2.2))).trans (hHeld.2.2.2)
                 clear hg_ hnew_
                 (first | rw [← Ny250.out] at ho87 | (simp only [Int.reduceToNat] at ho87; rw [← Ny250.out] at ho87))
                 have n0_ := za.mk (Kd.zbl (Zq12 HO_7.out) hb)
                 have n1_ := za.mk (Kd.zb2 ho87 (zb4 (w := w) (g := g) (row := none) (Zq9 HK.out)))
                 have n2_ := za.mk (zf.below (Zq8 HI0.out) hb)
                 have n3_ := za.mk (zi.trans (Zq9 HK.out) (zi.of_below hb g none) (.inl rfl))
                 have n4_ := za.mk (zo (Zq5 HB.out (zf.ge HI0.out)) hb)
                 clear HO_7
                 clear HI0
                 clear HK
                 clear HB
                 have HO_7 := n0_
                 have HO252 := n1_
                 have HI0 := n2_
                 have HK := n3_
                 have HB := n4_
                 clear n0_ n1_ n2_ n3_ n4_
                 clear hb ho87
                 obtain ⟨Ao88, co88, eo88⟩ := Kd.zbs HO252.out
                 subst eo88
                 obtain ⟨ado88, fo88, _⟩ := Kd.zcn (Kd.zbe HO252.out).2.2 0 (by decide) (by rw [Ny250.out]; simp)
                 cases fo88
                 refine hK.out _ _ ⟨HS0_, HS1_, HS2_, HS3_⟩ (fun hHeld => ?_)
                 clear hK K
                 refine zc6 (a' := ?_) ?_ ?_
                 rotate_left
                 ·show Act.put _ (some 133) _ = _
                  simp only [Act.put, List.setIfInBounds_toArray, List.set_cons_zero, List.set_cons_succ, zbq, zbt]
                  rfl
                 refine one_ (i := 10) (N := some 135) #[true, true, true, true, true, true, true, true, true, true, true, false, false, false, false, false] rfl rfl (zc8 HT_.out (by kernel_rfl)) (by decide) (fun K hK => ?_)
                 refine goes_ Try.func68 (by kernel_rfl) rfl #[.pointer (some ⟨g, 0, none⟩), .int .i64 3] (by rfl) rfl rfl Zmt ?_
                 with_reducible refine (zb.calls kj49 g s0_0 t241 3 t253 t254 w0 _ ?side1 ?side2 A78.out).mono ?_
                 (case side1 => exact Zq8 HI0.out)
                 (case side2 => exact Zq5 HB.out (zf.ge HI0.out))
                 rintro e w89 ⟨rfl, hi, hb, hk⟩
                 have HS0_ := keep_cell hk (hHeld.1) (by first | (rw [add_block]; exact Kd.zct (zf.own_ne HI0.out HO_7.out (by decide))) | (show (Addr.add _ _).block ≠ _; rw [add_block]; exact Kd.zct (zf.own_ne HI0.out HO_7.out (by decide))) | exact Kd.zct (zf.own_ne HI0.out HO_7.out (by decide)))
                 have HS1_ := keep_cell hk (hHeld.2.1) (by first | (rw [add_block]; exact Kd.zct (zf.own_ne HI0.out HO_7.out (by decide))) | (show (Addr.add _ _).block ≠ _; rw [add_block]; exact Kd.zct (zf.own_ne HI0.out HO_7.out (by decide))) | exact Kd.zct (zf.own_ne HI0.out HO_7.out (by decide)))
                 have HS2_ := keep_cell hk (hHeld.2.2.1) (by first | (rw [add_block]; exact Kd.zct (zf.own_ne HI0.out HO_7.out (by decide))) | (show (Addr.add _ _).block ≠ _; rw [add_block]; exact Kd.zct (zf.own_ne HI0.out HO_7.out (by decide))) | exact Kd.zct (zf.own_ne HI0.out HO_7.out (by decide)))
                 have HS3_ := keep_cell hk (hHeld.2.2.2) (by first | (rw [add_block]; exact Kd.zct (zf.own_ne HI0.out HO_7.out (by decide))) | (show (Addr.add _ _).block ≠ _; rw [add_block]; exact Kd.zct (zf.own_ne HI0.out HO_7.out (by decide))) | exact Kd.zct (zf.own_ne HI0.out HO_7.out (by decide)))
                 refine ⟨_, rfl, ?_⟩
                 have n0_ := za.mk (Kd.zy (Kd.zbo (zf.apart (show zf w0 _ g s0_0 t241 from Zq8 HI0.out) (Zq12 HO_7.out) (by decide)) hk (fun _ h => h.2)) (fun _ h => h.1))
                 have n1_ := za.mk (Kd.zy (Kd.zbo (zf.apart (show zf w0 _ g s0_0 t241 from Zq8 HI0.out) (Zq12 HO252.out) (by decide)) hk (fun _ h => h.2)) (fun _ h => h.1))
                 have n2_ := za.mk (zi.trans (Zq9 HK.out) hk (.inl rfl))
                 have n3_ := za.mk (hb)
                 have n4_ := za.mk (hi)
                 clear HO_7
                 clear HO252
                 clear HK
                 clear HB
                 clear HI0
                 have HO_7 := n0_
                 have HO252 := n1_
                 have HK := n2_
                 have HB := n3_
                 have HI0 := n4_
                 clear n0_ n1_ n2_ n3_ n4_
                 (try clear hb)
                 (try clear hb2)
                 (try clear hk)
                 (try clear hi)
                 refine hK.out _ _ ⟨HS0_, HS1_, HS2_, HS3_⟩ (fun hHeld => ?_)
                 clear hK K
                 refine zc6 (a' := ?_) ?_ ?_
                 rotate_left
                 ·show Act.put _ (some 135) _ = _
                  simp only [Act.put, List.setIfInBounds_toArray, List.set_cons_zero, List.set_cons_succ, zbq, zbt]
                  rfl
                 exact zc6 (by simp only [putAll, Act.put, List.setIfInBounds_toArray, List.set_cons_zero, List.set_cons_succ]) (hCont (.slice (some ado88) y250.length co88, ado88) _ ⟨hHeld, (Zq12 HO252.out), (Zq12 HO_7.out), ⟨_, rfl⟩, (Zq8 HI0.out), (Zq9 HK.out), (Zq5 HB.out (zf.ge HI0.out))⟩)
                ·skip
                 refine goes_ Try.func68 (by kernel_rfl) rfl #[.pointer (some ⟨g, 0, none⟩), .int .i64 3] (by rfl) rfl rfl Zmt ?_
                 with_reducible refine (zb.calls kj49 g s0_0 t241 3 t253 t254 w0 _ ?side1 ?side2 A78.out).mono ?_
                 (case side1 => exact Zq8 HI0.out)
                 (case side2 => exact Zq5 HB.out (zf.ge HI0.out))
                 rintro e w86 ⟨rfl, hi, hb, hk⟩
                 have HS0_ := keep_cell hk (hHeld.1) (by first | (rw [add_block]; exact Kd.zct (zf.own_ne HI0.out HO_7.out (by decide))) | (show (Addr.add _ _).block ≠ _; rw [add_block]; exact Kd.zct (zf.own_ne HI0.out HO_7.out (by decide))) | exact Kd.zct (zf.own_ne HI0.out HO_7.out (by decide)))
                 have HS1_ := keep_cell hk (hHeld.2.1) (by first | (rw [add_block]; exact Kd.zct (zf.own_ne HI0.out HO_7.out (by decide))) | (show (Addr.add _ _).block ≠ _; rw [add_block]; exact Kd.zct (zf.own_ne HI0.out HO_7.out (by decide))) | exact Kd.zct (zf.own_ne HI0.out HO_7.out (by decide)))
                 have HS2_ := keep_cell hk (hHeld.2.2.1) (by first | (rw [add_block]; exact Kd.zct (zf.own_ne HI0.out HO_7.out (by decide))) | (show (Addr.add _ _).block ≠ _; rw [add_block]; exact Kd.zct (zf.own_ne HI0.out HO_7.out (by decide))) | exact Kd.zct (zf.own_ne HI0.out HO_7.out (by decide)))
                 have HS3_ := keep_cell hk (hHeld.2.2.2) (by first | (rw [add_block]; exact Kd.zct (zf.own_ne HI0.out HO_7.out (by decide))) | (show (Addr.add _ _).block ≠ _; rw [add_block]; exact Kd.zct (zf.own_ne HI0.out HO_7.out (by decide))) | exact Kd.zct (zf.own_ne HI0.out HO_7.out (by decide)))
                 refine ⟨_, rfl, ?_⟩
                 have n0_ := za.mk (Kd.zy (Kd.zbo (zf.apart (show zf w0 _ g s0_0 t241 from Zq8 HI0.out) (Zq12 HO_7.out) (by decide)) hk (fun _ h => h.2)) (fun _ h => h.1))
                 have n1_ := za.mk (zi.trans (Zq9 HK.out) hk (.inl rfl))
                 have n2_ := za.mk (hb)
                 have n3_ := za.mk (hi)
                 clear HO_7
                 clear HK
                 clear HB
                 clear HI0
                 have HO_7 := n0_
                 have HK := n1_
                 have HB := n2_
                 have HI0 := n3_
                 clear n0_ n1_ n2_ n3_
                 (try clear hb)
                 (try clear hb2)
                 (try clear hk)
                 (try clear hi)
                 refine hK.out _ _ ⟨HS0_, HS1_, HS2_, HS3_⟩ (fun hHeld => ?_)
                 clear hK K
                 refine zc6 (a' := ?_) ?_ ?_
                 rotate_left
                 ·show Act.put _ (some 135) _ = _
                  simp only [Act.put, List.setIfInBounds_toArray, List.set_cons_zero, List.set_cons_succ, zbq, zbt]
                  rfl
                 refine one_ (i := 8) (N := some 133) #[true, true, true, true, true, true, true, true, true, true, true, false, false, false, false, false] rfl rfl (zc8 HT_.out (by kernel_rfl)) (by decide) (fun K hK => ?_)
                 refine Kd.zdj (Kd.int .i64) _ 3 ?hg (N := 133) ?hd (xs := ([(-1), 120, wrap64 (((ze x7_1 t238).f1) + 1)] : List Int)) (inner := [.int .i64 (-1), .int .i64 120, .int .i64 (wrap64 (((ze x7_1 t238).f1) + 1))]) (ok := fun _ => True) (okp := fun _ => True) ?hr ?hp (fun _ hk => hk) trivial (Below.refl _ _) (Nat.le_refl _) (by simp) ?_; (case hd => rfl); (case hg => rfl); (case hr => first | (go_simp; done) | (go_simp; rfl)); (case hp => exact (Reps.one (show Kd.M (Kd.int .i64) _ _ _ (-1) [.int .i64 (-1)] from rfl) (Reps.one (show Kd.M (Kd.int .i64) _ _ _ 120 [.int .i64 120] from rfl) (Reps.one (show Kd.M (Kd.int .i64) _ _ _ (wrap64 (((ze x7_1 t238).f1) + 1)) [.int .i64 (wrap64 (((ze x7_1 t238).f1) + 1))] from rfl) (Reps.none _ _)))))
                 intro v251 w87 ho88 hb hg_ hnew_
                 have HS0_ := (hb.cell (World.block_lt_of_cell? _ _ (hHeld.1))).trans (hHeld.1)
                 have HS1_ := (hb.cell (World.block_lt_of_cell? _ _ (hHeld.2.1))).trans (hHeld.2.1)
                 have HS2_ := (hb.cell (World.block_lt_of_cell? _ _ (hHeld.2.2.1))).trans (hHeld.2.2.1)
                 have HS3_ := (hb.cell (World.block_lt_of_cell? _ _ (hHeld.2.2.2))).trans (hHeld.2.2.2)
                 clear hg_ hnew_
                 (first | rw [← Ny250.out] at ho88 | (simp only [Int.reduceToNat] at ho88; rw [← Ny250.out] at ho88))
                 have n0_ := za.mk (Kd.zbl (Zq12 HO_7.out) hb)
                 have n1_ := za.mk (Kd.zb2 ho88 (zb4 (w := w) (g := g) (row := none) (Zq9 HK.out)))
                 have n2_ := za.mk (zf.below (Zq8 HI0.out) hb)
                 have n3_ := za.mk (zi.trans (Zq9 HK.out) (zi.of_below hb g none) (.inl rfl))
                 have n4_ := za.mk (zo (Zq5 HB.out (zf.ge HI0.out)) hb)
                 clear HO_7
                 clear HI0
                 clear HK
                 clear HB
                 have HO_7 := n0_
                 have HO252 := n1_
                 have HI0 := n2_
                 have HK := n3_
                 have HB := n4_
                 clear n0_ n1_ n2_ n3_ n4_
                 clear hb ho88
                 obtain ⟨Ao89, co89, eo89⟩ := Kd.zbs HO252.out
                 subst eo89
                 obtain ⟨ado89, fo89, _⟩ := Kd.zcn (Kd.zbe HO252.out).2.2 0 (by decide) (by rw [Ny250.out]; simp)
                 cases fo89
                 refine hK.out _ _ ⟨HS0_, HS1_, HS2_, HS3_⟩ (fun hHeld => ?_)
                 clear hK K
                 refine zc6 (a' := ?_) ?_ ?_
                 rotate_left
                 ·show Act.put _ (some 133) _ = _
                  simp only [Act.put, List.setIfInBounds_toArray, List.set_cons_zero, List.set_cons_succ, zbq, zbt]
                  rfl
                 exact zc6 (by simp only [putAll, Act.put, List.setIfInBounds_toArray, List.set_cons_zero, List.set_cons_succ]) (hCont (.slice (some ado89) y250.length co89, ado89) _ ⟨hHeld, (Zq12 HO252.out), (Zq12 HO_7.out), ⟨_, rfl⟩, (Zq8 HI0.out), (Zq9 HK.out), (Zq5 HB.out (zf.ge HI0.out))⟩)
               rintro ⟨v251, adz_v251⟩ w90 ⟨hS_, h0_, h1_, h2_, h3_, h4_, h5_⟩
               have n0_ : za (Kd.R (Kd.int .i64) 3 w90 w.heap.size (fun _ => True) v251 y250) := ⟨h0_⟩
               have n1_ : za (Kd.R k34 34 w90 w.heap.size (fun _ => True) (.slice (some ad249) x7_1.length co82) x7_1) := ⟨h1_⟩
               have n2_ : za (∃ c_, (v251 : Value) = .slice (some adz_v251) y250.length c_) := ⟨h2_⟩
               have n3_ : za (zf w0 w90 g s0_0 t254) := ⟨h3_⟩
               have n4_ : za (zi w w90 g none) := ⟨h4_⟩
               have n5_ : za (Below w0.heap.size w0 w90) := ⟨h5_⟩
               clear HO_7
               clear HI0
               clear HK
               clear HB
               clear h0_ h1_ h2_ h3_ h4_ h5_
               have HO252 := n0_
               have HO_7 := n1_
               have HA_HO252 := n2_
               have HI0 := n3_
               have HK := n4_
               have HB := n5_
               clear n0_ n1_ n2_ n3_ n4_ n5_
               have hHeld : w90.cell? (ad249.add ((t238).toNat * 4)) = some (.int .i64 ((ze x7_1 t238).f0)) ∧ w90.cell? ⟨(ad249.add ((t238).toNat * 4)).block, (ad249.add ((t238).toNat * 4)).off + 1, none⟩ = some (.int .i64 ((ze x7_1 t238).f1)) ∧ w90.cell? ⟨(ad249.add ((t238).toNat * 4)).block, (ad249.add ((t238).toNat * 4)).off + 2, none⟩ = some (.int .i64 ((ze x7_1 t238).f2)) ∧ w90.cell? ⟨(ad249.add ((t238).toNat * 4)).block, (ad249.add ((t238).toNat * 4)).off + 3, none⟩ = some (.int .i64 ((ze x7_1 t238).f3)) := hS_
               obtain ⟨co91, eo91⟩ := HA_HO252.out
               clear HA_HO252
               subst eo91
               have p81 : 0 ≤ (t238 : Int) := of_decide_eq_true Zas
               have q81 : (t238 : Int) < ((x7_1.length : Int) : Int) := of_decide_eq_true Zas
               obtain ⟨go81, co81, eo81, gb81, gl81, cl81, HG81⟩ := Kd.zdo HO_7.out (by omega)
               (first | cases eo81 | (injection eo81 with ea_ en_ ec_; (first | subst ea_ | (injection ea_ with ea_; subst ea_)); subst ec_; clear en_))
               have GB81 := za.mk gb81
               have GG81 := za.mk HG81
               clear gb81 gl81 HG81
               (first | simp only [add_plain] at hx249_0 | skip)
               (first | simp only [add_plain] at hx249_1 | skip)
               (first | simp only [add_plain] at hx249_2 | skip)
               (first | simp only [add_plain] at hx249_3 | skip)
               obtain ⟨ce81, hcl81, hM81, hcc81, hfr81⟩ := Kd.R_elem HO_7.out z34 (t238 : Int) p81 q81
               obtain rfl := k34_openM hM81
               have hx81_0 : World.cell? _ ⟨go81, (t238 : Int).toNat * 4, none⟩ = some (.int .i64 ((ze x7_1 t238).f0)) := hcc81 0 _ rfl
               have hx81_1 : World.cell? _ ⟨go81, (t238 : Int).toNat * 4 + 1, none⟩ = some (.int .i64 ((ze x7_1 t238).f1)) := hcc81 1 _ rfl
               have hx81_2 : World.cell? _ ⟨go81, (t238 : Int).toNat * 4 + 2, none⟩ = some (.int .i64 ((ze x7_1 t238).f2)) := hcc81 2 _ rfl
               have hx81_3 : World.cell? _ ⟨go81, (t238 : Int).toNat * 4 + 3, none⟩ = some (.int .i64 ((ze x7_1 t238).f3)) := hcc81 3 _ rfl
               have hf81_0 : World.frozen? _ ⟨go81, (t238 : Int).toNat * 4, none⟩ = false := hfr81 0
               have hf81_1 : World.frozen? _ ⟨go81, (t238 : Int).toNat * 4 + 1, none⟩ = false := hfr81 1
               have hf81_2 : World.frozen? _ ⟨go81, (t238 : Int).toNat * 4 + 2, none⟩ = false := hfr81 2
               have hf81_3 : World.frozen? _ ⟨go81, (t238 : Int).toNat * 4 + 3, none⟩ = false := hfr81 3
               clear hcl81 hcc81 hfr81 hM81
               replace p81 := eq_true p81
               replace q81 := eq_true q81
               have HN0_go81 := za.mk (show g ≠ go81 from by have h_ := zf.own_ne HI0.out HO_7.out (by decide); intro e_; exact h_ (by rw [e_]; rfl))
               obtain ⟨ce92, hcl92, hM92, hcc92, hfr92⟩ := Kd.R_elem HO_7.out z34 (t238 : Int) (of_decide_eq_true Zas) (by have h_ : (t238 : Int) < ((x7_1.length : Int) : Int) := of_decide_eq_true Zas; first | exact h_ | (have e_ := (Kd.zbe HO_7.out).1; omega) | simpa using h_)
               obtain rfl := k34_openM hM92
               have HP92 := (Kd.R_seg HO_7.out (t238 : Int) (of_decide_eq_true Zas) (by have h_ : (t238 : Int) < ((x7_1.length : Int) : Int) := of_decide_eq_true Zas; first | exact h_ | (have e_ := (Kd.zbe HO_7.out).1; omega) | simpa using h_) (seg := [.int .i64 (rd y250 t253)]) (j := 1) hcl92 hcc92 (show 2 ≤ 4 from by decide) (x' := (⟨(ze x7_1 t238).f0, rd y250 t253, (ze x7_1 t238).f2, (ze x7_1 t238).f3⟩ : S34)) (k34_mkM _ _ _ (⟨(ze x7_1 t238).f0, rd y250 t253, (ze x7_1 t238).f2, (ze x7_1 t238).f3⟩ : S34) ) (fun _ hk => hk)).1
               rw [← Ny256.out] at HP92
               have HQ92 := za.mk HP92
               clear hcl92 hcc92 hfr92 hM92 HP92
               refine zc6 (a' := ?_) ?_ ?_
               rotate_left
               ·simp only [putAll, Act.put, List.setIfInBounds_toArray, List.set_cons_zero, List.set_cons_succ]
                rfl
               refine zce (i := 11) (N := some 136) (v := ?_) (a' := ?_) #[true, true, true, true, true, true, true, true, true, true, true, true, false, false, false, false] rfl rfl (zby HT_.out (by kernel_rfl)) (fun _ _ _ h => h) (Or.inl ⟨by rfl, ?_⟩) ?_ ?_
               rotate_left
               ·intro w'
                go_simp
                with_reducible rfl
               rotate_left
               ·simp only [Act.put, List.setIfInBounds_toArray, List.set_cons_zero, List.set_cons_succ, zbq, zbt]
                rfl
               refine one_ (i := 12) (N := some 137) #[true, true, true, true, true, true, true, true, true, true, true, true, true, false, false, false] rfl rfl (zc8 HT_.out (by kernel_rfl)) (by decide) (fun K hK => ?_)
               (have p255 : 0 ≤ (t253 : Int) := of_decide_eq_true Zas; have q255 : t253 < (y250.length : Int) := of_decide_eq_true Zas; obtain ⟨ad255, e255, hx255_0⟩ := Kd.zcn (Kd.zbe HO252.out).2.2 t253 p255 q255; obtain rfl : adz_v251 = ad255 := (by injection e255))
               refine value_ (w1 := ?_) (v := ?_) (by rfl) rfl ?_ ?_
               rotate_left 2
               ·go_simp
                constructor
                ·rfl
                ·rfl
               clear hx255_0
               refine hK.out _ _ ⟨hHeld.1, hHeld.2.1, hHeld.2.2.1, hHeld.2.2.2⟩ (fun hHeld => ?_)
               clear hK K
               refine zc6 (a' := ?_) ?_ ?_
               rotate_left
               ·show Act.put _ (some 137) _ = _
                simp only [Act.put, List.setIfInBounds_toArray, List.set_cons_zero, List.set_cons_succ, zbq, zbt]
                rfl
               refine zce (i := 13) (N := some 138) (v := ?_) (a' := ?_) #[true, true, true, true, true, true, true, true, true, true, true, true, true, true, false, false] rfl rfl (zby HT_.out (by kernel_rfl)) (fun _ _ _ h => h) (Or.inl ⟨by rfl, ?_⟩) ?_ ?_
               rotate_left
               ·intro w'
                go_simp
                with_reducible rfl
               rotate_left
               ·simp only [Act.put, List.setIfInBounds_toArray, List.set_cons_zero, List.set_cons_succ, zbq, zbt]
                rfl
               refine zce (i := 14) (N := some 139) (v := ?_) (a' := ?_) #[true, true, true, true, true, true, true, true, true, true, true, true, true, true, true, false] rfl rfl (zby HT_.out (by kernel_rfl)) (fun _ _ _ h => h) (Or.inl ⟨by rfl, ?_⟩) ?_ ?_
               rotate_left
               ·intro w'
                go_simp
                with_reducible rfl
               rotate_left
               ·simp only [Act.put, List.setIfInBounds_toArray, List.set_cons_zero, List.set_cons_succ, zbq, zbt]
                rfl
               refine last_ (i := 15) (N := none) #[true, true, true, true, true, true, true, true, true, true, true, true, true, true, true, true] rfl rfl (zc8 HT_.out (by kernel_rfl)) (by decide) (fun K hK => ?_)
               refine skip_ (w1 := ?_) (by rfl) rfl ?_ ?_
               rotate_left
               ·go_simp
                rfl
               refine hK.out _ _ ?_
               clear hK K
               refine done_ (done_of HT_.out (by kernel_rfl)) ?_
               try go_wp2
               go_ret
               exact ⟨_, by first | rfl | (simp [zbc, zbd] <;> rfl) | (simp [*, zbc, zbd] <;> rfl), Zq12 HQ92.out, Zq10 HI0.out HN0_go81.out, Zq7 HB.out (Nat.le_trans HL.out GB81.out) (zf.ge HI0.out), Zq11 HK.out GB81.out⟩
              ·rw [if_neg c80] at H
               exact absurd H (by simp)
             ·rw [if_neg c79] at H
              exact absurd H (by simp)
            ·rw [if_neg c77] at H
             exact absurd H (by simp)
           ·rw [if_neg c76] at H
            exact absurd H (by simp)
          ·rw [if_neg c75] at H
           have c75b0 : (t240 == 1) = false := beq_eq_false_iff_ne.mpr c75
           have c75b1 : (t240 != 1) = true := bne_iff_ne.mpr c75
           by_cases c93 : t240 = 2
           ·rw [if_pos c93] at H
            have c93b0 : (t240 == 2) = true := beq_iff_eq.mpr c93
            have c93b1 : (t240 != 2) = false := bne_eq_false_iff_eq.mpr c93
            clear c93
            by_cases c94 : 0 ≤ t238
            ·rw [if_pos c94] at H
             have c94b0 : decide (0 ≤ t238) = true := decide_eq_true c94
             clear c94
             by_cases c95 : t238 < (x7_1.length : Int)
             ·rw [if_pos c95] at H
              have c95b0 : decide (t238 < (x7_1.length : Int)) = true := decide_eq_true c95
              clear c95
              obtain ⟨y258, hy258⟩ : ∃ y_ : List (S34), y_ = (x7_1.set (t238 : Int).toNat (⟨(ze x7_1 t238).f0, (ze x7_1 t238).f1, wrap64 (((ze x7_1 t238).f2) + 1), (ze x7_1 t238).f3⟩ : S34)) := ⟨_, rfl⟩
              replace H : (some (y258, t241)) = some (r1, r2) := by first | (rw [hy258]; with_reducible exact H) | (have H2_ := (Option.bind_some _ _).symm.trans H; rw [hy258]; with_reducible exact H2_) | (have H2_ := (Option.bind_some _ _).symm.trans H; with_reducible exact H2_) | with_reducible exact H | (rw [hy258]; exact H) | exact H
              have Ny258 := za.mk hy258
              clear hy258
              simp only [Option.some.injEq, Prod.mk.injEq] at H
              obtain ⟨rfl, rfl⟩ := H
              obtain ⟨Ao97, co97, eo97⟩ := Kd.zbs HO_7.out
              subst eo97
              go_wp2_with (first | ((with_reducible refine zba (f := 68) rfl ?_); refine zbv (some 100) rfl rfl Try.func68 (by kernel_rfl) rfl #[.pointer (some ⟨g, 0, none⟩), .int .i64 (x7_1.length : Int)] rfl Zmt ?_; (with_reducible refine (zb.calls kj49 g s0_0 x1001_49 (x7_1.length : Int) t238 t239 w0 _ ?side1 ?side2 A57.out).mono ?_); (case side1 => exact Zq8 HI0.out); (case side2 => exact Zq5 HB.out (zf.ge HI0.out)); rintro e w98 ⟨rfl, hi, hb, hk⟩; refine ⟨_, rfl, ?_⟩; have n0_ := za.mk (Kd.zy (Kd.zbo (zf.apart (show zf w0 _ g s0_0 x1001_49 from Zq8 HI0.out) (Zq12 HO_7.out) (by decide)) hk (fun _ h => h.2)) (fun _ h => h.1)); have n1_ := za.mk (zi.trans (Zq9 HK.out) hk (.inl rfl)); have n2_ := za.mk (hb); have n3_ := za.mk (hi); clear HO_7; clear HK; clear HB; clear HI0; have HO_7 := n0_; have HK := n1_; have HB := n2_; have HI0 := n3_; clear n0_ n1_ n2_ n3_; (try clear hb); (try clear hb2); (try clear hk); (try clear hi)) | ((with_reducible refine zba (f := 68) rfl ?_); refine zbv (some 102) rfl rfl Try.func68 (by kernel_rfl) rfl #[.pointer (some ⟨g, 0, none⟩), .int .i64 6] rfl Zmt ?_; (with_reducible refine (zb.calls kj49 g s0_0 t239 6 t240 t241 w0 _ ?side1 ?side2 A58.out).mono ?_); (case side1 => exact Zq8 HI0.out); (case side2 => exact Zq5 HB.out (zf.ge HI0.out)); rintro e w99 ⟨rfl, hi, hb, hk⟩; refine ⟨_, rfl, ?_⟩; have n0_ := za.mk (Kd.zy (Kd.zbo (zf.apart (show zf w0 _ g s0_0 t239 from Zq8 HI0.out) (Zq12 HO_7.out) (by decide)) hk (fun _ h => h.2)) (fun _ h => h.1)); have n1_ := za.mk (zi.trans (Zq9 HK.out) hk (.inl rfl)); have n2_ := za.mk (hb); have n3_ := za.mk (hi); clear HO_7; clear HK; clear HB; clear HI0; have HO_7 := n0_; have HK := n1_; have HB := n2_; have HI0 := n3_; clear n0_ n1_ n2_ n3_; (try clear hb); (try clear hb2); (try clear hk); (try clear hi); have p257 : 0 ≤ (t238 : Int) := of_decide_eq_true Zas; have q257 : t238 < (x7_1.length : Int) := of_decide_eq_true Zas; obtain ⟨ad257, e257, hx257_0, hx257_1, hx257_2, hx257_3⟩ := zc9 (Kd.zbe HO_7.out).2.2 t238 p257 q257; cases e257; replace p257 := eq_true p257; replace q257 := eq_true q257; have p96 : 0 ≤ (t238 : Int) := of_decide_eq_true Zas; have q96 : (t238 : Int) < ((x7_1.length : Int) : Int) := of_decide_eq_true Zas; obtain ⟨go96, co96, eo96, gb96, gl96, cl96, HG96⟩ := Kd.zdo HO_7.out (by omega); (first | cases eo96 | (injection eo96 with ea_ en_ ec_; (first | subst ea_ | (injection ea_ with ea_; subst ea_)); subst ec_; clear en_)); have GB96 := za.mk gb96; have GG96 := za.mk HG96; clear gb96 gl96 HG96; (first | simp only [add_plain] at hx257_0 | skip); (first | simp only [add_plain] at hx257_1 | skip); (first | simp only [add_plain] at hx257_2 | skip); (first | simp only [add_plain] at hx257_3 | skip); obtain ⟨ce96, hcl96, hM96, hcc96, hfr96⟩ := Kd.R_elem HO_7.out z34 (t238 : Int) p96 q96; obtain rfl := k34_openM hM96; have hx96_0 : w99.cell? ⟨go96, (t238 : Int).toNat * 4, none⟩ = some (.int .i64 ((ze x7_1 t238).f0)) := hcc96 0 _ rfl; have hx96_1 : w99.cell? ⟨go96, (t238 : Int).toNat * 4 + 1, none⟩ = some (.int .i64 ((ze x7_1 t238).f1)) := hcc96 1 _ rfl; have hx96_2 : w99.cell? ⟨go96, (t238 : Int).toNat * 4 + 2, none⟩ = some (.int .i64 ((ze x7_1 t238).f2)) := hcc96 2 _ rfl; have hx96_3 : w99.cell? ⟨go96, (t238 : Int).toNat * 4 + 3, none⟩ = some (.int .i64 ((ze x7_1 t238).f3)) := hcc96 3 _ rfl; have hf96_0 : w99.frozen? ⟨go96, (t238 : Int).toNat * 4, none⟩ = false := hfr96 0; have hf96_1 : w99.frozen? ⟨go96, (t238 : Int).toNat * 4 + 1, none⟩ = false := hfr96 1; have hf96_2 : w99.frozen? ⟨go96, (t238 : Int).toNat * 4 + 2, none⟩ = false := hfr96 2; have hf96_3 : w99.frozen? ⟨go96, (t238 : Int).toNat * 4 + 3, none⟩ = false := hfr96 3; (try clear hcl96); (try clear hcc96); (try clear hfr96); (try clear hM96); replace p96 := eq_true p96; replace q96 := eq_true q96; have HX100 := za.mk (show Kd.R k34 34 w99 w.heap.size (fun _ => True) (.slice (some ⟨go96, 0, none⟩) x7_1.length co97) x7_1 from (Zq12 HO_7.out)); obtain ⟨ce100, hcl100, hM100, hcc100, hfr100⟩ := Kd.R_elem HX100.out z34 (t238 : Int) (of_decide_eq_true Zas) (by have h_ : (t238 : Int) < ((x7_1.length : Int) : Int) := of_decide_eq_true Zas; first | exact h_ | (have e_ := (Kd.zbe HO_7.out).1; omega) | simpa using h_); obtain rfl := k34_openM hM100; have HP100 := Kd.R_seg HX100.out (t238 : Int) (of_decide_eq_true Zas) (by have h_ : (t238 : Int) < ((x7_1.length : Int) : Int) := of_decide_eq_true Zas; first | exact h_ | (have e_ := (Kd.zbe HO_7.out).1; omega) | simpa using h_) (seg := [.int .i64 (wrap64 (((ze x7_1 t238).f2) + 1))]) (j := 2) hcl100 hcc100 (show 3 ≤ 4 from by decide) (x' := (⟨(ze x7_1 t238).f0, (ze x7_1 t238).f1, wrap64 (((ze x7_1 t238).f2) + 1), (ze x7_1 t238).f3⟩ : S34)) (k34_mkM _ _ _ (⟨(ze x7_1 t238).f0, (ze x7_1 t238).f1, wrap64 (((ze x7_1 t238).f2) + 1), (ze x7_1 t238).f3⟩ : S34) ) (fun _ hk => hk); have hx100_2 := hcc100 2 _ rfl; (try simp only [show (k34).sz = 4 from rfl, Nat.mul_one, Nat.add_zero] at hx100_2); have hf100_2 := hfr100 2; (try simp only [show (k34).sz = 4 from rfl, Nat.mul_one, Nat.add_zero] at hf100_2); (try clear hcl100); (try clear hcc100); (try clear hfr100); (try clear hM100)) | ((with_reducible refine zcf (t := 3) (p := 151) rfl ?_); refine zcc (t := 3) (p := 151) (v := ?vo_w101) (w1 := (w99.setCell ⟨go96, (t238 : Int).toNat * 4 + 2, none⟩ (.int .i64 (wrap64 (((ze x7_1 t238).f2) + 1))))) ?hg ?ho ?hn ?hr ?_; (case ho => rfl); (case hg => rfl); (case hn => rfl); (case hr => first | (go_simp; done) | (go_simp; rfl)); intro w101 hw; have hg : w99.grownBy w101 (some go96) := (by rw [hw]; exact HP100.2); have hp_ : Kd.R k34 34 w101 w.heap.size (fun _ => True) (.slice (some ⟨go96, 0, none⟩) x7_1.length co97) y258 := (by rw [hw, Ny258.out]; exact HP100.1); clear HP100; have n0_ := za.mk (hp_); have n1_ := za.mk (zf.grown (Zq8 HI0.out) hg (zf.own_ne HI0.out HO_7.out (by decide))); have n2_ := za.mk ((by rw [hw]; exact zb3 (HB.out) (Nat.le_trans HL.out GB96.out) : Below w0.heap.size w0 w101)); have n3_ := za.mk (zi.trans (Zq9 HK.out) (zi.zcy hg g) (Kd.zdi HO_7.out)); clear HO_7; clear HI0; clear HB; clear HK; have HO_7 := n0_; have HI0 := n1_; have HB := n2_; have HK := n3_; clear n0_ n1_ n2_ n3_; clear hg hw hp_))
              go_ret
              exact ⟨_, by first | rfl | (simp [zbc, zbd] <;> rfl) | (simp [*, zbc, zbd] <;> rfl), Zq12 HO_7.out, Zq8 HI0.out, Zq5 HB.out (zf.ge HI0.out), Zq9 HK.out⟩
             ·rw [if_neg c95] at H
              exact absurd H (by simp)
            ·rw [if_neg c94] at H
             exact absurd H (by simp)
           ·rw [if_neg c93] at H
            have c93b0 : (t240 == 2) = false := beq_eq_false_iff_ne.mpr c93
            have c93b1 : (t240 != 2) = true := bne_iff_ne.mpr c93
            by_cases c102 : t240 = 3
            ·rw [if_pos c102] at H
             have c102b0 : (t240 == 3) = true := beq_iff_eq.mpr c102
             have c102b1 : (t240 != 3) = false := bne_eq_false_iff_eq.mpr c102
             clear c102
             obtain ⟨y259, hy259⟩ : ∃ y_ : List Int, y_ = (([0, 9] : List Int)) := ⟨_, rfl⟩
             replace H : ((zb.f kj49 s0_0 t241 2).bind fun bt262 => (if 0 ≤ bt262.1 then (if bt262.1 < (y259.length : Int) then (if 0 ≤ t238 then (if t238 < (x7_1.length : Int) then (some ((x7_1.set (t238 : Int).toNat (⟨(ze x7_1 t238).f0, (ze x7_1 t238).f1, (ze x7_1 t238).f2, rd y259 bt262.1⟩ : S34)), bt262.2)) else (none)) else (none)) else (none)) else (none))) = some (r1, r2) := by first | (rw [hy259]; with_reducible exact H) | (have H2_ := (Option.bind_some _ _).symm.trans H; rw [hy259]; with_reducible exact H2_) | (have H2_ := (Option.bind_some _ _).symm.trans H; with_reducible exact H2_) | with_reducible exact H | (rw [hy259]; exact H) | exact H
             have Ny259 := za.mk hy259
             clear hy259
             replace H := Option.bind_eq_some_iff.mp H
             obtain ⟨⟨t262, t263⟩, A1030, H⟩ := H
             replace H : (if 0 ≤ t262 then (if t262 < (y259.length : Int) then (if 0 ≤ t238 then (if t238 < (x7_1.length : Int) then (some ((x7_1.set (t238 : Int).toNat (⟨(ze x7_1 t238).f0, (ze x7_1 t238).f1, (ze x7_1 t238).f2, rd y259 t262⟩ : S34)), t263)) else (none)) else (none)) else (none)) else (none)) = some (r1, r2) := H
             have A103 := za.mk A1030
             clear A1030
             by_cases c104 : 0 ≤ t262
             ·rw [if_pos c104] at H
              have c104b0 : decide (0 ≤ t262) = true := decide_eq_true c104
              clear c104
              by_cases c105 : t262 < (y259.length : Int)
              ·rw [if_pos c105] at H
               have c105b0 : decide (t262 < (y259.length : Int)) = true := decide_eq_true c105
               clear c105
               by_cases c106 : 0 ≤ t238
               ·rw [if_pos c106] at H
                have c106b0 : decide (0 ≤ t238) = true := decide_eq_true c106
                clear c106
                by_cases c107 : t238 < (x7_1.length : Int)
                ·rw [if_pos c107] at H
                 have c107b0 : decide (t238 < (x7_1.length : Int)) = true := decide_eq_true c107
                 clear c107
                 obtain ⟨y265, hy265⟩ : ∃ y_ : List (S34), y_ = (x7_1.set (t238 : Int).toNat (⟨(ze x7_1 t238).f0, (ze x7_1 t238).f1, (ze x7_1 t238).f2, rd y259 t262⟩ : S34)) := ⟨_, rfl⟩
                 replace H : (some (y265, t263)) = some (r1, r2) := by first | (rw [hy265]; with_reducible exact H) | (have H2_ := (Option.bind_some _ _).symm.trans H; rw [hy265]; with_reducible exact H2_) | (have H2_ := (Option.bind_some _ _).symm.trans H; with_reducible exact H2_) | with_reducible exact H | (rw [hy265]; exact H) | exact H
                 have Ny265 := za.mk hy265
                 clear hy265
                 simp only [Option.some.injEq, Prod.mk.injEq] at H
                 obtain ⟨rfl, rfl⟩ := H
                 obtain ⟨Ao109, co109, eo109⟩ := Kd.zbs HO_7.out
                 subst eo109
                 go_wp2_with (first | ((with_reducible refine zba (f := 68) rfl ?_); refine zbv (some 100) rfl rfl Try.func68 (by kernel_rfl) rfl #[.pointer (some ⟨g, 0, none⟩), .int .i64 (x7_1.length : Int)] rfl Zmt ?_; (with_reducible refine (zb.calls kj49 g s0_0 x1001_49 (x7_1.length : Int) t238 t239 w0 _ ?side1 ?side2 A57.out).mono ?_); (case side1 => exact Zq8 HI0.out); (case side2 => exact Zq5 HB.out (zf.ge HI0.out)); rintro e w110 ⟨rfl, hi, hb, hk⟩; refine ⟨_, rfl, ?_⟩; have n0_ := za.mk (Kd.zy (Kd.zbo (zf.apart (show zf w0 _ g s0_0 x1001_49 from Zq8 HI0.out) (Zq12 HO_7.out) (by decide)) hk (fun _ h => h.2)) (fun _ h => h.1)); have n1_ := za.mk (zi.trans (Zq9 HK.out) hk (.inl rfl)); have n2_ := za.mk (hb); have n3_ := za.mk (hi); clear HO_7; clear HK; clear HB; clear HI0; have HO_7 := n0_; have HK := n1_; have HB := n2_; have HI0 := n3_; clear n0_ n1_ n2_ n3_; (try clear hb); (try clear hb2); (try clear hk); (try clear hi)) | ((with_reducible refine zba (f := 68) rfl ?_); refine zbv (some 102) rfl rfl Try.func68 (by kernel_rfl) rfl #[.pointer (some ⟨g, 0, none⟩), .int .i64 6] rfl Zmt ?_; (with_reducible refine (zb.calls kj49 g s0_0 t239 6 t240 t241 w0 _ ?side1 ?side2 A58.out).mono ?_); (case side1 => exact Zq8 HI0.out); (case side2 => exact Zq5 HB.out (zf.ge HI0.out)); rintro e w111 ⟨rfl, hi, hb, hk⟩; refine ⟨_, rfl, ?_⟩; have n0_ := za.mk (Kd.zy (Kd.zbo (zf.apart (show zf w0 _ g s0_0 t239 from Zq8 HI0.out) (Zq12 HO_7.out) (by decide)) hk (fun _ h => h.2)) (fun _ h => h.1)); have n1_ := za.mk (zi.trans (Zq9 HK.out) hk (.inl rfl)); have n2_ := za.mk (hb); have n3_ := za.mk (hi); clear HO_7; clear HK; clear HB; clear HI0; have HO_7 := n0_; have HK := n1_; have HB := n2_; have HI0 := n3_; clear n0_ n1_ n2_ n3_; (try clear hb); (try clear hb2); (try clear hk); (try clear hi)) | ((with_reducible refine zbp (N := 156) rfl ?_); (try (refine zcg (by rfl) ?_; dsimp only)); refine Kd.R_lit (Kd.int .i64) _ 3 ?hg (N := 156) ?hd (xs := ([0, 9] : List Int)) (inner := [.int .i64 0, .int .i64 9]) (ok := fun _ => True) (okp := fun _ => True) ?hr ?hp (fun _ hk => hk) trivial (Below.refl _ _) (Nat.le_refl _) (by simp) ?_; (case hd => rfl); (case hg => rfl); (case hr => first | (go_simp; done) | (go_simp; rfl)); (case hp => exact (Reps.one (show Kd.M (Kd.int .i64) _ _ _ 0 [.int .i64 0] from rfl) (Reps.one (show Kd.M (Kd.int .i64) _ _ _ 9 [.int .i64 9] from rfl) (Reps.none _ _)))); intro v260 w112 ho113 hb hg_ hnew_; clear hg_ hnew_; (first | rw [← Ny259.out] at ho113 | (simp only [Int.reduceToNat] at ho113; rw [← Ny259.out] at ho113)); have n0_ := za.mk (Kd.zbl (Zq12 HO_7.out) hb); have n1_ := za.mk (Kd.zb2 ho113 (zb4 (w := w) (g := g) (row := none) (Zq9 HK.out))); have n2_ := za.mk (zf.below (Zq8 HI0.out) hb); have n3_ := za.mk (zi.trans (Zq9 HK.out) (zi.of_below hb g none) (.inl rfl)); have n4_ := za.mk (zo (Zq5 HB.out (zf.ge HI0.out)) hb); clear HO_7; clear HI0; clear HK; clear HB; have HO_7 := n0_; have HO261 := n1_; have HI0 := n2_; have HK := n3_; have HB := n4_; clear n0_ n1_ n2_ n3_ n4_; clear hb ho113) | ((with_reducible refine zba (f := 68) rfl ?_); refine zbv (some 158) rfl rfl Try.func68 (by kernel_rfl) rfl #[.pointer (some ⟨g, 0, none⟩), .int .i64 2] rfl Zmt ?_; (with_reducible refine (zb.calls kj49 g s0_0 t241 2 t262 t263 w0 _ ?side1 ?side2 A103.out).mono ?_); (case side1 => exact Zq8 HI0.out); (case side2 => exact Zq5 HB.out (zf.ge HI0.out)); rintro e w114 ⟨rfl, hi, hb, hk⟩; refine ⟨_, rfl, ?_⟩; have n0_ := za.mk (Kd.zy (Kd.zbo (zf.apart (show zf w0 _ g s0_0 t241 from Zq8 HI0.out) (Zq12 HO_7.out) (by decide)) hk (fun _ h => h.2)) (fun _ h => h.1)); have n1_ := za.mk (Kd.zy (Kd.zbo (zf.apart (show zf w0 _ g s0_0 t241 from Zq8 HI0.out) (Zq12 HO261.out) (by decide)) hk (fun _ h => h.2)) (fun _ h => h.1)); have n2_ := za.mk (zi.trans (Zq9 HK.out) hk (.inl rfl)); have n3_ := za.mk (hb); have n4_ := za.mk (hi); clear HO_7; clear HO261; clear HK; clear HB; clear HI0; have HO_7 := n0_; have HO261 := n1_; have HK := n2_; have HB := n3_; have HI0 := n4_; clear n0_ n1_ n2_ n3_ n4_; (try clear hb); (try clear hb2); (try clear hk); (try clear hi); obtain ⟨Ao115, co115, eo115⟩ := Kd.zbs HO261.out; subst eo115; have p264 : 0 ≤ (t262 : Int) := of_decide_eq_true Zas; have q264 : t262 < (y259.length : Int) := of_decide_eq_true Zas; obtain ⟨ad264, e264, hx264_0⟩ := Kd.zcn (Kd.zbe HO261.out).2.2 t262 p264 q264; cases e264; replace p264 := eq_true p264; replace q264 := eq_true q264; have p108 : 0 ≤ (t238 : Int) := of_decide_eq_true Zas; have q108 : (t238 : Int) < ((x7_1.length : Int) : Int) := of_decide_eq_true Zas; obtain ⟨go108, co108, eo108, gb108, gl108, cl108, HG108⟩ := Kd.zdo HO_7.out (by omega); (first | cases eo108 | (injection eo108 with ea_ en_ ec_; (first | subst ea_ | (injection ea_ with ea_; subst ea_)); subst ec_; clear en_)); have GB108 := za.mk gb108; have GG108 := za.mk HG108; clear gb108 gl108 HG108; obtain ⟨ce108, hcl108, hM108, hcc108, hfr108⟩ := Kd.R_elem HO_7.out z34 (t238 : Int) p108 q108; obtain rfl := k34_openM hM108; have hx108_0 : w114.cell? ⟨go108, (t238 : Int).toNat * 4, none⟩ = some (.int .i64 ((ze x7_1 t238).f0)) := hcc108 0 _ rfl; have hx108_1 : w114.cell? ⟨go108, (t238 : Int).toNat * 4 + 1, none⟩ = some (.int .i64 ((ze x7_1 t238).f1)) := hcc108 1 _ rfl; have hx108_2 : w114.cell? ⟨go108, (t238 : Int).toNat * 4 + 2, none⟩ = some (.int .i64 ((ze x7_1 t238).f2)) := hcc108 2 _ rfl; have hx108_3 : w114.cell? ⟨go108, (t238 : Int).toNat * 4 + 3, none⟩ = some (.int .i64 ((ze x7_1 t238).f3)) := hcc108 3 _ rfl; have hf108_0 : w114.frozen? ⟨go108, (t238 : Int).toNat * 4, none⟩ = false := hfr108 0; have hf108_1 : w114.frozen? ⟨go108, (t238 : Int).toNat * 4 + 1, none⟩ = false := hfr108 1; have hf108_2 : w114.frozen? ⟨go108, (t238 : Int).toNat * 4 + 2, none⟩ = false := hfr108 2; have hf108_3 : w114.frozen? ⟨go108, (t238 : Int).toNat * 4 + 3, none⟩ = false := hfr108 3; (try clear hcl108); (try clear hcc108); (try clear hfr108); (try clear hM108); replace p108 := eq_true p108; replace q108 := eq_true q108; have HX116 := za.mk (show Kd.R k34 34 w114 w.heap.size (fun _ => True) (.slice (some ⟨go108, 0, none⟩) x7_1.length co109) x7_1 from (Zq12 HO_7.out)); obtain ⟨ce116, hcl116, hM116, hcc116, hfr116⟩ := Kd.R_elem HX116.out z34 (t238 : Int) (of_decide_eq_true Zas) (by have h_ : (t238 : Int) < ((x7_1.length : Int) : Int) := of_decide_eq_true Zas; first | exact h_ | (have e_ := (Kd.zbe HO_7.out).1; omega) | simpa using h_); obtain rfl := k34_openM hM116; have HP116 := Kd.R_seg HX116.out (t238 : Int) (of_decide_eq_true Zas) (by have h_ : (t238 : Int) < ((x7_1.length : Int) : Int) := of_decide_eq_true Zas; first | exact h_ | (have e_ := (Kd.zbe HO_7.out).1; omega) | simpa using h_) (seg := [.int .i64 (rd y259 t262)]) (j := 3) hcl116 hcc116 (show 4 ≤ 4 from by decide) (x' := (⟨(ze x7_1 t238).f0, (ze x7_1 t238).f1, (ze x7_1 t238).f2, rd y259 t262⟩ : S34)) (k34_mkM _ _ _ (⟨(ze x7_1 t238).f0, (ze x7_1 t238).f1, (ze x7_1 t238).f2, rd y259 t262⟩ : S34) ) (fun _ hk => hk); have hx116_3 := hcc116 3 _ rfl; (try simp only [show (k34).sz = 4 from rfl, Nat.mul_one, Nat.add_zero] at hx116_3); have hf116_3 := hfr116 3; (try simp only [show (k34).sz = 4 from rfl, Nat.mul_one, Nat.add_zero] at hf116_3); (try clear hcl116); (try clear hcc116); (try clear hfr116); (try clear hM116)) | ((with_reducible refine zcf (t := 3) (p := 162) rfl ?_); refine zcc (t := 3) (p := 162) (v := ?vo_w117) (w1 := (w114.setCell ⟨go108, (t238 : Int).toNat * 4 + 3, none⟩ (.int .i64 (rd y259 t262)))) ?hg ?ho ?hn ?hr ?_; (case ho => rfl); (case hg => rfl); (case hn => rfl); (case hr => first | (go_simp; done) | (go_simp; rfl)); intro w117 hw; have hg : w114.grownBy w117 (some go108) := (by rw [hw]; exact HP116.2); have hp_ : Kd.R k34 34 w117 w.heap.size (fun _ => True) (.slice (some ⟨go108, 0, none⟩) x7_1.length co109) y265 := (by rw [hw, Ny265.out]; exact HP116.1); clear HP116; have n0_ := za.mk (hp_); have n1_ := za.mk (zf.grown (Zq8 HI0.out) hg (zf.own_ne HI0.out HO_7.out (by decide))); have n2_ := za.mk (Kd.zdx (v := (.slice (some ⟨go108, 0, none⟩) x7_1.length co109)) (Zq12 HO261.out) (Kd.zdw HO_7.out) (by decide) hg); have n3_ := za.mk ((by rw [hw]; exact zb3 (HB.out) (Nat.le_trans HL.out GB108.out) : Below w0.heap.size w0 w117)); have n4_ := za.mk (zi.trans (Zq9 HK.out) (zi.zcy hg g) (Kd.zdi HO_7.out)); clear HO_7; clear HI0; clear HO261; clear HB; clear HK; have HO_7 := n0_; have HI0 := n1_; have HO261 := n2_; have HB := n3_; have HK := n4_; clear n0_ n1_ n2_ n3_ n4_; clear hg hw hp_))
                 go_ret
                 exact ⟨_, by first | rfl | (simp [zbc, zbd] <;> rfl) | (simp [*, zbc, zbd] <;> rfl), Zq12 HO_7.out, Zq8 HI0.out, Zq5 HB.out (zf.ge HI0.out), Zq9 HK.out⟩
                ·rw [if_neg c107] at H
                 exact absurd H (by simp)
               ·rw [if_neg c106] at H
                exact absurd H (by simp)
              ·rw [if_neg c105] at H
               exact absurd H (by simp)
             ·rw [if_neg c104] at H
              exact absurd H (by simp)
            ·rw [if_neg c102] at H
             have c102b0 : (t240 == 3) = false := beq_eq_false_iff_ne.mpr c102
             have c102b1 : (t240 != 3) = true := bne_iff_ne.mpr c102
             by_cases c118 : t240 = 4
             ·rw [if_pos c118] at H
              have c118b0 : (t240 == 4) = true := beq_iff_eq.mpr c118
              have c118b1 : (t240 != 4) = false := bne_eq_false_iff_eq.mpr c118
              clear c118
              by_cases c119 : 0 ≤ t238
              ·rw [if_pos c119] at H
               have c119b0 : decide (0 ≤ t238) = true := decide_eq_true c119
               clear c119
               by_cases c120 : t238 < (x7_1.length : Int)
               ·rw [if_pos c120] at H
                have c120b0 : decide (t238 < (x7_1.length : Int)) = true := decide_eq_true c120
                clear c120
                by_cases c121 : x7_1.length < 4398046511104
                ·rw [if_pos c121] at H
                 have LMc121 := za.mk c121
                 clear c121
                 obtain ⟨y267, hy267⟩ : ∃ y_ : List (S34), y_ = (x7_1 ++ [(⟨(ze x7_1 t238).f0, (ze x7_1 t238).f1, (ze x7_1 t238).f2, (ze x7_1 t238).f3⟩ : S34)]) := ⟨_, rfl⟩
                 replace H : (some (y267, t241)) = some (r1, r2) := by first | (rw [hy267]; with_reducible exact H) | (have H2_ := (Option.bind_some _ _).symm.trans H; rw [hy267]; with_reducible exact H2_) | (have H2_ := (Option.bind_some _ _).symm.trans H; with_reducible exact H2_) | with_reducible exact H | (rw [hy267]; exact H) | exact H
                 have Ny267 := za.mk hy267
                 clear hy267
                 simp only [Option.some.injEq, Prod.mk.injEq] at H
                 obtain ⟨rfl, rfl⟩ := H
                 obtain ⟨Ao122, co122, eo122⟩ := Kd.zbs HO_7.out
                 subst eo122
                 go_wp2_with (first | ((with_reducible refine zba (f := 68) rfl ?_); refine zbv (some 100) rfl rfl Try.func68 (by kernel_rfl) rfl #[.pointer (some ⟨g, 0, none⟩), .int .i64 (x7_1.length : Int)] rfl Zmt ?_; (with_reducible refine (zb.calls kj49 g s0_0 x1001_49 (x7_1.length : Int) t238 t239 w0 _ ?side1 ?side2 A57.out).mono ?_); (case side1 => exact Zq8 HI0.out); (case side2 => exact Zq5 HB.out (zf.ge HI0.out)); rintro e w123 ⟨rfl, hi, hb, hk⟩; refine ⟨_, rfl, ?_⟩; have n0_ := za.mk (Kd.zy (Kd.zbo (zf.apart (show zf w0 _ g s0_0 x1001_49 from Zq8 HI0.out) (Zq12 HO_7.out) (by decide)) hk (fun _ h => h.2)) (fun _ h => h.1)); have n1_ := za.mk (zi.trans (Zq9 HK.out) hk (.inl rfl)); have n2_ := za.mk (hb); have n3_ := za.mk (hi); clear HO_7; clear HK; clear HB; clear HI0; have HO_7 := n0_; have HK := n1_; have HB := n2_; have HI0 := n3_; clear n0_ n1_ n2_ n3_; (try clear hb); (try clear hb2); (try clear hk); (try clear hi)) | ((with_reducible refine zba (f := 68) rfl ?_); refine zbv (some 102) rfl rfl Try.func68 (by kernel_rfl) rfl #[.pointer (some ⟨g, 0, none⟩), .int .i64 6] rfl Zmt ?_; (with_reducible refine (zb.calls kj49 g s0_0 t239 6 t240 t241 w0 _ ?side1 ?side2 A58.out).mono ?_); (case side1 => exact Zq8 HI0.out); (case side2 => exact Zq5 HB.out (zf.ge HI0.out)); rintro e w124 ⟨rfl, hi, hb, hk⟩; refine ⟨_, rfl, ?_⟩; have n0_ := za.mk (Kd.zy (Kd.zbo (zf.apart (show zf w0 _ g s0_0 t239 from Zq8 HI0.out) (Zq12 HO_7.out) (by decide)) hk (fun _ h => h.2)) (fun _ h => h.1)); have n1_ := za.mk (zi.trans (Zq9 HK.out) hk (.inl rfl)); have n2_ := za.mk (hb); have n3_ := za.mk (hi); clear HO_7; clear HK; clear HB; clear HI0; have HO_7 := n0_; have HK := n1_; have HB := n2_; have HI0 := n3_; clear n0_ n1_ n2_ n3_; (try clear hb); (try clear hb2); (try clear hk); (try clear hi); have p266 : 0 ≤ (t238 : Int) := of_decide_eq_true Zas; have q266 : t238 < (x7_1.length : Int) := of_decide_eq_true Zas; obtain ⟨ad266, e266, hx266_0, hx266_1, hx266_2, hx266_3⟩ := zc9 (Kd.zbe HO_7.out).2.2 t238 p266 q266; cases e266; replace p266 := eq_true p266; replace q266 := eq_true q266) | ((with_reducible refine zcq (b := .append) (xs := #[.tmp 165, .tmp 170]) rfl ?_); (try (refine zcg (by rfl) ?_; dsimp only)); at_builtin; refine Kd.zdg k34 w.heap.size rfl (.tmp 165) (.tmp 170) 24 34 (.agg #[(.int .i64 0), (.int .i64 0), (.int .i64 0), (.int .i64 0)]) 32 rfl Try.underlying24 info34 rfl (by decide) (by omega) (.slice (some ad266) x7_1.length co122) x7_1 (⟨(ze x7_1 t238).f0, (ze x7_1 t238).f1, (ze x7_1 t238).f2, (ze x7_1 t238).f3⟩ : S34) [.int .i64 ((ze x7_1 t238).f0), .int .i64 ((ze x7_1 t238).f1), .int .i64 ((ze x7_1 t238).f2), .int .i64 ((ze x7_1 t238).f3)] (fun _ => True) (fun _ => False) rfl rfl ?aP (fun _ hk => hk.elim) ?aF ?aO (Below.refl _ _) ?aS ?aL ?_; (case aP => exact k34_mkM _ _ _ (⟨(ze x7_1 t238).f0, (ze x7_1 t238).f1, (ze x7_1 t238).f2, (ze x7_1 t238).f3⟩ : S34)); (case aF => exact (fun _ _ => trivial)); (case aO => exact (Zq12 HO_7.out)); (case aS => exact (zb4 (w := w) (g := g) (row := none) (Zq9 HK.out))); (case aL => have := LMc121.out; omega); intro v268 w125 ho hb hg hat; rw [← Ny267.out] at ho; have n0_ := za.mk (zf.grown (Zq8 HI0.out) hg (zf.own_ne HI0.out HO_7.out (by decide))); have n1_ := za.mk (zdb (Zq5 HB.out (zf.ge HI0.out)) HL.out hb); have n2_ := za.mk (zi.trans (Zq9 HK.out) (zi.zcy hg g) (Kd.zdi HO_7.out)); have n3_ := za.mk (ho); clear HI0; clear HB; clear HK; clear HO_7; have HI0 := n0_; have HB := n1_; have HK := n2_; have HO269 := n3_; clear n0_ n1_ n2_ n3_; clear ho hb hg hat))
                 go_ret
                 exact ⟨_, by first | rfl | (simp [zbc, zbd] <;> rfl) | (simp [*, zbc, zbd] <;> rfl), Zq12 HO269.out, Zq8 HI0.out, Zq5 HB.out (zf.ge HI0.out), Zq9 HK.out⟩
                ·rw [if_neg c121] at H
                 exact absurd H (by simp)
               ·rw [if_neg c120] at H
                exact absurd H (by simp)
              ·rw [if_neg c119] at H
               exact absurd H (by simp)
             ·rw [if_neg c118] at H
              have c118b0 : (t240 == 4) = false := beq_eq_false_iff_ne.mpr c118
              have c118b1 : (t240 != 4) = true := bne_iff_ne.mpr c118
              have H' := za.mk H
              clear H
              obtain ⟨Ao126, co126, eo126⟩ := Kd.zbs HO_7.out
              subst eo126
              go_wp2_with (first | ((with_reducible refine zba (f := 68) rfl ?_); refine zbv (some 100) rfl rfl Try.func68 (by kernel_rfl) rfl #[.pointer (some ⟨g, 0, none⟩), .int .i64 (x7_1.length : Int)] rfl Zmt ?_; (with_reducible refine (zb.calls kj49 g s0_0 x1001_49 (x7_1.length : Int) t238 t239 w0 _ ?side1 ?side2 A57.out).mono ?_); (case side1 => exact Zq8 HI0.out); (case side2 => exact Zq5 HB.out (zf.ge HI0.out)); rintro e w127 ⟨rfl, hi, hb, hk⟩; refine ⟨_, rfl, ?_⟩; have n0_ := za.mk (Kd.zy (Kd.zbo (zf.apart (show zf w0 _ g s0_0 x1001_49 from Zq8 HI0.out) (Zq12 HO_7.out) (by decide)) hk (fun _ h => h.2)) (fun _ h => h.1)); have n1_ := za.mk (zi.trans (Zq9 HK.out) hk (.inl rfl)); have n2_ := za.mk (hb); have n3_ := za.mk (hi); clear HO_7; clear HK; clear HB; clear HI0; have HO_7 := n0_; have HK := n1_; have HB := n2_; have HI0 := n3_; clear n0_ n1_ n2_ n3_; (try clear hb); (try clear hb2); (try clear hk); (try clear hi)) | ((with_reducible refine zba (f := 68) rfl ?_); refine zbv (some 102) rfl rfl Try.func68 (by kernel_rfl) rfl #[.pointer (some ⟨g, 0, none⟩), .int .i64 6] rfl Zmt ?_; (with_reducible refine (zb.calls kj49 g s0_0 t239 6 t240 t241 w0 _ ?side1 ?side2 A58.out).mono ?_); (case side1 => exact Zq8 HI0.out); (case side2 => exact Zq5 HB.out (zf.ge HI0.out)); rintro e w128 ⟨rfl, hi, hb, hk⟩; refine ⟨_, rfl, ?_⟩; have n0_ := za.mk (Kd.zy (Kd.zbo (zf.apart (show zf w0 _ g s0_0 t239 from Zq8 HI0.out) (Zq12 HO_7.out) (by decide)) hk (fun _ h => h.2)) (fun _ h => h.1)); have n1_ := za.mk (zi.trans (Zq9 HK.out) hk (.inl rfl)); have n2_ := za.mk (hb); have n3_ := za.mk (hi); clear HO_7; clear HK; clear HB; clear HI0; have HO_7 := n0_; have HK := n1_; have HB := n2_; have HI0 := n3_; clear n0_ n1_ n2_ n3_; (try clear hb); (try clear hb2); (try clear hk); (try clear hi)))
              go_loopg [7] kj49 (fun kq v7 w' => ∃ (x7_3 : List (S34)), za (zz.l2 kq x7_3 s0_0 t241 = some (r1, r2)) ∧ za (kq ≤ kj49) ∧ za (Kd.R k34 34 w' w.heap.size (fun _ => True) v7 x7_3) ∧ za (zf w0 w' g s0_0 t241) ∧ za (zi w w' g none) ∧ za (Below w0.heap.size w0 w'))
              case atStart => exact ⟨(x7_1), H', ⟨Nat.le_refl _⟩, ⟨Zq12 HO_7.out⟩, ⟨Zq8 HI0.out⟩, ⟨Zq9 HK.out⟩, ⟨Zq5 HB.out (zf.ge HI0.out)⟩⟩
              case round =>
               clear H'
               try clear c1
               try clear p1
               try clear q1
               try clear hx1
               try clear p2
               try clear q2
               try clear hx2
               try clear qi2
               try clear c5
               try clear c6
               try clear p6
               try clear q6
               try clear hx6
               try clear hf6
               try clear c7
               try clear hx7
               try clear hf7
               try clear c8
               try clear p8
               try clear q8
               try clear hx8
               try clear hf8
               try clear c9
               try clear p9
               try clear q9
               try clear hx9
               try clear hf9
               try clear c10
               try clear p10
               try clear q10
               try clear hx10
               try clear hf10
               try clear c11
               try clear hx11
               try clear hf11
               try clear c12
               try clear p24
               try clear q24
               try clear hx24
               try clear p25
               try clear q25
               try clear hx25
               try clear qi25
               try clear p26
               try clear q26
               try clear hx26
               try clear c59
               try clear c59b0
               try clear c59b1
               try clear c61
               try clear c61b0
               try clear c62
               try clear c62b0
               try clear c63
               try clear c63b0
               try clear c64
               try clear c64b0
               try clear p64
               try clear c65
               try clear p65
               try clear q65
               try clear hx65
               try clear hf65
               try clear c68
               try clear c73
               try clear hx73
               try clear hf73
               try clear c75
               try clear c75b0
               try clear c75b1
               try clear c76
               try clear c76b0
               try clear c77
               try clear c77b0
               try clear c79
               try clear c79b0
               try clear c80
               try clear c80b0
               try clear c81
               try clear p81
               try clear q81
               try clear hx81
               try clear hf81
               try clear c92
               try clear c93
               try clear c93b0
               try clear c93b1
               try clear c94
               try clear c94b0
               try clear c95
               try clear c95b0
               try clear c96
               try clear p96
               try clear q96
               try clear hx96
               try clear hf96
               try clear c100
               try clear hx100
               try clear hf100
               try clear c102
               try clear c102b0
               try clear c102b1
               try clear c104
               try clear c104b0
               try clear c105
               try clear c105b0
               try clear c106
               try clear c106b0
               try clear c107
               try clear c107b0
               try clear c108
               try clear p108
               try clear q108
               try clear hx108
               try clear hf108
               try clear c116
               try clear hx116
               try clear hf116
               try clear c118
               try clear c118b0
               try clear c118b1
               try clear c119
               try clear c119b0
               try clear c120
               try clear c120b0
               try clear c121
               try clear hx100_2
               try clear hx108_0
               try clear hx108_1
               try clear hx108_2
               try clear hx108_3
               try clear hx116_3
               try clear hx247_0
               try clear hx249_0
               try clear hx249_1
               try clear hx249_2
               try clear hx249_3
               try clear hx255_0
               try clear hx257_0
               try clear hx257_1
               try clear hx257_2
               try clear hx257_3
               try clear hx264_0
               try clear hx266_0
               try clear hx266_1
               try clear hx266_2
               try clear hx266_3
               try clear hx65_0
               try clear hx65_1
               try clear hx65_2
               try clear hx65_3
               try clear hx73_0
               try clear hx81_0
               try clear hx81_1
               try clear hx81_2
               try clear hx81_3
               try clear hx96_0
               try clear hx96_1
               try clear hx96_2
               try clear hx96_3
               try clear p108
               try clear p247
               try clear p249
               try clear p255
               try clear p257
               try clear p264
               try clear p266
               try clear p65
               try clear p81
               try clear p96
               try clear q108
               try clear q247
               try clear q249
               try clear q255
               try clear q257
               try clear q264
               try clear q266
               try clear q65
               try clear q81
               try clear q96
               obtain ⟨x7_3, HA, HK3, HO_7, HI0, HK, HB⟩ := hrel
               cases gk with
               | zero => exact absurd HA.out (by simp [zz.l2])
               | succ k3 =>
                have H := HA.out
                clear HA
                simp only [zz.l2] at H
                by_cases c129 : (x7_3.length : Int) ≤ 60
                ·rw [if_pos c129] at H
                 have c129b0 : decide ((x7_3.length : Int) ≤ 60) = true := decide_eq_true c129
                 have c129b1 : decide (x7_3.length ≤ 60) = true := decide_eq_true (by omega)
                 clear c129
                 by_cases c130 : x7_3.length < 4398046511104
                 ·rw [if_pos c130] at H
                  have LMc130 := za.mk c130
                  clear c130
                  obtain ⟨y270, hy270⟩ : ∃ y_ : List (S34), y_ = (x7_3 ++ [(⟨0, 119, 120, 1⟩ : S34)]) := ⟨_, rfl⟩
                  replace H : (zz.l2 k3 y270 s0_0 t241) = some (r1, r2) := by first | (rw [hy270]; with_reducible exact H) | (have H2_ := (Option.bind_some _ _).symm.trans H; rw [hy270]; with_reducible exact H2_) | (have H2_ := (Option.bind_some _ _).symm.trans H; with_reducible exact H2_) | with_reducible exact H | (rw [hy270]; exact H) | exact H
                  have Ny270 := za.mk hy270
                  clear hy270
                  have H' := za.mk H
                  clear H
                  obtain ⟨Ao131, co131, eo131⟩ := Kd.zbs HO_7.out
                  subst eo131
                  go_wp2_with (first | ((with_reducible refine zcq (b := .append) (xs := #[.tmp 106, .tmp 108]) rfl ?_); (try (refine zcg (by rfl) ?_; dsimp only)); at_builtin; refine Kd.zdg k34 w.heap.size rfl (.tmp 106) (.tmp 108) 24 34 (.agg #[(.int .i64 0), (.int .i64 0), (.int .i64 0), (.int .i64 0)]) 32 rfl Try.underlying24 info34 rfl (by decide) (by omega) (.slice Ao131 x7_3.length co131) x7_3 (⟨0, 119, 120, 1⟩ : S34) [.int .i64 0, .int .i64 119, .int .i64 120, .int .i64 1] (fun _ => True) (fun _ => False) rfl rfl ?aP (fun _ hk => hk.elim) ?aF ?aO (Below.refl _ _) ?aS ?aL ?_; (case aP => exact k34_mkM _ _ _ (⟨0, 119, 120, 1⟩ : S34)); (case aF => exact (fun _ _ => trivial)); (case aO => exact (Zq12 HO_7.out)); (case aS => exact (zb4 (w := w) (g := g) (row := none) (Zq9 HK.out))); (case aL => have := LMc130.out; omega); intro v271 w132 ho hb hg hat; rw [← Ny270.out] at ho; have n0_ := za.mk (zf.grown (Zq8 HI0.out) hg (zf.own_ne HI0.out HO_7.out (by decide))); have n1_ := za.mk (zdb (Zq5 HB.out (zf.ge HI0.out)) HL.out hb); have n2_ := za.mk (zi.trans (Zq9 HK.out) (zi.zcy hg g) (Kd.zdi HO_7.out)); have n3_ := za.mk (ho); clear HI0; clear HB; clear HK; clear HO_7; have HI0 := n0_; have HB := n1_; have HK := n2_; have HO272 := n3_; clear n0_ n1_ n2_ n3_; clear ho hb hg hat))
                  go_roundg k3
                  case measure => have := HK1.out; have := HJ49.out; have := HK3.out; omega
                  case rel => exact ⟨(y270), H', ⟨by have := HK1.out; have := HJ49.out; have := HK3.out; omega⟩, ⟨Zq12 HO272.out⟩, ⟨Zq8 HI0.out⟩, ⟨Zq9 HK.out⟩, ⟨Zq5 HB.out (zf.ge HI0.out)⟩⟩
                 ·rw [if_neg c130] at H
                  exact absurd H (by simp)
                ·rw [if_neg c129] at H
                 have c129b0 : decide ((x7_3.length : Int) ≤ 60) = false := decide_eq_false c129
                 have c129b1 : decide (x7_3.length ≤ 60) = false := decide_eq_false (by omega)
                 clear c129
                 simp only [Option.some.injEq, Prod.mk.injEq] at H
                 obtain ⟨rfl, rfl⟩ := H
                 obtain ⟨Ao133, co133, eo133⟩ := Kd.zbs HO_7.out
                 subst eo133
                 go_wp2
                 go_ret
                 exact ⟨_, by first | rfl | (simp [zbc, zbd] <;> rfl) | (simp [*, zbc, zbd] <;> rfl), Zq12 HO_7.out, Zq8 HI0.out, Zq5 HB.out (zf.ge HI0.out), Zq9 HK.out⟩
        ·replace c56 := Bool.eq_false_iff.mpr c56
         subst c56
         have H1 : (some (x7_1, x1001_49)) = some (r1, r2) := by rw [if_neg (show ¬ (false = true) by decide)] at H; exact H
         clear H
         have H := H1
         clear H1
         simp only [Option.some.injEq, Prod.mk.injEq] at H
         obtain ⟨rfl, rfl⟩ := H
         go_wp2
         go_ret
         exact ⟨_, by first | rfl | (simp [zbc, zbd] <;> rfl) | (simp [*, zbc, zbd] <;> rfl), Zq12 HO_7.out, Zq8 HI0.out, Zq5 HB.out (zf.ge HI0.out), Zq9 HK.out⟩
  ·rw [if_neg c5] at H
   exact absurd H (by simp)
 ·rw [if_neg c4] at H
  exact absurd H (by simp)
def zde.f (k : Nat) (s0_0 : List Int) (s0_1 : Int) (a1 : Int) : Option (Int × Int × Int) := (zb.f k s0_0 s0_1 12).bind fun bt611 => ((some (([4, 6, 12, wrap64 (1 + bt611.1)] : List Int) : List Int)).bind fun y613 => ((zb.f k s0_0 bt611.2 4).bind fun bt616 => (if 0 ≤ bt616.1 then (if bt616.1 < (y613.length : Int) then ((zb.f k s0_0 bt616.2 (mx 1 (wrap64 ((wrap64 (Int.tdiv (rd y613 bt616.1) 2)) + 1)))).bind fun bt619 => ((zbk.f k s0_0 bt619.2 a1).bind fun bt622 => (if bt622.1 = true then ((some (([(⟨0, 4⟩ : S51), (⟨5, 4⟩ : S51), (⟨1, 13⟩ : S51)] : List (S51)) : List (S51))).bind fun y624 => ((zb.f k s0_0 bt622.2 3).bind fun bt627 => (if 0 ≤ bt627.1 then (if bt627.1 < (y624.length : Int) then (some ((zdc y624 bt627.1).f0, (zdc y624 bt627.1).f1, bt627.2)) else (none)) else (none)))) else (some (mx 1 (wrap64 ((rd y613 bt616.1) - bt619.1)), rd y613 bt616.1, bt622.2))))) else (none)) else (none))))
set_option maxHeartbeats 8000000 in
set_option maxRecDepth 100000 in
theorem zde.calls (k : Nat) (g : Nat) (s0_0 : List Int) (s0_1 : Int) (a1 : Int) (r1 : Int) (r2 : Int) (r3 : Int) (w0 w : World) (hI : zf w0 w g s0_0 s0_1) (hB : Below w0.heap.size w0 w) (h : zde.f k s0_0 s0_1 a1 = some (r1, r2, r3)) :
  Calls Try.prog 70 #[.pointer (some ⟨g, 0, none⟩), .int .i64 a1] w fun e w' => e = .returned (.agg #[.int .i64 r1, .int .i64 r2]) ∧ zf w0 w' g s0_0 r3 ∧ Below w0.heap.size w0 w' ∧ zi w w' g none := by
 have hu51 := Try.underlying51
 have HI0 := za.mk hI
 have HK := za.mk (zi.refl w g none)
 have HL := za.mk hB.size
 clear hI
 have HW0 := za.mk hB.size
 have HB := za.mk hB
 clear hB
 have H : ((zb.f k s0_0 s0_1 12).bind fun bt611 => ((some (([4, 6, 12, wrap64 (1 + bt611.1)] : List Int) : List Int)).bind fun y613 => ((zb.f k s0_0 bt611.2 4).bind fun bt616 => (if 0 ≤ bt616.1 then (if bt616.1 < (y613.length : Int) then ((zb.f k s0_0 bt616.2 (mx 1 (wrap64 ((wrap64 (Int.tdiv (rd y613 bt616.1) 2)) + 1)))).bind fun bt619 => ((zbk.f k s0_0 bt619.2 a1).bind fun bt622 => (if bt622.1 = true then ((some (([(⟨0, 4⟩ : S51), (⟨5, 4⟩ : S51), (⟨1, 13⟩ : S51)] : List (S51)) : List (S51))).bind fun y624 => ((zb.f k s0_0 bt622.2 3).bind fun bt627 => (if 0 ≤ bt627.1 then (if bt627.1 < (y624.length : Int) then (some ((zdc y624 bt627.1).f0, (zdc y624 bt627.1).f1, bt627.2)) else (none)) else (none)))) else (some (mx 1 (wrap64 ((rd y613 bt616.1) - bt619.1)), rd y613 bt616.1, bt622.2))))) else (none)) else (none))))) = some (r1, r2, r3) := h
 clear h
 replace H := Option.bind_eq_some_iff.mp H
 obtain ⟨⟨t611, t612⟩, A30, H⟩ := H
 replace H : ((some (([4, 6, 12, wrap64 (1 + t611)] : List Int) : List Int)).bind fun y613 => ((zb.f k s0_0 t612 4).bind fun bt616 => (if 0 ≤ bt616.1 then (if bt616.1 < (y613.length : Int) then ((zb.f k s0_0 bt616.2 (mx 1 (wrap64 ((wrap64 (Int.tdiv (rd y613 bt616.1) 2)) + 1)))).bind fun bt619 => ((zbk.f k s0_0 bt619.2 a1).bind fun bt622 => (if bt622.1 = true then ((some (([(⟨0, 4⟩ : S51), (⟨5, 4⟩ : S51), (⟨1, 13⟩ : S51)] : List (S51)) : List (S51))).bind fun y624 => ((zb.f k s0_0 bt622.2 3).bind fun bt627 => (if 0 ≤ bt627.1 then (if bt627.1 < (y624.length : Int) then (some ((zdc y624 bt627.1).f0, (zdc y624 bt627.1).f1, bt627.2)) else (none)) else (none)))) else (some (mx 1 (wrap64 ((rd y613 bt616.1) - bt619.1)), rd y613 bt616.1, bt622.2))))) else (none)) else (none)))) = some (r1, r2, r3) := H
 have A3 := za.mk A30
 clear A30
 obtain ⟨y613, hy613⟩ : ∃ y_ : List Int, y_ = (([4, 6, 12, wrap64 (1 + t611)] : List Int)) := ⟨_, rfl⟩
 replace H : ((zb.f k s0_0 t612 4).bind fun bt616 => (if 0 ≤ bt616.1 then (if bt616.1 < (y613.length : Int) then ((zb.f k s0_0 bt616.2 (mx 1 (wrap64 ((wrap64 (Int.tdiv (rd y613 bt616.1) 2)) + 1)))).bind fun bt619 => ((zbk.f k s0_0 bt619.2 a1).bind fun bt622 => (if bt622.1 = true then ((some (([(⟨0, 4⟩ : S51), (⟨5, 4⟩ : S51), (⟨1, 13⟩ : S51)] : List (S51)) : List (S51))).bind fun y624 => ((zb.f k s0_0 bt622.2 3).bind fun bt627 => (if 0 ≤ bt627.1 then (if bt627.1 < (y624.length : Int) then (some ((zdc y624 bt627.1).f0, (zdc y624 bt627.1).f1, bt627.2)) else (none)) else (none)))) else (some (mx 1 (wrap64 ((rd y613 bt616.1) - bt619.1)), rd y613 bt616.1, bt622.2))))) else (none)) else (none))) = some (r1, r2, r3) := by first | (rw [hy613]; with_reducible exact H) | (have H2_ := (Option.bind_some _ _).symm.trans H; rw [hy613]; with_reducible exact H2_) | (have H2_ := (Option.bind_some _ _).symm.trans H; with_reducible exact H2_) | with_reducible exact H | (rw [hy613]; exact H) | exact H
 have Ny613 := za.mk hy613
 clear hy613
 replace H := Option.bind_eq_some_iff.mp H
 obtain ⟨⟨t616, t617⟩, A40, H⟩ := H
 replace H : (if 0 ≤ t616 then (if t616 < (y613.length : Int) then ((zb.f k s0_0 t617 (mx 1 (wrap64 ((wrap64 (Int.tdiv (rd y613 t616) 2)) + 1)))).bind fun bt619 => ((zbk.f k s0_0 bt619.2 a1).bind fun bt622 => (if bt622.1 = true then ((some (([(⟨0, 4⟩ : S51), (⟨5, 4⟩ : S51), (⟨1, 13⟩ : S51)] : List (S51)) : List (S51))).bind fun y624 => ((zb.f k s0_0 bt622.2 3).bind fun bt627 => (if 0 ≤ bt627.1 then (if bt627.1 < (y624.length : Int) then (some ((zdc y624 bt627.1).f0, (zdc y624 bt627.1).f1, bt627.2)) else (none)) else (none)))) else (some (mx 1 (wrap64 ((rd y613 t616) - bt619.1)), rd y613 t616, bt622.2))))) else (none)) else (none)) = some (r1, r2, r3) := H
 have A4 := za.mk A40
 clear A40
 by_cases c5 : 0 ≤ t616
 ·rw [if_pos c5] at H
  have c5b0 : decide (0 ≤ t616) = true := decide_eq_true c5
  clear c5
  by_cases c6 : t616 < (y613.length : Int)
  ·rw [if_pos c6] at H
   have c6b0 : decide (t616 < (y613.length : Int)) = true := decide_eq_true c6
   clear c6
   obtain ⟨ji7, hji7⟩ : ∃ j_ : Int, (mx 1 (wrap64 ((wrap64 (Int.tdiv (rd y613 t616) 2)) + 1))) = j_ := ⟨_, rfl⟩
   replace H : ((zb.f k s0_0 t617 (ji7)).bind fun bt619 => ((zbk.f k s0_0 bt619.2 a1).bind fun bt622 => (if bt622.1 = true then ((some (([(⟨0, 4⟩ : S51), (⟨5, 4⟩ : S51), (⟨1, 13⟩ : S51)] : List (S51)) : List (S51))).bind fun y624 => ((zb.f k s0_0 bt622.2 3).bind fun bt627 => (if 0 ≤ bt627.1 then (if bt627.1 < (y624.length : Int) then (some ((zdc y624 bt627.1).f0, (zdc y624 bt627.1).f1, bt627.2)) else (none)) else (none)))) else (some (mx 1 (wrap64 ((rd y613 t616) - bt619.1)), rd y613 t616, bt622.2))))) = some (r1, r2, r3) := by first | (rw [hji7] at H; exact H) | (simp only [hji7] at H ⊢; exact H)
   (try rw [hji7] at A3)
   (try rw [hji7] at A4)
   (try (have hji7l : 1 ≤ ji7 := by (rw [← hji7]; unfold mx; (repeat' split) <;> omega)))
   (try (have hji7m : 0 ≤ ji7 := by omega))
   have hji7_ : (if 1 < (wrap64 ((wrap64 (Int.tdiv (rd y613 t616) 2)) + 1)) then (wrap64 ((wrap64 (Int.tdiv (rd y613 t616) 2)) + 1)) else 1) = ji7 := hji7
   replace H := Option.bind_eq_some_iff.mp H
   obtain ⟨⟨t619, t620⟩, A80, H⟩ := H
   replace H : ((zbk.f k s0_0 t620 a1).bind fun bt622 => (if bt622.1 = true then ((some (([(⟨0, 4⟩ : S51), (⟨5, 4⟩ : S51), (⟨1, 13⟩ : S51)] : List (S51)) : List (S51))).bind fun y624 => ((zb.f k s0_0 bt622.2 3).bind fun bt627 => (if 0 ≤ bt627.1 then (if bt627.1 < (y624.length : Int) then (some ((zdc y624 bt627.1).f0, (zdc y624 bt627.1).f1, bt627.2)) else (none)) else (none)))) else (some (mx 1 (wrap64 ((rd y613 t616) - t619)), rd y613 t616, bt622.2)))) = some (r1, r2, r3) := H
   have A8 := za.mk A80
   clear A80
   obtain ⟨ji9, hji9⟩ : ∃ j_ : Int, (mx 1 (wrap64 ((rd y613 t616) - t619))) = j_ := ⟨_, rfl⟩
   replace H : ((zbk.f k s0_0 t620 a1).bind fun bt622 => (if bt622.1 = true then ((some (([(⟨0, 4⟩ : S51), (⟨5, 4⟩ : S51), (⟨1, 13⟩ : S51)] : List (S51)) : List (S51))).bind fun y624 => ((zb.f k s0_0 bt622.2 3).bind fun bt627 => (if 0 ≤ bt627.1 then (if bt627.1 < (y624.length : Int) then (some ((zdc y624 bt627.1).f0, (zdc y624 bt627.1).f1, bt627.2)) else (none)) else (none)))) else (some (ji9, rd y613 t616, bt622.2)))) = some (r1, r2, r3) := by first | (rw [hji9] at H; exact H) | (simp only [hji9] at H ⊢; exact H)
   (try rw [hji9] at A3)
   (try rw [hji9] at A4)
   (try rw [hji9] at A8)
   (try (have hji9l : 1 ≤ ji9 := by (rw [← hji9]; unfold mx; (repeat' split) <;> omega)))
   (try (have hji9m : 0 ≤ ji9 := by omega))
   have hji9_ : (if 1 < (wrap64 ((rd y613 t616) - t619)) then (wrap64 ((rd y613 t616) - t619)) else 1) = ji9 := hji9
   replace H := Option.bind_eq_some_iff.mp H
   obtain ⟨⟨t622, t623⟩, A100, H⟩ := H
   replace H : (if t622 = true then ((some (([(⟨0, 4⟩ : S51), (⟨5, 4⟩ : S51), (⟨1, 13⟩ : S51)] : List (S51)) : List (S51))).bind fun y624 => ((zb.f k s0_0 t623 3).bind fun bt627 => (if 0 ≤ bt627.1 then (if bt627.1 < (y624.length : Int) then (some ((zdc y624 bt627.1).f0, (zdc y624 bt627.1).f1, bt627.2)) else (none)) else (none)))) else (some (ji9, rd y613 t616, t623))) = some (r1, r2, r3) := H
   have A10 := za.mk A100
   clear A100
   by_cases c11 : t622 = true
   ·subst c11
    have H1 : ((some (([(⟨0, 4⟩ : S51), (⟨5, 4⟩ : S51), (⟨1, 13⟩ : S51)] : List (S51)) : List (S51))).bind fun y624 => ((zb.f k s0_0 t623 3).bind fun bt627 => (if 0 ≤ bt627.1 then (if bt627.1 < (y624.length : Int) then (some ((zdc y624 bt627.1).f0, (zdc y624 bt627.1).f1, bt627.2)) else (none)) else (none)))) = some (r1, r2, r3) := by rw [if_pos rfl] at H; exact H
    clear H
    have H := H1
    clear H1
    obtain ⟨y624, hy624⟩ : ∃ y_ : List (S51), y_ = (([(⟨0, 4⟩ : S51), (⟨5, 4⟩ : S51), (⟨1, 13⟩ : S51)] : List (S51))) := ⟨_, rfl⟩
    replace H : ((zb.f k s0_0 t623 3).bind fun bt627 => (if 0 ≤ bt627.1 then (if bt627.1 < (y624.length : Int) then (some ((zdc y624 bt627.1).f0, (zdc y624 bt627.1).f1, bt627.2)) else (none)) else (none))) = some (r1, r2, r3) := by first | (rw [hy624]; with_reducible exact H) | (have H2_ := (Option.bind_some _ _).symm.trans H; rw [hy624]; with_reducible exact H2_) | (have H2_ := (Option.bind_some _ _).symm.trans H; with_reducible exact H2_) | with_reducible exact H | (rw [hy624]; exact H) | exact H
    have Ny624 := za.mk hy624
    clear hy624
    replace H := Option.bind_eq_some_iff.mp H
    obtain ⟨⟨t627, t628⟩, A120, H⟩ := H
    replace H : (if 0 ≤ t627 then (if t627 < (y624.length : Int) then (some ((zdc y624 t627).f0, (zdc y624 t627).f1, t628)) else (none)) else (none)) = some (r1, r2, r3) := H
    have A12 := za.mk A120
    clear A120
    by_cases c13 : 0 ≤ t627
    ·rw [if_pos c13] at H
     have c13b0 : decide (0 ≤ t627) = true := decide_eq_true c13
     clear c13
     by_cases c14 : t627 < (y624.length : Int)
     ·rw [if_pos c14] at H
      have c14b0 : decide (t627 < (y624.length : Int)) = true := decide_eq_true c14
      clear c14
      simp only [Option.some.injEq, Prod.mk.injEq] at H
      obtain ⟨rfl, rfl, rfl⟩ := H
      go_enter Try.func70, Try.ntmps70
      go_wp2_with (first | ((with_reducible refine zbp (N := 4) rfl ?_); refine zb1 ?hg (N := 4) ?hd (cs := #[.int .i64 0, .int .i64 0]) (t := 51) ?hr ?_; (case hd => rfl); (case hg => rfl); (case hr => first | (go_simp; done) | (go_simp; rfl)); intro gb610 hg w15 hbox hb; have n0_ := za.mk (zf.below (Zq8 HI0.out) hb); have n1_ := za.mk (zi.trans (Zq9 HK.out) (zi.of_below hb g none) (.inl rfl)); have n2_ := za.mk (zo (Zq5 HB.out (zf.ge HI0.out)) hb); have n3_ := za.mk (hbox); have n4_ := za.mk ((by rw [hg]; exact (zb4 (w := w) (g := g) (row := none) (Zq9 HK.out)) : w.heap.size ≤ gb610)); have n5_ := za.mk ((Nat.le_trans HW0.out (by rw [hg]; exact (zb4 (w := w) (g := g) (row := none) (Zq9 HK.out)) : w.heap.size ≤ gb610) : w0.heap.size ≤ gb610)); have n6_ := za.mk ((by rw [hg]; exact Nat.ne_of_lt (zf.lt (show zf w0 _ g s0_0 s0_1 from Zq8 HI0.out)) : g ≠ gb610)); have n7_ := za.mk ((by rw [hg]; exact Nat.ne_of_gt (zf.lt (show zf w0 _ g s0_0 s0_1 from Zq8 HI0.out)) : gb610 ≠ g)); clear HI0; clear HK; clear HB; have HI0 := n0_; have HK := n1_; have HB := n2_; have BK610 := n3_; have GW610 := n4_; have GE610 := n5_; have NB0_610 := n6_; have NB610_0 := n7_; clear n0_ n1_ n2_ n3_ n4_ n5_ n6_ n7_; clear hb hbox hg) | ((with_reducible refine zba (f := 68) rfl ?_); refine zbv (some 8) rfl rfl Try.func68 (by kernel_rfl) rfl #[.pointer (some ⟨g, 0, none⟩), .int .i64 12] rfl Zmt ?_; (with_reducible refine (zb.calls k g s0_0 s0_1 12 t611 t612 w0 _ ?side1 ?side2 A3.out).mono ?_); (case side1 => exact Zq10 HI0.out NB0_610.out); (case side2 => exact Zq7 HB.out (zf.ge HI0.out) GE610.out); rintro e w16 ⟨rfl, hi, hb, hk⟩; refine ⟨_, rfl, ?_⟩; have n0_ := za.mk (zi.blk hk (g' := gb610) (o := .cells #[.int .i64 0, .int .i64 0] 51 (0, 0)) (Zq4 BK610.out) NB610_0.out (by simp)); have n1_ := za.mk (zi.trans (Zq11 HK.out GW610.out) hk (.inl rfl)); have n2_ := za.mk (hb); have n3_ := za.mk (hi); clear BK610; clear HK; clear HB; clear HI0; have BK610 := n0_; have HK := n1_; have HB := n2_; have HI0 := n3_; clear n0_ n1_ n2_ n3_; (try clear hb); (try clear hb2); (try clear hk); (try clear hi)) | ((with_reducible refine zbp (N := 10) rfl ?_); refine Kd.R_lit (Kd.int .i64) _ 3 ?hg (N := 10) ?hd (xs := ([4, 6, 12, wrap64 (1 + t611)] : List Int)) (inner := [.int .i64 4, .int .i64 6, .int .i64 12, .int .i64 (wrap64 (1 + t611))]) (ok := fun _ => True) (okp := fun _ => True) ?hr ?hp (fun _ hk => hk) trivial (Below.refl _ _) (Nat.le_refl _) (by simp) ?_; (case hd => rfl); (case hg => rfl); (case hr => first | (go_simp; done) | (go_simp; rfl)); (case hp => exact (Reps.one (show Kd.M (Kd.int .i64) _ _ _ 4 [.int .i64 4] from rfl) (Reps.one (show Kd.M (Kd.int .i64) _ _ _ 6 [.int .i64 6] from rfl) (Reps.one (show Kd.M (Kd.int .i64) _ _ _ 12 [.int .i64 12] from rfl) (Reps.one (show Kd.M (Kd.int .i64) _ _ _ (wrap64 (1 + t611)) [.int .i64 (wrap64 (1 + t611))] from rfl) (Reps.none _ _)))))); intro v614 w17 ho18 hb hg_ hnew_; clear hg_ hnew_; (first | rw [← Ny613.out] at ho18 | (simp only [Int.reduceToNat] at ho18; rw [← Ny613.out] at ho18)); have n0_ := za.mk (Kd.zb2 ho18 (zb4 (w := w) (g := g) (row := none) (Zq11 HK.out GW610.out))); have n1_ := za.mk (zf.below (Zq10 HI0.out NB0_610.out) hb); have n2_ := za.mk (zbg (g := gb610) (o := .cells #[.int .i64 0, .int .i64 0] 51 (0, 0)) (Zq4 BK610.out) hb); have n3_ := za.mk (zi.trans (Zq11 HK.out GW610.out) (zi.of_below hb g none) (.inl rfl)); have n4_ := za.mk (zo (Zq7 HB.out (zf.ge HI0.out) GE610.out) hb); clear HI0; clear BK610; clear HK; clear HB; have HO615 := n0_; have HI0 := n1_; have BK610 := n2_; have HK := n3_; have HB := n4_; clear n0_ n1_ n2_ n3_ n4_; clear hb ho18) | ((with_reducible refine zba (f := 68) rfl ?_); refine zbv (some 12) rfl rfl Try.func68 (by kernel_rfl) rfl #[.pointer (some ⟨g, 0, none⟩), .int .i64 4] rfl Zmt ?_; (with_reducible refine (zb.calls k g s0_0 t612 4 t616 t617 w0 _ ?side1 ?side2 A4.out).mono ?_); (case side1 => exact Zq10 HI0.out NB0_610.out); (case side2 => exact Zq7 HB.out (zf.ge HI0.out) GE610.out); rintro e w19 ⟨rfl, hi, hb, hk⟩; refine ⟨_, rfl, ?_⟩; have n0_ := za.mk (zi.blk hk (g' := gb610) (o := .cells #[.int .i64 0, .int .i64 0] 51 (0, 0)) (Zq4 BK610.out) NB610_0.out (by simp)); have n1_ := za.mk (Kd.zy (Kd.zbo (zf.apart (show zf w0 _ g s0_0 t612 from Zq10 HI0.out NB0_610.out) (Zq12 HO615.out) (by decide)) hk (fun _ h => h.2)) (fun _ h => h.1)); have n2_ := za.mk (zi.trans (Zq11 HK.out GW610.out) hk (.inl rfl)); have n3_ := za.mk (hb); have n4_ := za.mk (hi); clear BK610; clear HO615; clear HK; clear HB; clear HI0; have BK610 := n0_; have HO615 := n1_; have HK := n2_; have HB := n3_; have HI0 := n4_; clear n0_ n1_ n2_ n3_ n4_; (try clear hb); (try clear hb2); (try clear hk); (try clear hi); obtain ⟨Ao20, co20, eo20⟩ := Kd.zbs HO615.out; subst eo20; have p618 : 0 ≤ (t616 : Int) := of_decide_eq_true Zas; have q618 : t616 < (y613.length : Int) := of_decide_eq_true Zas; obtain ⟨ad618, e618, hx618_0⟩ := Kd.zcn (Kd.zbe HO615.out).2.2 t616 p618 q618; cases e618; replace p618 := eq_true p618; replace q618 := eq_true q618) | ((with_reducible refine zba (f := 68) rfl ?_); refine zbv (some 21) rfl rfl Try.func68 (by kernel_rfl) rfl #[.pointer (some ⟨g, 0, none⟩), .int .i64 ji7] rfl (by (try simp only [List.map_toArray, List.map_cons, List.map_nil]); first | done | (simp only [hji7]; rfl) | rfl | (simp only [List.length_drop, List.length_take]; rfl)) ?_; (with_reducible refine (zb.calls k g s0_0 t617 ji7 t619 t620 w0 _ ?side1 ?side2 A8.out).mono ?_); (case side1 => exact Zq10 HI0.out NB0_610.out); (case side2 => exact Zq7 HB.out (zf.ge HI0.out) GE610.out); rintro e w21 ⟨rfl, hi, hb, hk⟩; refine ⟨_, rfl, ?_⟩; have n0_ := za.mk (zi.blk hk (g' := gb610) (o := .cells #[.int .i64 0, .int .i64 0] 51 (0, 0)) (Zq4 BK610.out) NB610_0.out (by simp)); have n1_ := za.mk (Kd.zy (Kd.zbo (zf.apart (show zf w0 _ g s0_0 t617 from Zq10 HI0.out NB0_610.out) (Zq12 HO615.out) (by decide)) hk (fun _ h => h.2)) (fun _ h => h.1)); have n2_ := za.mk (zi.trans (Zq11 HK.out GW610.out) hk (.inl rfl)); have n3_ := za.mk (hb); have n4_ := za.mk (hi); clear BK610; clear HO615; clear HK; clear HB; clear HI0; have BK610 := n0_; have HO615 := n1_; have HK := n2_; have HB := n3_; have HI0 := n4_; clear n0_ n1_ n2_ n3_ n4_; (try clear hb); (try clear hb2); (try clear hk); (try clear hi)) | ((with_reducible refine zbp (N := 6) rfl ?_); refine zb1 ?hg (N := 6) ?hd (cs := #[.int .i64 0, .int .i64 0]) (t := 51) ?hr ?_; (case hd => rfl); (case hg => rfl); (case hr => first | (go_simp; done) | (go_simp; rfl)); intro gb621 hg w22 hbox hb; have n0_ := za.mk (Kd.zbl (Zq12 HO615.out) hb); have n1_ := za.mk (zf.below (Zq10 HI0.out NB0_610.out) hb); have n2_ := za.mk (zbg (g := gb610) (o := .cells #[.int .i64 0, .int .i64 0] 51 (0, 0)) (Zq4 BK610.out) hb); have n3_ := za.mk (zi.trans (Zq11 HK.out GW610.out) (zi.of_below hb g none) (.inl rfl)); have n4_ := za.mk (zo (Zq7 HB.out (zf.ge HI0.out) GE610.out) hb); have n5_ := za.mk (hbox); have n6_ := za.mk ((by rw [hg]; exact (zb4 (w := w) (g := g) (row := none) (Zq11 HK.out GW610.out)) : w.heap.size ≤ gb621)); have n7_ := za.mk ((Nat.le_trans HW0.out (by rw [hg]; exact (zb4 (w := w) (g := g) (row := none) (Zq11 HK.out GW610.out)) : w.heap.size ≤ gb621) : w0.heap.size ≤ gb621)); have n8_ := za.mk ((by rw [hg]; exact Nat.ne_of_lt (zcz (g := gb610) (o := .cells #[.int .i64 0, .int .i64 0] 51 (0, 0)) (Zq4 BK610.out)) : gb610 ≠ gb621)); have n9_ := za.mk ((by rw [hg]; exact Nat.ne_of_gt (zcz (g := gb610) (o := .cells #[.int .i64 0, .int .i64 0] 51 (0, 0)) (Zq4 BK610.out)) : gb621 ≠ gb610)); have n10_ := za.mk ((by rw [hg]; exact Nat.ne_of_lt (zf.lt (show zf w0 _ g s0_0 t620 from Zq10 HI0.out NB0_610.out)) : g ≠ gb621)); have n11_ := za.mk ((by rw [hg]; exact Nat.ne_of_gt (zf.lt (show zf w0 _ g s0_0 t620 from Zq10 HI0.out NB0_610.out)) : gb621 ≠ g)); clear HO615; clear HI0; clear BK610; clear HK; clear HB; have HO615 := n0_; have HI0 := n1_; have BK610 := n2_; have HK := n3_; have HB := n4_; have BK621 := n5_; have GW621 := n6_; have GE621 := n7_; have NB610_621 := n8_; have NB621_610 := n9_; have NB0_621 := n10_; have NB621_0 := n11_; clear n0_ n1_ n2_ n3_ n4_ n5_ n6_ n7_ n8_ n9_ n10_ n11_; clear hb hbox hg; have hnb23 := NB621_610.out; have hnc23 := NB610_621.out; have hnb24 := NB621_0.out; have hnc24 := NB0_621.out; have hcz25_0 : w22.cell? ⟨gb621, 0, none⟩ = some (.int .i64 0) := (zh BK621.out 0).trans rfl; have hcz25_1 : w22.cell? ⟨gb621, 1, none⟩ = some (.int .i64 0) := (zh BK621.out 1).trans rfl; have hfz25_0 := zg BK621.out 0; have hfz25_1 := zg BK621.out 1) | ((with_reducible refine zba (f := 89) rfl ?_); refine zbv (some 28) rfl rfl Try.func89 (by kernel_rfl) rfl #[.pointer (some ⟨g, 0, none⟩), .int .i64 a1] rfl Zmt ?_; (with_reducible refine (zbk.calls k g s0_0 t620 a1 true t623 w0 _ ?side1 ?side2 A10.out).mono ?_); (case side1 => exact Zq13 HI0.out NB0_610.out NB0_621.out); (case side2 => exact Zq15 HB.out (zf.ge HI0.out) GE610.out GE621.out); rintro e w26 ⟨rfl, hi, hb, hk⟩; refine ⟨_, rfl, ?_⟩; have n0_ := za.mk (zi.blk hk (g' := gb610) (o := .cells #[.int .i64 0, .int .i64 0] 51 (0, 0)) (by (with_reducible repeat (first | refine zn ?_ _ | refine zt ?_ | refine zm ?_ _)); refine zcl ?_ NB610_621.out _; (with_reducible repeat (first | refine zn ?_ _ | refine zt ?_ | refine zm ?_ _)); refine zcl ?_ NB610_621.out _; (with_reducible repeat (first | refine zn ?_ _ | refine zt ?_ | refine zm ?_ _)); exact BK610.out) NB610_0.out (by simp)); have n1_ := za.mk (Kd.zy (Kd.zbo (zf.apart (show zf w0 _ g s0_0 t620 from Zq13 HI0.out NB0_610.out NB0_621.out) (by (with_reducible repeat (first | apply Kd.zbi | apply Kd.zbh | apply Kd.zbj)); exact (Kd.zy (Kd.zb9 (p := ⟨gb621, 1, none⟩) (Kd.zb9 (p := ⟨gb621, 0, none⟩) (Kd.zb5 HO615.out BK621.out (by decide)) (fun _ hk => hk.2) (.int .i64 ji9)) (fun _ hk => hk.2) (.int .i64 (rd y613 t616))) (fun _ h_ => h_.1))) (by decide)) hk (fun _ h => h.2)) (fun _ h => h.1)); have n2_ := za.mk (zi.blk hk (g' := gb621) (o := .cells #[.int .i64 ji9, .int .i64 (rd y613 t616)] 51 (0, 0)) (by (with_reducible repeat (first | refine zn ?_ _ | refine zt ?_ | refine zm ?_ _)); refine zbu (cs := #[.int .i64 ji9, .int .i64 0]) ?_ 1 _ rfl; (with_reducible repeat (first | refine zn ?_ _ | refine zt ?_ | refine zm ?_ _)); refine zbu (cs := #[.int .i64 0, .int .i64 0]) ?_ 0 _ rfl; (with_reducible repeat (first | refine zn ?_ _ | refine zt ?_ | refine zm ?_ _)); exact BK621.out) NB621_0.out (by simp)); have n3_ := za.mk (zi.trans (Zq14 HK.out GW610.out GW621.out) hk (.inl rfl)); have n4_ := za.mk (hb); have n5_ := za.mk (hi); clear BK610; clear HO615; clear BK621; clear HK; clear HB; clear HI0; have BK610 := n0_; have HO615 := n1_; have BK621 := n2_; have HK := n3_; have HB := n4_; have HI0 := n5_; clear n0_ n1_ n2_ n3_ n4_ n5_; (try clear hb); (try clear hb2); (try clear hk); (try clear hi)) | ((with_reducible refine zbp (N := 32) rfl ?_); refine Kd.R_lit k51 _ 51 ?hg (N := 32) ?hd (xs := ([(⟨0, 4⟩ : S51), (⟨5, 4⟩ : S51), (⟨1, 13⟩ : S51)] : List (S51))) (inner := [.int .i64 0, .int .i64 4, .int .i64 5, .int .i64 4, .int .i64 1, .int .i64 13]) (ok := fun _ => True) (okp := fun _ => True) ?hr ?hp (fun _ hk => hk) trivial (Below.refl _ _) (Nat.le_refl _) (by simp) ?_; (case hd => rfl); (case hg => rfl); (case hr => first | (go_simp; done) | (go_simp; rfl)); (case hp => exact (Reps.c2 (show Kd.M k51 _ _ _ (⟨0, 4⟩ : S51) [.int .i64 0, .int .i64 4] from (k51_mkM _ _ _ (⟨0, 4⟩ : S51) )) (Reps.c2 (show Kd.M k51 _ _ _ (⟨5, 4⟩ : S51) [.int .i64 5, .int .i64 4] from (k51_mkM _ _ _ (⟨5, 4⟩ : S51) )) (Reps.c2 (show Kd.M k51 _ _ _ (⟨1, 13⟩ : S51) [.int .i64 1, .int .i64 13] from (k51_mkM _ _ _ (⟨1, 13⟩ : S51) )) (Reps.none _ _))))); intro v625 w27 ho28 hb hg_ hnew_; clear hg_ hnew_; (first | rw [← Ny624.out] at ho28 | (simp only [Int.reduceToNat] at ho28; rw [← Ny624.out] at ho28)); have n0_ := za.mk (Kd.zbl (Zq12 HO615.out) hb); have n1_ := za.mk (Kd.zb2 (Kd.R_newB (Kd.R_newB ho28 (g := gb610) (o := .cells #[.int .i64 0, .int .i64 0] 51 (0, 0)) (Zq4 BK610.out)) (g := gb621) (o := .cells #[.int .i64 ji9, .int .i64 (rd y613 t616)] 51 (0, 0)) (Zq4 BK621.out)) (zb4 (w := w) (g := g) (row := none) (Zq14 HK.out GW610.out GW621.out))); have n2_ := za.mk (zf.below (Zq13 HI0.out NB0_610.out NB0_621.out) hb); have n3_ := za.mk (zbg (g := gb610) (o := .cells #[.int .i64 0, .int .i64 0] 51 (0, 0)) (Zq4 BK610.out) hb); have n4_ := za.mk (zbg (g := gb621) (o := .cells #[.int .i64 ji9, .int .i64 (rd y613 t616)] 51 (0, 0)) (Zq4 BK621.out) hb); have n5_ := za.mk (zi.trans (Zq14 HK.out GW610.out GW621.out) (zi.of_below hb g none) (.inl rfl)); have n6_ := za.mk (zo (Zq15 HB.out (zf.ge HI0.out) GE610.out GE621.out) hb); clear HO615; clear HI0; clear BK610; clear BK621; clear HK; clear HB; have HO615 := n0_; have HO626 := n1_; have HI0 := n2_; have BK610 := n3_; have BK621 := n4_; have HK := n5_; have HB := n6_; clear n0_ n1_ n2_ n3_ n4_ n5_ n6_; clear hb ho28) | ((with_reducible refine zba (f := 68) rfl ?_); refine zbv (some 34) rfl rfl Try.func68 (by kernel_rfl) rfl #[.pointer (some ⟨g, 0, none⟩), .int .i64 3] rfl Zmt ?_; (with_reducible refine (zb.calls k g s0_0 t623 3 t627 t628 w0 _ ?side1 ?side2 A12.out).mono ?_); (case side1 => exact Zq13 HI0.out NB0_610.out NB0_621.out); (case side2 => exact Zq15 HB.out (zf.ge HI0.out) GE610.out GE621.out); rintro e w29 ⟨rfl, hi, hb, hk⟩; refine ⟨_, rfl, ?_⟩; have n0_ := za.mk (zi.blk hk (g' := gb610) (o := .cells #[.int .i64 0, .int .i64 0] 51 (0, 0)) (Zq4 BK610.out) NB610_0.out (by simp)); have n1_ := za.mk (Kd.zy (Kd.zbo (zf.apart (show zf w0 _ g s0_0 t623 from Zq13 HI0.out NB0_610.out NB0_621.out) (Zq12 HO615.out) (by decide)) hk (fun _ h => h.2)) (fun _ h => h.1)); have n2_ := za.mk (zi.blk hk (g' := gb621) (o := .cells #[.int .i64 ji9, .int .i64 (rd y613 t616)] 51 (0, 0)) (Zq4 BK621.out) NB621_0.out (by simp)); have n3_ := za.mk (Kd.zy (Kd.zbo (zf.apart (show zf w0 _ g s0_0 t623 from Zq13 HI0.out NB0_610.out NB0_621.out) (Zq12 HO626.out) (by decide)) hk (fun _ h => h.2)) (fun _ h => h.1)); have n4_ := za.mk (zi.trans (Zq14 HK.out GW610.out GW621.out) hk (.inl rfl)); have n5_ := za.mk (hb); have n6_ := za.mk (hi); clear BK610; clear HO615; clear BK621; clear HO626; clear HK; clear HB; clear HI0; have BK610 := n0_; have HO615 := n1_; have BK621 := n2_; have HO626 := n3_; have HK := n4_; have HB := n5_; have HI0 := n6_; clear n0_ n1_ n2_ n3_ n4_ n5_ n6_; (try clear hb); (try clear hb2); (try clear hk); (try clear hi); obtain ⟨Ao30, co30, eo30⟩ := Kd.zbs HO626.out; subst eo30; have p629 : 0 ≤ (t627 : Int) := of_decide_eq_true Zas; have q629 : t627 < (y624.length : Int) := of_decide_eq_true Zas; obtain ⟨ad629, e629, hx629_0, hx629_1⟩ := at_T51 (Kd.zbe HO626.out).2.2 t627 p629 q629; cases e629; replace p629 := eq_true p629; replace q629 := eq_true q629; have hnb31 := NB610_0.out; have hnc31 := NB0_610.out; have hcz32_0 : w29.cell? ⟨gb610, 0, none⟩ = some (.int .i64 0) := (zh BK610.out 0).trans rfl; have hcz32_1 : w29.cell? ⟨gb610, 1, none⟩ = some (.int .i64 0) := (zh BK610.out 1).trans rfl; have hfz32_0 := zg BK610.out 0; have hfz32_1 := zg BK610.out 1))
      refine bodyPost_ret (results_cell_row rfl _ _ gb610 51 #[.int .i64 ((zdc y624 t627).f0), .int .i64 ((zdc y624 t627).f1)] (0, 0) _ rfl (by (with_reducible repeat (first | refine zn ?_ _ | refine zt ?_ | refine zm ?_ _)); refine zbu (cs := #[.int .i64 ((zdc y624 t627).f0), .int .i64 0]) ?_ 1 _ rfl; (with_reducible repeat (first | refine zn ?_ _ | refine zt ?_ | refine zm ?_ _)); refine zbu (cs := #[.int .i64 0, .int .i64 0]) ?_ 0 _ rfl; (with_reducible repeat (first | refine zn ?_ _ | refine zt ?_ | refine zm ?_ _)); exact BK610.out) Try.underlying51 rfl (by kernel_rfl)) rfl ?_
      exact ⟨by first | rfl | (simp [zbc, zbd] <;> rfl) | (simp only [← hji7, ← hji9]; first | rfl | (simp [zbc, zbd] <;> rfl)) | (simp [*, zbc, zbd] <;> rfl), Zq13 HI0.out NB0_610.out NB0_621.out, Zq15 HB.out (zf.ge HI0.out) GE610.out GE621.out, Zq14 HK.out GW610.out GW621.out⟩
     ·rw [if_neg c14] at H
      exact absurd H (by simp)
    ·rw [if_neg c13] at H
     exact absurd H (by simp)
   ·replace c11 := Bool.eq_false_iff.mpr c11
    subst c11
    have H1 : (some (ji9, rd y613 t616, t623)) = some (r1, r2, r3) := by rw [if_neg (show ¬ (false = true) by decide)] at H; exact H
    clear H
    have H := H1
    clear H1
    simp only [Option.some.injEq, Prod.mk.injEq] at H
    obtain ⟨rfl, rfl, rfl⟩ := H
    go_enter Try.func70, Try.ntmps70
    go_wp2_with (first | ((with_reducible refine zbp (N := 4) rfl ?_); refine zb1 ?hg (N := 4) ?hd (cs := #[.int .i64 0, .int .i64 0]) (t := 51) ?hr ?_; (case hd => rfl); (case hg => rfl); (case hr => first | (go_simp; done) | (go_simp; rfl)); intro gb610 hg w33 hbox hb; have n0_ := za.mk (zf.below (Zq8 HI0.out) hb); have n1_ := za.mk (zi.trans (Zq9 HK.out) (zi.of_below hb g none) (.inl rfl)); have n2_ := za.mk (zo (Zq5 HB.out (zf.ge HI0.out)) hb); have n3_ := za.mk (hbox); have n4_ := za.mk ((by rw [hg]; exact (zb4 (w := w) (g := g) (row := none) (Zq9 HK.out)) : w.heap.size ≤ gb610)); have n5_ := za.mk ((Nat.le_trans HW0.out (by rw [hg]; exact (zb4 (w := w) (g := g) (row := none) (Zq9 HK.out)) : w.heap.size ≤ gb610) : w0.heap.size ≤ gb610)); have n6_ := za.mk ((by rw [hg]; exact Nat.ne_of_lt (zf.lt (show zf w0 _ g s0_0 s0_1 from Zq8 HI0.out)) : g ≠ gb610)); have n7_ := za.mk ((by rw [hg]; exact Nat.ne_of_gt (zf.lt (show zf w0 _ g s0_0 s0_1 from Zq8 HI0.out)) : gb610 ≠ g)); clear HI0; clear HK; clear HB; have HI0 := n0_; have HK := n1_; have HB := n2_; have BK610 := n3_; have GW610 := n4_; have GE610 := n5_; have NB0_610 := n6_; have NB610_0 := n7_; clear n0_ n1_ n2_ n3_ n4_ n5_ n6_ n7_; clear hb hbox hg) | ((with_reducible refine zba (f := 68) rfl ?_); refine zbv (some 8) rfl rfl Try.func68 (by kernel_rfl) rfl #[.pointer (some ⟨g, 0, none⟩), .int .i64 12] rfl Zmt ?_; (with_reducible refine (zb.calls k g s0_0 s0_1 12 t611 t612 w0 _ ?side1 ?side2 A3.out).mono ?_); (case side1 => exact Zq10 HI0.out NB0_610.out); (case side2 => exact Zq7 HB.out (zf.ge HI0.out) GE610.out); rintro e w34 ⟨rfl, hi, hb, hk⟩; refine ⟨_, rfl, ?_⟩; have n0_ := za.mk (zi.blk hk (g' := gb610) (o := .cells #[.int .i64 0, .int .i64 0] 51 (0, 0)) (Zq4 BK610.out) NB610_0.out (by simp)); have n1_ := za.mk (zi.trans (Zq11 HK.out GW610.out) hk (.inl rfl)); have n2_ := za.mk (hb); have n3_ := za.mk (hi); clear BK610; clear HK; clear HB; clear HI0; have BK610 := n0_; have HK := n1_; have HB := n2_; have HI0 := n3_; clear n0_ n1_ n2_ n3_; (try clear hb); (try clear hb2); (try clear hk); (try clear hi)) | ((with_reducible refine zbp (N := 10) rfl ?_); refine Kd.R_lit (Kd.int .i64) _ 3 ?hg (N := 10) ?hd (xs := ([4, 6, 12, wrap64 (1 + t611)] : List Int)) (inner := [.int .i64 4, .int .i64 6, .int .i64 12, .int .i64 (wrap64 (1 + t611))]) (ok := fun _ => True) (okp := fun _ => True) ?hr ?hp (fun _ hk => hk) trivial (Below.refl _ _) (Nat.le_refl _) (by simp) ?_; (case hd => rfl); (case hg => rfl); (case hr => first | (go_simp; done) | (go_simp; rfl)); (case hp => exact (Reps.one (show Kd.M (Kd.int .i64) _ _ _ 4 [.int .i64 4] from rfl) (Reps.one (show Kd.M (Kd.int .i64) _ _ _ 6 [.int .i64 6] from rfl) (Reps.one (show Kd.M (Kd.int .i64) _ _ _ 12 [.int .i64 12] from rfl) (Reps.one (show Kd.M (Kd.int .i64) _ _ _ (wrap64 (1 + t611)) [.int .i64 (wrap64 (1 + t611))] from rfl) (Reps.none _ _)))))); intro v614 w35 ho36 hb hg_ hnew_; clear hg_ hnew_; (first | rw [← Ny613.out] at ho36 | (simp only [Int.reduceToNat] at ho36; rw [← Ny613.out] at ho36)); have n0_ := za.mk (Kd.zb2 ho36 (zb4 (w := w) (g := g) (row := none) (Zq11 HK.out GW610.out))); have n1_ := za.mk (zf.below (Zq10 HI0.out NB0_610.out) hb); have n2_ := za.mk (zbg (g := gb610) (o := .cells #[.int .i64 0, .int .i64 0] 51 (0, 0)) (Zq4 BK610.out) hb); have n3_ := za.mk (zi.trans (Zq11 HK.out GW610.out) (zi.of_below hb g none) (.inl rfl)); have n4_ := za.mk (zo (Zq7 HB.out (zf.ge HI0.out) GE610.out) hb); clear HI0; clear BK610; clear HK; clear HB; have HO615 := n0_; have HI0 := n1_; have BK610 := n2_; have HK := n3_; have HB := n4_; clear n0_ n1_ n2_ n3_ n4_; clear hb ho36) | ((with_reducible refine zba (f := 68) rfl ?_); refine zbv (some 12) rfl rfl Try.func68 (by kernel_rfl) rfl #[.pointer (some ⟨g, 0, none⟩), .int .i64 4] rfl Zmt ?_; (with_reducible refine (zb.calls k g s0_0 t612 4 t616 t617 w0 _ ?side1 ?side2 A4.out).mono ?_); (case side1 => exact Zq10 HI0.out NB0_610.out); (case side2 => exact Zq7 HB.out (zf.ge HI0.out) GE610.out); rintro e w37 ⟨rfl, hi, hb, hk⟩; refine ⟨_, rfl, ?_⟩; have n0_ := za.mk (zi.blk hk (g' := gb610) (o := .cells #[.int .i64 0, .int .i64 0] 51 (0, 0)) (Zq4 BK610.out) NB610_0.out (by simp)); have n1_ := za.mk (Kd.zy (Kd.zbo (zf.apart (show zf w0 _ g s0_0 t612 from Zq10 HI0.out NB0_610.out) (Zq12 HO615.out) (by decide)) hk (fun _ h => h.2)) (fun _ h => h.1)); have n2_ := za.mk (zi.trans (Zq11 HK.out GW610.out) hk (.inl rfl)); have n3_ := za.mk (hb); have n4_ := za.mk (hi); clear BK610; clear HO615; clear HK; clear HB; clear HI0; have BK610 := n0_; have HO615 := n1_; have HK := n2_; have HB := n3_; have HI0 := n4_; clear n0_ n1_ n2_ n3_ n4_; (try clear hb); (try clear hb2); (try clear hk); (try clear hi); obtain ⟨Ao38, co38, eo38⟩ := Kd.zbs HO615.out; subst eo38; have p618 : 0 ≤ (t616 : Int) := of_decide_eq_true Zas; have q618 : t616 < (y613.length : Int) := of_decide_eq_true Zas; obtain ⟨ad618, e618, hx618_0⟩ := Kd.zcn (Kd.zbe HO615.out).2.2 t616 p618 q618; cases e618; replace p618 := eq_true p618; replace q618 := eq_true q618) | ((with_reducible refine zba (f := 68) rfl ?_); refine zbv (some 21) rfl rfl Try.func68 (by kernel_rfl) rfl #[.pointer (some ⟨g, 0, none⟩), .int .i64 ji7] rfl (by (try simp only [List.map_toArray, List.map_cons, List.map_nil]); first | done | (simp only [hji7]; rfl) | rfl | (simp only [List.length_drop, List.length_take]; rfl)) ?_; (with_reducible refine (zb.calls k g s0_0 t617 ji7 t619 t620 w0 _ ?side1 ?side2 A8.out).mono ?_); (case side1 => exact Zq10 HI0.out NB0_610.out); (case side2 => exact Zq7 HB.out (zf.ge HI0.out) GE610.out); rintro e w39 ⟨rfl, hi, hb, hk⟩; refine ⟨_, rfl, ?_⟩; have n0_ := za.mk (zi.blk hk (g' := gb610) (o := .cells #[.int .i64 0, .int .i64 0] 51 (0, 0)) (Zq4 BK610.out) NB610_0.out (by simp)); have n1_ := za.mk (Kd.zy (Kd.zbo (zf.apart (show zf w0 _ g s0_0 t617 from Zq10 HI0.out NB0_610.out) (Zq12 HO615.out) (by decide)) hk (fun _ h => h.2)) (fun _ h => h.1)); have n2_ := za.mk (zi.trans (Zq11 HK.out GW610.out) hk (.inl rfl)); have n3_ := za.mk (hb); have n4_ := za.mk (hi); clear BK610; clear HO615; clear HK; clear HB; clear HI0; have BK610 := n0_; have HO615 := n1_; have HK := n2_; have HB := n3_; have HI0 := n4_; clear n0_ n1_ n2_ n3_ n4_; (try clear hb); (try clear hb2); (try clear hk); (try clear hi)) | ((with_reducible refine zbp (N := 6) rfl ?_); refine zb1 ?hg (N := 6) ?hd (cs := #[.int .i64 0, .int .i64 0]) (t := 51) ?hr ?_; (case hd => rfl); (case hg => rfl); (case hr => first | (go_simp; done) | (go_simp; rfl)); intro gb621 hg w40 hbox hb; have n0_ := za.mk (Kd.zbl (Zq12 HO615.out) hb); have n1_ := za.mk (zf.below (Zq10 HI0.out NB0_610.out) hb); have n2_ := za.mk (zbg (g := gb610) (o := .cells #[.int .i64 0, .int .i64 0] 51 (0, 0)) (Zq4 BK610.out) hb); have n3_ := za.mk (zi.trans (Zq11 HK.out GW610.out) (zi.of_below hb g none) (.inl rfl)); have n4_ := za.mk (zo (Zq7 HB.out (zf.ge HI0.out) GE610.out) hb); have n5_ := za.mk (hbox); have n6_ := za.mk ((by rw [hg]; exact (zb4 (w := w) (g := g) (row := none) (Zq11 HK.out GW610.out)) : w.heap.size ≤ gb621)); have n7_ := za.mk ((Nat.le_trans HW0.out (by rw [hg]; exact (zb4 (w := w) (g := g) (row := none) (Zq11 HK.out GW610.out)) : w.heap.size ≤ gb621) : w0.heap.size ≤ gb621)); have n8_ := za.mk ((by rw [hg]; exact Nat.ne_of_lt (zcz (g := gb610) (o := .cells #[.int .i64 0, .int .i64 0] 51 (0, 0)) (Zq4 BK610.out)) : gb610 ≠ gb621)); have n9_ := za.mk ((by rw [hg]; exact Nat.ne_of_gt (zcz (g := gb610) (o := .cells #[.int .i64 0, .int .i64 0] 51 (0, 0)) (Zq4 BK610.out)) : gb621 ≠ gb610)); have n10_ := za.mk ((by rw [hg]; exact Nat.ne_of_lt (zf.lt (show zf w0 _ g s0_0 t620 from Zq10 HI0.out NB0_610.out)) : g ≠ gb621)); have n11_ := za.mk ((by rw [hg]; exact Nat.ne_of_gt (zf.lt (show zf w0 _ g s0_0 t620 from Zq10 HI0.out NB0_610.out)) : gb621 ≠ g)); clear HO615; clear HI0; clear BK610; clear HK; clear HB; have HO615 := n0_; have HI0 := n1_; have BK610 := n2_; have HK := n3_; have HB := n4_; have BK621 := n5_; have GW621 := n6_; have GE621 := n7_; have NB610_621 := n8_; have NB621_610 := n9_; have NB0_621 := n10_; have NB621_0 := n11_; clear n0_ n1_ n2_ n3_ n4_ n5_ n6_ n7_ n8_ n9_ n10_ n11_; clear hb hbox hg; have hnb41 := NB621_610.out; have hnc41 := NB610_621.out; have hnb42 := NB621_0.out; have hnc42 := NB0_621.out; have hcz43_0 : w40.cell? ⟨gb621, 0, none⟩ = some (.int .i64 0) := (zh BK621.out 0).trans rfl; have hcz43_1 : w40.cell? ⟨gb621, 1, none⟩ = some (.int .i64 0) := (zh BK621.out 1).trans rfl; have hfz43_0 := zg BK621.out 0; have hfz43_1 := zg BK621.out 1) | ((with_reducible refine zba (f := 89) rfl ?_); refine zbv (some 28) rfl rfl Try.func89 (by kernel_rfl) rfl #[.pointer (some ⟨g, 0, none⟩), .int .i64 a1] rfl Zmt ?_; (with_reducible refine (zbk.calls k g s0_0 t620 a1 false t623 w0 _ ?side1 ?side2 A10.out).mono ?_); (case side1 => exact Zq13 HI0.out NB0_610.out NB0_621.out); (case side2 => exact Zq15 HB.out (zf.ge HI0.out) GE610.out GE621.out); rintro e w44 ⟨rfl, hi, hb, hk⟩; refine ⟨_, rfl, ?_⟩; have n0_ := za.mk (zi.blk hk (g' := gb610) (o := .cells #[.int .i64 0, .int .i64 0] 51 (0, 0)) (by (with_reducible repeat (first | refine zn ?_ _ | refine zt ?_ | refine zm ?_ _)); refine zcl ?_ NB610_621.out _; (with_reducible repeat (first | refine zn ?_ _ | refine zt ?_ | refine zm ?_ _)); refine zcl ?_ NB610_621.out _; (with_reducible repeat (first | refine zn ?_ _ | refine zt ?_ | refine zm ?_ _)); exact BK610.out) NB610_0.out (by simp)); have n1_ := za.mk (Kd.zy (Kd.zbo (zf.apart (show zf w0 _ g s0_0 t620 from Zq13 HI0.out NB0_610.out NB0_621.out) (by (with_reducible repeat (first | apply Kd.zbi | apply Kd.zbh | apply Kd.zbj)); exact (Kd.zy (Kd.zb9 (p := ⟨gb621, 1, none⟩) (Kd.zb9 (p := ⟨gb621, 0, none⟩) (Kd.zb5 HO615.out BK621.out (by decide)) (fun _ hk => hk.2) (.int .i64 ji9)) (fun _ hk => hk.2) (.int .i64 (rd y613 t616))) (fun _ h_ => h_.1))) (by decide)) hk (fun _ h => h.2)) (fun _ h => h.1)); have n2_ := za.mk (zi.blk hk (g' := gb621) (o := .cells #[.int .i64 ji9, .int .i64 (rd y613 t616)] 51 (0, 0)) (by (with_reducible repeat (first | refine zn ?_ _ | refine zt ?_ | refine zm ?_ _)); refine zbu (cs := #[.int .i64 ji9, .int .i64 0]) ?_ 1 _ rfl; (with_reducible repeat (first | refine zn ?_ _ | refine zt ?_ | refine zm ?_ _)); refine zbu (cs := #[.int .i64 0, .int .i64 0]) ?_ 0 _ rfl; (with_reducible repeat (first | refine zn ?_ _ | refine zt ?_ | refine zm ?_ _)); exact BK621.out) NB621_0.out (by simp)); have n3_ := za.mk (zi.trans (Zq14 HK.out GW610.out GW621.out) hk (.inl rfl)); have n4_ := za.mk (hb); have n5_ := za.mk (hi); clear BK610; clear HO615; clear BK621; clear HK; clear HB; clear HI0; have BK610 := n0_; have HO615 := n1_; have BK621 := n2_; have HK := n3_; have HB := n4_; have HI0 := n5_; clear n0_ n1_ n2_ n3_ n4_ n5_; (try clear hb); (try clear hb2); (try clear hk); (try clear hi); have hcz45_0 : w44.cell? ⟨gb621, 0, none⟩ = some (.int .i64 ji9) := (zh BK621.out 0).trans rfl; have hcz45_1 : w44.cell? ⟨gb621, 1, none⟩ = some (.int .i64 (rd y613 t616)) := (zh BK621.out 1).trans rfl; have hfz45_0 := zg BK621.out 0; have hfz45_1 := zg BK621.out 1; have hnb46 := NB610_0.out; have hnc46 := NB0_610.out; have hcz47_0 : w44.cell? ⟨gb610, 0, none⟩ = some (.int .i64 0) := (zh BK610.out 0).trans rfl; have hcz47_1 : w44.cell? ⟨gb610, 1, none⟩ = some (.int .i64 0) := (zh BK610.out 1).trans rfl; have hfz47_0 := zg BK610.out 0; have hfz47_1 := zg BK610.out 1))
    refine bodyPost_ret (results_cell_row rfl _ _ gb610 51 #[.int .i64 ji9, .int .i64 (rd y613 t616)] (0, 0) _ rfl (by (with_reducible repeat (first | refine zn ?_ _ | refine zt ?_ | refine zm ?_ _)); refine zbu (cs := #[.int .i64 ji9, .int .i64 0]) ?_ 1 _ rfl; (with_reducible repeat (first | refine zn ?_ _ | refine zt ?_ | refine zm ?_ _)); refine zbu (cs := #[.int .i64 0, .int .i64 0]) ?_ 0 _ rfl; (with_reducible repeat (first | refine zn ?_ _ | refine zt ?_ | refine zm ?_ _)); exact BK610.out) Try.underlying51 rfl (by kernel_rfl)) rfl ?_
    exact ⟨by first | rfl | (simp [zbc, zbd] <;> rfl) | (simp only [← hji7, ← hji9]; first | rfl | (simp [zbc, zbd] <;> rfl)) | (simp [*, zbc, zbd] <;> rfl), Zq13 HI0.out NB0_610.out NB0_621.out, Zq15 HB.out (zf.ge HI0.out) GE610.out GE621.out, Zq14 HK.out GW610.out GW621.out⟩
  ·rw [if_neg c6] at H
   exact absurd H (by simp)
 ·rw [if_neg c5] at H
  exact absurd H (by simp)
def zco.f (a0_0 : Int) (a0_1 : Int) : Option (Bool) := (zbw.f a0_0 1 a0_1).bind fun t631 => (if t631 = true then ((zbw.f a0_1 1 12).bind fun t632 => (some t632)) else (some false))
set_option maxHeartbeats 8000000 in
set_option maxRecDepth 100000 in
theorem zco.calls (a0_0 : Int) (a0_1 : Int) (r : Bool) (w : World) (h : zco.f a0_0 a0_1 = some r) :
  Calls Try.prog 107 #[.agg #[.int .i64 a0_0, .int .i64 a0_1]] w fun e w' => e = .returned (.bool r) ∧ Below w.heap.size w w' := by
 have hu51 := Try.underlying51
 have HB := za.mk (Below.refl w.heap.size w)
 have H : ((zbw.f a0_0 1 a0_1).bind fun t631 => (if t631 = true then ((zbw.f a0_1 1 12).bind fun t632 => (some t632)) else (some false))) = some r := h
 clear h
 replace H := Option.bind_eq_some_iff.mp H
 obtain ⟨t631, A20, H⟩ := H
 replace H : (if t631 = true then ((zbw.f a0_1 1 12).bind fun t632 => (some t632)) else (some false)) = some r := H
 have A2 := za.mk A20
 clear A20
 by_cases c3 : t631 = true
 ·subst c3
  have H1 : ((zbw.f a0_1 1 12).bind fun t632 => (some t632)) = some r := by rw [if_pos rfl] at H; exact H
  clear H
  have H := H1
  clear H1
  replace H := Option.bind_eq_some_iff.mp H
  obtain ⟨t632, A40, H⟩ := H
  replace H : (some t632) = some r := H
  have A4 := za.mk A40
  clear A40
  obtain rfl := Option.some.inj H
  go_enter Try.func107, Try.ntmps107
  go_wp2_with (first | ((with_reducible refine zbp (N := 1) rfl ?_); refine zb1 ?hg (N := 1) ?hd (cs := #[.int .i64 a0_0, .int .i64 a0_1]) (t := 51) ?hr ?_; (case hd => rfl); (case hg => rfl); (case hr => first | (go_simp; done) | (go_simp; rfl)); intro gb630 hg w5 hbox hb; have n0_ := za.mk (zo (Zq3 HB.out) hb); have n1_ := za.mk (hbox); have n2_ := za.mk ((by rw [hg]; exact (zbb (Zq3 HB.out)) : w.heap.size ≤ gb630)); have n3_ := za.mk ((by rw [hg]; exact (zbb (Zq3 HB.out)) : w.heap.size ≤ gb630)); clear HB; have HB := n0_; have BK630 := n1_; have GW630 := n2_; have GE630 := n3_; clear n0_ n1_ n2_ n3_; clear hb hbox hg; have hcz6_0 : w5.cell? ⟨gb630, 0, none⟩ = some (.int .i64 a0_0) := (zh BK630.out 0).trans rfl; have hcz6_1 : w5.cell? ⟨gb630, 1, none⟩ = some (.int .i64 a0_1) := (zh BK630.out 1).trans rfl; have hfz6_0 := zg BK630.out 0; have hfz6_1 := zg BK630.out 1) | ((with_reducible refine zba (f := 102) rfl ?_); refine zbv (some 7) rfl rfl Try.func102 (by kernel_rfl) rfl #[.int .i64 a0_0, .int .i64 1, .int .i64 a0_1] rfl Zmt ?_; (with_reducible refine (zbw.calls a0_0 1 a0_1 true _ A2.out).mono ?_); rintro e w' ⟨rfl, ⟨nd, rfl⟩⟩; refine ⟨_, rfl, ?_⟩) | (go_at_call 102; (with_reducible refine (zbw.calls a0_1 1 12 t632 _ A4.out).mono ?_); rintro e w' ⟨rfl, ⟨nd, rfl⟩⟩))
  go_ret
  exact ⟨by first | rfl | (simp [zbc, zbd] <;> rfl) | (simp [*, zbc, zbd] <;> rfl), Zq5 HB.out GE630.out⟩
 ·replace c3 := Bool.eq_false_iff.mpr c3
  subst c3
  have H1 : (some false) = some r := by rw [if_neg (show ¬ (false = true) by decide)] at H; exact H
  clear H
  have H := H1
  clear H1
  obtain rfl := Option.some.inj H
  go_enter Try.func107, Try.ntmps107
  go_wp2_with (first | ((with_reducible refine zbp (N := 1) rfl ?_); refine zb1 ?hg (N := 1) ?hd (cs := #[.int .i64 a0_0, .int .i64 a0_1]) (t := 51) ?hr ?_; (case hd => rfl); (case hg => rfl); (case hr => first | (go_simp; done) | (go_simp; rfl)); intro gb630 hg w7 hbox hb; have n0_ := za.mk (zo (Zq3 HB.out) hb); have n1_ := za.mk (hbox); have n2_ := za.mk ((by rw [hg]; exact (zbb (Zq3 HB.out)) : w.heap.size ≤ gb630)); have n3_ := za.mk ((by rw [hg]; exact (zbb (Zq3 HB.out)) : w.heap.size ≤ gb630)); clear HB; have HB := n0_; have BK630 := n1_; have GW630 := n2_; have GE630 := n3_; clear n0_ n1_ n2_ n3_; clear hb hbox hg; have hcz8_0 : w7.cell? ⟨gb630, 0, none⟩ = some (.int .i64 a0_0) := (zh BK630.out 0).trans rfl; have hcz8_1 : w7.cell? ⟨gb630, 1, none⟩ = some (.int .i64 a0_1) := (zh BK630.out 1).trans rfl; have hfz8_0 := zg BK630.out 0; have hfz8_1 := zg BK630.out 1) | ((with_reducible refine zba (f := 102) rfl ?_); refine zbv (some 7) rfl rfl Try.func102 (by kernel_rfl) rfl #[.int .i64 a0_0, .int .i64 1, .int .i64 a0_1] rfl Zmt ?_; (with_reducible refine (zbw.calls a0_0 1 a0_1 false _ A2.out).mono ?_); rintro e w' ⟨rfl, ⟨nd, rfl⟩⟩; refine ⟨_, rfl, ?_⟩))
  go_ret
  exact ⟨by first | rfl | (simp [zbc, zbd] <;> rfl) | (simp [*, zbc, zbd] <;> rfl), Zq5 HB.out GE630.out⟩
end Go.Proofs.Ytkdfjomhichkoaa.P
