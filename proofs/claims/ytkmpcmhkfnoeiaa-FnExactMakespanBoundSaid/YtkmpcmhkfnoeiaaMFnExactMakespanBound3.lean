/- The law FnExactMakespanBound for every input, part 3 of its proof: what the program's functions answer, and the plain law. No condition. -/
import Derived.Test.YtkmpcmhkfnoeiaaMFnExactMakespanBound1
import Derived.Test.YtkmpcmhkfnoeiaaMFnExactMakespanBound2
import Derived.Test.YtkmpcmhkfnoeiaaWMore
import Derived.Test.YtkmpcmhkfnoeiaaWWords
import Derived.SizedLaws
import Derived.ChangeSlices
import Derived.ChangeArms
import Derived.WideShapes
import Derived.Deep.Slices
import Derived.OpenShut
import Derived.Test.YtkmpcmhkfnoeiaaRows
import Derived.JoinedOf
import Derived.KernelRfl
import Derived.WalkKit
import Derived.ProofKit
import Derived.ShutString
import Derived.ChangeOld
import Derived.Below
-- Laid by a program of this work.
namespace Go.Proofs.Ytkmpcmhkfnoeiaa.P
open Go.RowKit Go.Proofs.YtkmpcmhkfnoeiaaW.PrintWords Go.Proofs.YtkmpcmhkfnoeiaaW.PrintLast Go.Proofs.YtkmpcmhkfnoeiaaW.PrintMore
attribute [local go_sem] max2_int min2_int max_two min_two max_three min_three max_four min_four   -- for this text's walks alone
set_option linter.unusedVariables false
set_option linter.unusedSimpArgs false

/-! ### laws_FnExactMakespanBound: function 16 -/
def laws_FnExactMakespanBound.f (k : Nat) (l0 : List Int) (l1 : List (List Int)) (a2 : Int) : Option (Bool) := if (l0.length : Int) > 1048576 then (some true) else ((laws_szIntSS.f k l1 1048576).bind fun t896 => (if t896 < 0 then (some true) else ((laws_toIntS.f k l0).bind fun t897 => ((laws_toIntSS.f k l1).bind fun t900 => ((spec_MakespanBound.f k t897 t900 a2).bind fun t903 => ((laws_toIntS.f k l0).bind fun t904 => ((laws_toIntSS.f k l1).bind fun t907 => ((impl_MakespanBound.f k t904 t907 a2).bind fun t910 => (if t910 = t903 then ((laws_toIntS.f k l0).bind fun t911 => ((laws_eqIntS.f k t904 t911).bind fun t914 => (if t914 = true then ((laws_toIntSS.f k l1).bind fun t915 => ((laws_eqIntSS.f k t907 t915).bind fun t918 => (if t918 = true then (some true) else (some false)))) else (some false)))) else (some false))))))))))
theorem laws_FnExactMakespanBound.mono : ∀ a0 a1 a2 k, LeO (laws_FnExactMakespanBound.f k a0 a1 a2) (laws_FnExactMakespanBound.f (k + 1) a0 a1 a2) := by
  intro a0 a1 a2 k
  unfold laws_FnExactMakespanBound.f
  repeat' first
      | (with_reducible exact impl_MakespanBound.mono _ _ _ _)
      | (with_reducible exact laws_eqIntS.mono _ _ _)
      | (with_reducible exact laws_eqIntSS.mono _ _ _)
      | (with_reducible exact laws_szIntSS.mono _ _ _)
      | (with_reducible exact laws_toIntS.mono _ _)
      | (with_reducible exact laws_toIntSS.mono _ _)
      | (with_reducible exact spec_MakespanBound.mono _ _ _ _)
      | (with_reducible exact LeO.refl _)
      | (with_reducible exact LeO.none _)
      | (with_reducible refine LeO.ite ?_ ?_)
      | (with_reducible refine LeO.bind ?_ (fun _ => ?_))
      | exact impl_MakespanBound.mono _ _ _ _
      | exact laws_eqIntS.mono _ _ _
      | exact laws_eqIntSS.mono _ _ _
      | exact laws_szIntSS.mono _ _ _
      | exact laws_toIntS.mono _ _
      | exact laws_toIntSS.mono _ _
      | exact spec_MakespanBound.mono _ _ _ _
      | exact LeO.none _
      | refine LeO.ite ?_ ?_
      | refine LeO.bind ?_ (fun _ => ?_)
set_option maxHeartbeats 8000000 in
set_option maxRecDepth 100000 in
theorem laws_FnExactMakespanBound.calls (k : Nat) (A0 : Option Addr) (c0 : Nat) (l0 : List Int) (A1 : Option Addr) (c1 : Nat) (l1 : List (List Int)) (a2 : Int) (r : Bool) (w : World) (hr0 : Kd.C (Kd.int .i64) w A0 l0.length l0) (hc0 : l0.length ≤ c0) (hr1 : Kd.C (Kd.slice 3 (Kd.int .i64)) w A1 l1.length l1) (hc1 : l1.length ≤ c1) (h : laws_FnExactMakespanBound.f k l0 l1 a2 = some r) :
    Calls Try.prog 16 #[.slice A0 l0.length c0, .slice A1 l1.length c1, .int .i64 a2] w fun e w' => e = .returned (.bool r) ∧ Below w.heap.size w w' := by
  have HR0 := Aside0.mk hr0
  have HC0 := Aside0.mk hc0
  clear hr0 hc0
  have HR1 := Aside0.mk hr1
  have HC1 := Aside0.mk hc1
  clear hr1 hc1
  have HB := Aside0.mk (Below.refl w.heap.size w)
  have H : (if (l0.length : Int) > 1048576 then (some true) else ((laws_szIntSS.f k l1 1048576).bind fun t896 => (if t896 < 0 then (some true) else ((laws_toIntS.f k l0).bind fun t897 => ((laws_toIntSS.f k l1).bind fun t900 => ((spec_MakespanBound.f k t897 t900 a2).bind fun t903 => ((laws_toIntS.f k l0).bind fun t904 => ((laws_toIntSS.f k l1).bind fun t907 => ((impl_MakespanBound.f k t904 t907 a2).bind fun t910 => (if t910 = t903 then ((laws_toIntS.f k l0).bind fun t911 => ((laws_eqIntS.f k t904 t911).bind fun t914 => (if t914 = true then ((laws_toIntSS.f k l1).bind fun t915 => ((laws_eqIntSS.f k t907 t915).bind fun t918 => (if t918 = true then (some true) else (some false)))) else (some false)))) else (some false))))))))))) = some r := h
  clear h
  by_cases c4 : (l0.length : Int) > 1048576
  · rw [if_pos c4] at H
    have c4b0 : decide (1048576 < (l0.length : Int)) = true := decide_eq_true c4
    have c4b1 : decide (1048576 < l0.length) = true := decide_eq_true (by omega)
    clear c4
    obtain rfl := Option.some.inj H
    go_enter Try.func16, Try.ntmps16
    go_wp2
    go_ret
    exact ⟨by first | rfl | (simp [errW_none, errW_some] <;> rfl) | (simp [*, errW_none, errW_some] <;> rfl), by repeat (first | (with_reducible first | exact HB.out | apply below_alloc | apply pw_below_drewN | apply below_drew1) | exact HB.out)⟩
  · rw [if_neg c4] at H
    have c4b0 : decide (1048576 < (l0.length : Int)) = false := decide_eq_false c4
    have c4b1 : decide (1048576 < l0.length) = false := decide_eq_false (by omega)
    clear c4
    replace H := Option.bind_eq_some_iff.mp H
    obtain ⟨t896, A50, H⟩ := H
    replace H : (if t896 < 0 then (some true) else ((laws_toIntS.f k l0).bind fun t897 => ((laws_toIntSS.f k l1).bind fun t900 => ((spec_MakespanBound.f k t897 t900 a2).bind fun t903 => ((laws_toIntS.f k l0).bind fun t904 => ((laws_toIntSS.f k l1).bind fun t907 => ((impl_MakespanBound.f k t904 t907 a2).bind fun t910 => (if t910 = t903 then ((laws_toIntS.f k l0).bind fun t911 => ((laws_eqIntS.f k t904 t911).bind fun t914 => (if t914 = true then ((laws_toIntSS.f k l1).bind fun t915 => ((laws_eqIntSS.f k t907 t915).bind fun t918 => (if t918 = true then (some true) else (some false)))) else (some false)))) else (some false))))))))) = some r := H
    have A5 := Aside0.mk A50
    clear A50
    by_cases c6 : t896 < 0
    · rw [if_pos c6] at H
      have c6b0 : decide (t896 < 0) = true := decide_eq_true c6
      clear c6
      obtain rfl := Option.some.inj H
      go_enter Try.func16, Try.ntmps16
      go_wp2_with (first | ((with_reducible refine gate_callee (f := 40) rfl ?_); refine goesL_ (some 17) rfl rfl Try.func40 (by kernel_rfl) rfl #[.slice A1 l1.length c1, .int .i64 1048576] rfl (by (try simp only [List.map_toArray, List.map_cons, List.map_nil]); first | done | rfl | (simp only [List.length_drop, List.length_take]; rfl)) ?_; (with_reducible refine (laws_szIntSS.calls k _ _ l1 1048576 t896 _ ?side1 ?side2 A5.out).mono ?_); (case side1 => repeat (first | exact HR1.out | (with_reducible refine Kd.C_alloc ?_ _) | (with_reducible refine Kd.C_drewN ?_ _) | (with_reducible refine Kd.C_drew ?_))); (case side2 => exact HC1.out); rintro e w' ⟨rfl, ⟨nd, rfl⟩⟩; refine ⟨_, rfl, ?_⟩))
      go_ret
      exact ⟨by first | rfl | (simp [errW_none, errW_some] <;> rfl) | (simp [*, errW_none, errW_some] <;> rfl), by repeat (first | (with_reducible first | exact HB.out | apply below_alloc | apply pw_below_drewN | apply below_drew1) | exact HB.out)⟩
    · rw [if_neg c6] at H
      have c6b0 : decide (t896 < 0) = false := decide_eq_false c6
      clear c6
      replace H := Option.bind_eq_some_iff.mp H
      obtain ⟨t897, A70, H⟩ := H
      replace H : ((laws_toIntSS.f k l1).bind fun t900 => ((spec_MakespanBound.f k t897 t900 a2).bind fun t903 => ((laws_toIntS.f k l0).bind fun t904 => ((laws_toIntSS.f k l1).bind fun t907 => ((impl_MakespanBound.f k t904 t907 a2).bind fun t910 => (if t910 = t903 then ((laws_toIntS.f k l0).bind fun t911 => ((laws_eqIntS.f k t904 t911).bind fun t914 => (if t914 = true then ((laws_toIntSS.f k l1).bind fun t915 => ((laws_eqIntSS.f k t907 t915).bind fun t918 => (if t918 = true then (some true) else (some false)))) else (some false)))) else (some false))))))) = some r := H
      have A7 := Aside0.mk A70
      clear A70
      replace H := Option.bind_eq_some_iff.mp H
      obtain ⟨t900, A80, H⟩ := H
      replace H : ((spec_MakespanBound.f k t897 t900 a2).bind fun t903 => ((laws_toIntS.f k l0).bind fun t904 => ((laws_toIntSS.f k l1).bind fun t907 => ((impl_MakespanBound.f k t904 t907 a2).bind fun t910 => (if t910 = t903 then ((laws_toIntS.f k l0).bind fun t911 => ((laws_eqIntS.f k t904 t911).bind fun t914 => (if t914 = true then ((laws_toIntSS.f k l1).bind fun t915 => ((laws_eqIntSS.f k t907 t915).bind fun t918 => (if t918 = true then (some true) else (some false)))) else (some false)))) else (some false)))))) = some r := H
      have A8 := Aside0.mk A80
      clear A80
      replace H := Option.bind_eq_some_iff.mp H
      obtain ⟨t903, A90, H⟩ := H
      replace H : ((laws_toIntS.f k l0).bind fun t904 => ((laws_toIntSS.f k l1).bind fun t907 => ((impl_MakespanBound.f k t904 t907 a2).bind fun t910 => (if t910 = t903 then ((laws_toIntS.f k l0).bind fun t911 => ((laws_eqIntS.f k t904 t911).bind fun t914 => (if t914 = true then ((laws_toIntSS.f k l1).bind fun t915 => ((laws_eqIntSS.f k t907 t915).bind fun t918 => (if t918 = true then (some true) else (some false)))) else (some false)))) else (some false))))) = some r := H
      have A9 := Aside0.mk A90
      clear A90
      replace H := Option.bind_eq_some_iff.mp H
      obtain ⟨t904, A100, H⟩ := H
      replace H : ((laws_toIntSS.f k l1).bind fun t907 => ((impl_MakespanBound.f k t904 t907 a2).bind fun t910 => (if t910 = t903 then ((laws_toIntS.f k l0).bind fun t911 => ((laws_eqIntS.f k t904 t911).bind fun t914 => (if t914 = true then ((laws_toIntSS.f k l1).bind fun t915 => ((laws_eqIntSS.f k t907 t915).bind fun t918 => (if t918 = true then (some true) else (some false)))) else (some false)))) else (some false)))) = some r := H
      have A10 := Aside0.mk A100
      clear A100
      replace H := Option.bind_eq_some_iff.mp H
      obtain ⟨t907, A110, H⟩ := H
      replace H : ((impl_MakespanBound.f k t904 t907 a2).bind fun t910 => (if t910 = t903 then ((laws_toIntS.f k l0).bind fun t911 => ((laws_eqIntS.f k t904 t911).bind fun t914 => (if t914 = true then ((laws_toIntSS.f k l1).bind fun t915 => ((laws_eqIntSS.f k t907 t915).bind fun t918 => (if t918 = true then (some true) else (some false)))) else (some false)))) else (some false))) = some r := H
      have A11 := Aside0.mk A110
      clear A110
      replace H := Option.bind_eq_some_iff.mp H
      obtain ⟨t910, A120, H⟩ := H
      replace H : (if t910 = t903 then ((laws_toIntS.f k l0).bind fun t911 => ((laws_eqIntS.f k t904 t911).bind fun t914 => (if t914 = true then ((laws_toIntSS.f k l1).bind fun t915 => ((laws_eqIntSS.f k t907 t915).bind fun t918 => (if t918 = true then (some true) else (some false)))) else (some false)))) else (some false)) = some r := H
      have A12 := Aside0.mk A120
      clear A120
      by_cases c13 : t910 = t903
      · rw [if_pos c13] at H
        have c13b0 : (t910 == t903) = true := beq_iff_eq.mpr c13
        have c13b1 : (t910 != t903) = false := bne_eq_false_iff_eq.mpr c13
        clear c13
        replace H := Option.bind_eq_some_iff.mp H
        obtain ⟨t911, A140, H⟩ := H
        replace H : ((laws_eqIntS.f k t904 t911).bind fun t914 => (if t914 = true then ((laws_toIntSS.f k l1).bind fun t915 => ((laws_eqIntSS.f k t907 t915).bind fun t918 => (if t918 = true then (some true) else (some false)))) else (some false))) = some r := H
        have A14 := Aside0.mk A140
        clear A140
        replace H := Option.bind_eq_some_iff.mp H
        obtain ⟨t914, A150, H⟩ := H
        replace H : (if t914 = true then ((laws_toIntSS.f k l1).bind fun t915 => ((laws_eqIntSS.f k t907 t915).bind fun t918 => (if t918 = true then (some true) else (some false)))) else (some false)) = some r := H
        have A15 := Aside0.mk A150
        clear A150
        by_cases c16 : t914 = true
        · subst c16
          have H1 : ((laws_toIntSS.f k l1).bind fun t915 => ((laws_eqIntSS.f k t907 t915).bind fun t918 => (if t918 = true then (some true) else (some false)))) = some r := by rw [if_pos rfl] at H; exact H
          clear H
          have H := H1
          clear H1
          replace H := Option.bind_eq_some_iff.mp H
          obtain ⟨t915, A170, H⟩ := H
          replace H : ((laws_eqIntSS.f k t907 t915).bind fun t918 => (if t918 = true then (some true) else (some false))) = some r := H
          have A17 := Aside0.mk A170
          clear A170
          replace H := Option.bind_eq_some_iff.mp H
          obtain ⟨t918, A180, H⟩ := H
          replace H : (if t918 = true then (some true) else (some false)) = some r := H
          have A18 := Aside0.mk A180
          clear A180
          by_cases c19 : t918 = true
          · subst c19
            have H1 : (some true) = some r := by rw [if_pos rfl] at H; exact H
            clear H
            have H := H1
            clear H1
            obtain rfl := Option.some.inj H
            go_enter Try.func16, Try.ntmps16
            go_wp2_with (first | ((with_reducible refine gate_callee (f := 40) rfl ?_); refine goesL_ (some 17) rfl rfl Try.func40 (by kernel_rfl) rfl #[.slice A1 l1.length c1, .int .i64 1048576] rfl (by (try simp only [List.map_toArray, List.map_cons, List.map_nil]); first | done | rfl | (simp only [List.length_drop, List.length_take]; rfl)) ?_; (with_reducible refine (laws_szIntSS.calls k _ _ l1 1048576 t896 _ ?side1 ?side2 A5.out).mono ?_); (case side1 => repeat (first | exact HR1.out | (with_reducible refine Kd.C_alloc ?_ _) | (with_reducible refine Kd.C_drewN ?_ _) | (with_reducible refine Kd.C_drew ?_))); (case side2 => exact HC1.out); rintro e w' ⟨rfl, ⟨nd, rfl⟩⟩; refine ⟨_, rfl, ?_⟩) | ((with_reducible refine gate_callee (f := 26) rfl ?_); refine goesL_ (some 21) rfl rfl Try.func26 (by kernel_rfl) rfl #[.slice A0 l0.length c0] rfl (by (try simp only [List.map_toArray, List.map_cons, List.map_nil]); first | done | rfl | (simp only [List.length_drop, List.length_take]; rfl)) ?_; (with_reducible refine (laws_toIntS.calls k _ _ l0 t897 _ ?side1 ?side2 A7.out).mono ?_); (case side1 => repeat (first | exact HR0.out | (with_reducible refine Kd.C_alloc ?_ _) | (with_reducible refine Kd.C_drewN ?_ _) | (with_reducible refine Kd.C_drew ?_))); (case side2 => exact HC0.out); rintro e w20 ⟨v898, rfl, ho0, hb⟩; refine ⟨_, rfl, ?_⟩; have n0_ := Aside0.mk (Kd.R_lower ho0 (below_size (by repeat (first | (with_reducible first | exact HB.out | apply below_alloc | apply pw_below_drewN | apply below_drew1) | exact HB.out)))); have n1_ := Aside0.mk (below_step (by repeat (first | (with_reducible first | exact HB.out | apply below_alloc | apply pw_below_drewN | apply below_drew1) | exact HB.out)) hb); clear HB; have HO899 := n0_; have HB := n1_; clear n0_ n1_; (try clear hb); (try clear hb2); (try clear hk); (try clear hi); (try clear ho0)) | ((with_reducible refine gate_callee (f := 42) rfl ?_); refine goesL_ (some 23) rfl rfl Try.func42 (by kernel_rfl) rfl #[.slice A1 l1.length c1] rfl (by (try simp only [List.map_toArray, List.map_cons, List.map_nil]); first | done | rfl | (simp only [List.length_drop, List.length_take]; rfl)) ?_; (with_reducible refine (laws_toIntSS.calls k _ _ l1 t900 _ ?side1 ?side2 A8.out).mono ?_); (case side1 => repeat (first | exact (Kd.C_below HR1.out HB.out) | (with_reducible refine Kd.C_alloc ?_ _) | (with_reducible refine Kd.C_drewN ?_ _) | (with_reducible refine Kd.C_drew ?_))); (case side2 => exact HC1.out); rintro e w21 ⟨v901, rfl, ho0, hb⟩; refine ⟨_, rfl, ?_⟩; have n0_ := Aside0.mk (Kd.R_below (by (with_reducible repeat (first | apply Kd.R_alloc | apply Kd.R_drewN | apply Kd.R_drew)); exact HO899.out) hb); have n1_ := Aside0.mk (Kd.S_lower (Kd.S_new' ho0 (Kd.R_lt (by (with_reducible repeat (first | apply Kd.R_alloc | apply Kd.R_drewN | apply Kd.R_drew)); exact HO899.out))) (below_size (by repeat (first | (with_reducible first | exact HB.out | apply below_alloc | apply pw_below_drewN | apply below_drew1) | exact HB.out)))); have n2_ := Aside0.mk (below_step (by repeat (first | (with_reducible first | exact HB.out | apply below_alloc | apply pw_below_drewN | apply below_drew1) | exact HB.out)) hb); clear HO899; clear HB; have HO899 := n0_; have HO902 := n1_; have HB := n2_; clear n0_ n1_ n2_; (try clear hb); (try clear hb2); (try clear hk); (try clear hi); (try clear ho0); obtain ⟨Ao22, co22, eo22⟩ := Kd.R_slice HO899.out; subst eo22; obtain ⟨Ao23, co23, eo23⟩ := Kd.S_slice HO902.out; subst eo23) | ((with_reducible refine gate_callee (f := 51) rfl ?_); refine goesL_ (some 25) rfl rfl Try.func51 (by kernel_rfl) rfl #[.slice Ao22 t897.length co22, .slice Ao23 t900.length co23, .int .i64 a2] rfl (by (try simp only [List.map_toArray, List.map_cons, List.map_nil]); first | done | rfl | (simp only [List.length_drop, List.length_take]; rfl)) ?_; (with_reducible refine (spec_MakespanBound.calls k _ _ t897 _ _ t900 a2 t903 _ ?side1 ?side2 ?side3 ?side4 A9.out).mono ?_); (case side1 => repeat (first | exact (Kd.R_reads' HO899.out).2.2 | (with_reducible refine Kd.C_alloc ?_ _) | (with_reducible refine Kd.C_drewN ?_ _) | (with_reducible refine Kd.C_drew ?_))); (case side2 => exact (Kd.R_reads' HO899.out).2.1); (case side3 => repeat (first | exact (Kd.S_reads' HO902.out).2.2 | (with_reducible refine Kd.C_alloc ?_ _) | (with_reducible refine Kd.C_drewN ?_ _) | (with_reducible refine Kd.C_drew ?_))); (case side4 => exact (Kd.S_reads' HO902.out).2.1); rintro e w24 ⟨rfl, hb⟩; refine ⟨_, rfl, ?_⟩; have n0_ := Aside0.mk (Kd.R_below (by (with_reducible repeat (first | apply Kd.R_alloc | apply Kd.R_drewN | apply Kd.R_drew)); exact HO899.out) hb); have n1_ := Aside0.mk (Kd.S_below (by (with_reducible repeat (first | apply Kd.S_alloc | apply Kd.S_drewN | apply Kd.S_drew)); exact HO902.out) hb); have n2_ := Aside0.mk (below_step (by repeat (first | (with_reducible first | exact HB.out | apply below_alloc | apply pw_below_drewN | apply below_drew1) | exact HB.out)) hb); clear HO899; clear HO902; clear HB; have HO899 := n0_; have HO902 := n1_; have HB := n2_; clear n0_ n1_ n2_; (try clear hb); (try clear hb2); (try clear hk); (try clear hi)) | ((with_reducible refine gate_callee (f := 26) rfl ?_); refine goesL_ (some 27) rfl rfl Try.func26 (by kernel_rfl) rfl #[.slice A0 l0.length c0] rfl (by (try simp only [List.map_toArray, List.map_cons, List.map_nil]); first | done | rfl | (simp only [List.length_drop, List.length_take]; rfl)) ?_; (with_reducible refine (laws_toIntS.calls k _ _ l0 t904 _ ?side1 ?side2 A10.out).mono ?_); (case side1 => repeat (first | exact (Kd.C_below HR0.out HB.out) | (with_reducible refine Kd.C_alloc ?_ _) | (with_reducible refine Kd.C_drewN ?_ _) | (with_reducible refine Kd.C_drew ?_))); (case side2 => exact HC0.out); rintro e w25 ⟨v905, rfl, ho0, hb⟩; refine ⟨_, rfl, ?_⟩; have n0_ := Aside0.mk (Kd.R_elder' (by (with_reducible repeat (first | apply Kd.R_alloc | apply Kd.R_drewN | apply Kd.R_drew)); exact HO899.out) (Kd.R_base ho0) hb); have n1_ := Aside0.mk (Kd.S_elder' (by (with_reducible repeat (first | apply Kd.S_alloc | apply Kd.S_drewN | apply Kd.S_drew)); exact HO902.out) (Kd.R_base ho0) hb); have n2_ := Aside0.mk (Kd.R_lower (Kd.R_new' ho0 (Kd.R_lt (by (with_reducible repeat (first | apply Kd.R_alloc | apply Kd.R_drewN | apply Kd.R_drew)); exact HO899.out))) (below_size (by repeat (first | (with_reducible first | exact HB.out | apply below_alloc | apply pw_below_drewN | apply below_drew1) | exact HB.out)))); have n3_ := Aside0.mk (below_step (by repeat (first | (with_reducible first | exact HB.out | apply below_alloc | apply pw_below_drewN | apply below_drew1) | exact HB.out)) hb); clear HO899; clear HO902; clear HB; have HO899 := n0_; have HO902 := n1_; have HO906 := n2_; have HB := n3_; clear n0_ n1_ n2_ n3_; (try clear hb); (try clear hb2); (try clear hk); (try clear hi); (try clear ho0)) | ((with_reducible refine gate_callee (f := 42) rfl ?_); refine goesL_ (some 29) rfl rfl Try.func42 (by kernel_rfl) rfl #[.slice A1 l1.length c1] rfl (by (try simp only [List.map_toArray, List.map_cons, List.map_nil]); first | done | rfl | (simp only [List.length_drop, List.length_take]; rfl)) ?_; (with_reducible refine (laws_toIntSS.calls k _ _ l1 t907 _ ?side1 ?side2 A11.out).mono ?_); (case side1 => repeat (first | exact (Kd.C_below HR1.out HB.out) | (with_reducible refine Kd.C_alloc ?_ _) | (with_reducible refine Kd.C_drewN ?_ _) | (with_reducible refine Kd.C_drew ?_))); (case side2 => exact HC1.out); rintro e w26 ⟨v908, rfl, ho0, hb⟩; refine ⟨_, rfl, ?_⟩; have n0_ := Aside0.mk (Kd.R_below (by (with_reducible repeat (first | apply Kd.R_alloc | apply Kd.R_drewN | apply Kd.R_drew)); exact HO899.out) hb); have n1_ := Aside0.mk (Kd.S_elder' (by (with_reducible repeat (first | apply Kd.S_alloc | apply Kd.S_drewN | apply Kd.S_drew)); exact HO902.out) (Kd.S_base ho0) hb); have n2_ := Aside0.mk (Kd.R_below (by (with_reducible repeat (first | apply Kd.R_alloc | apply Kd.R_drewN | apply Kd.R_drew)); exact HO906.out) hb); have n3_ := Aside0.mk (Kd.S_lower (Kd.S_new' (Kd.S_new' (Kd.S_new' ho0 (Kd.R_lt (by (with_reducible repeat (first | apply Kd.R_alloc | apply Kd.R_drewN | apply Kd.R_drew)); exact HO899.out))) (Kd.S_lt (by (with_reducible repeat (first | apply Kd.S_alloc | apply Kd.S_drewN | apply Kd.S_drew)); exact HO902.out))) (Kd.R_lt (by (with_reducible repeat (first | apply Kd.R_alloc | apply Kd.R_drewN | apply Kd.R_drew)); exact HO906.out))) (below_size (by repeat (first | (with_reducible first | exact HB.out | apply below_alloc | apply pw_below_drewN | apply below_drew1) | exact HB.out)))); have n4_ := Aside0.mk (below_step (by repeat (first | (with_reducible first | exact HB.out | apply below_alloc | apply pw_below_drewN | apply below_drew1) | exact HB.out)) hb); clear HO899; clear HO902; clear HO906; clear HB; have HO899 := n0_; have HO902 := n1_; have HO906 := n2_; have HO909 := n3_; have HB := n4_; clear n0_ n1_ n2_ n3_ n4_; (try clear hb); (try clear hb2); (try clear hk); (try clear hi); (try clear ho0); obtain ⟨Ao27, co27, eo27⟩ := Kd.R_slice HO906.out; subst eo27; obtain ⟨Ao28, co28, eo28⟩ := Kd.S_slice HO909.out; subst eo28) | ((with_reducible refine gate_callee (f := 52) rfl ?_); refine goesL_ (some 33) rfl rfl Try.func52 (by kernel_rfl) rfl #[.slice Ao27 t904.length co27, .slice Ao28 t907.length co28, .int .i64 a2] rfl (by (try simp only [List.map_toArray, List.map_cons, List.map_nil]); first | done | rfl | (simp only [List.length_drop, List.length_take]; rfl)) ?_; (with_reducible refine (impl_MakespanBound.calls k _ _ t904 _ _ t907 a2 t910 _ ?side1 ?side2 ?side3 ?side4 A12.out).mono ?_); (case side1 => repeat (first | exact (Kd.R_reads' HO906.out).2.2 | (with_reducible refine Kd.C_alloc ?_ _) | (with_reducible refine Kd.C_drewN ?_ _) | (with_reducible refine Kd.C_drew ?_))); (case side2 => exact (Kd.R_reads' HO906.out).2.1); (case side3 => repeat (first | exact (Kd.S_reads' HO909.out).2.2 | (with_reducible refine Kd.C_alloc ?_ _) | (with_reducible refine Kd.C_drewN ?_ _) | (with_reducible refine Kd.C_drew ?_))); (case side4 => exact (Kd.S_reads' HO909.out).2.1); rintro e w29 ⟨rfl, hb⟩; refine ⟨_, rfl, ?_⟩; have n0_ := Aside0.mk (Kd.R_below (by (with_reducible repeat (first | apply Kd.R_alloc | apply Kd.R_drewN | apply Kd.R_drew)); exact HO899.out) hb); have n1_ := Aside0.mk (Kd.S_below (by (with_reducible repeat (first | apply Kd.S_alloc | apply Kd.S_drewN | apply Kd.S_drew)); exact HO902.out) hb); have n2_ := Aside0.mk (Kd.R_below (by (with_reducible repeat (first | apply Kd.R_alloc | apply Kd.R_drewN | apply Kd.R_drew)); exact HO906.out) hb); have n3_ := Aside0.mk (Kd.S_below (by (with_reducible repeat (first | apply Kd.S_alloc | apply Kd.S_drewN | apply Kd.S_drew)); exact HO909.out) hb); have n4_ := Aside0.mk (below_step (by repeat (first | (with_reducible first | exact HB.out | apply below_alloc | apply pw_below_drewN | apply below_drew1) | exact HB.out)) hb); clear HO899; clear HO902; clear HO906; clear HO909; clear HB; have HO899 := n0_; have HO902 := n1_; have HO906 := n2_; have HO909 := n3_; have HB := n4_; clear n0_ n1_ n2_ n3_ n4_; (try clear hb); (try clear hb2); (try clear hk); (try clear hi)) | ((with_reducible refine gate_callee (f := 26) rfl ?_); refine goesL_ (some 39) rfl rfl Try.func26 (by kernel_rfl) rfl #[.slice A0 l0.length c0] rfl (by (try simp only [List.map_toArray, List.map_cons, List.map_nil]); first | done | rfl | (simp only [List.length_drop, List.length_take]; rfl)) ?_; (with_reducible refine (laws_toIntS.calls k _ _ l0 t911 _ ?side1 ?side2 A14.out).mono ?_); (case side1 => repeat (first | exact (Kd.C_below HR0.out HB.out) | (with_reducible refine Kd.C_alloc ?_ _) | (with_reducible refine Kd.C_drewN ?_ _) | (with_reducible refine Kd.C_drew ?_))); (case side2 => exact HC0.out); rintro e w30 ⟨v912, rfl, ho0, hb⟩; refine ⟨_, rfl, ?_⟩; have n0_ := Aside0.mk (Kd.R_elder' (by (with_reducible repeat (first | apply Kd.R_alloc | apply Kd.R_drewN | apply Kd.R_drew)); exact HO899.out) (Kd.R_base ho0) hb); have n1_ := Aside0.mk (Kd.S_elder' (by (with_reducible repeat (first | apply Kd.S_alloc | apply Kd.S_drewN | apply Kd.S_drew)); exact HO902.out) (Kd.R_base ho0) hb); have n2_ := Aside0.mk (Kd.R_elder' (by (with_reducible repeat (first | apply Kd.R_alloc | apply Kd.R_drewN | apply Kd.R_drew)); exact HO906.out) (Kd.R_base ho0) hb); have n3_ := Aside0.mk (Kd.S_elder' (by (with_reducible repeat (first | apply Kd.S_alloc | apply Kd.S_drewN | apply Kd.S_drew)); exact HO909.out) (Kd.R_base ho0) hb); have n4_ := Aside0.mk (Kd.R_lower (Kd.R_new' (Kd.R_new' ho0 (Kd.R_lt (by (with_reducible repeat (first | apply Kd.R_alloc | apply Kd.R_drewN | apply Kd.R_drew)); exact HO899.out))) (Kd.R_lt (by (with_reducible repeat (first | apply Kd.R_alloc | apply Kd.R_drewN | apply Kd.R_drew)); exact HO906.out))) (below_size (by repeat (first | (with_reducible first | exact HB.out | apply below_alloc | apply pw_below_drewN | apply below_drew1) | exact HB.out)))); have n5_ := Aside0.mk (below_step (by repeat (first | (with_reducible first | exact HB.out | apply below_alloc | apply pw_below_drewN | apply below_drew1) | exact HB.out)) hb); clear HO899; clear HO902; clear HO906; clear HO909; clear HB; have HO899 := n0_; have HO902 := n1_; have HO906 := n2_; have HO909 := n3_; have HO913 := n4_; have HB := n5_; clear n0_ n1_ n2_ n3_ n4_ n5_; (try clear hb); (try clear hb2); (try clear hk); (try clear hi); (try clear ho0); obtain ⟨Ao31, co31, eo31⟩ := Kd.R_slice HO913.out; subst eo31) | ((with_reducible refine gate_callee (f := 28) rfl ?_); refine goesL_ (some 40) rfl rfl Try.func28 (by kernel_rfl) rfl #[.slice Ao27 t904.length co27, .slice Ao31 t911.length co31] rfl (by (try simp only [List.map_toArray, List.map_cons, List.map_nil]); first | done | rfl | (simp only [List.length_drop, List.length_take]; rfl)) ?_; (with_reducible refine (laws_eqIntS.calls k _ _ t904 _ _ t911 true _ ?side1 ?side2 ?side3 ?side4 A15.out).mono ?_); (case side1 => repeat (first | exact (Kd.R_reads' HO906.out).2.2 | (with_reducible refine Kd.C_alloc ?_ _) | (with_reducible refine Kd.C_drewN ?_ _) | (with_reducible refine Kd.C_drew ?_))); (case side2 => exact (Kd.R_reads' HO906.out).2.1); (case side3 => repeat (first | exact (Kd.R_reads' HO913.out).2.2 | (with_reducible refine Kd.C_alloc ?_ _) | (with_reducible refine Kd.C_drewN ?_ _) | (with_reducible refine Kd.C_drew ?_))); (case side4 => exact (Kd.R_reads' HO913.out).2.1); rintro e w' ⟨rfl, ⟨nd, rfl⟩⟩; refine ⟨_, rfl, ?_⟩) | ((with_reducible refine gate_callee (f := 42) rfl ?_); refine goesL_ (some 44) rfl rfl Try.func42 (by kernel_rfl) rfl #[.slice A1 l1.length c1] rfl (by (try simp only [List.map_toArray, List.map_cons, List.map_nil]); first | done | rfl | (simp only [List.length_drop, List.length_take]; rfl)) ?_; (with_reducible refine (laws_toIntSS.calls k _ _ l1 t915 _ ?side1 ?side2 A17.out).mono ?_); (case side1 => repeat (first | exact (Kd.C_below HR1.out (by repeat (first | (with_reducible first | exact HB.out | apply below_alloc | apply pw_below_drewN | apply below_drew1) | exact HB.out))) | (with_reducible refine Kd.C_alloc ?_ _) | (with_reducible refine Kd.C_drewN ?_ _) | (with_reducible refine Kd.C_drew ?_))); (case side2 => exact HC1.out); rintro e w32 ⟨v916, rfl, ho0, hb⟩; refine ⟨_, rfl, ?_⟩; have n0_ := Aside0.mk (Kd.R_below (by (with_reducible repeat (first | apply Kd.R_alloc | apply Kd.R_drewN | apply Kd.R_drew)); exact HO899.out) hb); have n1_ := Aside0.mk (Kd.S_elder' (by (with_reducible repeat (first | apply Kd.S_alloc | apply Kd.S_drewN | apply Kd.S_drew)); exact HO902.out) (Kd.S_base ho0) hb); have n2_ := Aside0.mk (Kd.R_below (by (with_reducible repeat (first | apply Kd.R_alloc | apply Kd.R_drewN | apply Kd.R_drew)); exact HO906.out) hb); have n3_ := Aside0.mk (Kd.S_elder' (by (with_reducible repeat (first | apply Kd.S_alloc | apply Kd.S_drewN | apply Kd.S_drew)); exact HO909.out) (Kd.S_base ho0) hb); have n4_ := Aside0.mk (Kd.R_below (by (with_reducible repeat (first | apply Kd.R_alloc | apply Kd.R_drewN | apply Kd.R_drew)); exact HO913.out) hb); have n5_ := Aside0.mk (Kd.S_lower (Kd.S_new' (Kd.S_new' (Kd.S_new' (Kd.S_new' (Kd.S_new' ho0 (Kd.R_lt (by (with_reducible repeat (first | apply Kd.R_alloc | apply Kd.R_drewN | apply Kd.R_drew)); exact HO899.out))) (Kd.S_lt (by (with_reducible repeat (first | apply Kd.S_alloc | apply Kd.S_drewN | apply Kd.S_drew)); exact HO902.out))) (Kd.R_lt (by (with_reducible repeat (first | apply Kd.R_alloc | apply Kd.R_drewN | apply Kd.R_drew)); exact HO906.out))) (Kd.S_lt (by (with_reducible repeat (first | apply Kd.S_alloc | apply Kd.S_drewN | apply Kd.S_drew)); exact HO909.out))) (Kd.R_lt (by (with_reducible repeat (first | apply Kd.R_alloc | apply Kd.R_drewN | apply Kd.R_drew)); exact HO913.out))) (below_size (by repeat (first | (with_reducible first | exact HB.out | apply below_alloc | apply pw_below_drewN | apply below_drew1) | exact HB.out)))); have n6_ := Aside0.mk (below_step (by repeat (first | (with_reducible first | exact HB.out | apply below_alloc | apply pw_below_drewN | apply below_drew1) | exact HB.out)) hb); clear HO899; clear HO902; clear HO906; clear HO909; clear HO913; clear HB; have HO899 := n0_; have HO902 := n1_; have HO906 := n2_; have HO909 := n3_; have HO913 := n4_; have HO917 := n5_; have HB := n6_; clear n0_ n1_ n2_ n3_ n4_ n5_ n6_; (try clear hb); (try clear hb2); (try clear hk); (try clear hi); (try clear ho0); obtain ⟨Ao33, co33, eo33⟩ := Kd.S_slice HO917.out; subst eo33) | ((with_reducible refine gate_callee (f := 44) rfl ?_); refine goesL_ (some 45) rfl rfl Try.func44 (by kernel_rfl) rfl #[.slice Ao28 t907.length co28, .slice Ao33 t915.length co33] rfl (by (try simp only [List.map_toArray, List.map_cons, List.map_nil]); first | done | rfl | (simp only [List.length_drop, List.length_take]; rfl)) ?_; (with_reducible refine (laws_eqIntSS.calls k _ _ t907 _ _ t915 true _ ?side1 ?side2 ?side3 ?side4 A18.out).mono ?_); (case side1 => repeat (first | exact (Kd.S_reads' HO909.out).2.2 | (with_reducible refine Kd.C_alloc ?_ _) | (with_reducible refine Kd.C_drewN ?_ _) | (with_reducible refine Kd.C_drew ?_))); (case side2 => exact (Kd.S_reads' HO909.out).2.1); (case side3 => repeat (first | exact (Kd.S_reads' HO917.out).2.2 | (with_reducible refine Kd.C_alloc ?_ _) | (with_reducible refine Kd.C_drewN ?_ _) | (with_reducible refine Kd.C_drew ?_))); (case side4 => exact (Kd.S_reads' HO917.out).2.1); rintro e w' ⟨rfl, ⟨nd, rfl⟩⟩; refine ⟨_, rfl, ?_⟩))
            go_ret
            exact ⟨by first | rfl | (simp [errW_none, errW_some] <;> rfl) | (simp [*, errW_none, errW_some] <;> rfl), by repeat (first | (with_reducible first | exact HB.out | apply below_alloc | apply pw_below_drewN | apply below_drew1) | exact HB.out)⟩
          · replace c19 := Bool.eq_false_iff.mpr c19
            subst c19
            have H1 : (some false) = some r := by rw [if_neg (show ¬ (false = true) by decide)] at H; exact H
            clear H
            have H := H1
            clear H1
            obtain rfl := Option.some.inj H
            go_enter Try.func16, Try.ntmps16
            go_wp2_with (first | ((with_reducible refine gate_callee (f := 40) rfl ?_); refine goesL_ (some 17) rfl rfl Try.func40 (by kernel_rfl) rfl #[.slice A1 l1.length c1, .int .i64 1048576] rfl (by (try simp only [List.map_toArray, List.map_cons, List.map_nil]); first | done | rfl | (simp only [List.length_drop, List.length_take]; rfl)) ?_; (with_reducible refine (laws_szIntSS.calls k _ _ l1 1048576 t896 _ ?side1 ?side2 A5.out).mono ?_); (case side1 => repeat (first | exact HR1.out | (with_reducible refine Kd.C_alloc ?_ _) | (with_reducible refine Kd.C_drewN ?_ _) | (with_reducible refine Kd.C_drew ?_))); (case side2 => exact HC1.out); rintro e w' ⟨rfl, ⟨nd, rfl⟩⟩; refine ⟨_, rfl, ?_⟩) | ((with_reducible refine gate_callee (f := 26) rfl ?_); refine goesL_ (some 21) rfl rfl Try.func26 (by kernel_rfl) rfl #[.slice A0 l0.length c0] rfl (by (try simp only [List.map_toArray, List.map_cons, List.map_nil]); first | done | rfl | (simp only [List.length_drop, List.length_take]; rfl)) ?_; (with_reducible refine (laws_toIntS.calls k _ _ l0 t897 _ ?side1 ?side2 A7.out).mono ?_); (case side1 => repeat (first | exact HR0.out | (with_reducible refine Kd.C_alloc ?_ _) | (with_reducible refine Kd.C_drewN ?_ _) | (with_reducible refine Kd.C_drew ?_))); (case side2 => exact HC0.out); rintro e w34 ⟨v898, rfl, ho0, hb⟩; refine ⟨_, rfl, ?_⟩; have n0_ := Aside0.mk (Kd.R_lower ho0 (below_size (by repeat (first | (with_reducible first | exact HB.out | apply below_alloc | apply pw_below_drewN | apply below_drew1) | exact HB.out)))); have n1_ := Aside0.mk (below_step (by repeat (first | (with_reducible first | exact HB.out | apply below_alloc | apply pw_below_drewN | apply below_drew1) | exact HB.out)) hb); clear HB; have HO899 := n0_; have HB := n1_; clear n0_ n1_; (try clear hb); (try clear hb2); (try clear hk); (try clear hi); (try clear ho0)) | ((with_reducible refine gate_callee (f := 42) rfl ?_); refine goesL_ (some 23) rfl rfl Try.func42 (by kernel_rfl) rfl #[.slice A1 l1.length c1] rfl (by (try simp only [List.map_toArray, List.map_cons, List.map_nil]); first | done | rfl | (simp only [List.length_drop, List.length_take]; rfl)) ?_; (with_reducible refine (laws_toIntSS.calls k _ _ l1 t900 _ ?side1 ?side2 A8.out).mono ?_); (case side1 => repeat (first | exact (Kd.C_below HR1.out HB.out) | (with_reducible refine Kd.C_alloc ?_ _) | (with_reducible refine Kd.C_drewN ?_ _) | (with_reducible refine Kd.C_drew ?_))); (case side2 => exact HC1.out); rintro e w35 ⟨v901, rfl, ho0, hb⟩; refine ⟨_, rfl, ?_⟩; have n0_ := Aside0.mk (Kd.R_below (by (with_reducible repeat (first | apply Kd.R_alloc | apply Kd.R_drewN | apply Kd.R_drew)); exact HO899.out) hb); have n1_ := Aside0.mk (Kd.S_lower (Kd.S_new' ho0 (Kd.R_lt (by (with_reducible repeat (first | apply Kd.R_alloc | apply Kd.R_drewN | apply Kd.R_drew)); exact HO899.out))) (below_size (by repeat (first | (with_reducible first | exact HB.out | apply below_alloc | apply pw_below_drewN | apply below_drew1) | exact HB.out)))); have n2_ := Aside0.mk (below_step (by repeat (first | (with_reducible first | exact HB.out | apply below_alloc | apply pw_below_drewN | apply below_drew1) | exact HB.out)) hb); clear HO899; clear HB; have HO899 := n0_; have HO902 := n1_; have HB := n2_; clear n0_ n1_ n2_; (try clear hb); (try clear hb2); (try clear hk); (try clear hi); (try clear ho0); obtain ⟨Ao36, co36, eo36⟩ := Kd.R_slice HO899.out; subst eo36; obtain ⟨Ao37, co37, eo37⟩ := Kd.S_slice HO902.out; subst eo37) | ((with_reducible refine gate_callee (f := 51) rfl ?_); refine goesL_ (some 25) rfl rfl Try.func51 (by kernel_rfl) rfl #[.slice Ao36 t897.length co36, .slice Ao37 t900.length co37, .int .i64 a2] rfl (by (try simp only [List.map_toArray, List.map_cons, List.map_nil]); first | done | rfl | (simp only [List.length_drop, List.length_take]; rfl)) ?_; (with_reducible refine (spec_MakespanBound.calls k _ _ t897 _ _ t900 a2 t903 _ ?side1 ?side2 ?side3 ?side4 A9.out).mono ?_); (case side1 => repeat (first | exact (Kd.R_reads' HO899.out).2.2 | (with_reducible refine Kd.C_alloc ?_ _) | (with_reducible refine Kd.C_drewN ?_ _) | (with_reducible refine Kd.C_drew ?_))); (case side2 => exact (Kd.R_reads' HO899.out).2.1); (case side3 => repeat (first | exact (Kd.S_reads' HO902.out).2.2 | (with_reducible refine Kd.C_alloc ?_ _) | (with_reducible refine Kd.C_drewN ?_ _) | (with_reducible refine Kd.C_drew ?_))); (case side4 => exact (Kd.S_reads' HO902.out).2.1); rintro e w38 ⟨rfl, hb⟩; refine ⟨_, rfl, ?_⟩; have n0_ := Aside0.mk (Kd.R_below (by (with_reducible repeat (first | apply Kd.R_alloc | apply Kd.R_drewN | apply Kd.R_drew)); exact HO899.out) hb); have n1_ := Aside0.mk (Kd.S_below (by (with_reducible repeat (first | apply Kd.S_alloc | apply Kd.S_drewN | apply Kd.S_drew)); exact HO902.out) hb); have n2_ := Aside0.mk (below_step (by repeat (first | (with_reducible first | exact HB.out | apply below_alloc | apply pw_below_drewN | apply below_drew1) | exact HB.out)) hb); clear HO899; clear HO902; clear HB; have HO899 := n0_; have HO902 := n1_; have HB := n2_; clear n0_ n1_ n2_; (try clear hb); (try clear hb2); (try clear hk); (try clear hi)) | ((with_reducible refine gate_callee (f := 26) rfl ?_); refine goesL_ (some 27) rfl rfl Try.func26 (by kernel_rfl) rfl #[.slice A0 l0.length c0] rfl (by (try simp only [List.map_toArray, List.map_cons, List.map_nil]); first | done | rfl | (simp only [List.length_drop, List.length_take]; rfl)) ?_; (with_reducible refine (laws_toIntS.calls k _ _ l0 t904 _ ?side1 ?side2 A10.out).mono ?_); (case side1 => repeat (first | exact (Kd.C_below HR0.out HB.out) | (with_reducible refine Kd.C_alloc ?_ _) | (with_reducible refine Kd.C_drewN ?_ _) | (with_reducible refine Kd.C_drew ?_))); (case side2 => exact HC0.out); rintro e w39 ⟨v905, rfl, ho0, hb⟩; refine ⟨_, rfl, ?_⟩; have n0_ := Aside0.mk (Kd.R_elder' (by (with_reducible repeat (first | apply Kd.R_alloc | apply Kd.R_drewN | apply Kd.R_drew)); exact HO899.out) (Kd.R_base ho0) hb); have n1_ := Aside0.mk (Kd.S_elder' (by (with_reducible repeat (first | apply Kd.S_alloc | apply Kd.S_drewN | apply Kd.S_drew)); exact HO902.out) (Kd.R_base ho0) hb); have n2_ := Aside0.mk (Kd.R_lower (Kd.R_new' ho0 (Kd.R_lt (by (with_reducible repeat (first | apply Kd.R_alloc | apply Kd.R_drewN | apply Kd.R_drew)); exact HO899.out))) (below_size (by repeat (first | (with_reducible first | exact HB.out | apply below_alloc | apply pw_below_drewN | apply below_drew1) | exact HB.out)))); have n3_ := Aside0.mk (below_step (by repeat (first | (with_reducible first | exact HB.out | apply below_alloc | apply pw_below_drewN | apply below_drew1) | exact HB.out)) hb); clear HO899; clear HO902; clear HB; have HO899 := n0_; have HO902 := n1_; have HO906 := n2_; have HB := n3_; clear n0_ n1_ n2_ n3_; (try clear hb); (try clear hb2); (try clear hk); (try clear hi); (try clear ho0)) | ((with_reducible refine gate_callee (f := 42) rfl ?_); refine goesL_ (some 29) rfl rfl Try.func42 (by kernel_rfl) rfl #[.slice A1 l1.length c1] rfl (by (try simp only [List.map_toArray, List.map_cons, List.map_nil]); first | done | rfl | (simp only [List.length_drop, List.length_take]; rfl)) ?_; (with_reducible refine (laws_toIntSS.calls k _ _ l1 t907 _ ?side1 ?side2 A11.out).mono ?_); (case side1 => repeat (first | exact (Kd.C_below HR1.out HB.out) | (with_reducible refine Kd.C_alloc ?_ _) | (with_reducible refine Kd.C_drewN ?_ _) | (with_reducible refine Kd.C_drew ?_))); (case side2 => exact HC1.out); rintro e w40 ⟨v908, rfl, ho0, hb⟩; refine ⟨_, rfl, ?_⟩; have n0_ := Aside0.mk (Kd.R_below (by (with_reducible repeat (first | apply Kd.R_alloc | apply Kd.R_drewN | apply Kd.R_drew)); exact HO899.out) hb); have n1_ := Aside0.mk (Kd.S_elder' (by (with_reducible repeat (first | apply Kd.S_alloc | apply Kd.S_drewN | apply Kd.S_drew)); exact HO902.out) (Kd.S_base ho0) hb); have n2_ := Aside0.mk (Kd.R_below (by (with_reducible repeat (first | apply Kd.R_alloc | apply Kd.R_drewN | apply Kd.R_drew)); exact HO906.out) hb); have n3_ := Aside0.mk (Kd.S_lower (Kd.S_new' (Kd.S_new' (Kd.S_new' ho0 (Kd.R_lt (by (with_reducible repeat (first | apply Kd.R_alloc | apply Kd.R_drewN | apply Kd.R_drew)); exact HO899.out))) (Kd.S_lt (by (with_reducible repeat (first | apply Kd.S_alloc | apply Kd.S_drewN | apply Kd.S_drew)); exact HO902.out))) (Kd.R_lt (by (with_reducible repeat (first | apply Kd.R_alloc | apply Kd.R_drewN | apply Kd.R_drew)); exact HO906.out))) (below_size (by repeat (first | (with_reducible first | exact HB.out | apply below_alloc | apply pw_below_drewN | apply below_drew1) | exact HB.out)))); have n4_ := Aside0.mk (below_step (by repeat (first | (with_reducible first | exact HB.out | apply below_alloc | apply pw_below_drewN | apply below_drew1) | exact HB.out)) hb); clear HO899; clear HO902; clear HO906; clear HB; have HO899 := n0_; have HO902 := n1_; have HO906 := n2_; have HO909 := n3_; have HB := n4_; clear n0_ n1_ n2_ n3_ n4_; (try clear hb); (try clear hb2); (try clear hk); (try clear hi); (try clear ho0); obtain ⟨Ao41, co41, eo41⟩ := Kd.R_slice HO906.out; subst eo41; obtain ⟨Ao42, co42, eo42⟩ := Kd.S_slice HO909.out; subst eo42) | ((with_reducible refine gate_callee (f := 52) rfl ?_); refine goesL_ (some 33) rfl rfl Try.func52 (by kernel_rfl) rfl #[.slice Ao41 t904.length co41, .slice Ao42 t907.length co42, .int .i64 a2] rfl (by (try simp only [List.map_toArray, List.map_cons, List.map_nil]); first | done | rfl | (simp only [List.length_drop, List.length_take]; rfl)) ?_; (with_reducible refine (impl_MakespanBound.calls k _ _ t904 _ _ t907 a2 t910 _ ?side1 ?side2 ?side3 ?side4 A12.out).mono ?_); (case side1 => repeat (first | exact (Kd.R_reads' HO906.out).2.2 | (with_reducible refine Kd.C_alloc ?_ _) | (with_reducible refine Kd.C_drewN ?_ _) | (with_reducible refine Kd.C_drew ?_))); (case side2 => exact (Kd.R_reads' HO906.out).2.1); (case side3 => repeat (first | exact (Kd.S_reads' HO909.out).2.2 | (with_reducible refine Kd.C_alloc ?_ _) | (with_reducible refine Kd.C_drewN ?_ _) | (with_reducible refine Kd.C_drew ?_))); (case side4 => exact (Kd.S_reads' HO909.out).2.1); rintro e w43 ⟨rfl, hb⟩; refine ⟨_, rfl, ?_⟩; have n0_ := Aside0.mk (Kd.R_below (by (with_reducible repeat (first | apply Kd.R_alloc | apply Kd.R_drewN | apply Kd.R_drew)); exact HO899.out) hb); have n1_ := Aside0.mk (Kd.S_below (by (with_reducible repeat (first | apply Kd.S_alloc | apply Kd.S_drewN | apply Kd.S_drew)); exact HO902.out) hb); have n2_ := Aside0.mk (Kd.R_below (by (with_reducible repeat (first | apply Kd.R_alloc | apply Kd.R_drewN | apply Kd.R_drew)); exact HO906.out) hb); have n3_ := Aside0.mk (Kd.S_below (by (with_reducible repeat (first | apply Kd.S_alloc | apply Kd.S_drewN | apply Kd.S_drew)); exact HO909.out) hb); have n4_ := Aside0.mk (below_step (by repeat (first | (with_reducible first | exact HB.out | apply below_alloc | apply pw_below_drewN | apply below_drew1) | exact HB.out)) hb); clear HO899; clear HO902; clear HO906; clear HO909; clear HB; have HO899 := n0_; have HO902 := n1_; have HO906 := n2_; have HO909 := n3_; have HB := n4_; clear n0_ n1_ n2_ n3_ n4_; (try clear hb); (try clear hb2); (try clear hk); (try clear hi)) | ((with_reducible refine gate_callee (f := 26) rfl ?_); refine goesL_ (some 39) rfl rfl Try.func26 (by kernel_rfl) rfl #[.slice A0 l0.length c0] rfl (by (try simp only [List.map_toArray, List.map_cons, List.map_nil]); first | done | rfl | (simp only [List.length_drop, List.length_take]; rfl)) ?_; (with_reducible refine (laws_toIntS.calls k _ _ l0 t911 _ ?side1 ?side2 A14.out).mono ?_); (case side1 => repeat (first | exact (Kd.C_below HR0.out HB.out) | (with_reducible refine Kd.C_alloc ?_ _) | (with_reducible refine Kd.C_drewN ?_ _) | (with_reducible refine Kd.C_drew ?_))); (case side2 => exact HC0.out); rintro e w44 ⟨v912, rfl, ho0, hb⟩; refine ⟨_, rfl, ?_⟩; have n0_ := Aside0.mk (Kd.R_elder' (by (with_reducible repeat (first | apply Kd.R_alloc | apply Kd.R_drewN | apply Kd.R_drew)); exact HO899.out) (Kd.R_base ho0) hb); have n1_ := Aside0.mk (Kd.S_elder' (by (with_reducible repeat (first | apply Kd.S_alloc | apply Kd.S_drewN | apply Kd.S_drew)); exact HO902.out) (Kd.R_base ho0) hb); have n2_ := Aside0.mk (Kd.R_elder' (by (with_reducible repeat (first | apply Kd.R_alloc | apply Kd.R_drewN | apply Kd.R_drew)); exact HO906.out) (Kd.R_base ho0) hb); have n3_ := Aside0.mk (Kd.S_elder' (by (with_reducible repeat (first | apply Kd.S_alloc | apply Kd.S_drewN | apply Kd.S_drew)); exact HO909.out) (Kd.R_base ho0) hb); have n4_ := Aside0.mk (Kd.R_lower (Kd.R_new' (Kd.R_new' ho0 (Kd.R_lt (by (with_reducible repeat (first | apply Kd.R_alloc | apply Kd.R_drewN | apply Kd.R_drew)); exact HO899.out))) (Kd.R_lt (by (with_reducible repeat (first | apply Kd.R_alloc | apply Kd.R_drewN | apply Kd.R_drew)); exact HO906.out))) (below_size (by repeat (first | (with_reducible first | exact HB.out | apply below_alloc | apply pw_below_drewN | apply below_drew1) | exact HB.out)))); have n5_ := Aside0.mk (below_step (by repeat (first | (with_reducible first | exact HB.out | apply below_alloc | apply pw_below_drewN | apply below_drew1) | exact HB.out)) hb); clear HO899; clear HO902; clear HO906; clear HO909; clear HB; have HO899 := n0_; have HO902 := n1_; have HO906 := n2_; have HO909 := n3_; have HO913 := n4_; have HB := n5_; clear n0_ n1_ n2_ n3_ n4_ n5_; (try clear hb); (try clear hb2); (try clear hk); (try clear hi); (try clear ho0); obtain ⟨Ao45, co45, eo45⟩ := Kd.R_slice HO913.out; subst eo45) | ((with_reducible refine gate_callee (f := 28) rfl ?_); refine goesL_ (some 40) rfl rfl Try.func28 (by kernel_rfl) rfl #[.slice Ao41 t904.length co41, .slice Ao45 t911.length co45] rfl (by (try simp only [List.map_toArray, List.map_cons, List.map_nil]); first | done | rfl | (simp only [List.length_drop, List.length_take]; rfl)) ?_; (with_reducible refine (laws_eqIntS.calls k _ _ t904 _ _ t911 true _ ?side1 ?side2 ?side3 ?side4 A15.out).mono ?_); (case side1 => repeat (first | exact (Kd.R_reads' HO906.out).2.2 | (with_reducible refine Kd.C_alloc ?_ _) | (with_reducible refine Kd.C_drewN ?_ _) | (with_reducible refine Kd.C_drew ?_))); (case side2 => exact (Kd.R_reads' HO906.out).2.1); (case side3 => repeat (first | exact (Kd.R_reads' HO913.out).2.2 | (with_reducible refine Kd.C_alloc ?_ _) | (with_reducible refine Kd.C_drewN ?_ _) | (with_reducible refine Kd.C_drew ?_))); (case side4 => exact (Kd.R_reads' HO913.out).2.1); rintro e w' ⟨rfl, ⟨nd, rfl⟩⟩; refine ⟨_, rfl, ?_⟩) | ((with_reducible refine gate_callee (f := 42) rfl ?_); refine goesL_ (some 44) rfl rfl Try.func42 (by kernel_rfl) rfl #[.slice A1 l1.length c1] rfl (by (try simp only [List.map_toArray, List.map_cons, List.map_nil]); first | done | rfl | (simp only [List.length_drop, List.length_take]; rfl)) ?_; (with_reducible refine (laws_toIntSS.calls k _ _ l1 t915 _ ?side1 ?side2 A17.out).mono ?_); (case side1 => repeat (first | exact (Kd.C_below HR1.out (by repeat (first | (with_reducible first | exact HB.out | apply below_alloc | apply pw_below_drewN | apply below_drew1) | exact HB.out))) | (with_reducible refine Kd.C_alloc ?_ _) | (with_reducible refine Kd.C_drewN ?_ _) | (with_reducible refine Kd.C_drew ?_))); (case side2 => exact HC1.out); rintro e w46 ⟨v916, rfl, ho0, hb⟩; refine ⟨_, rfl, ?_⟩; have n0_ := Aside0.mk (Kd.R_below (by (with_reducible repeat (first | apply Kd.R_alloc | apply Kd.R_drewN | apply Kd.R_drew)); exact HO899.out) hb); have n1_ := Aside0.mk (Kd.S_elder' (by (with_reducible repeat (first | apply Kd.S_alloc | apply Kd.S_drewN | apply Kd.S_drew)); exact HO902.out) (Kd.S_base ho0) hb); have n2_ := Aside0.mk (Kd.R_below (by (with_reducible repeat (first | apply Kd.R_alloc | apply Kd.R_drewN | apply Kd.R_drew)); exact HO906.out) hb); have n3_ := Aside0.mk (Kd.S_elder' (by (with_reducible repeat (first | apply Kd.S_alloc | apply Kd.S_drewN | apply Kd.S_drew)); exact HO909.out) (Kd.S_base ho0) hb); have n4_ := Aside0.mk (Kd.R_below (by (with_reducible repeat (first | apply Kd.R_alloc | apply Kd.R_drewN | apply Kd.R_drew)); exact HO913.out) hb); have n5_ := Aside0.mk (Kd.S_lower (Kd.S_new' (Kd.S_new' (Kd.S_new' (Kd.S_new' (Kd.S_new' ho0 (Kd.R_lt (by (with_reducible repeat (first | apply Kd.R_alloc | apply Kd.R_drewN | apply Kd.R_drew)); exact HO899.out))) (Kd.S_lt (by (with_reducible repeat (first | apply Kd.S_alloc | apply Kd.S_drewN | apply Kd.S_drew)); exact HO902.out))) (Kd.R_lt (by (with_reducible repeat (first | apply Kd.R_alloc | apply Kd.R_drewN | apply Kd.R_drew)); exact HO906.out))) (Kd.S_lt (by (with_reducible repeat (first | apply Kd.S_alloc | apply Kd.S_drewN | apply Kd.S_drew)); exact HO909.out))) (Kd.R_lt (by (with_reducible repeat (first | apply Kd.R_alloc | apply Kd.R_drewN | apply Kd.R_drew)); exact HO913.out))) (below_size (by repeat (first | (with_reducible first | exact HB.out | apply below_alloc | apply pw_below_drewN | apply below_drew1) | exact HB.out)))); have n6_ := Aside0.mk (below_step (by repeat (first | (with_reducible first | exact HB.out | apply below_alloc | apply pw_below_drewN | apply below_drew1) | exact HB.out)) hb); clear HO899; clear HO902; clear HO906; clear HO909; clear HO913; clear HB; have HO899 := n0_; have HO902 := n1_; have HO906 := n2_; have HO909 := n3_; have HO913 := n4_; have HO917 := n5_; have HB := n6_; clear n0_ n1_ n2_ n3_ n4_ n5_ n6_; (try clear hb); (try clear hb2); (try clear hk); (try clear hi); (try clear ho0); obtain ⟨Ao47, co47, eo47⟩ := Kd.S_slice HO917.out; subst eo47) | ((with_reducible refine gate_callee (f := 44) rfl ?_); refine goesL_ (some 45) rfl rfl Try.func44 (by kernel_rfl) rfl #[.slice Ao42 t907.length co42, .slice Ao47 t915.length co47] rfl (by (try simp only [List.map_toArray, List.map_cons, List.map_nil]); first | done | rfl | (simp only [List.length_drop, List.length_take]; rfl)) ?_; (with_reducible refine (laws_eqIntSS.calls k _ _ t907 _ _ t915 false _ ?side1 ?side2 ?side3 ?side4 A18.out).mono ?_); (case side1 => repeat (first | exact (Kd.S_reads' HO909.out).2.2 | (with_reducible refine Kd.C_alloc ?_ _) | (with_reducible refine Kd.C_drewN ?_ _) | (with_reducible refine Kd.C_drew ?_))); (case side2 => exact (Kd.S_reads' HO909.out).2.1); (case side3 => repeat (first | exact (Kd.S_reads' HO917.out).2.2 | (with_reducible refine Kd.C_alloc ?_ _) | (with_reducible refine Kd.C_drewN ?_ _) | (with_reducible refine Kd.C_drew ?_))); (case side4 => exact (Kd.S_reads' HO917.out).2.1); rintro e w' ⟨rfl, ⟨nd, rfl⟩⟩; refine ⟨_, rfl, ?_⟩))
            go_ret
            exact ⟨by first | rfl | (simp [errW_none, errW_some] <;> rfl) | (simp [*, errW_none, errW_some] <;> rfl), by repeat (first | (with_reducible first | exact HB.out | apply below_alloc | apply pw_below_drewN | apply below_drew1) | exact HB.out)⟩
        · replace c16 := Bool.eq_false_iff.mpr c16
          subst c16
          have H1 : (some false) = some r := by rw [if_neg (show ¬ (false = true) by decide)] at H; exact H
          clear H
          have H := H1
          clear H1
          obtain rfl := Option.some.inj H
          go_enter Try.func16, Try.ntmps16
          go_wp2_with (first | ((with_reducible refine gate_callee (f := 40) rfl ?_); refine goesL_ (some 17) rfl rfl Try.func40 (by kernel_rfl) rfl #[.slice A1 l1.length c1, .int .i64 1048576] rfl (by (try simp only [List.map_toArray, List.map_cons, List.map_nil]); first | done | rfl | (simp only [List.length_drop, List.length_take]; rfl)) ?_; (with_reducible refine (laws_szIntSS.calls k _ _ l1 1048576 t896 _ ?side1 ?side2 A5.out).mono ?_); (case side1 => repeat (first | exact HR1.out | (with_reducible refine Kd.C_alloc ?_ _) | (with_reducible refine Kd.C_drewN ?_ _) | (with_reducible refine Kd.C_drew ?_))); (case side2 => exact HC1.out); rintro e w' ⟨rfl, ⟨nd, rfl⟩⟩; refine ⟨_, rfl, ?_⟩) | ((with_reducible refine gate_callee (f := 26) rfl ?_); refine goesL_ (some 21) rfl rfl Try.func26 (by kernel_rfl) rfl #[.slice A0 l0.length c0] rfl (by (try simp only [List.map_toArray, List.map_cons, List.map_nil]); first | done | rfl | (simp only [List.length_drop, List.length_take]; rfl)) ?_; (with_reducible refine (laws_toIntS.calls k _ _ l0 t897 _ ?side1 ?side2 A7.out).mono ?_); (case side1 => repeat (first | exact HR0.out | (with_reducible refine Kd.C_alloc ?_ _) | (with_reducible refine Kd.C_drewN ?_ _) | (with_reducible refine Kd.C_drew ?_))); (case side2 => exact HC0.out); rintro e w48 ⟨v898, rfl, ho0, hb⟩; refine ⟨_, rfl, ?_⟩; have n0_ := Aside0.mk (Kd.R_lower ho0 (below_size (by repeat (first | (with_reducible first | exact HB.out | apply below_alloc | apply pw_below_drewN | apply below_drew1) | exact HB.out)))); have n1_ := Aside0.mk (below_step (by repeat (first | (with_reducible first | exact HB.out | apply below_alloc | apply pw_below_drewN | apply below_drew1) | exact HB.out)) hb); clear HB; have HO899 := n0_; have HB := n1_; clear n0_ n1_; (try clear hb); (try clear hb2); (try clear hk); (try clear hi); (try clear ho0)) | ((with_reducible refine gate_callee (f := 42) rfl ?_); refine goesL_ (some 23) rfl rfl Try.func42 (by kernel_rfl) rfl #[.slice A1 l1.length c1] rfl (by (try simp only [List.map_toArray, List.map_cons, List.map_nil]); first | done | rfl | (simp only [List.length_drop, List.length_take]; rfl)) ?_; (with_reducible refine (laws_toIntSS.calls k _ _ l1 t900 _ ?side1 ?side2 A8.out).mono ?_); (case side1 => repeat (first | exact (Kd.C_below HR1.out HB.out) | (with_reducible refine Kd.C_alloc ?_ _) | (with_reducible refine Kd.C_drewN ?_ _) | (with_reducible refine Kd.C_drew ?_))); (case side2 => exact HC1.out); rintro e w49 ⟨v901, rfl, ho0, hb⟩; refine ⟨_, rfl, ?_⟩; have n0_ := Aside0.mk (Kd.R_below (by (with_reducible repeat (first | apply Kd.R_alloc | apply Kd.R_drewN | apply Kd.R_drew)); exact HO899.out) hb); have n1_ := Aside0.mk (Kd.S_lower (Kd.S_new' ho0 (Kd.R_lt (by (with_reducible repeat (first | apply Kd.R_alloc | apply Kd.R_drewN | apply Kd.R_drew)); exact HO899.out))) (below_size (by repeat (first | (with_reducible first | exact HB.out | apply below_alloc | apply pw_below_drewN | apply below_drew1) | exact HB.out)))); have n2_ := Aside0.mk (below_step (by repeat (first | (with_reducible first | exact HB.out | apply below_alloc | apply pw_below_drewN | apply below_drew1) | exact HB.out)) hb); clear HO899; clear HB; have HO899 := n0_; have HO902 := n1_; have HB := n2_; clear n0_ n1_ n2_; (try clear hb); (try clear hb2); (try clear hk); (try clear hi); (try clear ho0); obtain ⟨Ao50, co50, eo50⟩ := Kd.R_slice HO899.out; subst eo50; obtain ⟨Ao51, co51, eo51⟩ := Kd.S_slice HO902.out; subst eo51) | ((with_reducible refine gate_callee (f := 51) rfl ?_); refine goesL_ (some 25) rfl rfl Try.func51 (by kernel_rfl) rfl #[.slice Ao50 t897.length co50, .slice Ao51 t900.length co51, .int .i64 a2] rfl (by (try simp only [List.map_toArray, List.map_cons, List.map_nil]); first | done | rfl | (simp only [List.length_drop, List.length_take]; rfl)) ?_; (with_reducible refine (spec_MakespanBound.calls k _ _ t897 _ _ t900 a2 t903 _ ?side1 ?side2 ?side3 ?side4 A9.out).mono ?_); (case side1 => repeat (first | exact (Kd.R_reads' HO899.out).2.2 | (with_reducible refine Kd.C_alloc ?_ _) | (with_reducible refine Kd.C_drewN ?_ _) | (with_reducible refine Kd.C_drew ?_))); (case side2 => exact (Kd.R_reads' HO899.out).2.1); (case side3 => repeat (first | exact (Kd.S_reads' HO902.out).2.2 | (with_reducible refine Kd.C_alloc ?_ _) | (with_reducible refine Kd.C_drewN ?_ _) | (with_reducible refine Kd.C_drew ?_))); (case side4 => exact (Kd.S_reads' HO902.out).2.1); rintro e w52 ⟨rfl, hb⟩; refine ⟨_, rfl, ?_⟩; have n0_ := Aside0.mk (Kd.R_below (by (with_reducible repeat (first | apply Kd.R_alloc | apply Kd.R_drewN | apply Kd.R_drew)); exact HO899.out) hb); have n1_ := Aside0.mk (Kd.S_below (by (with_reducible repeat (first | apply Kd.S_alloc | apply Kd.S_drewN | apply Kd.S_drew)); exact HO902.out) hb); have n2_ := Aside0.mk (below_step (by repeat (first | (with_reducible first | exact HB.out | apply below_alloc | apply pw_below_drewN | apply below_drew1) | exact HB.out)) hb); clear HO899; clear HO902; clear HB; have HO899 := n0_; have HO902 := n1_; have HB := n2_; clear n0_ n1_ n2_; (try clear hb); (try clear hb2); (try clear hk); (try clear hi)) | ((with_reducible refine gate_callee (f := 26) rfl ?_); refine goesL_ (some 27) rfl rfl Try.func26 (by kernel_rfl) rfl #[.slice A0 l0.length c0] rfl (by (try simp only [List.map_toArray, List.map_cons, List.map_nil]); first | done | rfl | (simp only [List.length_drop, List.length_take]; rfl)) ?_; (with_reducible refine (laws_toIntS.calls k _ _ l0 t904 _ ?side1 ?side2 A10.out).mono ?_); (case side1 => repeat (first | exact (Kd.C_below HR0.out HB.out) | (with_reducible refine Kd.C_alloc ?_ _) | (with_reducible refine Kd.C_drewN ?_ _) | (with_reducible refine Kd.C_drew ?_))); (case side2 => exact HC0.out); rintro e w53 ⟨v905, rfl, ho0, hb⟩; refine ⟨_, rfl, ?_⟩; have n0_ := Aside0.mk (Kd.R_elder' (by (with_reducible repeat (first | apply Kd.R_alloc | apply Kd.R_drewN | apply Kd.R_drew)); exact HO899.out) (Kd.R_base ho0) hb); have n1_ := Aside0.mk (Kd.S_elder' (by (with_reducible repeat (first | apply Kd.S_alloc | apply Kd.S_drewN | apply Kd.S_drew)); exact HO902.out) (Kd.R_base ho0) hb); have n2_ := Aside0.mk (Kd.R_lower (Kd.R_new' ho0 (Kd.R_lt (by (with_reducible repeat (first | apply Kd.R_alloc | apply Kd.R_drewN | apply Kd.R_drew)); exact HO899.out))) (below_size (by repeat (first | (with_reducible first | exact HB.out | apply below_alloc | apply pw_below_drewN | apply below_drew1) | exact HB.out)))); have n3_ := Aside0.mk (below_step (by repeat (first | (with_reducible first | exact HB.out | apply below_alloc | apply pw_below_drewN | apply below_drew1) | exact HB.out)) hb); clear HO899; clear HO902; clear HB; have HO899 := n0_; have HO902 := n1_; have HO906 := n2_; have HB := n3_; clear n0_ n1_ n2_ n3_; (try clear hb); (try clear hb2); (try clear hk); (try clear hi); (try clear ho0)) | ((with_reducible refine gate_callee (f := 42) rfl ?_); refine goesL_ (some 29) rfl rfl Try.func42 (by kernel_rfl) rfl #[.slice A1 l1.length c1] rfl (by (try simp only [List.map_toArray, List.map_cons, List.map_nil]); first | done | rfl | (simp only [List.length_drop, List.length_take]; rfl)) ?_; (with_reducible refine (laws_toIntSS.calls k _ _ l1 t907 _ ?side1 ?side2 A11.out).mono ?_); (case side1 => repeat (first | exact (Kd.C_below HR1.out HB.out) | (with_reducible refine Kd.C_alloc ?_ _) | (with_reducible refine Kd.C_drewN ?_ _) | (with_reducible refine Kd.C_drew ?_))); (case side2 => exact HC1.out); rintro e w54 ⟨v908, rfl, ho0, hb⟩; refine ⟨_, rfl, ?_⟩; have n0_ := Aside0.mk (Kd.R_below (by (with_reducible repeat (first | apply Kd.R_alloc | apply Kd.R_drewN | apply Kd.R_drew)); exact HO899.out) hb); have n1_ := Aside0.mk (Kd.S_elder' (by (with_reducible repeat (first | apply Kd.S_alloc | apply Kd.S_drewN | apply Kd.S_drew)); exact HO902.out) (Kd.S_base ho0) hb); have n2_ := Aside0.mk (Kd.R_below (by (with_reducible repeat (first | apply Kd.R_alloc | apply Kd.R_drewN | apply Kd.R_drew)); exact HO906.out) hb); have n3_ := Aside0.mk (Kd.S_lower (Kd.S_new' (Kd.S_new' (Kd.S_new' ho0 (Kd.R_lt (by (with_reducible repeat (first | apply Kd.R_alloc | apply Kd.R_drewN | apply Kd.R_drew)); exact HO899.out))) (Kd.S_lt (by (with_reducible repeat (first | apply Kd.S_alloc | apply Kd.S_drewN | apply Kd.S_drew)); exact HO902.out))) (Kd.R_lt (by (with_reducible repeat (first | apply Kd.R_alloc | apply Kd.R_drewN | apply Kd.R_drew)); exact HO906.out))) (below_size (by repeat (first | (with_reducible first | exact HB.out | apply below_alloc | apply pw_below_drewN | apply below_drew1) | exact HB.out)))); have n4_ := Aside0.mk (below_step (by repeat (first | (with_reducible first | exact HB.out | apply below_alloc | apply pw_below_drewN | apply below_drew1) | exact HB.out)) hb); clear HO899; clear HO902; clear HO906; clear HB; have HO899 := n0_; have HO902 := n1_; have HO906 := n2_; have HO909 := n3_; have HB := n4_; clear n0_ n1_ n2_ n3_ n4_; (try clear hb); (try clear hb2); (try clear hk); (try clear hi); (try clear ho0); obtain ⟨Ao55, co55, eo55⟩ := Kd.R_slice HO906.out; subst eo55; obtain ⟨Ao56, co56, eo56⟩ := Kd.S_slice HO909.out; subst eo56) | ((with_reducible refine gate_callee (f := 52) rfl ?_); refine goesL_ (some 33) rfl rfl Try.func52 (by kernel_rfl) rfl #[.slice Ao55 t904.length co55, .slice Ao56 t907.length co56, .int .i64 a2] rfl (by (try simp only [List.map_toArray, List.map_cons, List.map_nil]); first | done | rfl | (simp only [List.length_drop, List.length_take]; rfl)) ?_; (with_reducible refine (impl_MakespanBound.calls k _ _ t904 _ _ t907 a2 t910 _ ?side1 ?side2 ?side3 ?side4 A12.out).mono ?_); (case side1 => repeat (first | exact (Kd.R_reads' HO906.out).2.2 | (with_reducible refine Kd.C_alloc ?_ _) | (with_reducible refine Kd.C_drewN ?_ _) | (with_reducible refine Kd.C_drew ?_))); (case side2 => exact (Kd.R_reads' HO906.out).2.1); (case side3 => repeat (first | exact (Kd.S_reads' HO909.out).2.2 | (with_reducible refine Kd.C_alloc ?_ _) | (with_reducible refine Kd.C_drewN ?_ _) | (with_reducible refine Kd.C_drew ?_))); (case side4 => exact (Kd.S_reads' HO909.out).2.1); rintro e w57 ⟨rfl, hb⟩; refine ⟨_, rfl, ?_⟩; have n0_ := Aside0.mk (Kd.R_below (by (with_reducible repeat (first | apply Kd.R_alloc | apply Kd.R_drewN | apply Kd.R_drew)); exact HO899.out) hb); have n1_ := Aside0.mk (Kd.S_below (by (with_reducible repeat (first | apply Kd.S_alloc | apply Kd.S_drewN | apply Kd.S_drew)); exact HO902.out) hb); have n2_ := Aside0.mk (Kd.R_below (by (with_reducible repeat (first | apply Kd.R_alloc | apply Kd.R_drewN | apply Kd.R_drew)); exact HO906.out) hb); have n3_ := Aside0.mk (Kd.S_below (by (with_reducible repeat (first | apply Kd.S_alloc | apply Kd.S_drewN | apply Kd.S_drew)); exact HO909.out) hb); have n4_ := Aside0.mk (below_step (by repeat (first | (with_reducible first | exact HB.out | apply below_alloc | apply pw_below_drewN | apply below_drew1) | exact HB.out)) hb); clear HO899; clear HO902; clear HO906; clear HO909; clear HB; have HO899 := n0_; have HO902 := n1_; have HO906 := n2_; have HO909 := n3_; have HB := n4_; clear n0_ n1_ n2_ n3_ n4_; (try clear hb); (try clear hb2); (try clear hk); (try clear hi)) | ((with_reducible refine gate_callee (f := 26) rfl ?_); refine goesL_ (some 39) rfl rfl Try.func26 (by kernel_rfl) rfl #[.slice A0 l0.length c0] rfl (by (try simp only [List.map_toArray, List.map_cons, List.map_nil]); first | done | rfl | (simp only [List.length_drop, List.length_take]; rfl)) ?_; (with_reducible refine (laws_toIntS.calls k _ _ l0 t911 _ ?side1 ?side2 A14.out).mono ?_); (case side1 => repeat (first | exact (Kd.C_below HR0.out HB.out) | (with_reducible refine Kd.C_alloc ?_ _) | (with_reducible refine Kd.C_drewN ?_ _) | (with_reducible refine Kd.C_drew ?_))); (case side2 => exact HC0.out); rintro e w58 ⟨v912, rfl, ho0, hb⟩; refine ⟨_, rfl, ?_⟩; have n0_ := Aside0.mk (Kd.R_elder' (by (with_reducible repeat (first | apply Kd.R_alloc | apply Kd.R_drewN | apply Kd.R_drew)); exact HO899.out) (Kd.R_base ho0) hb); have n1_ := Aside0.mk (Kd.S_elder' (by (with_reducible repeat (first | apply Kd.S_alloc | apply Kd.S_drewN | apply Kd.S_drew)); exact HO902.out) (Kd.R_base ho0) hb); have n2_ := Aside0.mk (Kd.R_elder' (by (with_reducible repeat (first | apply Kd.R_alloc | apply Kd.R_drewN | apply Kd.R_drew)); exact HO906.out) (Kd.R_base ho0) hb); have n3_ := Aside0.mk (Kd.S_elder' (by (with_reducible repeat (first | apply Kd.S_alloc | apply Kd.S_drewN | apply Kd.S_drew)); exact HO909.out) (Kd.R_base ho0) hb); have n4_ := Aside0.mk (Kd.R_lower (Kd.R_new' (Kd.R_new' ho0 (Kd.R_lt (by (with_reducible repeat (first | apply Kd.R_alloc | apply Kd.R_drewN | apply Kd.R_drew)); exact HO899.out))) (Kd.R_lt (by (with_reducible repeat (first | apply Kd.R_alloc | apply Kd.R_drewN | apply Kd.R_drew)); exact HO906.out))) (below_size (by repeat (first | (with_reducible first | exact HB.out | apply below_alloc | apply pw_below_drewN | apply below_drew1) | exact HB.out)))); have n5_ := Aside0.mk (below_step (by repeat (first | (with_reducible first | exact HB.out | apply below_alloc | apply pw_below_drewN | apply below_drew1) | exact HB.out)) hb); clear HO899; clear HO902; clear HO906; clear HO909; clear HB; have HO899 := n0_; have HO902 := n1_; have HO906 := n2_; have HO909 := n3_; have HO913 := n4_; have HB := n5_; clear n0_ n1_ n2_ n3_ n4_ n5_; (try clear hb); (try clear hb2); (try clear hk); (try clear hi); (try clear ho0); obtain ⟨Ao59, co59, eo59⟩ := Kd.R_slice HO913.out; subst eo59) | ((with_reducible refine gate_callee (f := 28) rfl ?_); refine goesL_ (some 40) rfl rfl Try.func28 (by kernel_rfl) rfl #[.slice Ao55 t904.length co55, .slice Ao59 t911.length co59] rfl (by (try simp only [List.map_toArray, List.map_cons, List.map_nil]); first | done | rfl | (simp only [List.length_drop, List.length_take]; rfl)) ?_; (with_reducible refine (laws_eqIntS.calls k _ _ t904 _ _ t911 false _ ?side1 ?side2 ?side3 ?side4 A15.out).mono ?_); (case side1 => repeat (first | exact (Kd.R_reads' HO906.out).2.2 | (with_reducible refine Kd.C_alloc ?_ _) | (with_reducible refine Kd.C_drewN ?_ _) | (with_reducible refine Kd.C_drew ?_))); (case side2 => exact (Kd.R_reads' HO906.out).2.1); (case side3 => repeat (first | exact (Kd.R_reads' HO913.out).2.2 | (with_reducible refine Kd.C_alloc ?_ _) | (with_reducible refine Kd.C_drewN ?_ _) | (with_reducible refine Kd.C_drew ?_))); (case side4 => exact (Kd.R_reads' HO913.out).2.1); rintro e w' ⟨rfl, ⟨nd, rfl⟩⟩; refine ⟨_, rfl, ?_⟩))
          go_ret
          exact ⟨by first | rfl | (simp [errW_none, errW_some] <;> rfl) | (simp [*, errW_none, errW_some] <;> rfl), by repeat (first | (with_reducible first | exact HB.out | apply below_alloc | apply pw_below_drewN | apply below_drew1) | exact HB.out)⟩
      · rw [if_neg c13] at H
        have c13b0 : (t910 == t903) = false := beq_eq_false_iff_ne.mpr c13
        have c13b1 : (t910 != t903) = true := bne_iff_ne.mpr c13
        obtain rfl := Option.some.inj H
        go_enter Try.func16, Try.ntmps16
        go_wp2_with (first | ((with_reducible refine gate_callee (f := 40) rfl ?_); refine goesL_ (some 17) rfl rfl Try.func40 (by kernel_rfl) rfl #[.slice A1 l1.length c1, .int .i64 1048576] rfl (by (try simp only [List.map_toArray, List.map_cons, List.map_nil]); first | done | rfl | (simp only [List.length_drop, List.length_take]; rfl)) ?_; (with_reducible refine (laws_szIntSS.calls k _ _ l1 1048576 t896 _ ?side1 ?side2 A5.out).mono ?_); (case side1 => repeat (first | exact HR1.out | (with_reducible refine Kd.C_alloc ?_ _) | (with_reducible refine Kd.C_drewN ?_ _) | (with_reducible refine Kd.C_drew ?_))); (case side2 => exact HC1.out); rintro e w' ⟨rfl, ⟨nd, rfl⟩⟩; refine ⟨_, rfl, ?_⟩) | ((with_reducible refine gate_callee (f := 26) rfl ?_); refine goesL_ (some 21) rfl rfl Try.func26 (by kernel_rfl) rfl #[.slice A0 l0.length c0] rfl (by (try simp only [List.map_toArray, List.map_cons, List.map_nil]); first | done | rfl | (simp only [List.length_drop, List.length_take]; rfl)) ?_; (with_reducible refine (laws_toIntS.calls k _ _ l0 t897 _ ?side1 ?side2 A7.out).mono ?_); (case side1 => repeat (first | exact HR0.out | (with_reducible refine Kd.C_alloc ?_ _) | (with_reducible refine Kd.C_drewN ?_ _) | (with_reducible refine Kd.C_drew ?_))); (case side2 => exact HC0.out); rintro e w60 ⟨v898, rfl, ho0, hb⟩; refine ⟨_, rfl, ?_⟩; have n0_ := Aside0.mk (Kd.R_lower ho0 (below_size (by repeat (first | (with_reducible first | exact HB.out | apply below_alloc | apply pw_below_drewN | apply below_drew1) | exact HB.out)))); have n1_ := Aside0.mk (below_step (by repeat (first | (with_reducible first | exact HB.out | apply below_alloc | apply pw_below_drewN | apply below_drew1) | exact HB.out)) hb); clear HB; have HO899 := n0_; have HB := n1_; clear n0_ n1_; (try clear hb); (try clear hb2); (try clear hk); (try clear hi); (try clear ho0)) | ((with_reducible refine gate_callee (f := 42) rfl ?_); refine goesL_ (some 23) rfl rfl Try.func42 (by kernel_rfl) rfl #[.slice A1 l1.length c1] rfl (by (try simp only [List.map_toArray, List.map_cons, List.map_nil]); first | done | rfl | (simp only [List.length_drop, List.length_take]; rfl)) ?_; (with_reducible refine (laws_toIntSS.calls k _ _ l1 t900 _ ?side1 ?side2 A8.out).mono ?_); (case side1 => repeat (first | exact (Kd.C_below HR1.out HB.out) | (with_reducible refine Kd.C_alloc ?_ _) | (with_reducible refine Kd.C_drewN ?_ _) | (with_reducible refine Kd.C_drew ?_))); (case side2 => exact HC1.out); rintro e w61 ⟨v901, rfl, ho0, hb⟩; refine ⟨_, rfl, ?_⟩; have n0_ := Aside0.mk (Kd.R_below (by (with_reducible repeat (first | apply Kd.R_alloc | apply Kd.R_drewN | apply Kd.R_drew)); exact HO899.out) hb); have n1_ := Aside0.mk (Kd.S_lower (Kd.S_new' ho0 (Kd.R_lt (by (with_reducible repeat (first | apply Kd.R_alloc | apply Kd.R_drewN | apply Kd.R_drew)); exact HO899.out))) (below_size (by repeat (first | (with_reducible first | exact HB.out | apply below_alloc | apply pw_below_drewN | apply below_drew1) | exact HB.out)))); have n2_ := Aside0.mk (below_step (by repeat (first | (with_reducible first | exact HB.out | apply below_alloc | apply pw_below_drewN | apply below_drew1) | exact HB.out)) hb); clear HO899; clear HB; have HO899 := n0_; have HO902 := n1_; have HB := n2_; clear n0_ n1_ n2_; (try clear hb); (try clear hb2); (try clear hk); (try clear hi); (try clear ho0); obtain ⟨Ao62, co62, eo62⟩ := Kd.R_slice HO899.out; subst eo62; obtain ⟨Ao63, co63, eo63⟩ := Kd.S_slice HO902.out; subst eo63) | ((with_reducible refine gate_callee (f := 51) rfl ?_); refine goesL_ (some 25) rfl rfl Try.func51 (by kernel_rfl) rfl #[.slice Ao62 t897.length co62, .slice Ao63 t900.length co63, .int .i64 a2] rfl (by (try simp only [List.map_toArray, List.map_cons, List.map_nil]); first | done | rfl | (simp only [List.length_drop, List.length_take]; rfl)) ?_; (with_reducible refine (spec_MakespanBound.calls k _ _ t897 _ _ t900 a2 t903 _ ?side1 ?side2 ?side3 ?side4 A9.out).mono ?_); (case side1 => repeat (first | exact (Kd.R_reads' HO899.out).2.2 | (with_reducible refine Kd.C_alloc ?_ _) | (with_reducible refine Kd.C_drewN ?_ _) | (with_reducible refine Kd.C_drew ?_))); (case side2 => exact (Kd.R_reads' HO899.out).2.1); (case side3 => repeat (first | exact (Kd.S_reads' HO902.out).2.2 | (with_reducible refine Kd.C_alloc ?_ _) | (with_reducible refine Kd.C_drewN ?_ _) | (with_reducible refine Kd.C_drew ?_))); (case side4 => exact (Kd.S_reads' HO902.out).2.1); rintro e w64 ⟨rfl, hb⟩; refine ⟨_, rfl, ?_⟩; have n0_ := Aside0.mk (Kd.R_below (by (with_reducible repeat (first | apply Kd.R_alloc | apply Kd.R_drewN | apply Kd.R_drew)); exact HO899.out) hb); have n1_ := Aside0.mk (Kd.S_below (by (with_reducible repeat (first | apply Kd.S_alloc | apply Kd.S_drewN | apply Kd.S_drew)); exact HO902.out) hb); have n2_ := Aside0.mk (below_step (by repeat (first | (with_reducible first | exact HB.out | apply below_alloc | apply pw_below_drewN | apply below_drew1) | exact HB.out)) hb); clear HO899; clear HO902; clear HB; have HO899 := n0_; have HO902 := n1_; have HB := n2_; clear n0_ n1_ n2_; (try clear hb); (try clear hb2); (try clear hk); (try clear hi)) | ((with_reducible refine gate_callee (f := 26) rfl ?_); refine goesL_ (some 27) rfl rfl Try.func26 (by kernel_rfl) rfl #[.slice A0 l0.length c0] rfl (by (try simp only [List.map_toArray, List.map_cons, List.map_nil]); first | done | rfl | (simp only [List.length_drop, List.length_take]; rfl)) ?_; (with_reducible refine (laws_toIntS.calls k _ _ l0 t904 _ ?side1 ?side2 A10.out).mono ?_); (case side1 => repeat (first | exact (Kd.C_below HR0.out HB.out) | (with_reducible refine Kd.C_alloc ?_ _) | (with_reducible refine Kd.C_drewN ?_ _) | (with_reducible refine Kd.C_drew ?_))); (case side2 => exact HC0.out); rintro e w65 ⟨v905, rfl, ho0, hb⟩; refine ⟨_, rfl, ?_⟩; have n0_ := Aside0.mk (Kd.R_elder' (by (with_reducible repeat (first | apply Kd.R_alloc | apply Kd.R_drewN | apply Kd.R_drew)); exact HO899.out) (Kd.R_base ho0) hb); have n1_ := Aside0.mk (Kd.S_elder' (by (with_reducible repeat (first | apply Kd.S_alloc | apply Kd.S_drewN | apply Kd.S_drew)); exact HO902.out) (Kd.R_base ho0) hb); have n2_ := Aside0.mk (Kd.R_lower (Kd.R_new' ho0 (Kd.R_lt (by (with_reducible repeat (first | apply Kd.R_alloc | apply Kd.R_drewN | apply Kd.R_drew)); exact HO899.out))) (below_size (by repeat (first | (with_reducible first | exact HB.out | apply below_alloc | apply pw_below_drewN | apply below_drew1) | exact HB.out)))); have n3_ := Aside0.mk (below_step (by repeat (first | (with_reducible first | exact HB.out | apply below_alloc | apply pw_below_drewN | apply below_drew1) | exact HB.out)) hb); clear HO899; clear HO902; clear HB; have HO899 := n0_; have HO902 := n1_; have HO906 := n2_; have HB := n3_; clear n0_ n1_ n2_ n3_; (try clear hb); (try clear hb2); (try clear hk); (try clear hi); (try clear ho0)) | ((with_reducible refine gate_callee (f := 42) rfl ?_); refine goesL_ (some 29) rfl rfl Try.func42 (by kernel_rfl) rfl #[.slice A1 l1.length c1] rfl (by (try simp only [List.map_toArray, List.map_cons, List.map_nil]); first | done | rfl | (simp only [List.length_drop, List.length_take]; rfl)) ?_; (with_reducible refine (laws_toIntSS.calls k _ _ l1 t907 _ ?side1 ?side2 A11.out).mono ?_); (case side1 => repeat (first | exact (Kd.C_below HR1.out HB.out) | (with_reducible refine Kd.C_alloc ?_ _) | (with_reducible refine Kd.C_drewN ?_ _) | (with_reducible refine Kd.C_drew ?_))); (case side2 => exact HC1.out); rintro e w66 ⟨v908, rfl, ho0, hb⟩; refine ⟨_, rfl, ?_⟩; have n0_ := Aside0.mk (Kd.R_below (by (with_reducible repeat (first | apply Kd.R_alloc | apply Kd.R_drewN | apply Kd.R_drew)); exact HO899.out) hb); have n1_ := Aside0.mk (Kd.S_elder' (by (with_reducible repeat (first | apply Kd.S_alloc | apply Kd.S_drewN | apply Kd.S_drew)); exact HO902.out) (Kd.S_base ho0) hb); have n2_ := Aside0.mk (Kd.R_below (by (with_reducible repeat (first | apply Kd.R_alloc | apply Kd.R_drewN | apply Kd.R_drew)); exact HO906.out) hb); have n3_ := Aside0.mk (Kd.S_lower (Kd.S_new' (Kd.S_new' (Kd.S_new' ho0 (Kd.R_lt (by (with_reducible repeat (first | apply Kd.R_alloc | apply Kd.R_drewN | apply Kd.R_drew)); exact HO899.out))) (Kd.S_lt (by (with_reducible repeat (first | apply Kd.S_alloc | apply Kd.S_drewN | apply Kd.S_drew)); exact HO902.out))) (Kd.R_lt (by (with_reducible repeat (first | apply Kd.R_alloc | apply Kd.R_drewN | apply Kd.R_drew)); exact HO906.out))) (below_size (by repeat (first | (with_reducible first | exact HB.out | apply below_alloc | apply pw_below_drewN | apply below_drew1) | exact HB.out)))); have n4_ := Aside0.mk (below_step (by repeat (first | (with_reducible first | exact HB.out | apply below_alloc | apply pw_below_drewN | apply below_drew1) | exact HB.out)) hb); clear HO899; clear HO902; clear HO906; clear HB; have HO899 := n0_; have HO902 := n1_; have HO906 := n2_; have HO909 := n3_; have HB := n4_; clear n0_ n1_ n2_ n3_ n4_; (try clear hb); (try clear hb2); (try clear hk); (try clear hi); (try clear ho0); obtain ⟨Ao67, co67, eo67⟩ := Kd.R_slice HO906.out; subst eo67; obtain ⟨Ao68, co68, eo68⟩ := Kd.S_slice HO909.out; subst eo68) | ((with_reducible refine gate_callee (f := 52) rfl ?_); refine goesL_ (some 33) rfl rfl Try.func52 (by kernel_rfl) rfl #[.slice Ao67 t904.length co67, .slice Ao68 t907.length co68, .int .i64 a2] rfl (by (try simp only [List.map_toArray, List.map_cons, List.map_nil]); first | done | rfl | (simp only [List.length_drop, List.length_take]; rfl)) ?_; (with_reducible refine (impl_MakespanBound.calls k _ _ t904 _ _ t907 a2 t910 _ ?side1 ?side2 ?side3 ?side4 A12.out).mono ?_); (case side1 => repeat (first | exact (Kd.R_reads' HO906.out).2.2 | (with_reducible refine Kd.C_alloc ?_ _) | (with_reducible refine Kd.C_drewN ?_ _) | (with_reducible refine Kd.C_drew ?_))); (case side2 => exact (Kd.R_reads' HO906.out).2.1); (case side3 => repeat (first | exact (Kd.S_reads' HO909.out).2.2 | (with_reducible refine Kd.C_alloc ?_ _) | (with_reducible refine Kd.C_drewN ?_ _) | (with_reducible refine Kd.C_drew ?_))); (case side4 => exact (Kd.S_reads' HO909.out).2.1); rintro e w69 ⟨rfl, hb⟩; refine ⟨_, rfl, ?_⟩; have n0_ := Aside0.mk (Kd.R_below (by (with_reducible repeat (first | apply Kd.R_alloc | apply Kd.R_drewN | apply Kd.R_drew)); exact HO899.out) hb); have n1_ := Aside0.mk (Kd.S_below (by (with_reducible repeat (first | apply Kd.S_alloc | apply Kd.S_drewN | apply Kd.S_drew)); exact HO902.out) hb); have n2_ := Aside0.mk (Kd.R_below (by (with_reducible repeat (first | apply Kd.R_alloc | apply Kd.R_drewN | apply Kd.R_drew)); exact HO906.out) hb); have n3_ := Aside0.mk (Kd.S_below (by (with_reducible repeat (first | apply Kd.S_alloc | apply Kd.S_drewN | apply Kd.S_drew)); exact HO909.out) hb); have n4_ := Aside0.mk (below_step (by repeat (first | (with_reducible first | exact HB.out | apply below_alloc | apply pw_below_drewN | apply below_drew1) | exact HB.out)) hb); clear HO899; clear HO902; clear HO906; clear HO909; clear HB; have HO899 := n0_; have HO902 := n1_; have HO906 := n2_; have HO909 := n3_; have HB := n4_; clear n0_ n1_ n2_ n3_ n4_; (try clear hb); (try clear hb2); (try clear hk); (try clear hi)))
        go_ret
        exact ⟨by first | rfl | (simp [errW_none, errW_some] <;> rfl) | (simp [*, errW_none, errW_some] <;> rfl), by repeat (first | (with_reducible first | exact HB.out | apply below_alloc | apply pw_below_drewN | apply below_drew1) | exact HB.out)⟩

/-- The one pure statement of laws_FnExactMakespanBound. -/
def laws_FnExactMakespanBound.Pure : Prop := ∀ (l0 : List Int) (l1 : List (List Int)) (a2 : Int), l0.length * 8 ≤ 140737488351232 → (l0.length ≤ maxLen ∧ ∀ y0 ∈ l0, (Lit.int .i64 y0).wf = true) → l1.length * 24 ≤ 140737488351232 → (l1.length ≤ maxLen ∧ ∀ y0 ∈ l1, y0.length ≤ maxLen ∧ ∀ y1 ∈ y0, (Lit.int .i64 y1).wf = true) → (Lit.int .i64 a2).wf = true → ∃ k, laws_FnExactMakespanBound.f k l0 l1 a2 = some true

end Go.Proofs.Ytkmpcmhkfnoeiaa.P
/- Small laws that all proofs of this seat use. No condition. -/
namespace Go.Proofs.Ytkmpcmhkfnoeiaa.Base
open Go.RowKit Go.Proofs.Ytkmpcmhkfnoeiaa.P Go.Proofs.YtkmpcmhkfnoeiaaW.PrintWords Go.Proofs.YtkmpcmhkfnoeiaaW.PrintLast Go.Proofs.YtkmpcmhkfnoeiaaW.PrintMore
theorem w64 {x : Int} (h0 : -9223372036854775808 ≤ x) (h1 : x < 9223372036854775808) : wrap64 x = x := by unfold wrap64; omega
theorem mul_bd {a b A B : Int} (ha : 0 ≤ a) (hA : a ≤ A) (hb : 0 ≤ b) (hB : b ≤ B) : 0 ≤ a * b ∧ a * b ≤ A * B :=
  ⟨Int.mul_nonneg ha hb, Int.mul_le_mul hA hB hb (by omega)⟩
theorem in_f (a b c : Int) : impl_in.f a b c = some (decide (b ≤ a ∧ a ≤ c)) := by
  unfold impl_in.f
  by_cases h : a ≥ b
  · rw [if_pos h]; simp [show b ≤ a from h]
  · rw [if_neg h]; simp [show ¬ b ≤ a from h]
theorem l1In_f (a b c : Int) : spec_l1In.f a b c = some (decide (b ≤ a ∧ a ≤ c)) := by
  unfold spec_l1In.f
  by_cases h : a ≥ b
  · rw [if_pos h]; simp [show b ≤ a from h]
  · rw [if_neg h]; simp [show ¬ b ≤ a from h]
theorem and_two (p q : Prop) [Decidable p] [Decidable q] : (if decide p = true then some (decide q) else some false) = some (decide (p ∧ q)) := by
  by_cases hp : p <;> by_cases hq : q <;> simp [hp, hq]
theorem and_bind {α : Type} (p : Prop) [Decidable p] (x y : Option α) : (some (decide p)).bind (fun t => if t = true then x else y) = if p then x else y := by
  by_cases hp : p <;> simp [hp]
theorem mn_min (a b : Int) : mn a b = min a b := by unfold mn; omega
theorem mx_max (a b : Int) : mx a b = max a b := by unfold mx; omega
theorem tdiv_pos {a b : Int} (h : 0 ≤ a) : Int.tdiv a b = a / b := Int.tdiv_eq_ediv_of_nonneg h
theorem tmod_pos {a b : Int} (h : 0 ≤ a) : Int.tmod a b = a % b := Int.tmod_eq_emod_of_nonneg h
theorem wf64 {x : Int} (h : (Lit.int .i64 x).wf = true) : -9223372036854775808 ≤ x ∧ x < 9223372036854775808 := by
  simp [Lit.wf, IntKind.min, IntKind.max, IntKind.bits, IntKind.signed] at h
  omega
end Go.Proofs.Ytkmpcmhkfnoeiaa.Base
/- Runs that end, whatever the number of rounds from some number on; loops over a row. No condition. -/
namespace Go.Proofs.Ytkmpcmhkfnoeiaa.Gen
open Go.RowKit Go.Proofs.YtkmpcmhkfnoeiaaW.PrintWords Go.Proofs.YtkmpcmhkfnoeiaaW.PrintLast

/-- From some number of rounds on the run ends in one answer, and the answer is good. -/
def Tot {α : Type} (g : Nat → Option α) (P : α → Prop) : Prop := ∃ r, Ev g r ∧ P r
theorem Tot.ret {α : Type} {P : α → Prop} (a : α) (h : P a) : Tot (fun _ => some a) P := ⟨a, Ev.now a, h⟩
theorem Tot.of_eq {α : Type} {P : α → Prop} {g : Nat → Option α} {a : α} (e : ∀ k, g k = some a) (h : P a) : Tot g P := ⟨a, ⟨0, fun k _ => e k⟩, h⟩
theorem Tot.mono {α : Type} {P Q : α → Prop} {g : Nat → Option α} (h : Tot g P) (hpq : ∀ a, P a → Q a) : Tot g Q := by
  obtain ⟨r, h1, h2⟩ := h
  exact ⟨r, h1, hpq r h2⟩
theorem Tot.congr {α : Type} {P : α → Prop} {g f : Nat → Option α} (e : ∀ k, g k = f k) (h : Tot f P) : Tot g P := by
  have : g = f := funext e
  rw [this]; exact h
theorem Tot.step {α : Type} {P : α → Prop} {g f : Nat → Option α} (e : ∀ k, g (k + 1) = f k) (h : Tot f P) : Tot g P := by
  obtain ⟨r, h1, h2⟩ := h
  exact ⟨r, Ev.step e h1, h2⟩
theorem Tot.bind {α β : Type} {P : α → Prop} {Q : β → Prop} {g : Nat → Option α} {f : Nat → α → Option β} (h : Tot g P) (hf : ∀ a, P a → Tot (fun k => f k a) Q) : Tot (fun k => (g k).bind (f k)) Q := by
  obtain ⟨r, h1, h2⟩ := h
  obtain ⟨q, h3, h4⟩ := hf r h2
  exact ⟨q, Ev.bind h1 h3, h4⟩
/-- A call without rounds. -/
theorem Tot.bind0 {α β : Type} {Q : β → Prop} {g : Option α} {f : Nat → α → Option β} {a : α} (h : g = some a) (hf : Tot (fun k => f k a) Q) : Tot (fun k => g.bind (f k)) Q := by
  subst h; exact hf
theorem Tot.yes {α : Type} {P : α → Prop} {c : Prop} [Decidable c] {g f : Nat → Option α} (hc : c) (h : Tot g P) : Tot (fun k => if c then g k else f k) P := by
  simp only [if_pos hc]; exact h
theorem Tot.no {α : Type} {P : α → Prop} {c : Prop} [Decidable c] {g f : Nat → Option α} (hc : ¬ c) (h : Tot f P) : Tot (fun k => if c then g k else f k) P := by
  simp only [if_neg hc]; exact h
theorem Tot.ite {α : Type} {P : α → Prop} {c : Prop} [Decidable c] {g f : Nat → Option α} (h1 : c → Tot g P) (h2 : ¬ c → Tot f P) : Tot (fun k => if c then g k else f k) P := by
  by_cases hc : c
  · exact Tot.yes hc (h1 hc)
  · exact Tot.no hc (h2 hc)
theorem Tot.rounds {g : Nat → Option Bool} (h : Tot g (fun r => r = true)) : ∃ k, g k = some true := by
  obtain ⟨r, h1, rfl⟩ := h
  exact h1.rounds
theorem Tot.rounds0 {g : Option Bool} (h : Tot (fun _ => g) (fun r => r = true)) : g = some true := by
  obtain ⟨k, hk⟩ := h.rounds
  exact hk
/-- What a run answers, and how it was found. -/
theorem Tot.val {α : Type} {g : Nat → Option α} {a : α} (h : Ev g a) : Tot g (fun r => r = a) := ⟨a, h, rfl⟩
theorem Tot.ev {α : Type} {g : Nat → Option α} {a : α} (h : Tot g (fun r => r = a)) : Ev g a := by
  obtain ⟨r, h1, rfl⟩ := h
  exact h1
/-- A loop with a counter: 'Inv i s' at the head of round i, n rounds. -/
theorem Tot.loop {σ ρ : Type} {P : ρ → Prop} (F : Nat → Nat → σ → Option ρ) (n : Nat) (Inv : Nat → σ → Prop)
    (hstep : ∀ i s, i < n → Inv i s → (∀ s', Inv (i + 1) s' → Tot (fun k => F k (i + 1) s') P) → Tot (fun k => F k i s) P)
    (hend : ∀ s, Inv n s → Tot (fun k => F k n s) P) : ∀ i s, i ≤ n → Inv i s → Tot (fun k => F k i s) P := by
  have key : ∀ d i s, i + d = n → Inv i s → Tot (fun k => F k i s) P := by
    intro d
    induction d with
    | zero => intro i s hi h; obtain rfl : i = n := by omega
              exact hend s h
    | succ d ih => intro i s hi h; exact hstep i s (by omega) h (fun s' hs' => ih (i + 1) s' (by omega) hs')
  intro i s hi h
  exact key (n - i) i s (by omega) h
/-- A loop with a measure. -/
theorem Tot.meas {σ ρ : Type} {P : ρ → Prop} (F : Nat → σ → Option ρ) (Inv : σ → Prop) (m : σ → Nat)
    (hstep : ∀ s, Inv s → (∀ s', Inv s' → m s' < m s → Tot (fun k => F k s') P) → Tot (fun k => F k s) P) : ∀ s, Inv s → Tot (fun k => F k s) P := by
  have key : ∀ d s, m s < d → Inv s → Tot (fun k => F k s) P := by
    intro d
    induction d with
    | zero => intro s hd; omega
    | succ d ih => intro s hd h; exact hstep s h (fun s' hs' hm => ih s' (by omega) hs')
  intro s h
  exact key (m s + 1) s (by omega) h
theorem rdOf_at {α : Type} (d : α) (xs : List α) (i : Nat) (h : i < xs.length) : rdOf d xs (i : Int) = xs[i] := by
  unfold rdOf
  rw [List.getD_eq_getElem?_getD, Int.toNat_natCast, List.getElem?_eq_getElem h]
  rfl
theorem rd_at (xs : List Int) (i : Nat) (h : i < xs.length) : rd xs (i : Int) = xs[i] := by
  unfold rd
  rw [List.getD_eq_getElem?_getD, Int.toNat_natCast, List.getElem?_eq_getElem h]
  rfl
/-- A row that is filled from the left, element by element. -/
theorem fill_step {β : Type} (acc tgt : List β) (i : Nat) (hl : acc.length = tgt.length) (h : acc.take i = tgt.take i) (hi : i < tgt.length) : (acc.set i tgt[i]).take (i + 1) = tgt.take (i + 1) := by
  rw [List.take_succ_eq_append_getElem (by simpa [hl] using hi), List.take_succ_eq_append_getElem hi]
  rw [List.take_set_of_le (Nat.le_refl i), h]
  simp
/-- A copy: 'out[i] = c(a[i])' from 0 on. -/
theorem Tot.copy {β : Type} (F : Nat → List β → Int → Option (List β)) (tgt : List β) (z : β)
    (hstep : ∀ k acc (i : Nat) (h : i < tgt.length), acc.length = tgt.length → F (k + 1) acc (i : Int) = F k (acc.set i tgt[i]) ((i : Int) + 1))
    (hend : ∀ k acc, acc.length = tgt.length → F (k + 1) acc (tgt.length : Int) = some acc) : Tot (fun k => F k (List.replicate tgt.length z) 0) (fun r => r = tgt) := by
  have key : ∀ d (i : Nat) acc, i + d = tgt.length → acc.length = tgt.length → acc.take i = tgt.take i → Tot (fun k => F k acc (i : Int)) (fun r => r = tgt) := by
    intro d
    induction d with
    | zero =>
      intro i acc hi hl ht
      obtain rfl : i = tgt.length := by omega
      refine Tot.step (f := fun _ => some acc) (fun k => hend k acc hl) (Tot.ret _ ?_)
      rw [List.take_length, ← hl, List.take_length] at ht
      exact ht
    | succ d ih =>
      intro i acc hi hl ht
      have hlt : i < tgt.length := by omega
      refine Tot.step (fun k => hstep k acc i hlt hl) ?_
      have := ih (i + 1) (acc.set i tgt[i]) (by omega) (by simpa using hl) (fill_step acc tgt i hl ht hlt)
      simpa using this
  simpa using key tgt.length 0 (List.replicate tgt.length z) (by omega) (by simp) (by simp)
/-- A walk that only looks. -/
theorem Tot.look {ρ : Type} {r : ρ} (F : Nat → Int → Option ρ) (n : Nat) (hstep : ∀ k (i : Nat), i < n → F (k + 1) (i : Int) = F k ((i : Int) + 1)) (hend : ∀ k, F (k + 1) (n : Int) = some r) : Tot (fun k => F k 0) (fun q => q = r) := by
  have key : ∀ d (i : Nat), i + d = n → Tot (fun k => F k (i : Int)) (fun q => q = r) := by
    intro d
    induction d with
    | zero => intro i hi; obtain rfl : i = n := by omega
              exact Tot.step (f := fun _ => some r) (fun k => hend k) (Tot.ret _ rfl)
    | succ d ih => intro i hi; exact Tot.step (fun k => hstep k i (by omega)) (by simpa using ih (i + 1) (by omega))
  simpa using key n 0 (by omega)
/-- 'append' in a loop, element by element. -/
theorem Tot.collect {β : Type} (F : Nat → List β → Int → Option (List β)) (tgt : List β)
    (hstep : ∀ k (i : Nat) (h : i < tgt.length), F (k + 1) (tgt.take i) (i : Int) = F k (tgt.take i ++ [tgt[i]]) ((i : Int) + 1))
    (hend : ∀ k, F (k + 1) tgt (tgt.length : Int) = some tgt) : Tot (fun k => F k [] 0) (fun r => r = tgt) := by
  have key : ∀ d (i : Nat), i + d = tgt.length → Tot (fun k => F k (tgt.take i) (i : Int)) (fun r => r = tgt) := by
    intro d
    induction d with
    | zero =>
      intro i hi
      obtain rfl : i = tgt.length := by omega
      rw [List.take_length]
      exact Tot.step (f := fun _ => some tgt) (fun k => hend k) (Tot.ret _ rfl)
    | succ d ih =>
      intro i hi
      have hlt : i < tgt.length := by omega
      refine Tot.step (fun k => hstep k i hlt) ?_
      rw [← List.take_succ_eq_append_getElem hlt]
      simpa using ih (i + 1) (by omega)
  simpa using key tgt.length 0 (by omega)
end Go.Proofs.Ytkmpcmhkfnoeiaa.Gen
/- Copies of a row of numbers. No condition. -/
namespace Go.Proofs.Ytkmpcmhkfnoeiaa.CopyInt
open Go.RowKit Go.Proofs.Ytkmpcmhkfnoeiaa.P Go.Proofs.Ytkmpcmhkfnoeiaa.Base Go.Proofs.Ytkmpcmhkfnoeiaa.Gen Go.Proofs.YtkmpcmhkfnoeiaaW.PrintWords Go.Proofs.YtkmpcmhkfnoeiaaW.PrintLast
theorem toIntS_tot (l : List Int) (hl : l.length ≤ 1048576) : Tot (fun k => laws_toIntS.f k l) (fun r => r = l) := by
  have h := Tot.copy (fun k acc i => laws_toIntS.l0 k l acc i) l 0 (fun k acc i h ha => by
    simp only [laws_toIntS.l0]
    rw [if_pos (by omega), if_pos (by omega), if_pos (by omega), rd_at _ _ h, w64 (by omega) (by omega), Int.toNat_natCast]) (fun k acc ha => by
    simp only [laws_toIntS.l0]
    rw [if_neg (by omega)])
  refine Tot.congr (fun k => ?_) h
  unfold laws_toIntS.f
  rw [if_pos (by omega), if_pos (by omega), Int.toNat_natCast]
theorem eqIntS_tot (l : List Int) (hl : l.length ≤ 1048576) : Tot (fun k => laws_eqIntS.f k l l) (fun r => r = true) := by
  have h := Tot.look (r := true) (fun k i => laws_eqIntS.l0 k l l i) l.length (fun k i h => by
    simp only [laws_eqIntS.l0]
    rw [if_pos (by omega), if_pos (by omega), if_pos (by omega), if_pos (by first | trivial | rfl), w64 (by omega) (by omega)]) (fun k => by
    simp only [laws_eqIntS.l0]
    rw [if_neg (by omega)])
  refine Tot.congr (fun k => ?_) h
  unfold laws_eqIntS.f
  rw [if_pos rfl]
end Go.Proofs.Ytkmpcmhkfnoeiaa.CopyInt
/- Copies of rows of rows. Condition: the rows are no longer than the statement lets them. -/
namespace Go.Proofs.Ytkmpcmhkfnoeiaa.CopySS
open Go.RowKit Go.Proofs.Ytkmpcmhkfnoeiaa.P Go.Proofs.Ytkmpcmhkfnoeiaa.Base Go.Proofs.Ytkmpcmhkfnoeiaa.Gen Go.Proofs.Ytkmpcmhkfnoeiaa.CopyInt Go.Proofs.YtkmpcmhkfnoeiaaW.PrintWords Go.Proofs.YtkmpcmhkfnoeiaaW.PrintLast
def Small (l : List (List Int)) : Prop := l.length ≤ 1048576 ∧ ∀ e ∈ l, e.length ≤ 1048576
theorem rd5_at (xs : List (List Int)) (i : Nat) (h : i < xs.length) : rd_L5 xs (i : Int) = xs[i] := by
  unfold rd_L5
  rw [List.getD_eq_getElem?_getD, Int.toNat_natCast, List.getElem?_eq_getElem h]
  rfl
theorem toIntSS_tot (l : List (List Int)) (hl : Small l) : Tot (fun k => laws_toIntSS.f k l) (fun r => r = l) := by
  have h1 := hl.1
  have key : ∀ d (i : Nat) (acc : List (List Int)), i + d = l.length → acc.length = l.length → acc.take i = l.take i → Tot (fun k => laws_toIntSS.l0 k l acc (i : Int)) (fun r => r = l) := by
    intro d
    induction d with
    | zero =>
      intro i acc hi hac ht
      obtain rfl : i = l.length := by omega
      refine Tot.step (f := fun _ => some acc) (fun k => ?_) (Tot.ret _ ?_)
      · simp only [laws_toIntSS.l0]
        rw [if_neg (by omega)]
      · rw [List.take_of_length_le (by omega), List.take_of_length_le (by omega)] at ht
        exact ht
    | succ d ih =>
      intro i acc hi hac ht
      have hil : i < l.length := by omega
      refine Tot.step (fun k => by rw [laws_toIntSS.l0]) ?_
      refine Tot.yes (by omega) (Tot.yes (by omega) ?_)
      rw [rd5_at l i hil, w64 (by omega) (by omega)]
      refine Tot.bind (toIntS_tot _ (hl.2 _ (List.getElem_mem hil))) ?_
      rintro _ rfl
      exact Tot.yes (by omega) (ih (i + 1) _ (by omega) (by simpa using hac) (fill_step acc l i hac ht hil))
  have h := key l.length 0 (List.replicate l.length []) (by omega) (by simp) (by simp)
  refine Tot.congr (fun k => ?_) h
  unfold laws_toIntSS.f
  rw [if_pos (by omega), if_pos (by omega), Int.toNat_natCast]
  rfl
theorem eqIntSS_tot (l : List (List Int)) (hl : Small l) : Tot (fun k => laws_eqIntSS.f k l l) (fun r => r = true) := by
  have h1 := hl.1
  have key : ∀ d (i : Nat), i + d = l.length → Tot (fun k => laws_eqIntSS.l0 k l l (i : Int)) (fun r => r = true) := by
    intro d
    induction d with
    | zero =>
      intro i hi
      refine Tot.step (f := fun _ => some true) (fun k => ?_) (Tot.ret _ rfl)
      simp only [laws_eqIntSS.l0]
      rw [if_neg (by omega)]
    | succ d ih =>
      intro i hi
      have hil : i < l.length := by omega
      refine Tot.step (fun k => by rw [laws_eqIntSS.l0]) ?_
      refine Tot.yes (by omega) (Tot.yes (by omega) (Tot.yes (by omega) ?_))
      rw [rd5_at l i hil, w64 (by omega) (by omega)]
      refine Tot.bind (eqIntS_tot _ (hl.2 _ (List.getElem_mem hil))) ?_
      rintro _ rfl
      exact Tot.yes rfl (ih (i + 1) (by omega))
  have h := key l.length 0 (by omega)
  refine Tot.congr (fun k => ?_) h
  unfold laws_eqIntSS.f
  rw [if_pos rfl]
  rfl
/-- What the size tells. -/
theorem szIntSS_tot (l : List (List Int)) (hl : l.length ≤ maxLen) (hr : ∀ e ∈ l, e.length ≤ maxLen) : Tot (fun k => laws_szIntSS.f k l 1048576) (fun r => r < 0 ∨ Small l) := by
  have hm : maxLen ≤ 9223372036854775807 := by decide
  unfold laws_szIntSS.f
  rw [w64 (by omega) (by omega)]
  refine Tot.ite (fun _ => Tot.ret _ (Or.inl (by decide))) (fun h1 => ?_)
  have key : ∀ d (i : Nat) (x : Int), i + d = l.length → 0 ≤ x → x ≤ 1048576 → (∀ j (h : j < l.length), j < i → l[j].length ≤ 1048576) → Tot (fun k => laws_szIntSS.l0 k l x (i : Int)) (fun r => r < 0 ∨ Small l) := by
    intro d
    induction d with
    | zero =>
      intro i x hi hx hx1 ha
      refine Tot.step (f := fun _ => some x) (fun k => ?_) (Tot.ret _ (Or.inr ⟨by omega, ?_⟩))
      · simp only [laws_szIntSS.l0]
        rw [if_neg (by omega)]
      · intro e he
        obtain ⟨j, hj, rfl⟩ := List.mem_iff_getElem.1 he
        exact ha j hj (by omega)
    | succ d ih =>
      intro i x hi hx hx1 ha
      have hil : i < l.length := by omega
      have hlen := hr _ (List.getElem_mem hil)
      refine Tot.step (fun k => by rw [laws_szIntSS.l0]) ?_
      refine Tot.yes (by omega) (Tot.yes (by omega) ?_)
      rw [rd5_at l i hil, w64 (x := (i : Int) + 1) (by omega) (by omega)]
      unfold laws_szIntS.f
      rw [w64 (by omega) (by omega)]
      by_cases hn : x - (l[i].length : Int) < 0
      · rw [if_pos hn]
        exact Tot.bind0 rfl (Tot.yes (by decide) (Tot.ret _ (Or.inl (by decide))))
      · rw [if_neg hn]
        refine Tot.bind0 rfl (Tot.no (by omega) (ih (i + 1) _ (by omega) (by omega) (by omega) ?_))
        intro j hj hji
        rcases Nat.lt_or_ge j i with h | h
        · exact ha j hj h
        · obtain rfl : j = i := by omega
          omega
  exact key l.length 0 _ (by omega) (by omega) (by omega) (fun j _ h => by omega)
end Go.Proofs.Ytkmpcmhkfnoeiaa.CopySS
/- A graph's validity, its volume and its critical path, of the program and of the reference, as plain functions. Condition: the rows are not too long. -/
namespace Go.Proofs.Ytkmpcmhkfnoeiaa.Graph
open Go.RowKit Go.Proofs.Ytkmpcmhkfnoeiaa.P Go.Proofs.Ytkmpcmhkfnoeiaa.Base Go.Proofs.Ytkmpcmhkfnoeiaa.Gen Go.Proofs.YtkmpcmhkfnoeiaaW.PrintWords Go.Proofs.YtkmpcmhkfnoeiaaW.PrintLast
def EdgeOk (m : Int) (e : List Int) : Prop := e.length = 2 ∧ 0 ≤ rd e 0 ∧ rd e 0 < rd e 1 ∧ rd e 1 < m
instance (m : Int) (e : List Int) : Decidable (EdgeOk m e) := by unfold EdgeOk; infer_instance
def CostsOk (c : List Int) : Prop := ∀ x ∈ c, 1 ≤ x ∧ x ≤ 8
instance (c : List Int) : Decidable (CostsOk c) := by unfold CostsOk; infer_instance
def GV (c : List Int) (es : List (List Int)) : Prop := c.length ≤ 8 ∧ es.length ≤ 64 ∧ CostsOk c ∧ ∀ e ∈ es, EdgeOk c.length e
instance (c : List Int) (es : List (List Int)) : Decidable (GV c es) := by unfold GV; infer_instance
theorem rd5_at (xs : List (List Int)) (i : Nat) (h : i < xs.length) : rd_L5 xs (i : Int) = xs[i] := by
  unfold rd_L5
  rw [List.getD_eq_getElem?_getD, Int.toNat_natCast, List.getElem?_eq_getElem h]
  rfl
theorem costs_f (c : List Int) : any_costs.f c = some (decide (¬ CostsOk c)) := by
  unfold any_costs.f
  congr 1
  rw [Bool.eq_iff_iff, List.any_eq_true]
  unfold CostsOk
  simp only [any_costs.bad, decide_eq_true_eq]
  constructor
  · rintro ⟨x, hx, h⟩ hh
    have := hh x hx
    simp at h
    omega
  · intro hh
    refine Classical.byContradiction fun hc => hh fun x hx => ?_
    refine Classical.byContradiction fun h2 => hc ⟨x, hx, ?_⟩
    simp; omega
theorem all_of {α : Type} {P : α → Prop} {l : List α} (h : ∀ i (h : i < l.length), P l[i]) : ∀ x ∈ l, P x := by
  intro x hx
  obtain ⟨i, hi, rfl⟩ := List.mem_iff_getElem.1 hx
  exact h i hi
theorem upto {α : Type} {P : α → Prop} {l : List α} {j : Nat} (hj : j < l.length) (hm : ∀ i (h : i < l.length), i < j → P l[i]) (h : P l[j]) : ∀ i (h : i < l.length), i < j + 1 → P l[i] := by
  intro i hi hij
  rcases Nat.lt_or_ge i j with h' | h'
  · exact hm i hi h'
  · obtain rfl : i = j := by omega
    exact h
theorem impl_gv (c : List Int) (es : List (List Int)) (hc : c.length ≤ 2097152) (he : es.length ≤ 2097152) : Ev (fun k => impl_GraphValid.f k c es) (decide (GV c es)) := by
  have loop : ∀ d j, j + d = es.length → (∀ i (h : i < es.length), i < j → EdgeOk c.length es[i]) → Ev (fun k => impl_GraphValid.l0 k c es es (es.length : Int) (j : Int)) (decide (GV c es)) := by
    intro d
    induction d with
    | zero =>
      intro j hj hm
      have ha : ∀ e ∈ es, EdgeOk c.length e := all_of (fun i hi => hm i hi (by omega))
      refine Ev.step (f := fun _ => some (decide (GV c es))) (fun k => ?_) (Ev.now _)
      simp only [impl_GraphValid.l0]
      rw [if_neg (by omega)]
      by_cases h1 : c.length ≤ 8
      · rw [if_pos (by omega)]
        by_cases h2 : es.length ≤ 64
        · rw [if_pos (by omega), costs_f]
          simp only [Option.bind_some]
          congr 1
          rw [Bool.eq_iff_iff]
          unfold GV
          simp [h1, h2]
          exact fun _ => ha
        · rw [if_neg (by omega), decide_eq_false (fun h => h2 h.2.1)]
      · rw [if_neg (by omega), decide_eq_false (fun h => h1 h.1)]
    | succ d ih =>
      intro j hj hm
      have hjl : j < es.length := by omega
      by_cases hok : EdgeOk c.length es[j]
      · refine Ev.step (fun k => ?_) (ih (j + 1) (by omega) (upto hjl hm hok))
        unfold EdgeOk at hok
        simp only [impl_GraphValid.l0]
        rw [if_pos (by omega), if_pos (by omega), if_pos (by omega), rd5_at es j hjl, if_pos (by omega), if_pos (by omega), in_f, and_bind, w64 (x := (c.length : Int) - 1) (by omega) (by omega), if_pos (by omega), if_pos (by omega), in_f, and_bind, if_pos (by omega), if_neg (by omega), w64 (by omega) (by omega)]
        rfl
      · rw [decide_eq_false (fun h => hok (h.2.2.2 _ (List.getElem_mem hjl)))]
        refine Ev.step (f := fun _ => some false) (fun k => ?_) (Ev.now _)
        unfold EdgeOk at hok
        simp only [impl_GraphValid.l0]
        rw [if_pos (by omega), if_pos (by omega), if_pos (by omega), rd5_at es j hjl]
        by_cases h1 : es[j].length = 2
        · rw [if_pos (by omega), if_pos (by omega), in_f, and_bind, w64 (x := (c.length : Int) - 1) (by omega) (by omega)]
          by_cases h2 : 0 ≤ rd es[j] 0 ∧ rd es[j] 0 ≤ (c.length : Int) - 1
          · rw [if_pos h2, if_pos (by omega), in_f, and_bind]
            by_cases h3 : rd es[j] 0 ≤ rd es[j] 1 ∧ rd es[j] 1 ≤ (c.length : Int) - 1
            · rw [if_pos h3, if_pos (by omega)]
            · rw [if_neg h3]
          · rw [if_neg h2]
        · rw [if_neg (by omega)]
  have h := loop es.length 0 (by omega) (fun i _ h => by omega)
  refine Ev.congr (fun k => ?_) h
  unfold impl_GraphValid.f
  rfl
theorem spec_gv (c : List Int) (es : List (List Int)) : Ev (fun k => spec_GraphValid.f k c es) (decide (GV c es)) := by
  have no : ¬ GV c es → Ev (fun k => spec_GraphValid.j0 k c es true) (decide (GV c es)) := by
    intro h
    rw [decide_eq_false h]
    exact Ev.step (f := fun _ => some false) (fun k => by simp [spec_GraphValid.j0]) (Ev.now _)
  by_cases h1 : c.length ≤ 8
  · by_cases h2 : es.length ≤ 64
    · have edges : CostsOk c → ∀ d j, j + d = es.length → (∀ i (h : i < es.length), i < j → EdgeOk c.length es[i]) → Ev (fun k => spec_GraphValid.l1 k c es (j : Int)) (decide (GV c es)) := by
        intro hco d
        induction d with
        | zero =>
          intro j hj hm
          have ha : ∀ e ∈ es, EdgeOk c.length e := all_of (fun i hi => hm i hi (by omega))
          rw [decide_eq_true (show GV c es from ⟨h1, h2, hco, ha⟩)]
          refine Ev.step (f := fun _ => some true) (fun k => ?_) (Ev.now _)
          simp only [spec_GraphValid.l1]
          rw [if_neg (by omega)]
        | succ d ih =>
          intro j hj hm
          have hjl : j < es.length := by omega
          by_cases hok : EdgeOk c.length es[j]
          · refine Ev.step (fun k => ?_) (ih (j + 1) (by omega) (upto hjl hm hok))
            unfold EdgeOk at hok
            simp only [spec_GraphValid.l1]
            rw [if_pos (by omega), if_pos (by omega), rd5_at es j hjl, if_pos (by omega), if_pos (by omega), l1In_f, and_bind, w64 (x := (c.length : Int) - 1) (by omega) (by omega), if_pos (by omega), if_pos (by omega), l1In_f, and_bind, w64 (x := rd es[j] 1 - 1) (by omega) (by omega), if_pos (by omega), w64 (by omega) (by omega)]
            rfl
          · rw [decide_eq_false (fun h => hok (h.2.2.2 _ (List.getElem_mem hjl)))]
            refine Ev.step (f := fun _ => some false) (fun k => ?_) (Ev.now _)
            unfold EdgeOk at hok
            simp only [spec_GraphValid.l1]
            rw [if_pos (by omega), if_pos (by omega), rd5_at es j hjl]
            by_cases h3 : es[j].length = 2
            · rw [if_pos (by omega), if_pos (by omega), l1In_f, and_bind, w64 (x := (c.length : Int) - 1) (by omega) (by omega)]
              by_cases h4 : 0 ≤ rd es[j] 1 ∧ rd es[j] 1 ≤ (c.length : Int) - 1
              · rw [if_pos h4, if_pos (by omega), l1In_f, and_bind, w64 (x := rd es[j] 1 - 1) (by omega) (by omega), if_neg (by omega)]
              · rw [if_neg h4]
            · rw [if_neg (by omega)]
      have costs : ∀ d j, j + d = c.length → (∀ i (h : i < c.length), i < j → 1 ≤ c[i] ∧ c[i] ≤ 8) → Ev (fun k => spec_GraphValid.l0 k c es (j : Int)) (decide (GV c es)) := by
        intro d
        induction d with
        | zero =>
          intro j hj hm
          have ha : CostsOk c := all_of (fun i hi => hm i hi (by omega))
          refine Ev.step (fun k => ?_) (edges ha es.length 0 (by omega) (fun i _ h => by omega))
          simp only [spec_GraphValid.l0]
          rw [if_neg (by omega)]
          rfl
        | succ d ih =>
          intro j hj hm
          have hjl : j < c.length := by omega
          by_cases hok : 1 ≤ c[j] ∧ c[j] ≤ 8
          · refine Ev.step (fun k => ?_) (ih (j + 1) (by omega) (upto (P := fun x => 1 ≤ x ∧ x ≤ 8) hjl hm hok))
            simp only [spec_GraphValid.l0]
            rw [if_pos (by omega), if_pos (by omega), rd_at c j hjl, l1In_f, and_bind, if_pos hok, w64 (by omega) (by omega)]
            rfl
          · rw [decide_eq_false (fun h => hok (h.2.2.1 _ (List.getElem_mem hjl)))]
            refine Ev.step (f := fun _ => some false) (fun k => ?_) (Ev.now _)
            simp only [spec_GraphValid.l0]
            rw [if_pos (by omega), if_pos (by omega), rd_at c j hjl, l1In_f, and_bind, if_neg hok]
      have hs : Ev (fun k => spec_GraphValid.j0 k c es (decide ((es.length : Int) > 64))) (decide (GV c es)) := by
        refine Ev.step (fun k => ?_) (costs c.length 0 (by omega) (fun i _ h => by omega))
        simp only [spec_GraphValid.j0]
        rw [if_neg (by simp; omega)]
        rfl
      refine Ev.congr (fun k => ?_) hs
      unfold spec_GraphValid.f
      rw [if_neg (by omega)]
    · refine Ev.congr (fun k => ?_) (no (fun h => h2 h.2.1))
      unfold spec_GraphValid.f
      rw [if_neg (by omega), decide_eq_true (by omega)]
  · refine Ev.congr (fun k => ?_) (no (fun h => h1 h.1))
    unfold spec_GraphValid.f
    rw [if_pos (by omega)]
end Go.Proofs.Ytkmpcmhkfnoeiaa.Graph
-- Laid by a program of this work.
namespace Go.Proofs.Ytkmpcmhkfnoeiaa.P
open Go.RowKit Go.Proofs.YtkmpcmhkfnoeiaaW.PrintWords Go.Proofs.YtkmpcmhkfnoeiaaW.PrintLast Go.Proofs.YtkmpcmhkfnoeiaaW.PrintMore
attribute [local go_sem] max2_int min2_int max_two min_two max_three min_three max_four min_four   -- for this text's walks alone
set_option linter.unusedVariables false
set_option linter.unusedSimpArgs false

/-! ### impl_Volume: function 47 -/
def impl_Volume.f (k : Nat) (l0 : List Int) (l1 : List (List Int)) : Option (Int) := (impl_GraphValid.f k l0 l1).bind fun t768 => (if t768 = true then ((impl_volume.f k l0).bind fun t769 => (some t769)) else (some (-1)))
theorem impl_Volume.mono : ∀ a0 a1 k, LeO (impl_Volume.f k a0 a1) (impl_Volume.f (k + 1) a0 a1) := by
  intro a0 a1 k
  unfold impl_Volume.f
  repeat' first
      | (with_reducible exact impl_GraphValid.mono _ _ _)
      | (with_reducible exact impl_volume.mono _ _)
      | (with_reducible exact LeO.refl _)
      | (with_reducible exact LeO.none _)
      | (with_reducible refine LeO.ite ?_ ?_)
      | (with_reducible refine LeO.bind ?_ (fun _ => ?_))
      | exact impl_GraphValid.mono _ _ _
      | exact impl_volume.mono _ _
      | exact LeO.none _
      | refine LeO.ite ?_ ?_
      | refine LeO.bind ?_ (fun _ => ?_)
set_option maxHeartbeats 8000000 in
set_option maxRecDepth 100000 in
theorem impl_Volume.calls (k : Nat) (A0 : Option Addr) (c0 : Nat) (l0 : List Int) (A1 : Option Addr) (c1 : Nat) (l1 : List (List Int)) (r : Int) (w : World) (hr0 : Kd.C (Kd.int .i64) w A0 l0.length l0) (hc0 : l0.length ≤ c0) (hr1 : Kd.C (Kd.slice 3 (Kd.int .i64)) w A1 l1.length l1) (hc1 : l1.length ≤ c1) (h : impl_Volume.f k l0 l1 = some r) :
    Calls Try.prog 47 #[.slice A0 l0.length c0, .slice A1 l1.length c1] w fun e w' => e = .returned (.int .i64 r) ∧ Below w.heap.size w w' := by
  have HR0 := Aside0.mk hr0
  have HC0 := Aside0.mk hc0
  clear hr0 hc0
  have HR1 := Aside0.mk hr1
  have HC1 := Aside0.mk hc1
  clear hr1 hc1
  have HB := Aside0.mk (Below.refl w.heap.size w)
  have H : ((impl_GraphValid.f k l0 l1).bind fun t768 => (if t768 = true then ((impl_volume.f k l0).bind fun t769 => (some t769)) else (some (-1)))) = some r := h
  clear h
  replace H := Option.bind_eq_some_iff.mp H
  obtain ⟨t768, A30, H⟩ := H
  replace H : (if t768 = true then ((impl_volume.f k l0).bind fun t769 => (some t769)) else (some (-1))) = some r := H
  have A3 := Aside0.mk A30
  clear A30
  by_cases c4 : t768 = true
  · subst c4
    have H1 : ((impl_volume.f k l0).bind fun t769 => (some t769)) = some r := by rw [if_pos rfl] at H; exact H
    clear H
    have H := H1
    clear H1
    replace H := Option.bind_eq_some_iff.mp H
    obtain ⟨t769, A50, H⟩ := H
    replace H : (some t769) = some r := H
    have A5 := Aside0.mk A50
    clear A50
    obtain rfl := Option.some.inj H
    go_enter Try.func47, Try.ntmps47
    go_wp2_with (first | ((with_reducible refine gate_callee (f := 43) rfl ?_); refine goesL_ (some 7) rfl rfl Try.func43 (by kernel_rfl) rfl #[.slice A0 l0.length c0, .slice A1 l1.length c1] rfl (by (try simp only [List.map_toArray, List.map_cons, List.map_nil]); first | done | rfl | (simp only [List.length_drop, List.length_take]; rfl)) ?_; (with_reducible refine (impl_GraphValid.calls k _ _ l0 _ _ l1 true _ ?side1 ?side2 ?side3 ?side4 A3.out).mono ?_); (case side1 => repeat (first | exact HR0.out | (with_reducible refine Kd.C_alloc ?_ _) | (with_reducible refine Kd.C_drewN ?_ _) | (with_reducible refine Kd.C_drew ?_))); (case side2 => exact HC0.out); (case side3 => repeat (first | exact HR1.out | (with_reducible refine Kd.C_alloc ?_ _) | (with_reducible refine Kd.C_drewN ?_ _) | (with_reducible refine Kd.C_drew ?_))); (case side4 => exact HC1.out); rintro e w6 ⟨rfl, hb⟩; refine ⟨_, rfl, ?_⟩; have n0_ := Aside0.mk (below_step (by repeat (first | (with_reducible first | exact HB.out | apply below_alloc | apply pw_below_drewN | apply below_drew1) | exact HB.out)) hb); clear HB; have HB := n0_; clear n0_; (try clear hb); (try clear hb2); (try clear hk); (try clear hi)) | ((with_reducible refine gate_callee (f := 77) rfl ?_); refine goesL_ (some 10) rfl rfl Try.func77 (by kernel_rfl) rfl #[.slice A0 l0.length c0] rfl (by (try simp only [List.map_toArray, List.map_cons, List.map_nil]); first | done | rfl | (simp only [List.length_drop, List.length_take]; rfl)) ?_; (with_reducible refine (impl_volume.calls k _ _ l0 t769 _ ?side1 ?side2 A5.out).mono ?_); (case side1 => repeat (first | exact (Kd.C_below HR0.out HB.out) | (with_reducible refine Kd.C_alloc ?_ _) | (with_reducible refine Kd.C_drewN ?_ _) | (with_reducible refine Kd.C_drew ?_))); (case side2 => exact HC0.out); rintro e w' ⟨rfl, ⟨nd, rfl⟩⟩; refine ⟨_, rfl, ?_⟩))
    go_ret
    exact ⟨by first | rfl | (simp [errW_none, errW_some] <;> rfl) | (simp [*, errW_none, errW_some] <;> rfl), by repeat (first | (with_reducible first | exact HB.out | apply below_alloc | apply pw_below_drewN | apply below_drew1) | exact HB.out)⟩
  · replace c4 := Bool.eq_false_iff.mpr c4
    subst c4
    have H1 : (some (-1)) = some r := by rw [if_neg (show ¬ (false = true) by decide)] at H; exact H
    clear H
    have H := H1
    clear H1
    obtain rfl := Option.some.inj H
    go_enter Try.func47, Try.ntmps47
    go_wp2_with (first | ((with_reducible refine gate_callee (f := 43) rfl ?_); refine goesL_ (some 7) rfl rfl Try.func43 (by kernel_rfl) rfl #[.slice A0 l0.length c0, .slice A1 l1.length c1] rfl (by (try simp only [List.map_toArray, List.map_cons, List.map_nil]); first | done | rfl | (simp only [List.length_drop, List.length_take]; rfl)) ?_; (with_reducible refine (impl_GraphValid.calls k _ _ l0 _ _ l1 false _ ?side1 ?side2 ?side3 ?side4 A3.out).mono ?_); (case side1 => repeat (first | exact HR0.out | (with_reducible refine Kd.C_alloc ?_ _) | (with_reducible refine Kd.C_drewN ?_ _) | (with_reducible refine Kd.C_drew ?_))); (case side2 => exact HC0.out); (case side3 => repeat (first | exact HR1.out | (with_reducible refine Kd.C_alloc ?_ _) | (with_reducible refine Kd.C_drewN ?_ _) | (with_reducible refine Kd.C_drew ?_))); (case side4 => exact HC1.out); rintro e w7 ⟨rfl, hb⟩; refine ⟨_, rfl, ?_⟩; have n0_ := Aside0.mk (below_step (by repeat (first | (with_reducible first | exact HB.out | apply below_alloc | apply pw_below_drewN | apply below_drew1) | exact HB.out)) hb); clear HB; have HB := n0_; clear n0_; (try clear hb); (try clear hb2); (try clear hk); (try clear hi)))
    go_ret
    exact ⟨by first | rfl | (simp [errW_none, errW_some] <;> rfl) | (simp [*, errW_none, errW_some] <;> rfl), by repeat (first | (with_reducible first | exact HB.out | apply below_alloc | apply pw_below_drewN | apply below_drew1) | exact HB.out)⟩

end Go.Proofs.Ytkmpcmhkfnoeiaa.P
-- Laid by a program of this work.
namespace Go.Proofs.Ytkmpcmhkfnoeiaa.P
open Go.RowKit Go.Proofs.YtkmpcmhkfnoeiaaW.PrintWords Go.Proofs.YtkmpcmhkfnoeiaaW.PrintLast Go.Proofs.YtkmpcmhkfnoeiaaW.PrintMore
attribute [local go_sem] max2_int min2_int max_two min_two max_three min_three max_four min_four   -- for this text's walks alone
set_option linter.unusedVariables false
set_option linter.unusedSimpArgs false

/-! ### impl_CriticalPath: function 49 -/
def impl_CriticalPath.f (k : Nat) (l0 : List Int) (l1 : List (List Int)) : Option (Int) := (impl_GraphValid.f k l0 l1).bind fun t823 => (if t823 = true then ((impl_critical.f k l0 l1).bind fun t824 => (some t824)) else (some (-1)))
theorem impl_CriticalPath.mono : ∀ a0 a1 k, LeO (impl_CriticalPath.f k a0 a1) (impl_CriticalPath.f (k + 1) a0 a1) := by
  intro a0 a1 k
  unfold impl_CriticalPath.f
  repeat' first
      | (with_reducible exact impl_GraphValid.mono _ _ _)
      | (with_reducible exact impl_critical.mono _ _ _)
      | (with_reducible exact LeO.refl _)
      | (with_reducible exact LeO.none _)
      | (with_reducible refine LeO.ite ?_ ?_)
      | (with_reducible refine LeO.bind ?_ (fun _ => ?_))
      | exact impl_GraphValid.mono _ _ _
      | exact impl_critical.mono _ _ _
      | exact LeO.none _
      | refine LeO.ite ?_ ?_
      | refine LeO.bind ?_ (fun _ => ?_)
set_option maxHeartbeats 8000000 in
set_option maxRecDepth 100000 in
theorem impl_CriticalPath.calls (k : Nat) (A0 : Option Addr) (c0 : Nat) (l0 : List Int) (A1 : Option Addr) (c1 : Nat) (l1 : List (List Int)) (r : Int) (w : World) (hr0 : Kd.C (Kd.int .i64) w A0 l0.length l0) (hc0 : l0.length ≤ c0) (hr1 : Kd.C (Kd.slice 3 (Kd.int .i64)) w A1 l1.length l1) (hc1 : l1.length ≤ c1) (h : impl_CriticalPath.f k l0 l1 = some r) :
    Calls Try.prog 49 #[.slice A0 l0.length c0, .slice A1 l1.length c1] w fun e w' => e = .returned (.int .i64 r) ∧ Below w.heap.size w w' := by
  have HR0 := Aside0.mk hr0
  have HC0 := Aside0.mk hc0
  clear hr0 hc0
  have HR1 := Aside0.mk hr1
  have HC1 := Aside0.mk hc1
  clear hr1 hc1
  have HB := Aside0.mk (Below.refl w.heap.size w)
  have H : ((impl_GraphValid.f k l0 l1).bind fun t823 => (if t823 = true then ((impl_critical.f k l0 l1).bind fun t824 => (some t824)) else (some (-1)))) = some r := h
  clear h
  replace H := Option.bind_eq_some_iff.mp H
  obtain ⟨t823, A30, H⟩ := H
  replace H : (if t823 = true then ((impl_critical.f k l0 l1).bind fun t824 => (some t824)) else (some (-1))) = some r := H
  have A3 := Aside0.mk A30
  clear A30
  by_cases c4 : t823 = true
  · subst c4
    have H1 : ((impl_critical.f k l0 l1).bind fun t824 => (some t824)) = some r := by rw [if_pos rfl] at H; exact H
    clear H
    have H := H1
    clear H1
    replace H := Option.bind_eq_some_iff.mp H
    obtain ⟨t824, A50, H⟩ := H
    replace H : (some t824) = some r := H
    have A5 := Aside0.mk A50
    clear A50
    obtain rfl := Option.some.inj H
    go_enter Try.func49, Try.ntmps49
    go_wp2_with (first | ((with_reducible refine gate_callee (f := 43) rfl ?_); refine goesL_ (some 7) rfl rfl Try.func43 (by kernel_rfl) rfl #[.slice A0 l0.length c0, .slice A1 l1.length c1] rfl (by (try simp only [List.map_toArray, List.map_cons, List.map_nil]); first | done | rfl | (simp only [List.length_drop, List.length_take]; rfl)) ?_; (with_reducible refine (impl_GraphValid.calls k _ _ l0 _ _ l1 true _ ?side1 ?side2 ?side3 ?side4 A3.out).mono ?_); (case side1 => repeat (first | exact HR0.out | (with_reducible refine Kd.C_alloc ?_ _) | (with_reducible refine Kd.C_drewN ?_ _) | (with_reducible refine Kd.C_drew ?_))); (case side2 => exact HC0.out); (case side3 => repeat (first | exact HR1.out | (with_reducible refine Kd.C_alloc ?_ _) | (with_reducible refine Kd.C_drewN ?_ _) | (with_reducible refine Kd.C_drew ?_))); (case side4 => exact HC1.out); rintro e w6 ⟨rfl, hb⟩; refine ⟨_, rfl, ?_⟩; have n0_ := Aside0.mk (below_step (by repeat (first | (with_reducible first | exact HB.out | apply below_alloc | apply pw_below_drewN | apply below_drew1) | exact HB.out)) hb); clear HB; have HB := n0_; clear n0_; (try clear hb); (try clear hb2); (try clear hk); (try clear hi)) | ((with_reducible refine gate_callee (f := 79) rfl ?_); refine goesL_ (some 11) rfl rfl Try.func79 (by kernel_rfl) rfl #[.slice A0 l0.length c0, .slice A1 l1.length c1] rfl (by (try simp only [List.map_toArray, List.map_cons, List.map_nil]); first | done | rfl | (simp only [List.length_drop, List.length_take]; rfl)) ?_; (with_reducible refine (impl_critical.calls k _ _ l0 _ _ l1 t824 _ ?side1 ?side2 ?side3 ?side4 A5.out).mono ?_); (case side1 => repeat (first | exact (Kd.C_below HR0.out HB.out) | (with_reducible refine Kd.C_alloc ?_ _) | (with_reducible refine Kd.C_drewN ?_ _) | (with_reducible refine Kd.C_drew ?_))); (case side2 => exact HC0.out); (case side3 => repeat (first | exact (Kd.C_below HR1.out HB.out) | (with_reducible refine Kd.C_alloc ?_ _) | (with_reducible refine Kd.C_drewN ?_ _) | (with_reducible refine Kd.C_drew ?_))); (case side4 => exact HC1.out); rintro e w7 ⟨rfl, hb⟩; refine ⟨_, rfl, ?_⟩; have n0_ := Aside0.mk (below_step (by repeat (first | (with_reducible first | exact HB.out | apply below_alloc | apply pw_below_drewN | apply below_drew1) | exact HB.out)) hb); clear HB; have HB := n0_; clear n0_; (try clear hb); (try clear hb2); (try clear hk); (try clear hi)))
    go_ret
    exact ⟨by first | rfl | (simp [errW_none, errW_some] <;> rfl) | (simp [*, errW_none, errW_some] <;> rfl), by repeat (first | (with_reducible first | exact HB.out | apply below_alloc | apply pw_below_drewN | apply below_drew1) | exact HB.out)⟩
  · replace c4 := Bool.eq_false_iff.mpr c4
    subst c4
    have H1 : (some (-1)) = some r := by rw [if_neg (show ¬ (false = true) by decide)] at H; exact H
    clear H
    have H := H1
    clear H1
    obtain rfl := Option.some.inj H
    go_enter Try.func49, Try.ntmps49
    go_wp2_with (first | ((with_reducible refine gate_callee (f := 43) rfl ?_); refine goesL_ (some 7) rfl rfl Try.func43 (by kernel_rfl) rfl #[.slice A0 l0.length c0, .slice A1 l1.length c1] rfl (by (try simp only [List.map_toArray, List.map_cons, List.map_nil]); first | done | rfl | (simp only [List.length_drop, List.length_take]; rfl)) ?_; (with_reducible refine (impl_GraphValid.calls k _ _ l0 _ _ l1 false _ ?side1 ?side2 ?side3 ?side4 A3.out).mono ?_); (case side1 => repeat (first | exact HR0.out | (with_reducible refine Kd.C_alloc ?_ _) | (with_reducible refine Kd.C_drewN ?_ _) | (with_reducible refine Kd.C_drew ?_))); (case side2 => exact HC0.out); (case side3 => repeat (first | exact HR1.out | (with_reducible refine Kd.C_alloc ?_ _) | (with_reducible refine Kd.C_drewN ?_ _) | (with_reducible refine Kd.C_drew ?_))); (case side4 => exact HC1.out); rintro e w8 ⟨rfl, hb⟩; refine ⟨_, rfl, ?_⟩; have n0_ := Aside0.mk (below_step (by repeat (first | (with_reducible first | exact HB.out | apply below_alloc | apply pw_below_drewN | apply below_drew1) | exact HB.out)) hb); clear HB; have HB := n0_; clear n0_; (try clear hb); (try clear hb2); (try clear hk); (try clear hi)))
    go_ret
    exact ⟨by first | rfl | (simp [errW_none, errW_some] <;> rfl) | (simp [*, errW_none, errW_some] <;> rfl), by repeat (first | (with_reducible first | exact HB.out | apply below_alloc | apply pw_below_drewN | apply below_drew1) | exact HB.out)⟩

end Go.Proofs.Ytkmpcmhkfnoeiaa.P
/- The longest path of a task graph, as plain functions, and what is known of it. Conditions: the edges lead from lower to higher nodes. -/
namespace Go.Proofs.Ytkmpcmhkfnoeiaa.Crit
open Go.RowKit Go.Proofs.Ytkmpcmhkfnoeiaa.P Go.Proofs.Ytkmpcmhkfnoeiaa.Base Go.Proofs.Ytkmpcmhkfnoeiaa.Gen Go.Proofs.Ytkmpcmhkfnoeiaa.Graph Go.Proofs.YtkmpcmhkfnoeiaaW.PrintWords Go.Proofs.YtkmpcmhkfnoeiaaW.PrintLast
def stp (out : List Int) (b : Int) (t : Int) (e : List Int) : Int := if rd e 1 = b then max t (rd out (rd e 0)) else t
def bst (out : List Int) (b : Int) (es : List (List Int)) (t : Int) : Int := es.foldl (stp out b) t
def ends (c : List Int) (es : List (List Int)) : Nat → List Int
  | 0 => []
  | n + 1 => ends c es n ++ [bst (ends c es n) (n : Int) es 0 + rd c (n : Int)]
def EV (c : List Int) (es : List (List Int)) (i : Nat) : Int := rd (ends c es (i + 1)) (i : Int)
def mxl (l : List Int) (t : Int) : Int := l.foldl max t
def lng (c : List Int) (es : List (List Int)) : Int := mxl (ends c es c.length) 0
def vl (c : List Int) : Int := c.foldl (· + ·) 0
def SumTo (c : List Int) : Nat → Int
  | 0 => 0
  | n + 1 => SumTo c n + rd c (n : Int)
theorem ends_len (c : List Int) (es : List (List Int)) (n : Nat) : (ends c es n).length = n := by
  induction n with
  | zero => rfl
  | succ n ih => simp [ends, ih]
theorem rd_app_lt (a b : List Int) (i : Nat) (h : i < a.length) : rd (a ++ b) (i : Int) = rd a (i : Int) := by
  rw [rd_at _ i (by simp; omega), rd_at _ i h, List.getElem_append_left h]
theorem rd_app_eq (a : List Int) (x : Int) (n : Nat) (h : a.length = n) : rd (a ++ [x]) (n : Int) = x := by
  subst h
  rw [rd_at _ _ (by simp)]
  simp
theorem ends_rd (c : List Int) (es : List (List Int)) (n i : Nat) (h : i < n) : rd (ends c es n) (i : Int) = EV c es i := by
  induction n with
  | zero => omega
  | succ n ih =>
    rcases Nat.lt_or_ge i n with h' | h'
    · rw [ends, rd_app_lt _ _ _ (by rw [ends_len]; exact h'), ih h']
    · obtain rfl : i = n := by omega
      rfl
theorem EV_eq (c : List Int) (es : List (List Int)) (n : Nat) : EV c es n = bst (ends c es n) (n : Int) es 0 + rd c (n : Int) := by
  unfold EV
  rw [ends]
  exact rd_app_eq _ _ _ (ends_len c es n)
theorem bst_init (out : List Int) (b : Int) (es : List (List Int)) : ∀ t, t ≤ bst out b es t := by
  induction es with
  | nil => intro t; exact Int.le_refl _
  | cons e es ih =>
    intro t
    refine Int.le_trans ?_ (ih _)
    unfold stp; split <;> omega
theorem bst_ge (out : List Int) (b : Int) (es : List (List Int)) : ∀ t, ∀ e ∈ es, rd e 1 = b → rd out (rd e 0) ≤ bst out b es t := by
  induction es with
  | nil => intro t e he; simp at he
  | cons e es ih =>
    intro t x hx hb
    rcases List.mem_cons.1 hx with rfl | hx
    · refine Int.le_trans ?_ (bst_init out b es _)
      unfold stp; rw [if_pos hb]; omega
    · exact ih _ x hx hb
theorem bst_le (out : List Int) (b M : Int) (es : List (List Int)) : ∀ t, t ≤ M → (∀ e ∈ es, rd e 1 = b → rd out (rd e 0) ≤ M) → bst out b es t ≤ M := by
  induction es with
  | nil => intro t h _; exact h
  | cons e es ih =>
    intro t h hh
    refine ih _ ?_ (fun x hx => hh x (List.mem_cons_of_mem _ hx))
    unfold stp
    split
    · rename_i hb
      have := hh e (List.mem_cons_self ..) hb
      omega
    · exact h
/-- What the fold reads, with other lists of the same values. -/
theorem bst_congr (o1 o2 : List Int) (b : Int) (es : List (List Int)) (h : ∀ e ∈ es, rd e 1 = b → rd o1 (rd e 0) = rd o2 (rd e 0)) : ∀ t, bst o1 b es t = bst o2 b es t := by
  induction es with
  | nil => intro t; rfl
  | cons e es ih =>
    intro t
    have e1 : stp o1 b t e = stp o2 b t e := by
      unfold stp
      split
      · rename_i hb
        rw [h e (List.mem_cons_self ..) hb]
      · rfl
    show bst o1 b es (stp o1 b t e) = bst o2 b es (stp o2 b t e)
    rw [e1]
    exact ih (fun x hx => h x (List.mem_cons_of_mem _ hx)) _
theorem mxl_init (l : List Int) : ∀ t, t ≤ mxl l t := by
  induction l with
  | nil => intro t; exact Int.le_refl _
  | cons a l ih => intro t; exact Int.le_trans (by omega) (ih _)
theorem mxl_ge (l : List Int) : ∀ t, ∀ x ∈ l, x ≤ mxl l t := by
  induction l with
  | nil => intro t x hx; simp at hx
  | cons a l ih =>
    intro t x hx
    rcases List.mem_cons.1 hx with rfl | hx
    · exact Int.le_trans (by omega) (mxl_init l _)
    · exact ih _ x hx
theorem mxl_le (l : List Int) (M : Int) : ∀ t, t ≤ M → (∀ x ∈ l, x ≤ M) → mxl l t ≤ M := by
  induction l with
  | nil => intro t h _; exact h
  | cons a l ih =>
    intro t h hh
    refine ih _ ?_ (fun x hx => hh x (List.mem_cons_of_mem _ hx))
    have := hh a (List.mem_cons_self ..)
    omega
theorem mxl_take (l : List Int) (i : Nat) (h : i < l.length) (t : Int) : mxl (l.take (i + 1)) t = max (mxl (l.take i) t) l[i] := by
  unfold mxl
  rw [List.take_succ_eq_append_getElem h, List.foldl_append]
  rfl
theorem vl_take (l : List Int) (i : Nat) (h : i < l.length) : vl (l.take (i + 1)) = vl (l.take i) + l[i] := by
  unfold vl
  rw [List.take_succ_eq_append_getElem h, List.foldl_append]
  rfl
theorem vl_sum (c : List Int) (n : Nat) (h : n ≤ c.length) : vl (c.take n) = SumTo c n := by
  induction n with
  | zero => rfl
  | succ n ih => rw [vl_take _ _ (by omega), ih (by omega), SumTo, rd_at]
theorem vl_eq (c : List Int) : vl c = SumTo c c.length := by
  have := vl_sum c c.length (Nat.le_refl _)
  rwa [List.take_length] at this
/-- The edges lead from lower to higher nodes, and the costs are positive. -/
def Up (m : Int) (es : List (List Int)) : Prop := ∀ e ∈ es, 0 ≤ rd e 0 ∧ rd e 0 < rd e 1 ∧ rd e 1 < m
def Pos (c : List Int) : Prop := ∀ i : Nat, i < c.length → 1 ≤ rd c (i : Int)
theorem gv_up {c : List Int} {es : List (List Int)} (h : GV c es) : Up c.length es := fun e he => (h.2.2.2 e he).2
theorem gv_pos {c : List Int} {es : List (List Int)} (h : GV c es) : Pos c := fun i hi => by
  rw [rd_at c i hi]
  exact (h.2.2.1 _ (List.getElem_mem hi)).1
theorem gv_cost {c : List Int} {es : List (List Int)} (h : GV c es) (i : Nat) (hi : i < c.length) : 1 ≤ rd c (i : Int) ∧ rd c (i : Int) ≤ 8 := by
  rw [rd_at c i hi]
  exact h.2.2.1 _ (List.getElem_mem hi)
theorem edge_nat {m : Int} {es : List (List Int)} (h : Up m es) {e : List Int} (he : e ∈ es) : ∃ a b : Nat, rd e 0 = (a : Int) ∧ rd e 1 = (b : Int) ∧ a < b ∧ (b : Int) < m := by
  have := h e he
  exact ⟨(rd e 0).toNat, (rd e 1).toNat, by omega, by omega, by omega, by omega⟩
theorem EV_ge (c : List Int) (es : List (List Int)) (n : Nat) : rd c (n : Int) ≤ EV c es n := by
  rw [EV_eq]
  have := bst_init (ends c es n) (n : Int) es 0
  omega
theorem EV_edge {c : List Int} {es : List (List Int)} {e : List Int} (he : e ∈ es) {a b : Nat} (ha : rd e 0 = (a : Int)) (hb : rd e 1 = (b : Int)) (hab : a < b) : EV c es a + rd c (b : Int) ≤ EV c es b := by
  rw [EV_eq c es b]
  have := bst_ge (ends c es b) (b : Int) es 0 e he hb
  rw [ha, ends_rd c es b a hab] at this
  omega
theorem lng_ge (c : List Int) (es : List (List Int)) (i : Nat) (h : i < c.length) : EV c es i ≤ lng c es := by
  rw [← ends_rd c es c.length i h, rd_at _ i (by rw [ends_len]; exact h)]
  exact mxl_ge _ _ _ (List.getElem_mem _)
theorem lng_le (c : List Int) (es : List (List Int)) (M : Int) (h0 : 0 ≤ M) (h : ∀ i, i < c.length → EV c es i ≤ M) : lng c es ≤ M := by
  refine mxl_le _ _ _ h0 (fun x hx => ?_)
  obtain ⟨i, hi, rfl⟩ := List.mem_iff_getElem.1 hx
  have hl := ends_len c es c.length
  have := h i (by omega)
  rwa [← ends_rd c es c.length i (by omega), rd_at _ i hi] at this
theorem lng_nonneg (c : List Int) (es : List (List Int)) : 0 ≤ lng c es := mxl_init _ _
theorem sum_mono {c : List Int} (hp : Pos c) : ∀ n m, n ≤ m → m ≤ c.length → SumTo c n ≤ SumTo c m := by
  intro n m
  induction m with
  | zero => intro h _; obtain rfl : n = 0 := by omega
            exact Int.le_refl _
  | succ m ih =>
    intro h hm
    rcases Nat.lt_or_ge n (m + 1) with h' | h'
    · have := ih (by omega) (by omega)
      have := hp m (by omega)
      rw [SumTo]; omega
    · obtain rfl : n = m + 1 := by omega
      exact Int.le_refl _
theorem EV_le_sum {c : List Int} {es : List (List Int)} (hu : Up c.length es) (hp : Pos c) : ∀ n, n < c.length → EV c es n ≤ SumTo c (n + 1) := by
  intro n
  induction n using Nat.strongRecOn with
  | ind n ih =>
    intro hn
    rw [EV_eq, SumTo]
    have : bst (ends c es n) (n : Int) es 0 ≤ SumTo c n := by
      refine bst_le _ _ _ _ _ ?_ (fun e he hb => ?_)
      · exact sum_mono hp 0 n (by omega) (by omega)
      · obtain ⟨a, b, ha, hb', hab, _⟩ := edge_nat hu he
        obtain rfl : b = n := by omega
        rw [ha, ends_rd c es b a hab]
        exact Int.le_trans (ih a hab (by omega)) (sum_mono hp _ _ (by omega) (by omega))
    omega
theorem lng_le_vl {c : List Int} {es : List (List Int)} (hu : Up c.length es) (hp : Pos c) : lng c es ≤ vl c := by
  rw [vl_eq]
  refine lng_le _ _ _ ?_ (fun i hi => ?_)
  · exact sum_mono hp 0 _ (by omega) (by omega)
  · exact Int.le_trans (EV_le_sum hu hp i hi) (sum_mono hp _ _ (by omega) (by omega))
/-- More edges never make it shorter. -/
theorem EV_mono {c : List Int} {es fs : List (List Int)} (hu : Up c.length fs) (hs : ∀ e ∈ es, e ∈ fs) : ∀ n, EV c es n ≤ EV c fs n := by
  intro n
  induction n using Nat.strongRecOn with
  | ind n ih =>
    rw [EV_eq, EV_eq]
    have : bst (ends c es n) (n : Int) es 0 ≤ bst (ends c fs n) (n : Int) fs 0 := by
      refine bst_le _ _ _ _ _ (bst_init ..) (fun e he hb => ?_)
      obtain ⟨a, b, ha, hb', hab, _⟩ := edge_nat hu (hs e he)
      obtain rfl : b = n := by omega
      have h1 := bst_ge (ends c fs b) (b : Int) fs 0 e (hs e he) hb
      rw [ha, ends_rd c fs b a hab] at h1
      rw [ha, ends_rd c es b a hab]
      exact Int.le_trans (ih a hab) h1
    omega
theorem lng_mono {c : List Int} {es fs : List (List Int)} (hu : Up c.length fs) (hs : ∀ e ∈ es, e ∈ fs) : lng c es ≤ lng c fs :=
  lng_le _ _ _ (lng_nonneg _ _) (fun i hi => Int.le_trans (EV_mono hu hs i) (lng_ge _ _ i hi))
theorem lng_none (c : List Int) : lng c [] = mxl c 0 := by
  have h : ∀ i, EV c [] i = rd c (i : Int) := by
    intro i
    rw [EV_eq]
    simp [bst]
  apply Int.le_antisymm
  · refine lng_le _ _ _ (mxl_init _ _) (fun i hi => ?_)
    rw [h, rd_at c i hi]
    exact mxl_ge _ _ _ (List.getElem_mem _)
  · refine mxl_le _ _ _ (lng_nonneg _ _) (fun x hx => ?_)
    obtain ⟨i, hi, rfl⟩ := List.mem_iff_getElem.1 hx
    rw [← rd_at c i hi, ← h]
    exact lng_ge _ _ i hi
theorem top_le {c : List Int} (es : List (List Int)) : mxl c 0 ≤ lng c es := by
  refine mxl_le _ _ _ (lng_nonneg _ _) (fun x hx => ?_)
  obtain ⟨i, hi, rfl⟩ := List.mem_iff_getElem.1 hx
  rw [← rd_at c i hi]
  exact Int.le_trans (EV_ge c es i) (lng_ge _ _ i hi)
theorem edge_le {c : List Int} {es : List (List Int)} (hu : Up c.length es) {e : List Int} (he : e ∈ es) : rd c (rd e 0) + rd c (rd e 1) ≤ lng c es := by
  obtain ⟨a, b, ha, hb, hab, hm⟩ := edge_nat hu he
  rw [ha, hb]
  have h1 := EV_edge (c := c) he ha hb hab
  have h2 := EV_ge c es a
  have h3 := lng_ge c es b (by omega)
  omega
end Go.Proofs.Ytkmpcmhkfnoeiaa.Crit
/- The volume, the critical path and Graham's bound of the program and of the reference are the plain ones. Condition: the rows are not too long. -/
namespace Go.Proofs.Ytkmpcmhkfnoeiaa.Crit
open Go.RowKit Go.Proofs.Ytkmpcmhkfnoeiaa.P Go.Proofs.Ytkmpcmhkfnoeiaa.Base Go.Proofs.Ytkmpcmhkfnoeiaa.Gen Go.Proofs.Ytkmpcmhkfnoeiaa.Graph Go.Proofs.YtkmpcmhkfnoeiaaW.PrintWords Go.Proofs.YtkmpcmhkfnoeiaaW.PrintLast
def VL (c : List Int) (es : List (List Int)) : Int := if GV c es then vl c else -1
def CP (c : List Int) (es : List (List Int)) : Int := if GV c es then lng c es else -1
def MB (c : List Int) (es : List (List Int)) (m : Int) : Int := if GV c es ∧ 1 ≤ m ∧ m ≤ 5 then lng c es + (vl c - lng c es) / m else -1
theorem sum_bd {c : List Int} {es : List (List Int)} (h : GV c es) (n : Nat) (hn : n ≤ c.length) : 0 ≤ SumTo c n ∧ SumTo c n ≤ 8 * n := by
  induction n with
  | zero => simp [SumTo]
  | succ n ih =>
    have h1 := ih (by omega)
    have h2 := gv_cost h n (by omega)
    rw [SumTo]; omega
theorem vl_bd {c : List Int} {es : List (List Int)} (h : GV c es) : 0 ≤ vl c ∧ vl c ≤ 64 := by
  rw [vl_eq]
  have := sum_bd h c.length (Nat.le_refl _)
  have := h.1
  omega
theorem EV_bd {c : List Int} {es : List (List Int)} (h : GV c es) (i : Nat) (hi : i < c.length) : 1 ≤ EV c es i ∧ EV c es i ≤ 64 := by
  have h1 := EV_ge c es i
  have h2 := gv_cost h i hi
  have h3 := EV_le_sum (gv_up h) (gv_pos h) i hi
  have h4 := sum_bd h (i + 1) (by omega)
  have := h.1
  omega
theorem lng_bd {c : List Int} {es : List (List Int)} (h : GV c es) : 0 ≤ lng c es ∧ lng c es ≤ vl c := ⟨lng_nonneg _ _, lng_le_vl (gv_up h) (gv_pos h)⟩
theorem spec_vol_loop {c : List Int} {es : List (List Int)} (h : GV c es) : ∀ d i, i + d = c.length → Ev (fun k => spec_Volume.l0 k c (SumTo c i) (i : Int)) (vl c) := by
  intro d
  induction d with
  | zero =>
    intro i hi
    refine Ev.step (f := fun _ => some (vl c)) (fun k => ?_) (Ev.now _)
    simp only [spec_Volume.l0]
    rw [if_neg (by omega), vl_eq]
    congr 2
  | succ d ih =>
    intro i hi
    have hc := h.1
    have h1 := sum_bd h i (by omega)
    have h2 := gv_cost h i (by omega)
    refine Ev.step (fun k => ?_) (ih (i + 1) (by omega))
    simp only [spec_Volume.l0]
    rw [if_pos (by omega), if_pos (by omega), w64 (x := SumTo c i + rd c i) (by omega) (by omega), w64 (by omega) (by omega)]
    rfl
theorem spec_vol (c : List Int) (es : List (List Int)) : Ev (fun k => spec_Volume.f k c es) (VL c es) := by
  unfold spec_Volume.f
  refine Ev.bind (spec_gv c es) ?_
  by_cases h : GV c es
  · simp only [decide_eq_true h, if_true]
    unfold VL; rw [if_pos h]
    exact spec_vol_loop h c.length 0 (by omega)
  · simp only [decide_eq_false h]
    unfold VL; rw [if_neg h]
    exact Ev.now _
theorem impl_vol_f {c : List Int} {es : List (List Int)} (h : GV c es) : Ev (fun k => impl_volume.f k c) (vl c) := by
  have loop : ∀ d i, i + d = c.length → Ev (fun k => impl_volume.l0 k (SumTo c i) c (c.length : Int) (i : Int)) (vl c) := by
    intro d
    induction d with
    | zero =>
      intro i hi
      refine Ev.step (f := fun _ => some (vl c)) (fun k => ?_) (Ev.now _)
      simp only [impl_volume.l0]
      rw [if_neg (by omega), vl_eq]
      congr 2
    | succ d ih =>
      intro i hi
      have hc := h.1
      have h1 := sum_bd h i (by omega)
      have h2 := gv_cost h i (by omega)
      refine Ev.step (fun k => ?_) (ih (i + 1) (by omega))
      simp only [impl_volume.l0]
      rw [if_pos (by omega), if_pos (by omega), if_pos (by omega), w64 (x := SumTo c i + rd c i) (by omega) (by omega), w64 (by omega) (by omega)]
      rfl
  exact loop c.length 0 (by omega)
theorem impl_vol (c : List Int) (es : List (List Int)) (hc : c.length ≤ 2097152) (he : es.length ≤ 2097152) : Ev (fun k => impl_Volume.f k c es) (VL c es) := by
  unfold impl_Volume.f
  refine Ev.bind (impl_gv c es hc he) ?_
  by_cases h : GV c es
  · simp only [decide_eq_true h, if_true]
    unfold VL; rw [if_pos h]
    exact Ev.bind (impl_vol_f h) (Ev.now _)
  · simp only [decide_eq_false h]
    unfold VL; rw [if_neg h]
    exact Ev.now _
theorem bst_drop (out : List Int) (b : Int) (es : List (List Int)) (j : Nat) (h : j < es.length) (t : Int) : bst out b (es.drop j) t = bst out b (es.drop (j + 1)) (stp out b t es[j]) := by
  rw [List.drop_eq_getElem_cons h]
  rfl
theorem spec_ends {c : List Int} {es : List (List Int)} (h : GV c es) : Ev (fun k => spec_l22Ends.f k c es) (ends c es c.length) := by
  have hc := h.1
  have he := h.2.1
  have inner : ∀ (i : Nat), i < c.length → ∀ R, Ev (fun k => spec_l22Ends.l0 k c es (ends c es (i + 1)) ((i : Int) + 1)) R → ∀ d j t, j + d = es.length → bst (ends c es i) (i : Int) (es.drop j) t = bst (ends c es i) (i : Int) es 0 → Ev (fun k => spec_l22Ends.l1 k c es (ends c es i) (i : Int) t (j : Int)) R := by
    intro i hi R hR d
    have hb := EV_bd h i hi
    have hco := gv_cost h i hi
    have heq := EV_eq c es i
    induction d with
    | zero =>
      intro j t hj ht
      refine Ev.step (fun k => ?_) hR
      rw [List.drop_eq_nil_of_le (by omega)] at ht
      have ht : t = bst (ends c es i) (i : Int) es 0 := ht
      simp only [spec_l22Ends.l1]
      rw [if_neg (by omega), if_pos (by omega), if_pos (by omega), if_pos (by rw [ends_len]; omega), w64 (x := t + rd c i) (by omega) (by omega), w64 (by omega) (by omega), ht]
      rfl
    | succ d ih =>
      intro j t hj ht
      have hjl : j < es.length := by omega
      have hok := h.2.2.2 es[j] (List.getElem_mem hjl)
      unfold EdgeOk at hok
      rw [bst_drop _ _ _ _ hjl] at ht
      refine Ev.step (fun k => ?_) (ih (j + 1) _ (by omega) ht)
      simp only [spec_l22Ends.l1]
      rw [if_pos (by omega), if_pos (by omega), rd5_at es j hjl, if_pos (by omega), w64 (x := (j : Int) + 1) (by omega) (by omega)]
      unfold stp
      by_cases hb : rd es[j] 1 = (i : Int)
      · rw [if_pos hb, if_pos hb, if_pos (by omega), if_pos (by omega), if_pos (by rw [ends_len]; omega), mx_max]
        rfl
      · rw [if_neg hb, if_neg hb]
        rfl
  have outer : ∀ d i, i + d = c.length → Ev (fun k => spec_l22Ends.l0 k c es (ends c es i) (i : Int)) (ends c es c.length) := by
    intro d
    induction d with
    | zero =>
      intro i hi
      obtain rfl : i = c.length := by omega
      refine Ev.step (f := fun _ => some (ends c es c.length)) (fun k => ?_) (Ev.now _)
      simp only [spec_l22Ends.l0]
      rw [if_neg (by omega)]
    | succ d ih =>
      intro i hi
      refine Ev.step (fun k => ?_) (inner i (by omega) _ (ih (i + 1) (by omega)) es.length 0 0 (by omega) rfl)
      simp only [spec_l22Ends.l0]
      rw [if_pos (by omega)]
      rfl
  exact outer c.length 0 (by omega)
theorem spec_cp (c : List Int) (es : List (List Int)) : Ev (fun k => spec_CriticalPath.f k c es) (CP c es) := by
  unfold spec_CriticalPath.f
  refine Ev.bind (spec_gv c es) ?_
  by_cases h : GV c es
  · simp only [decide_eq_true h, if_true]
    unfold CP; rw [if_pos h]
    refine Ev.bind (spec_ends h) ?_
    have hl := ends_len c es c.length
    have hc := h.1
    have loop : ∀ d i, i + d = c.length → Ev (fun k => spec_CriticalPath.l0 k (mxl ((ends c es c.length).take i) 0) (ends c es c.length) (i : Int)) (lng c es) := by
      intro d
      induction d with
      | zero =>
        intro i hi
        refine Ev.step (f := fun _ => some (lng c es)) (fun k => ?_) (Ev.now _)
        simp only [spec_CriticalPath.l0]
        rw [if_neg (by omega), List.take_of_length_le (by omega)]
        rfl
      | succ d ih =>
        intro i hi
        refine Ev.step (fun k => ?_) (ih (i + 1) (by omega))
        simp only [spec_CriticalPath.l0]
        rw [if_pos (by omega), if_pos (by omega), w64 (by omega) (by omega), mx_max, mxl_take _ _ (by omega), rd_at _ i (by omega)]
        rfl
    exact loop c.length 0 (by omega)
  · simp only [decide_eq_false h]
    unfold CP; rw [if_neg h]
    exact Ev.now _
theorem rd_set_eq (l : List Int) (i : Nat) (x : Int) (h : i < l.length) : rd (l.set i x) (i : Int) = x := by
  rw [rd_at _ i (by simpa using h)]
  simp
theorem rd_set_ne (l : List Int) (i a : Nat) (x : Int) (h : a ≠ i) : rd (l.set i x) (a : Int) = rd l (a : Int) := by
  unfold rd
  rw [List.getD_eq_getElem?_getD, List.getD_eq_getElem?_getD, Int.toNat_natCast, List.getElem?_set_ne (by omega)]
/-- The program's row of ends: what is done, what is under way, nothing. -/
def Row (c : List Int) (es : List (List Int)) (i : Nat) (t : Int) (x : List Int) : Prop :=
  x.length = c.length ∧ (∀ a : Nat, a < i → rd x (a : Int) = EV c es a) ∧ rd x (i : Int) = t ∧ ∀ a : Nat, i < a → rd x (a : Int) = 0
theorem row_read {c : List Int} {es : List (List Int)} {i : Nat} {t : Int} {x : List Int} (h : Row c es i t x) {a : Nat} (ha : a < i) : rd x (a : Int) = rd (ends c es i) (a : Int) := by
  rw [h.2.1 a ha, ends_rd c es i a ha]
theorem row_set {c : List Int} {es : List (List Int)} {i : Nat} {t : Int} {x : List Int} (h : Row c es i t x) (hi : i < c.length) (u : Int) : Row c es i u (x.set i u) := by
  refine ⟨by simpa using h.1, fun a ha => ?_, rd_set_eq _ _ _ (by rw [h.1]; exact hi), fun a ha => ?_⟩
  · rw [rd_set_ne _ _ _ _ (by omega)]; exact h.2.1 a ha
  · rw [rd_set_ne _ _ _ _ (by omega)]; exact h.2.2.2 a ha
theorem row_next {c : List Int} {es : List (List Int)} {i : Nat} {x : List Int} (h : Row c es i (EV c es i) x) : Row c es (i + 1) 0 x := by
  refine ⟨h.1, fun a ha => ?_, h.2.2.2 (i + 1) (by omega), fun a ha => h.2.2.2 a (by omega)⟩
  by_cases e : a = i
  · subst e; exact h.2.2.1
  · exact h.2.1 a (by omega)
theorem row_zero (c : List Int) (es : List (List Int)) : Row c es 0 0 (List.replicate c.length 0) := by
  have hz : ∀ a : Nat, rd (List.replicate c.length 0) (a : Int) = 0 := by
    intro a
    unfold rd
    rw [List.getD_eq_getElem?_getD, Int.toNat_natCast, List.getElem?_replicate]
    split <;> rfl
  exact ⟨by simp, fun a ha => by omega, hz 0, fun a _ => hz a⟩
theorem impl_crit_f {c : List Int} {es : List (List Int)} (h : GV c es) : Ev (fun k => impl_critical.f k c es) (lng c es) := by
  have hc := h.1
  have he := h.2.1
  have hel := ends_len c es c.length
  have inner : ∀ (i : Nat), i < c.length → ∀ R g, (∀ x, Row c es (i + 1) 0 x → Ev (fun k => impl_critical.l0 k es x (max g (EV c es i)) c (c.length : Int) ((i : Int) + 1)) R) → ∀ d j t x, j + d = es.length → Row c es i t x → bst (ends c es i) (i : Int) (es.drop j) t = bst (ends c es i) (i : Int) es 0 → Ev (fun k => impl_critical.l1 k es x g (i : Int) (rd c (i : Int)) c (c.length : Int) (i : Int) es (es.length : Int) (j : Int)) R := by
    intro i hi R g hR d
    have hb := EV_bd h i hi
    have hco := gv_cost h i hi
    have heq := EV_eq c es i
    induction d with
    | zero =>
      intro j t x hj hx ht
      rw [List.drop_eq_nil_of_le (by omega)] at ht
      have ht : t = bst (ends c es i) (i : Int) es 0 := ht
      have hx1 := hx.1
      have hx2 := hx.2.2.1
      have hn : Row c es i (EV c es i) (x.set i (EV c es i)) := row_set hx hi _
      refine Ev.step (fun k => ?_) (hR _ (row_next hn))
      simp only [impl_critical.l1]
      rw [if_neg (by omega), if_pos (by omega), if_pos (by omega), Option.bind_some, hx2, w64 (x := t + rd c i) (by omega) (by omega), w64 (by omega) (by omega), show t + rd c (i : Int) = EV c es i by omega, Int.toNat_natCast, hn.2.2.1, mx_max]
    | succ d ih =>
      intro j t x hj hx ht
      have hjl : j < es.length := by omega
      have hok := h.2.2.2 es[j] (List.getElem_mem hjl)
      unfold EdgeOk at hok
      rw [bst_drop _ _ _ _ hjl] at ht
      have hx1 := hx.1
      by_cases hb : rd es[j] 1 = (i : Int)
      · have hx2 := hx.2.2.1
        obtain ⟨a, ha⟩ : ∃ a : Nat, rd es[j] 0 = (a : Int) := ⟨(rd es[j] 0).toNat, by omega⟩
        have e1 : stp (ends c es i) (i : Int) t es[j] = max t (rd x (a : Int)) := by
          unfold stp; rw [if_pos hb, ha, row_read hx (by omega)]
        rw [e1] at ht
        refine Ev.step (fun k => ?_) (ih (j + 1) _ _ (by omega) (row_set hx hi _) ht)
        simp only [impl_critical.l1]
        rw [if_pos (by omega), if_pos (by omega), if_pos (by omega), rd5_at es j hjl, if_pos (by omega), w64 (x := (j : Int) + 1) (by omega) (by omega), if_pos hb, if_pos (by omega), if_pos (by omega), if_pos (by omega), if_pos (by omega), if_pos (by omega), hx2, mx_max, ha, Int.toNat_natCast]
        rfl
      · have e1 : stp (ends c es i) (i : Int) t es[j] = t := by
          unfold stp; rw [if_neg hb]
        rw [e1] at ht
        refine Ev.step (fun k => ?_) (ih (j + 1) _ _ (by omega) hx ht)
        simp only [impl_critical.l1]
        rw [if_pos (by omega), if_pos (by omega), if_pos (by omega), rd5_at es j hjl, if_pos (by omega), w64 (x := (j : Int) + 1) (by omega) (by omega), if_neg hb]
        rfl
  have outer : ∀ d i x, i + d = c.length → Row c es i 0 x → Ev (fun k => impl_critical.l0 k es x (mxl ((ends c es c.length).take i) 0) c (c.length : Int) (i : Int)) (lng c es) := by
    intro d
    induction d with
    | zero =>
      intro i x hi hx
      refine Ev.step (f := fun _ => some (lng c es)) (fun k => ?_) (Ev.now _)
      simp only [impl_critical.l0]
      rw [if_neg (by omega), List.take_of_length_le (by omega)]
      rfl
    | succ d ih =>
      intro i x hi hx
      have hil : i < c.length := by omega
      refine Ev.step (fun k => ?_) (inner i hil _ (mxl ((ends c es c.length).take i) 0) (fun y hy => ?_) es.length 0 0 x (by omega) hx rfl)
      · simp only [impl_critical.l0]
        rw [if_pos (by omega), if_pos (by omega), if_pos (by omega)]
        rfl
      · have := ih (i + 1) y (by omega) hy
        rw [mxl_take _ _ (by omega), ← rd_at _ i (by omega), ends_rd c es c.length i hil] at this
        exact this
  have := outer c.length 0 _ (by omega) (row_zero c es)
  refine Ev.congr (fun k => ?_) this
  unfold impl_critical.f
  rw [if_pos (by omega), Int.toNat_natCast, if_pos (by omega)]
  rfl
theorem impl_cp (c : List Int) (es : List (List Int)) (hc : c.length ≤ 2097152) (he : es.length ≤ 2097152) : Ev (fun k => impl_CriticalPath.f k c es) (CP c es) := by
  unfold impl_CriticalPath.f
  refine Ev.bind (impl_gv c es hc he) ?_
  by_cases h : GV c es
  · simp only [decide_eq_true h, if_true]
    unfold CP; rw [if_pos h]
    exact Ev.bind (impl_crit_f h) (Ev.now _)
  · simp only [decide_eq_false h]
    unfold CP; rw [if_neg h]
    exact Ev.now _
theorem mb_val {c : List Int} {es : List (List Int)} (h : GV c es) (m : Int) (hm : 1 ≤ m) : wrap64 (lng c es + wrap64 (Int.tdiv (wrap64 (vl c - lng c es)) m)) = lng c es + (vl c - lng c es) / m := by
  have h1 := lng_bd h
  have h2 := vl_bd h
  rw [w64 (x := vl c - lng c es) (by omega) (by omega), tdiv_pos (by omega)]
  have h3 := Int.ediv_nonneg (show 0 ≤ vl c - lng c es by omega) (show 0 ≤ m by omega)
  have h4 := Int.ediv_le_self m (show 0 ≤ vl c - lng c es by omega)
  rw [w64 (x := (vl c - lng c es) / m) (by omega) (by omega), w64 (by omega) (by omega)]
theorem spec_mb (c : List Int) (es : List (List Int)) (m : Int) : Ev (fun k => spec_MakespanBound.f k c es m) (MB c es m) := by
  unfold spec_MakespanBound.f
  refine Ev.bind (spec_gv c es) ?_
  have bad : ¬ (GV c es ∧ 1 ≤ m ∧ m ≤ 5) → Ev (fun k => spec_MakespanBound.j0 k c es m true) (MB c es m) := by
    intro h
    unfold MB; rw [if_neg h]
    exact Ev.step (f := fun _ => some (-1)) (fun k => by simp [spec_MakespanBound.j0]) (Ev.now _)
  by_cases h : GV c es
  · simp only [decide_eq_true h, if_true, l1In_f, Option.bind_some]
    by_cases hm : 1 ≤ m ∧ m ≤ 5
    · rw [decide_eq_true hm]
      refine Ev.step (f := fun k => (spec_CriticalPath.f k c es).bind fun t889 => (spec_Volume.f k c es).bind fun t890 => if m = 0 then none else some (wrap64 (t889 + wrap64 (Int.tdiv (wrap64 (t890 - t889)) m)))) (fun k => by simp [spec_MakespanBound.j0]) ?_
      refine Ev.bind (spec_cp c es) (Ev.bind (spec_vol c es) ?_)
      have e1 : CP c es = lng c es := if_pos h
      have e2 : VL c es = vl c := if_pos h
      have e3 : MB c es m = lng c es + (vl c - lng c es) / m := if_pos ⟨h, hm⟩
      rw [e1, e2, e3, ← mb_val h m hm.1, if_neg (by omega)]
      exact Ev.now _
    · rw [decide_eq_false hm]
      exact bad (fun h' => hm h'.2)
  · simp only [decide_eq_false h]
    exact bad (fun h' => h h'.1)
theorem impl_mb (c : List Int) (es : List (List Int)) (m : Int) (hc : c.length ≤ 2097152) (he : es.length ≤ 2097152) : Ev (fun k => impl_MakespanBound.f k c es m) (MB c es m) := by
  unfold impl_MakespanBound.f
  refine Ev.bind (impl_gv c es hc he) ?_
  have bad : ¬ (GV c es ∧ 1 ≤ m ∧ m ≤ 5) → Ev (fun k => impl_MakespanBound.j0 k c es m true) (MB c es m) := by
    intro h
    unfold MB; rw [if_neg h]
    exact Ev.step (f := fun _ => some (-1)) (fun k => by simp [impl_MakespanBound.j0]) (Ev.now _)
  by_cases h : GV c es
  · simp only [decide_eq_true h, if_true, impl_isCores.f, in_f, Option.bind_some]
    by_cases hm : 1 ≤ m ∧ m ≤ 5
    · rw [decide_eq_true hm]
      refine Ev.step (f := fun k => (impl_critical.f k c es).bind fun t889 => (impl_volume.f k c).bind fun t890 => if m = 0 then none else some (wrap64 (t889 + wrap64 (Int.tdiv (wrap64 (t890 - t889)) m)))) (fun k => by simp [impl_MakespanBound.j0]) ?_
      refine Ev.bind (impl_crit_f h) (Ev.bind (impl_vol_f h) ?_)
      have e3 : MB c es m = lng c es + (vl c - lng c es) / m := if_pos ⟨h, hm⟩
      rw [e3, ← mb_val h m hm.1, if_neg (by omega)]
      exact Ev.now _
    · rw [decide_eq_false hm]
      exact bad (fun h' => hm h'.2)
  · simp only [decide_eq_false h]
    exact bad (fun h' => h h'.1)
end Go.Proofs.Ytkmpcmhkfnoeiaa.Crit
/- MakespanBound answers as the reference does. No condition. -/
namespace Go.Proofs.Ytkmpcmhkfnoeiaa.Pure
open Go.RowKit Go.Proofs.Ytkmpcmhkfnoeiaa.P Go.Proofs.Ytkmpcmhkfnoeiaa.Base Go.Proofs.Ytkmpcmhkfnoeiaa.Gen Go.Proofs.YtkmpcmhkfnoeiaaW.PrintWords Go.Proofs.YtkmpcmhkfnoeiaaW.PrintLast
open Go.Proofs.Ytkmpcmhkfnoeiaa.CopyInt Go.Proofs.Ytkmpcmhkfnoeiaa.CopySS Go.Proofs.Ytkmpcmhkfnoeiaa.Graph Go.Proofs.Ytkmpcmhkfnoeiaa.Crit 

theorem FnExactMakespanBound : laws_FnExactMakespanBound.Pure := by
  intro c es m _ _ _ he _
  apply Tot.rounds
  unfold laws_FnExactMakespanBound.f
  refine Tot.ite (fun _ => Tot.ret _ rfl) (fun hl => ?_)
  have hl2 : c.length ≤ 1048576 := by omega
  refine Tot.bind (szIntSS_tot es he.1 (fun e h => (he.2 e h).1)) ?_
  intro r hr
  refine Tot.ite (fun _ => Tot.ret _ rfl) (fun h0 => ?_)
  have hs : Small es := hr.resolve_left h0
  have hs1 := hs.1
  clear hl hr he
  refine Tot.bind (toIntS_tot _ hl2) ?_
  rintro _ rfl
  refine Tot.bind (toIntSS_tot _ hs) ?_
  rintro _ rfl
  refine Tot.bind (Tot.val (spec_mb _ _ m)) ?_
  rintro _ rfl
  refine Tot.bind (toIntS_tot _ hl2) ?_
  rintro _ rfl
  refine Tot.bind (toIntSS_tot _ hs) ?_
  rintro _ rfl
  refine Tot.bind (Tot.val (impl_mb _ _ m (by omega) (by omega))) ?_
  rintro _ rfl
  refine Tot.yes rfl ?_
  refine Tot.bind (toIntS_tot _ hl2) ?_
  rintro _ rfl
  refine Tot.bind (eqIntS_tot _ hl2) ?_
  rintro _ rfl
  refine Tot.yes rfl (Tot.bind (toIntSS_tot _ hs) ?_)
  rintro _ rfl
  refine Tot.bind (eqIntSS_tot _ hs) ?_
  rintro _ rfl
  exact Tot.yes rfl (Tot.ret _ rfl)
end Go.Proofs.Ytkmpcmhkfnoeiaa.Pure
/- Arguments of a law laid open: whatever reads as data of a type reads as a value of its kind.
   No condition. -/
namespace Go.Proofs.Ytkmpcmhkfnoeiaa.Opn
open Go.ChangeShapes Go.WideShapes Go.Deep Go.RowKit Go.Proofs.YtkmpcmhkfnoeiaaW.PrintWords
section
variable {H : Type} {enc : TypeId × Value → H} {P : Program} {W : World} {base : Nat} {spare : Nat → Bool} {held : Bool}

/-- Whatever reads as data of type t reads as a value of the kind d that is good. -/
def Opens {α : Type} (enc : TypeId × Value → H) (P : Program) (W : World) (base : Nat) (spare : Nat → Bool) (held : Bool) (t : TypeId) (d : Kd α) (G : α → Prop) : Prop :=
  ∀ (fuel : Nat) (cs : List Value) (x : DataW H × List MemPlace), DataW.trod enc P W base spare held fuel t cs = some x → ∃ a, d.K W a cs ∧ G a

theorem opens_int {t : TypeId} {k : IntKind} (hu : P.underlying t = some (.int k)) : Opens enc P W base spare held t (Kd.int k) (fun x => (Lit.int k x).wf = true) := by
  intro fuel cs x h
  obtain ⟨n, hc, _, hw⟩ := DataW.trod_int hu h
  exact ⟨n, hc, hw⟩
theorem opens_bool {t : TypeId} (hu : P.underlying t = some .bool) : Opens enc P W base spare held t Kd.bool (fun _ => True) := by
  intro fuel cs x h
  obtain ⟨n, hc, _⟩ := DataW.trod_bool hu h
  exact ⟨n, hc, trivial⟩

theorem list_of {α : Type} (m : Nat) (R : Nat → α → Prop) (h : ∀ i, i < m → ∃ a, R i a) : ∃ xs : List α, xs.length = m ∧ ∀ i a, xs[i]? = some a → R i a := by
  induction m with
  | zero => exact ⟨[], rfl, fun i a ha => by simp at ha⟩
  | succ m ih =>
    obtain ⟨xs, hl, hx⟩ := ih (fun i hi => h i (by omega))
    obtain ⟨a, ha⟩ := h m (by omega)
    refine ⟨xs ++ [a], by simp [hl], fun i b hb => ?_⟩
    rcases Nat.lt_or_ge i m with hi | hi
    · rw [List.getElem?_append_left (by omega)] at hb
      exact hx i b hb
    · have hi' : i = m := by
        have := (List.getElem?_eq_some_iff.1 hb).1
        simp at this
        omega
      subst hi'
      have : a = b := by simpa [hl] using hb
      subst this
      exact ha

/-- A slice of what opens. -/
theorem slice_row {α : Type} {t e : TypeId} {d : Kd α} {G : α → Prop} (hu : P.underlying t = some (.slice e)) (hC : P.cellsOf e = d.sz) (he : Opens enc P W base spare held e d G)
    {fuel : Nat} {A : Option Addr} {n cap : Nat} {x : DataW H × List MemPlace} (h : DataW.trod enc P W base spare held fuel t [.slice A n cap] = some x) :
    ∃ xs : List α, xs.length = n ∧ n ≤ cap ∧ n ≤ maxLen ∧ d.C W A xs.length xs ∧ ∀ y ∈ xs, G y := by
  rcases open_slice hu h with ⟨h0, _⟩ | ⟨a, len, c, m, k, D, Pl, hcs, _, hl, hm, hmm, _, hel⟩
  · simp only [List.cons.injEq, Value.slice.injEq, and_true] at h0
    obtain ⟨rfl, rfl, rfl⟩ := h0
    exact ⟨[], rfl, Nat.le_refl _, by simp [maxLen], Kd.C_nil d W, fun y hy => by simp at hy⟩
  · simp only [List.cons.injEq, Value.slice.injEq, and_true] at hcs
    obtain ⟨rfl, rfl, rfl⟩ := hcs
    have hle : n ≤ m := by rw [hmm]; split <;> omega
    obtain ⟨xs, hxl, hx⟩ := list_of (α := α) n (fun i y => G y ∧ ∃ cs', d.K W y cs' ∧ cs'.length = d.sz ∧ ∀ j, j < d.sz → W.cell? ((a.add (i * d.sz)).add j) = cs'[j]?) (by
      intro i hi
      obtain ⟨cs', hc, ht⟩ := hel i (by omega)
      obtain ⟨y, hK, hG⟩ := he _ _ _ ht
      rw [hC] at hc
      obtain ⟨_, hcl, hcc⟩ := World.cells?_some hc
      exact ⟨y, hG, cs', hK, hcl, hcc⟩)
    refine ⟨xs, hxl, hl, by omega, ⟨rfl, by simp only [maxLen] at hm; omega, fun hp => ⟨a, rfl, fun j p hj => ?_⟩⟩, fun y hy => ?_⟩
    · obtain ⟨_, cs', hK, hcl, hcc⟩ := hx j p hj
      refine ⟨cs', hcl, hK, fun i u hi => ?_⟩
      have hlt : i < d.sz := by
        have := (List.getElem?_eq_some_iff.1 hi).1
        omega
      rw [← Go.Deep.add_add, hcc i hlt, hi]
    · obtain ⟨i, hi, rfl⟩ := List.getElem_of_mem hy
      exact (hx i _ (List.getElem?_eq_getElem hi)).1
theorem opens_slice {α : Type} {t e : TypeId} {d : Kd α} {G : α → Prop} (hu : P.underlying t = some (.slice e)) (hC : P.cellsOf e = d.sz) (he : Opens enc P W base spare held e d G) :
    Opens enc P W base spare held t (Kd.slice e d) (fun xs => xs.length ≤ maxLen ∧ ∀ y ∈ xs, G y) := by
  intro fuel cs x h
  have hform : ∃ A n c, cs = [.slice A n c] := by
    rcases open_slice hu h with ⟨h0, _⟩ | ⟨a, len, c, m, k, D, Pl, hcs, _⟩
    · exact ⟨_, _, _, h0⟩
    · exact ⟨_, _, _, hcs⟩
  obtain ⟨A, n, c, rfl⟩ := hform
  obtain ⟨xs, rfl, hc, hm, hC', hG⟩ := slice_row hu hC he h
  exact ⟨xs, ⟨A, c, rfl, hc, hC'⟩, hm, hG⟩

/-- A struct of whole numbers. -/
theorem trod_ints {t : TypeId} {fs : Array Field} (hs : P.underlying t = some (.struct fs)) (hC : P.cellsOf t = fs.size) (hf : ∀ (j : Nat) (f : Field), fs[j]? = some f → f.offset = j ∧ P.cellsOf f.type = 1 ∧ P.underlying f.type = some (.int .i64))
    {fuel : Nat} {cs : List Value} {x : DataW H × List MemPlace} (h : DataW.trod enc P W base spare held fuel t cs = some x) :
    ∃ xs : List Int, xs.length = fs.size ∧ cs = xs.map (Value.int .i64) ∧ ∀ y ∈ xs, (Lit.int .i64 y).wf = true := by
  obtain ⟨ys, n, _, _, hl, hyl, hy⟩ := DataW.trod_struct hs h
  obtain ⟨xs, hxl, hx⟩ := list_of (α := Int) fs.size (fun j y => cs[j]? = some (.int .i64 y) ∧ (Lit.int .i64 y).wf = true) (by
    intro j hj
    have hfj : fs[j]? = some fs[j] := Array.getElem?_eq_getElem hj
    obtain ⟨ho, hk, hi⟩ := hf j _ hfj
    have h1 := hy j _ hfj
    rw [ho, hk] at h1
    have hjl : j < cs.length := by omega
    have e1 : (cs.drop j).take 1 = [cs[j]'hjl] := by
      rw [List.drop_eq_getElem_cons hjl]
      rfl
    rw [e1, List.getElem?_eq_getElem (by omega)] at h1
    obtain ⟨y, hc, _, hw⟩ := DataW.trod_int hi h1
    refine ⟨y, ?_, hw⟩
    rw [List.getElem?_eq_getElem hjl]
    simpa using hc)
  refine ⟨xs, hxl, ?_, fun y hy' => ?_⟩
  · apply List.ext_getElem?
    intro j
    rcases Nat.lt_or_ge j fs.size with hj | hj
    · rw [List.getElem?_map]
      have e := List.getElem?_eq_getElem (l := xs) (i := j) (by omega)
      rw [e, (hx j _ e).1]
      rfl
    · rw [List.getElem?_eq_none (by omega), List.getElem?_eq_none (by simp; omega)]
  · obtain ⟨i, hi, rfl⟩ := List.getElem_of_mem hy'
    exact (hx i _ (List.getElem?_eq_getElem hi)).2
theorem one2 {xs : List Int} (h : xs.length = 2) : ∃ a b, xs = [a, b] := by
  match xs, h with
  | [a, b], _ => exact ⟨a, b, rfl⟩
theorem one3 {xs : List Int} (h : xs.length = 3) : ∃ a b c, xs = [a, b, c] := by
  match xs, h with
  | [a, b, c], _ => exact ⟨a, b, c, rfl⟩
theorem one4 {xs : List Int} (h : xs.length = 4) : ∃ a b c d, xs = [a, b, c, d] := by
  match xs, h with
  | [a, b, c, d], _ => exact ⟨a, b, c, d, rfl⟩
theorem agg_cells (cs : Array Value) : (Value.agg cs).cells.toList = cs.toList := rfl
/-- The weight of a slice bounds its length. -/
theorem sized_row {t e : TypeId} {A : Option Addr} {n cap : Nat} {d : DataW H} {ps : List MemPlace} {ts : List TypeId} {ds : List (DataW H)} {j : Nat}
    (hsz : (DataW.weightsEach P ts ds).all (· ≤ reachBytes) = true) (ht : ts[j]? = some t) (hd : ds[j]? = some d) (hu : P.underlying t = some (.slice e)) {B : Nat} (hB : P.bytesOf e = B)
    (h : DataW.Trod enc P W base spare held t (.slice A n cap) d ps) : n * B ≤ 140737488351232 := by
  obtain ⟨fuel, hf⟩ := h
  have hf' : DataW.trod enc P W base spare held fuel t [.slice A n cap] = some (d, ps) := hf
  rcases open_slice hu hf' with ⟨h0, _⟩ | ⟨a, len, c, m, k, D, Pl, hcs, _, hl, hm, hmm, hx, hel⟩
  · simp only [List.cons.injEq, Value.slice.injEq, and_true] at h0
    obtain ⟨rfl, rfl, rfl⟩ := h0
    simp
  · simp only [List.cons.injEq, Value.slice.injEq, and_true] at hcs
    obtain ⟨rfl, rfl, rfl⟩ := hcs
    obtain ⟨hx, _⟩ := Prod.mk.inj hx
    subst hx
    have z := sized_slice hsz ht hd hu
    rw [hB] at z
    simp only [List.length_map, List.length_range] at z
    exact Nat.le_trans (Nat.mul_le_mul_right _ (by omega)) z
end
end Go.Proofs.Ytkmpcmhkfnoeiaa.Opn
/- The head of the translation: a cut, with nothing lifted. No condition. -/
namespace Go.Proofs.Ytkmpcmhkfnoeiaa.Head
open Go
def chars (l : List Nat) : List Char := l.map Char.ofNat
def w1 : List Nat := [104, 97, 114, 110, 101, 115, 115]
def w2 : List Nat := [98, 51, 101, 57, 53, 99, 48, 99, 53, 99, 48, 102, 56, 101, 53, 99, 99, 102, 102, 51, 56, 51, 55, 99, 98, 54, 57, 51, 102, 99, 102, 99, 56, 55, 101, 57, 99, 51, 54, 55, 51, 54, 57, 97, 98, 97, 48, 56, 49, 99, 55, 50, 51, 97, 97, 50, 55, 48, 99, 53, 49, 99, 55, 54]
def w3 : List Nat := [99, 117, 116]
def w4 : List Nat := [97, 116, 32, 108, 111, 111, 112, 46, 101, 120, 97, 109, 112, 108, 101, 47, 100, 101, 97, 100, 108, 105, 110, 101, 115, 99, 104, 101, 100, 117, 108, 101, 114, 47, 108, 97, 119, 115, 46, 70, 110, 69, 120, 97, 99, 116, 83, 117, 98, 116, 97, 115, 107, 87, 105, 110, 100, 111, 119, 32, 108, 111, 111, 112, 46, 101, 120, 97, 109, 112, 108, 101, 47, 100, 101, 97, 100, 108, 105, 110, 101, 115, 99, 104, 101, 100, 117, 108, 101, 114, 47, 108, 97, 119, 115, 46, 70, 110, 83, 117, 98, 116, 97, 115, 107, 87, 105, 110, 100, 111, 119, 32, 108, 111, 111, 112, 46, 101, 120, 97, 109, 112, 108, 101, 47, 100, 101, 97, 100, 108, 105, 110, 101, 115, 99, 104, 101, 100, 117, 108, 101, 114, 47, 108, 97, 119, 115, 46, 70, 110, 69, 120, 97, 99, 116, 67, 111, 110, 102, 111, 114, 109, 115, 32, 108, 111, 111, 112, 46, 101, 120, 97, 109, 112, 108, 101, 47, 100, 101, 97, 100, 108, 105, 110, 101, 115, 99, 104, 101, 100, 117, 108, 101, 114, 47, 108, 97, 119, 115, 46, 70, 110, 67, 111, 110, 102, 111, 114, 109, 115, 32, 108, 111, 111, 112, 46, 101, 120, 97, 109, 112, 108, 101, 47, 100, 101, 97, 100, 108, 105, 110, 101, 115, 99, 104, 101, 100, 117, 108, 101, 114, 47, 108, 97, 119, 115, 46, 70, 110, 69, 120, 97, 99, 116, 66, 97, 99, 107, 108, 111, 103, 115, 32, 108, 111, 111, 112, 46, 101, 120, 97, 109, 112, 108, 101, 47, 100, 101, 97, 100, 108, 105, 110, 101, 115, 99, 104, 101, 100, 117, 108, 101, 114, 47, 108, 97, 119, 115, 46, 70, 110, 66, 97, 99, 107, 108, 111, 103, 115, 32, 108, 111, 111, 112, 46, 101, 120, 97, 109, 112, 108, 101, 47, 100, 101, 97, 100, 108, 105, 110, 101, 115, 99, 104, 101, 100, 117, 108, 101, 114, 47, 108, 97, 119, 115, 46, 70, 110, 66, 97, 99, 107, 108, 111, 103, 83, 97, 102, 101, 32, 108, 111, 111, 112, 46, 101, 120, 97, 109, 112, 108, 101, 47, 100, 101, 97, 100, 108, 105, 110, 101, 115, 99, 104, 101, 100, 117, 108, 101, 114, 47, 108, 97, 119, 115, 46, 70, 110, 68, 101, 108, 97, 121, 83, 97, 102, 101, 32, 108, 111, 111, 112, 46, 101, 120, 97, 109, 112, 108, 101, 47, 100, 101, 97, 100, 108, 105, 110, 101, 115, 99, 104, 101, 100, 117, 108, 101, 114, 47, 108, 97, 119, 115, 46, 70, 110, 69, 120, 97, 99, 116, 71, 114, 97, 112, 104, 86, 97, 108, 105, 100, 32, 108, 111, 111, 112, 46, 101, 120, 97, 109, 112, 108, 101, 47, 100, 101, 97, 100, 108, 105, 110, 101, 115, 99, 104, 101, 100, 117, 108, 101, 114, 47, 108, 97, 119, 115, 46, 70, 110, 71, 114, 97, 112, 104, 86, 97, 108, 105, 100, 32, 108, 111, 111, 112, 46, 101, 120, 97, 109, 112, 108, 101, 47, 100, 101, 97, 100, 108, 105, 110, 101, 115, 99, 104, 101, 100, 117, 108, 101, 114, 47, 108, 97, 119, 115, 46, 70, 110, 69, 120, 97, 99, 116, 86, 111, 108, 117, 109, 101, 32, 108, 111, 111, 112, 46, 101, 120, 97, 109, 112, 108, 101, 47, 100, 101, 97, 100, 108, 105, 110, 101, 115, 99, 104, 101, 100, 117, 108, 101, 114, 47, 108, 97, 119, 115, 46, 70, 110, 69, 120, 97, 99, 116, 67, 114, 105, 116, 105, 99, 97, 108, 80, 97, 116, 104, 32, 108, 111, 111, 112, 46, 101, 120, 97, 109, 112, 108, 101, 47, 100, 101, 97, 100, 108, 105, 110, 101, 115, 99, 104, 101, 100, 117, 108, 101, 114, 47, 108, 97, 119, 115, 46, 70, 110, 67, 114, 105, 116, 105, 99, 97, 108, 80, 97, 116, 104, 32, 108, 111, 111, 112, 46, 101, 120, 97, 109, 112, 108, 101, 47, 100, 101, 97, 100, 108, 105, 110, 101, 115, 99, 104, 101, 100, 117, 108, 101, 114, 47, 108, 97, 119, 115, 46, 70, 110, 69, 120, 97, 99, 116, 77, 97, 107, 101, 115, 112, 97, 110, 66, 111, 117, 110, 100]
theorem io_eq : Try.prog.initOrder = String.ofList (chars (w1 ++ 32 :: (w2 ++ 32 :: (w3 ++ 32 :: w4)))) := by kernel_rfl
theorem io_list : Try.prog.initOrder.toList = chars (w1 ++ 32 :: (w2 ++ 32 :: (w3 ++ 32 :: w4))) := by rw [io_eq, String.toList_ofList]
theorem ws_one (c : Char) (r w : List Char) (ws : List (List Char)) (hc : c ≠ Char.ofNat 32) (h : wordsSigns r = w :: ws) : wordsSigns (c :: r) = (c :: w) :: ws := by
  have e : wordsSigns (c :: r) = match wordsSigns r with
    | w :: ws => (c :: w) :: ws
    | [] => [[c]] := by
    rw [wordsSigns]
    · rfl
    · exact hc
  rw [e, h]
theorem ws_word (w : List Char) (h : ∀ c ∈ w, c ≠ Char.ofNat 32) (r : List Char) : wordsSigns (w ++ Char.ofNat 32 :: r) = w :: wordsSigns r := by
  induction w with
  | nil => rfl
  | cons c w ih => exact ws_one _ _ _ _ (h c (by simp)) (ih (fun x hx => h x (by simp [hx])))
theorem ws_nat (w r : List Nat) (h : w.all (fun n => !(Char.ofNat n == Char.ofNat 32)) = true) : wordsSigns (chars (w ++ 32 :: r)) = chars w :: wordsSigns (chars r) := by
  have e : chars (w ++ 32 :: r) = chars w ++ Char.ofNat 32 :: chars r := by simp [chars]
  rw [e]
  refine ws_word _ (fun c hc => ?_) _
  obtain ⟨n, hn, rfl⟩ := List.mem_map.1 hc
  have := List.all_eq_true.1 h n hn
  simpa using this
theorem io_words : behindMainWord (wordsSigns Try.prog.initOrder.toList) = chars w3 :: wordsSigns (chars w4) := by
  rw [io_list, ws_nat _ _ (by kernel_rfl), ws_nat _ _ (by kernel_rfl), ws_nat _ _ (by kernel_rfl)]
  generalize wordsSigns (chars w4) = R
  kernel_rfl
theorem make_gen (P : Program) (c : List Char) (R : List (List Char)) (h : behindMainWord (wordsSigns P.initOrder.toList) = c :: R) (h1 : (c == "gc".toList || c == "spec".toList) = false) (h2 : (c == "cut".toList) = true) : P.make = some .cut := by
  unfold Program.make
  rw [h]
  simp only [h1, h2, Bool.true_or, if_true, Bool.false_eq_true, if_false]
theorem make : Try.prog.make = some .cut := make_gen _ _ _ io_words (by kernel_rfl) (by kernel_rfl)
theorem enter_gen (P : Program) (c : List Char) (R : List (List Char)) (h : behindMainWord (wordsSigns P.initOrder.toList) = c :: R) (h1 : ∀ R, stripLifts liftWords (c :: R) = ([], c :: R)) (h2 : (some c == some "cut".toList) = true)
    (h3 : P.laysLater = false) (h4 : P.bearsReflect = false) (h5 : P.doorFits [] = true) : P.mayEnter = true := by
  unfold Program.mayEnter
  rw [h]
  simp only [h1, h2, h3, h4, h5, List.head?_cons, Bool.not_false, Bool.or_true, Bool.and_true, List.contains_nil]
theorem enter : Try.prog.mayEnter = true := enter_gen _ _ _ io_words (fun R => by kernel_rfl) (by kernel_rfl) (by kernel_rfl) (by kernel_rfl) (by kernel_rfl)
theorem lifts : Try.prog.liftsFinal = false := by
  unfold Program.liftsFinal Program.headLifts
  simp only [io_words]
  generalize wordsSigns (chars w4) = R
  kernel_rfl
end Go.Proofs.Ytkmpcmhkfnoeiaa.Head
/- The law FnExactMakespanBound, proved: for every input the call returns true and each argument reads as it did. No condition. -/
namespace Go.Proofs.Ytkmpcmhkfnoeiaa.fnExactMakespanBound
open Go.ChangeShapes Go.WideShapes Go.ChangeAt Go.RowKit Go.Proofs.YtkmpcmhkfnoeiaaW.PrintWords Go.Proofs.Ytkmpcmhkfnoeiaa.P
open Go.ChangeMaps (open_string shut_string)
theorem own : ownKnob Try.prog.godebug = none := by kernel_rfl
theorem laidOut : laidOutB Try.prog = true := by kernel_rfl
set_option maxRecDepth 100000 in
theorem lifted (os : Os) (started : os.Started) (H : Type) (enc : TypeId × Value → H) :
    ReturnsInHanded {} Try.checked os 16 .any (Rows.fnExactMakespanBoundSpec.pre6 enc Try.prog Try.f16 Rows.fnExactMakespanBoundRow.domain false) (Rows.fnExactMakespanBoundSpec.post enc Try.prog Try.f16 false true false false) := by
  refine returnsInHanded_of_change_sized (C := Try.checked) own started (by kernel_rfl) Try.func16
    (ChangeSpec.witness6 (enc := enc) (C := Try.checked) false ⟨#[], #[.slice none 0 0, .slice none 0 0, .int .i64 0], []⟩ 8 (by kernel_rfl) (by kernel_rfl) (by kernel_rfl) (by kernel_rfl)) ?_
  intro W base args ds gs before hval0 hW hcnd hsz0 _
  have hsz : (DataW.weightsEach Try.prog (Try.f16.params.toList ++ Rows.fnExactMakespanBoundSpec.plain.varTypes Try.prog) (ds ++ gs)).all (· ≤ reachBytes) = true := hsz0
  have hval : ∀ (j : Nat) t v, Try.f16.params[j]? = some t → args[j]? = some v → Value.okWide Try.prog W .any base t v := hval0
  have hW' := hW
  obtain ⟨p, q, hA0, hV, rfl, hfz, hnd⟩ := hW
  have hA : DataW.TrodAll enc Try.prog W 0 (fun _ => true) true Try.f16.params.toList args.toList ds p := hA0
  rw [Try.params16] at hA hval hsz
  obtain ⟨v0, vs0, d0, ds0, p0, q0, hargs, rfl, rfl, h0, r0⟩ := trodAll_cons hA
  obtain ⟨v1, vs1, d1, ds1, p1, q1, rfl, rfl, rfl, h1, r1⟩ := trodAll_cons r0
  obtain ⟨v2, vs2, d2, ds2, p2, q2, rfl, rfl, rfl, h2, r2⟩ := trodAll_cons r1
  obtain ⟨rfl, rfl, rfl⟩ := trodAll_nil r2
  obtain rfl : args = #[v0, v1, v2] := by cases args; simp_all
  obtain ⟨rfl, rfl⟩ := trodVars_none hV
  have k0 := h0
  have lt0 : ∀ x ∈ p0, x.block < W.heap.size := by obtain ⟨m, hm⟩ := k0; exact DataW.trod_lt m _ _ _ hm
  obtain ⟨A0, n0, c0, rfl⟩ := okWide_slice Try.underlying39 (hval 0 39 v0 rfl rfl)
  have y0 : n0 * 8 ≤ 140737488351232 := Opn.sized_row hsz (j := 0) (t := 39) rfl rfl Try.underlying39 (by kernel_rfl) h0
  obtain ⟨l0, rfl, hc0, hm0, hr0, hg0⟩ : ∃ xs : List (Int), xs.length = n0 ∧ n0 ≤ c0 ∧ n0 ≤ maxLen ∧ Kd.C (Kd.int .i64) W A0 xs.length xs ∧ ∀ y0 ∈ xs, (Lit.int .i64 y0).wf = true := by
    obtain ⟨fuel, hf⟩ := h0
    exact Opn.slice_row Try.underlying39 (by kernel_rfl) (Opn.opens_int Try.underlying3) hf
  have k1 := h1
  have lt1 : ∀ x ∈ p1, x.block < W.heap.size := by obtain ⟨m, hm⟩ := k1; exact DataW.trod_lt m _ _ _ hm
  obtain ⟨A1, n1, c1, rfl⟩ := okWide_slice Try.underlying60 (hval 1 60 v1 rfl rfl)
  have y1 : n1 * 24 ≤ 140737488351232 := Opn.sized_row hsz (j := 1) (t := 60) rfl rfl Try.underlying60 (by kernel_rfl) h1
  obtain ⟨l1, rfl, hc1, hm1, hr1, hg1⟩ : ∃ xs : List (List Int), xs.length = n1 ∧ n1 ≤ c1 ∧ n1 ≤ maxLen ∧ Kd.C (Kd.slice 3 (Kd.int .i64)) W A1 xs.length xs ∧ ∀ y0 ∈ xs, y0.length ≤ maxLen ∧ ∀ y1 ∈ y0, (Lit.int .i64 y1).wf = true := by
    obtain ⟨fuel, hf⟩ := h1
    exact Opn.slice_row Try.underlying60 (by kernel_rfl) (Opn.opens_slice Try.underlying39 (by kernel_rfl) (Opn.opens_int Try.underlying3)) hf
  obtain ⟨a2, rfl, rfl, rfl, w2⟩ := open_int Try.underlying3 (hval 2 3 v2 rfl rfl) h2
  obtain ⟨k, hk⟩ := Pure.FnExactMakespanBound l0 l1 a2 y0 ⟨hm0, hg0⟩ y1 ⟨hm1, hg1⟩ w2
  clear hA0 hval0 hsz0 hsz
  refine (laws_FnExactMakespanBound.calls k A0 c0 l0 A1 c1 l1 a2 true W hr0 hc0 hr1 hc1 hk).mono fun e W' ⟨he, hd⟩ => ?_
  have bel := hd
  subst he
  exact ⟨_, rfl, _, _, _, [], _, [], hW', trodAll_mk1 (shut_bool Try.underlying4 _), (trodAll_cons_mk (Below.trod laidOut (by kernel_rfl) (of_decide_eq_true (by kernel_rfl)) k0 bel lt0) (trodAll_cons_mk (Below.trod laidOut (by kernel_rfl) (of_decide_eq_true (by kernel_rfl)) k1 bel lt1) (trodAll_cons_mk (shut_int Try.underlying3 w2) trodAll_mk0))), rfl, bel.frame _, fun h => by cases h⟩
theorem closed : joinedFacts Try.prog 16 Try.f16 Rows.fnExactMakespanBoundSpec Rows.fnExactMakespanBoundRow = true := by
  simp only [joinedFacts, Head.enter, Head.lifts, Head.make]
  kernel_rfl
theorem named : Try.prog.funcNamed Rows.fnExactMakespanBoundRow.func = some 16 := by kernel_rfl
theorem wrapped : Try.f16.isWrapper Try.prog Rows.fnExactMakespanBoundRow.wrapper Rows.fnExactMakespanBoundRow.mainSum := by unfold Func.isWrapper; first | (rw [if_pos (by decide +kernel)]; kernel_rfl) | (rw [if_neg (by decide +kernel)]; exact ⟨rfl, rfl⟩)
theorem over : Rows.fnExactMakespanBoundRow.holds Try.pinned (OpenSpec.ofChange Rows.fnExactMakespanBoundSpec) :=
  OpenClaim.holds_of_wide 16 Try.f16 rfl rfl rfl rfl rfl rfl rfl ⟨rfl, rfl, rfl, rfl, rfl⟩ rfl rfl rfl rfl rfl named Try.func16 closed
    (of_decide_eq_true (by kernel_rfl)) wrapped
    (fun os started H enc _ => lifted os started H enc)
theorem proved : Rows.FnExactMakespanBoundSaid := over
#print axioms proved
end Go.Proofs.Ytkmpcmhkfnoeiaa.fnExactMakespanBound
namespace Go.Proofs.Ytkmpcmhkfnoeiaa
/-- The row, under a short name, for the claim. -/
theorem fnExactMakespanBound_holds : Rows.FnExactMakespanBoundSaid := fnExactMakespanBound.proved
end Go.Proofs.Ytkmpcmhkfnoeiaa
