/- The law FnExactRunFair for every input, part 5 of its proof: what the program's functions answer, and the plain law. No condition. -/
import Derived.Test.YtnilnaabjpcfjaaMFnExactRunFair1
import Derived.Test.YtnilnaabjpcfjaaMFnExactRunFair2
import Derived.Test.YtnilnaabjpcfjaaMFnExactRunFair3
import Derived.Test.YtnilnaabjpcfjaaMFnExactRunFair4
import Derived.Sort.Lot0
import Derived.Laws.BitsLemmas
import Derived.SizedLaws
import Derived.ChangeSlices
import Derived.ChangeArms
import Derived.WideShapes
import Derived.Deep.Slices
import Derived.OpenShut
import Derived.Test.YtnilnaabjpcfjaaRows
import Derived.JoinedOf
import Derived.KernelRfl
import Derived.WalkKit
import Derived.ProofKit
import Derived.ShutString
import Derived.ChangeOld
import Derived.Below
set_option maxRecDepth 100000
namespace Go.Proofs.Ytnilnaabjpcfjaa.P
open Go.RowKit Go.Proofs.YtnilnaabjpcfjaaW.PrintWords Go.Proofs.YtnilnaabjpcfjaaW.PrintLast Go.Proofs.YtnilnaabjpcfjaaW.PrintMore
attribute [local go_sem] ze2 ze3 zf3 zf4 zej zek ze4 ze5
set_option linter.unusedVariables false
set_option linter.unusedSimpArgs false
def laws_FnExactRunFair.j0 : Nat → List (S65) → Int → List (List Int) → List (List Int) → Bool → Option (Bool)
 | 0, _, _, _, _, _ => none
 | k + 1, x0, x1, x6, x8, x46 => if x46 = true then (some false) else ((zbs.f k x8 1).bind fun bt540 => ((zbf.f k bt540.2 1).bind fun t541 => (if t541 < 0 then (some false) else (if t541 = bt540.1 then ((zbb.f k x0).bind fun t542 => ((zbg.f k t542 x1).bind fun t545 => ((zbc.f k t545 x6).bind fun t548 => (if t548 = true then ((zbf.f k bt540.2 1).bind fun t549 => (if t549 < 0 then (some false) else (if t549 = bt540.1 then (some true) else (some false)))) else (some false))))) else (some false)))))
def laws_FnExactRunFair.f (k : Nat) (l0 : List (S65)) (a1 : Int) : Option (Bool) := (zck.f l0 1048576).bind fun t519 => (if t519 < 0 then (some true) else ((zbb.f k l0).bind fun t520 => ((zq.f k t520 a1).bind fun t523 => ((zbb.f k l0).bind fun t526 => ((zbg.f k t526 a1).bind fun t529 => ((zbc.f k t529 t523).bind fun t532 => (if t532 = true then ((zbb.f k l0).bind fun t533 => ((zbh.f k t526 t533).bind fun t536 => (if t536 = true then ((zbj.f k t526 1).bind fun bt537 => (if bt537.1 < 0 then (laws_FnExactRunFair.j0 k l0 a1 t523 t529 true) else ((zbc.f k t529 t523).bind fun t539 => (laws_FnExactRunFair.j0 k l0 a1 t523 t529 (!t539))))) else (some false)))) else (some false))))))))
theorem zbf.ze9 (k : Nat) (A0 : Option Addr) (c0 : Nat) (l0 : List (List Int)) (n : Nat) (hn : n = l0.length) (a1 : Int) (r : Int) (w : World) (hr0 : Kd.C (Kd.slice 3 (Kd.int .i64)) w A0 l0.length l0) (hc0 : n ≤ c0) (h : zbf.f k l0 a1 = some r) :
  Calls Try.prog 24 #[.slice A0 n c0, .int .i64 a1] w fun e w' => e = .returned (.int .i64 r) ∧ zbl w w' := by
 subst hn
 exact zbf.calls k A0 c0 l0 a1 r w hr0 hc0 h
set_option maxHeartbeats 8000000 in
theorem laws_FnExactRunFair.calls (k : Nat) (A0 : Option Addr) (c0 : Nat) (l0 : List (S65)) (a1 : Int) (r : Bool) (w : World) (hr0 : Kd.C k65 w A0 l0.length l0) (hc0 : l0.length ≤ c0) (h : laws_FnExactRunFair.f k l0 a1 = some r) :
  Calls Try.prog 7 #[.slice A0 l0.length c0, .int .i64 a1] w fun e w' => e = .returned (.bool r) ∧ Below w.heap.size w w' := by
 have HR0 := za.mk hr0
 have HC0 := za.mk hc0
 clear hr0 hc0
 have HB := za.mk (Below.refl w.heap.size w)
 have H : ((zck.f l0 1048576).bind fun t519 => (if t519 < 0 then (some true) else ((zbb.f k l0).bind fun t520 => ((zq.f k t520 a1).bind fun t523 => ((zbb.f k l0).bind fun t526 => ((zbg.f k t526 a1).bind fun t529 => ((zbc.f k t529 t523).bind fun t532 => (if t532 = true then ((zbb.f k l0).bind fun t533 => ((zbh.f k t526 t533).bind fun t536 => (if t536 = true then ((zbj.f k t526 1).bind fun bt537 => (if bt537.1 < 0 then (laws_FnExactRunFair.j0 k l0 a1 t523 t529 true) else ((zbc.f k t529 t523).bind fun t539 => (laws_FnExactRunFair.j0 k l0 a1 t523 t529 (!t539))))) else (some false)))) else (some false))))))))) = some r := h
 clear h
 replace H := Option.bind_eq_some_iff.mp H
 obtain ⟨t519, A30, H⟩ := H
 replace H : (if t519 < 0 then (some true) else ((zbb.f k l0).bind fun t520 => ((zq.f k t520 a1).bind fun t523 => ((zbb.f k l0).bind fun t526 => ((zbg.f k t526 a1).bind fun t529 => ((zbc.f k t529 t523).bind fun t532 => (if t532 = true then ((zbb.f k l0).bind fun t533 => ((zbh.f k t526 t533).bind fun t536 => (if t536 = true then ((zbj.f k t526 1).bind fun bt537 => (if bt537.1 < 0 then (laws_FnExactRunFair.j0 k l0 a1 t523 t529 true) else ((zbc.f k t529 t523).bind fun t539 => (laws_FnExactRunFair.j0 k l0 a1 t523 t529 (!t539))))) else (some false)))) else (some false)))))))) = some r := H
 have A3 := za.mk A30
 clear A30
 by_cases c4 : t519 < 0
 ·rw [if_pos c4] at H
  have c4b0 : decide (t519 < 0) = true := decide_eq_true c4;clear c4;obtain rfl := Option.some.inj H;go_enter Try.func7, Try.ntmps7;go_wp2_with (first | ((with_reducible refine zt (f := 18) rfl ?_); refine zbt (some 15) rfl rfl Try.func18 (by kernel_rfl) rfl #[.slice A0 l0.length c0, .int .i64 1048576] rfl Zmt ?_; (with_reducible refine (zck.calls _ _ l0 1048576 t519 _ ?side1 ?side2 A3.out).mono ?_); (case side1 => exact Zq4 HR0); (case side2 => exact HC0.out); rintro e w' ⟨rfl, ⟨nd, rfl⟩⟩; refine ⟨_, rfl, ?_⟩));go_ret;exact ⟨by first | rfl | (simp [zn, zo] <;> rfl) | (simp [*, zn, zo] <;> rfl), Zq0 HB⟩
 ·rw [if_neg c4] at H
  have c4b0 : decide (t519 < 0) = false := decide_eq_false c4;clear c4;replace H := Option.bind_eq_some_iff.mp H;obtain ⟨t520, A50, H⟩ := H;replace H : ((zq.f k t520 a1).bind fun t523 => ((zbb.f k l0).bind fun t526 => ((zbg.f k t526 a1).bind fun t529 => ((zbc.f k t529 t523).bind fun t532 => (if t532 = true then ((zbb.f k l0).bind fun t533 => ((zbh.f k t526 t533).bind fun t536 => (if t536 = true then ((zbj.f k t526 1).bind fun bt537 => (if bt537.1 < 0 then (laws_FnExactRunFair.j0 k l0 a1 t523 t529 true) else ((zbc.f k t529 t523).bind fun t539 => (laws_FnExactRunFair.j0 k l0 a1 t523 t529 (!t539))))) else (some false)))) else (some false)))))) = some r := H;have A5 := za.mk A50;clear A50;replace H := Option.bind_eq_some_iff.mp H;obtain ⟨t523, A60, H⟩ := H;replace H : ((zbb.f k l0).bind fun t526 => ((zbg.f k t526 a1).bind fun t529 => ((zbc.f k t529 t523).bind fun t532 => (if t532 = true then ((zbb.f k l0).bind fun t533 => ((zbh.f k t526 t533).bind fun t536 => (if t536 = true then ((zbj.f k t526 1).bind fun bt537 => (if bt537.1 < 0 then (laws_FnExactRunFair.j0 k l0 a1 t523 t529 true) else ((zbc.f k t529 t523).bind fun t539 => (laws_FnExactRunFair.j0 k l0 a1 t523 t529 (!t539))))) else (some false)))) else (some false))))) = some r := H;have A6 := za.mk A60;clear A60;replace H := Option.bind_eq_some_iff.mp H;obtain ⟨t526, A70, H⟩ := H;replace H : ((zbg.f k t526 a1).bind fun t529 => ((zbc.f k t529 t523).bind fun t532 => (if t532 = true then ((zbb.f k l0).bind fun t533 => ((zbh.f k t526 t533).bind fun t536 => (if t536 = true then ((zbj.f k t526 1).bind fun bt537 => (if bt537.1 < 0 then (laws_FnExactRunFair.j0 k l0 a1 t523 t529 true) else ((zbc.f k t529 t523).bind fun t539 => (laws_FnExactRunFair.j0 k l0 a1 t523 t529 (!t539))))) else (some false)))) else (some false)))) = some r := H;have A7 := za.mk A70;clear A70;replace H := Option.bind_eq_some_iff.mp H;obtain ⟨t529, A80, H⟩ := H;replace H : ((zbc.f k t529 t523).bind fun t532 => (if t532 = true then ((zbb.f k l0).bind fun t533 => ((zbh.f k t526 t533).bind fun t536 => (if t536 = true then ((zbj.f k t526 1).bind fun bt537 => (if bt537.1 < 0 then (laws_FnExactRunFair.j0 k l0 a1 t523 t529 true) else ((zbc.f k t529 t523).bind fun t539 => (laws_FnExactRunFair.j0 k l0 a1 t523 t529 (!t539))))) else (some false)))) else (some false))) = some r := H;have A8 := za.mk A80;clear A80;replace H := Option.bind_eq_some_iff.mp H;obtain ⟨t532, A90, H⟩ := H;replace H : (if t532 = true then ((zbb.f k l0).bind fun t533 => ((zbh.f k t526 t533).bind fun t536 => (if t536 = true then ((zbj.f k t526 1).bind fun bt537 => (if bt537.1 < 0 then (laws_FnExactRunFair.j0 k l0 a1 t523 t529 true) else ((zbc.f k t529 t523).bind fun t539 => (laws_FnExactRunFair.j0 k l0 a1 t523 t529 (!t539))))) else (some false)))) else (some false)) = some r := H;have A9 := za.mk A90;clear A90;by_cases c10 : t532 = true
  ·subst c10
   have H1 : ((zbb.f k l0).bind fun t533 => ((zbh.f k t526 t533).bind fun t536 => (if t536 = true then ((zbj.f k t526 1).bind fun bt537 => (if bt537.1 < 0 then (laws_FnExactRunFair.j0 k l0 a1 t523 t529 true) else ((zbc.f k t529 t523).bind fun t539 => (laws_FnExactRunFair.j0 k l0 a1 t523 t529 (!t539))))) else (some false)))) = some r := by rw [if_pos rfl] at H; exact H
   clear H;have H := H1;clear H1;replace H := Option.bind_eq_some_iff.mp H;obtain ⟨t533, A110, H⟩ := H;replace H : ((zbh.f k t526 t533).bind fun t536 => (if t536 = true then ((zbj.f k t526 1).bind fun bt537 => (if bt537.1 < 0 then (laws_FnExactRunFair.j0 k l0 a1 t523 t529 true) else ((zbc.f k t529 t523).bind fun t539 => (laws_FnExactRunFair.j0 k l0 a1 t523 t529 (!t539))))) else (some false))) = some r := H;have A11 := za.mk A110;clear A110;replace H := Option.bind_eq_some_iff.mp H;obtain ⟨t536, A120, H⟩ := H;replace H : (if t536 = true then ((zbj.f k t526 1).bind fun bt537 => (if bt537.1 < 0 then (laws_FnExactRunFair.j0 k l0 a1 t523 t529 true) else ((zbc.f k t529 t523).bind fun t539 => (laws_FnExactRunFair.j0 k l0 a1 t523 t529 (!t539))))) else (some false)) = some r := H;have A12 := za.mk A120;clear A120;by_cases c13 : t536 = true
   ·subst c13
    have H1 : ((zbj.f k t526 1).bind fun bt537 => (if bt537.1 < 0 then (laws_FnExactRunFair.j0 k l0 a1 t523 t529 true) else ((zbc.f k t529 t523).bind fun t539 => (laws_FnExactRunFair.j0 k l0 a1 t523 t529 (!t539))))) = some r := by rw [if_pos rfl] at H; exact H
    clear H;have H := H1;clear H1;replace H := Option.bind_eq_some_iff.mp H;obtain ⟨⟨t537, t538⟩, A140, H⟩ := H;replace H : (if t537 < 0 then (laws_FnExactRunFair.j0 k l0 a1 t523 t529 true) else ((zbc.f k t529 t523).bind fun t539 => (laws_FnExactRunFair.j0 k l0 a1 t523 t529 (!t539)))) = some r := H;have A14 := za.mk A140;clear A140;have HC15 := za.mk H;clear H;go_enter Try.func7, Try.ntmps7
    go_upto_region 14 with (first | ((with_reducible refine zt (f := 18) rfl ?_); refine zbt (some 15) rfl rfl Try.func18 (by kernel_rfl) rfl #[.slice A0 l0.length c0, .int .i64 1048576] rfl Zmt ?_; (with_reducible refine (zck.calls _ _ l0 1048576 t519 _ ?side1 ?side2 A3.out).mono ?_); (case side1 => exact Zq4 HR0); (case side2 => exact HC0.out); rintro e w' ⟨rfl, ⟨nd, rfl⟩⟩; refine ⟨_, rfl, ?_⟩) | ((with_reducible refine zt (f := 19) rfl ?_); refine zbt (some 19) rfl rfl Try.func19 (by kernel_rfl) rfl #[.slice A0 l0.length c0] rfl Zmt ?_; (with_reducible refine (zbb.calls k _ _ l0 t520 _ ?side1 ?side2 A5.out).mono ?_); (case side1 => exact Zq4 HR0); (case side2 => exact HC0.out); rintro e w16 ⟨v521, rfl, ho0, hb⟩; refine ⟨_, rfl, ?_⟩; have n0_ := za.mk (Kd.zcr ho0 (zu (Zq0 HB))); have n1_ := za.mk (zk (Zq0 HB) hb); clear HB; have HO522 := n0_; have HB := n1_; clear n0_ n1_; (try clear hb); (try clear hb2); (try clear hk); (try clear hi); (try clear ho0); obtain ⟨Ao17, co17, eo17⟩ := Kd.zch HO522.out; subst eo17) | ((with_reducible refine zt (f := 12) rfl ?_); refine zbt (some 21) rfl rfl Try.func12 (by kernel_rfl) rfl #[.slice Ao17 t520.length co17, .int .i64 a1] rfl Zmt ?_; (with_reducible refine (zq.calls k _ _ t520 a1 t523 _ ?side1 ?side2 A6.out).mono ?_); (case side1 => exact Zq5 ((Kd.zbm HO522.out).2.2)); (case side2 => exact (Kd.zbm HO522.out).2.1); rintro e w18 ⟨v524, rfl, ho0, hb⟩; refine ⟨_, rfl, ?_⟩; have n0_ := za.mk (Kd.zb9 (Zq10 HO522) hb); have n1_ := za.mk (Kd.zdm ho0 (zu (Zq0 HB))); have n2_ := za.mk (zk (Zq0 HB) hb); clear HO522; clear HB; have HO522 := n0_; have HO525 := n1_; have HB := n2_; clear n0_ n1_ n2_; (try clear hb); (try clear hb2); (try clear hk); (try clear hi); (try clear ho0)) | ((with_reducible refine zt (f := 19) rfl ?_); refine zbt (some 23) rfl rfl Try.func19 (by kernel_rfl) rfl #[.slice A0 l0.length c0] rfl Zmt ?_; (with_reducible refine (zbb.calls k _ _ l0 t526 _ ?side1 ?side2 A7.out).mono ?_); (case side1 => exact Zq5 (Kd.zcf HR0.out HB.out)); (case side2 => exact HC0.out); rintro e w19 ⟨v527, rfl, ho0, hb⟩; refine ⟨_, rfl, ?_⟩; have n0_ := za.mk (Kd.zdq (Zq10 HO522) (Kd.zec ho0) hb); have n1_ := za.mk (Kd.zcg (Zq11 HO525) hb); have n2_ := za.mk (Kd.zcr (Kd.zey ho0 (Kd.R_lt (Zq10 HO522))) (zu (Zq0 HB))); have n3_ := za.mk (zk (Zq0 HB) hb); clear HO522; clear HO525; clear HB; have HO522 := n0_; have HO525 := n1_; have HO528 := n2_; have HB := n3_; clear n0_ n1_ n2_ n3_; (try clear hb); (try clear hb2); (try clear hk); (try clear hi); (try clear ho0); obtain ⟨Ao20, co20, eo20⟩ := Kd.zch HO528.out; subst eo20) | ((with_reducible refine zt (f := 10) rfl ?_); refine zbt (some 26) rfl rfl Try.func10 (by kernel_rfl) rfl #[.slice Ao20 t526.length co20, .int .i64 a1] rfl Zmt ?_; (with_reducible refine (zbg.zga k _ _ t526 a1 t529 _ ?side1 ?side2 A8.out).mono ?_); (case side1 => exact Zq5 ((Kd.zbm HO528.out).2.2)); (case side2 => exact (Kd.zbm HO528.out).2.1); rintro e w21 ⟨v530, rfl, ho0, hb⟩; refine ⟨_, rfl, ?_⟩; have n0_ := za.mk (Kd.zb9 (Zq10 HO522) hb); have n1_ := za.mk (Kd.zc4 (Kd.zdt (ok' := fun k_ => k_ < w19.heap.size) (Kd.zet (Zq11 HO525)) (fun k_ hk_ => hk_.2.2.1)) (Kd.zee ho0) hb); have n2_ := za.mk (Kd.zb9 (Zq10 HO528) hb); have n3_ := za.mk (Kd.zdm (Kd.zei (Kd.zdt (ok' := fun k_ => w19.heap.size ≤ k_) (Kd.zet ho0) (fun k_ hk_ => hk_.2.1)) (Kd.S_lt (Zq11 HO525))) (zu (Zq0 HB))); have n4_ := za.mk (zk (Zq0 HB) hb); clear HO522; clear HO525; clear HO528; clear HB; have HO522 := n0_; have HO525 := n1_; have HO528 := n2_; have HO531 := n3_; have HB := n4_; clear n0_ n1_ n2_ n3_ n4_; (try clear hb); (try clear hb2); (try clear hk); (try clear hi); (try clear ho0); obtain ⟨Ao22, co22, eo22⟩ := Kd.zdp HO531.out; subst eo22; obtain ⟨Ao23, co23, eo23⟩ := Kd.zdp HO525.out; subst eo23) | ((with_reducible refine zt (f := 20) rfl ?_); refine zbt (some 29) rfl rfl Try.func20 (by kernel_rfl) rfl #[.slice Ao22 t529.length co22, .slice Ao23 t523.length co23] rfl Zmt ?_; (with_reducible refine (zbc.calls k _ _ t529 _ _ t523 true _ ?side1 ?side2 ?side3 ?side4 A9.out).mono ?_); (case side1 => exact Zq5 ((Kd.zbr HO531.out).2.2)); (case side2 => exact (Kd.zbr HO531.out).2.1); (case side3 => exact Zq5 ((Kd.zbr HO525.out).2.2)); (case side4 => exact (Kd.zbr HO525.out).2.1); rintro e w' ⟨rfl, ⟨nd, rfl⟩⟩; refine ⟨_, rfl, ?_⟩) | ((with_reducible refine zt (f := 19) rfl ?_); refine zbt (some 33) rfl rfl Try.func19 (by kernel_rfl) rfl #[.slice A0 l0.length c0] rfl Zmt ?_; (with_reducible refine (zbb.calls k _ _ l0 t533 _ ?side1 ?side2 A11.out).mono ?_); (case side1 => repeat (first | exact (Kd.zcf HR0.out (Zq0 HB)) | (with_reducible refine Kd.zc8 ?_ _) | (with_reducible refine Kd.zdl ?_ _) | (with_reducible refine Kd.zeb ?_))); (case side2 => exact HC0.out); rintro e w24 ⟨v534, rfl, ho0, hb⟩; refine ⟨_, rfl, ?_⟩; have n0_ := za.mk (Kd.zdq (Zq10 HO522) (Kd.zec ho0) hb); have n1_ := za.mk (Kd.zcg (Zq11 HO525) hb); have n2_ := za.mk (Kd.zdq (Zq10 HO528) (Kd.zec ho0) hb); have n3_ := za.mk (Kd.zcg (Zq11 HO531) hb); have n4_ := za.mk (Kd.zcr (Kd.zey (Kd.zey ho0 (Kd.R_lt (Zq10 HO522))) (Kd.R_lt (Zq10 HO528))) (zu (Zq0 HB))); have n5_ := za.mk (zk (Zq0 HB) hb); clear HO522; clear HO525; clear HO528; clear HO531; clear HB; have HO522 := n0_; have HO525 := n1_; have HO528 := n2_; have HO531 := n3_; have HO535 := n4_; have HB := n5_; clear n0_ n1_ n2_ n3_ n4_ n5_; (try clear hb); (try clear hb2); (try clear hk); (try clear hi); (try clear ho0); obtain ⟨Ao25, co25, eo25⟩ := Kd.zch HO535.out; subst eo25) | ((with_reducible refine zt (f := 21) rfl ?_); refine zbt (some 34) rfl rfl Try.func21 (by kernel_rfl) rfl #[.slice Ao20 t526.length co20, .slice Ao25 t533.length co25] rfl Zmt ?_; (with_reducible refine (zbh.calls k _ _ t526 _ _ t533 true _ ?side1 ?side2 ?side3 ?side4 A12.out).mono ?_); (case side1 => exact Zq5 ((Kd.zbm HO528.out).2.2)); (case side2 => exact (Kd.zbm HO528.out).2.1); (case side3 => exact Zq5 ((Kd.zbm HO535.out).2.2)); (case side4 => exact (Kd.zbm HO535.out).2.1); rintro e w26 ⟨rfl, hb⟩; refine ⟨_, rfl, ?_⟩; have n0_ := za.mk (Kd.zb9 (Zq10 HO522) hb); have n1_ := za.mk (Kd.zcg (Zq11 HO525) hb); have n2_ := za.mk (Kd.zb9 (Zq10 HO528) hb); have n3_ := za.mk (Kd.zcg (Zq11 HO531) hb); have n4_ := za.mk (Kd.zb9 (Zq10 HO535) hb); have n5_ := za.mk (zk (Zq0 HB) hb); clear HO522; clear HO525; clear HO528; clear HO531; clear HO535; clear HB; have HO522 := n0_; have HO525 := n1_; have HO528 := n2_; have HO531 := n3_; have HO535 := n4_; have HB := n5_; clear n0_ n1_ n2_ n3_ n4_ n5_; (try clear hb); (try clear hb2); (try clear hk); (try clear hi)) | ((with_reducible refine zt (f := 22) rfl ?_); refine zbt (some 38) rfl rfl Try.func22 (by kernel_rfl) rfl #[.slice Ao20 t526.length co20, .int .i64 1] rfl Zmt ?_; (with_reducible refine (zbj.calls k (fun k_ => some k_ = (.slice Ao20 t526.length co20 : Value).ownBlock) (.slice Ao20 t526.length co20) t526 1 t537 t538 w _ ?side1 ?side2 A14.out).mono ?_); (case side1 => exact Zq0 HB); (case side2 => exact Kd.zf1 rfl HO528.out); rintro e w27 ⟨rfl, hy0, hb, hkp⟩; refine ⟨_, rfl, ?_⟩; have n0_ := za.mk (Kd.zcx (ok' := fun k_ => some k_ ≠ (.slice Ao20 t526.length co20 : Value).ownBlock ∧ some k_ ≠ (.slice Ao25 t533.length co25 : Value).ownBlock) (Kd.R_keptB (HO522.out) hkp (fun k_ hk_ hs_ => (hk_.1.2) hs_)) (fun k_ hk_ => ⟨hk_.1.1.2, hk_.1.2⟩)); have n1_ := za.mk (Kd.zdt (ok' := fun k_ => k_ < w19.heap.size ∧ some k_ ≠ (.slice Ao22 t529.length co22 : Value).ownBlock) (Kd.S_keptB ((Kd.S_apart' HO525.out (Kd.zia HO528.out) (by decide))) hkp (fun k_ hk_ hs_ => (hk_.2) hs_)) (fun k_ hk_ => hk_.1.1)); have n2_ := za.mk (Kd.R_reok rfl hy0 (fun k_ e_ => HO528.out.1 k_ e_)); have n3_ := za.mk (Kd.zdt (ok' := fun k_ => w19.heap.size ≤ k_ ∧ some k_ ≠ (.slice Ao23 t523.length co23 : Value).ownBlock) (Kd.S_keptB ((Kd.S_apart' HO531.out (Kd.zia HO528.out) (by decide))) hkp (fun k_ hk_ hs_ => (hk_.2) hs_)) (fun k_ hk_ => hk_.1.1)); have n4_ := za.mk (Kd.zcx (ok' := fun k_ => some k_ ≠ (.slice Ao17 t520.length co17 : Value).ownBlock ∧ some k_ ≠ (.slice Ao20 t526.length co20 : Value).ownBlock) (Kd.R_keptB (HO535.out) hkp (fun k_ hk_ hs_ => (hk_.2) hs_)) (fun k_ hk_ => ⟨hk_.1.1.2, hk_.1.2⟩)); have n5_ := za.mk (hb); clear HO522; clear HO525; clear HO528; clear HO531; clear HO535; clear HB; have HO522 := n0_; have HO525 := n1_; have HO528 := n2_; have HO531 := n3_; have HO535 := n4_; have HB := n5_; clear n0_ n1_ n2_ n3_ n4_ n5_; (try clear hb); (try clear hkp); (try clear hy0)))
    (try simp only [Act.put, Zs1, Zs2, Zs3])
    go_cut [46] (fun v46 wc => ∃ (kq : Nat) (x46_14 : Bool), v46 = .bool x46_14 ∧ za (laws_FnExactRunFair.j0 kq l0 a1 t523 t529 x46_14 = some r) ∧ za (kq ≤ k) ∧ za (Kd.S (Kd.slice 3 (Kd.int .i64)) 33 wc w.heap.size (fun k_ => k_ < w19.heap.size ∧ some k_ ≠ ((.slice Ao22 t529.length co22) : Value).ownBlock) (.slice Ao23 t523.length co23) t523) ∧ za (Kd.S (Kd.cut 3 (Kd.int .i64)) 33 wc w.heap.size (fun k_ => w19.heap.size ≤ k_ ∧ some k_ ≠ ((.slice Ao23 t523.length co23) : Value).ownBlock) (.slice Ao22 t529.length co22) t529) ∧ za (Below w.heap.size w wc))
    case first =>
     have H := HC15.out;clear HC15;by_cases c28 : t537 < 0
     ·rw [if_pos c28] at H
      have c28b0 : decide (t537 < 0) = true := decide_eq_true c28;clear c28;(first | rw [c28b0] | (simp only [zg, zh]; rw [c28b0]) | skip);have H' := za.mk H;clear H;go_wp2;go_meet
      case rel => exact ⟨_, (true), Zrs, H', ⟨by first | omega | exact Nat.le_refl _⟩, ⟨Zq11 HO525⟩, ⟨Zq11 HO531⟩, ⟨Zq0 HB⟩⟩
     ·rw [if_neg c28] at H
      have c28b0 : decide (t537 < 0) = false := decide_eq_false c28;clear c28;(first | rw [c28b0] | (simp only [zg, zh]; rw [c28b0]) | skip);replace H := Option.bind_eq_some_iff.mp H;obtain ⟨t539, A290, H⟩ := H;replace H : (laws_FnExactRunFair.j0 k l0 a1 t523 t529 (!t539)) = some r := H;have A29 := za.mk A290;clear A290;have H' := za.mk H;clear H;go_wp2_with (first | (go_at_call 20; (with_reducible refine (zbc.calls k _ _ t529 _ _ t523 t539 _ ?side1 ?side2 ?side3 ?side4 A29.out).mono ?_); (case side1 => exact Zq5 ((Kd.zbr HO531.out).2.2)); (case side2 => exact (Kd.zbr HO531.out).2.1); (case side3 => exact Zq5 ((Kd.zbr HO525.out).2.2)); (case side4 => exact (Kd.zbr HO525.out).2.1); rintro e w' ⟨rfl, ⟨nd, rfl⟩⟩));go_meet
      case rel => exact ⟨_, (!t539), Zrs, H', ⟨by first | omega | exact Nat.le_refl _⟩, ⟨Zq11 HO525⟩, ⟨Zq11 HO531⟩, ⟨Zq0 HB⟩⟩
    case rest =>
     clear HC15
     (try clear c1);(try clear c2);(try clear p2);(try clear c4);(try clear c4b0);(try clear c7);(try clear c10);(try clear c12);(try clear c13);(try clear c18);(try clear c19);(try clear c20);(try clear c21);(try clear c22);(try clear c28);(try clear c28b0)
     obtain ⟨kq, x46_14, rfl, HA, HJ14, HO_6, HO_8, HB⟩ := hcut
     cases kq with
     | zero => exact absurd HA.out (by simp [laws_FnExactRunFair.j0])
     | succ kj14 =>
      have H := HA.out;clear HA;simp only [laws_FnExactRunFair.j0] at H;by_cases c30 : x46_14 = true
      ·subst c30
       have H1 : (some false) = some r := by rw [if_pos rfl] at H; exact H
       clear H;have H := H1;clear H1;obtain rfl := Option.some.inj H;go_wp2;go_ret;exact ⟨by first | rfl | (simp [zn, zo] <;> rfl) | (simp [*, zn, zo] <;> rfl), Zq0 HB⟩
      ·replace c30 := Bool.eq_false_iff.mpr c30
       subst c30;have H1 : ((zbs.f kj14 t529 1).bind fun bt540 => ((zbf.f kj14 bt540.2 1).bind fun t541 => (if t541 < 0 then (some false) else (if t541 = bt540.1 then ((zbb.f kj14 l0).bind fun t542 => ((zbg.f kj14 t542 a1).bind fun t545 => ((zbc.f kj14 t545 t523).bind fun t548 => (if t548 = true then ((zbf.f kj14 bt540.2 1).bind fun t549 => (if t549 < 0 then (some false) else (if t549 = bt540.1 then (some true) else (some false)))) else (some false))))) else (some false))))) = some r := by rw [if_neg (show ¬ (false = true) by decide)] at H; exact H
       clear H;have H := H1;clear H1;replace H := Option.bind_eq_some_iff.mp H;obtain ⟨⟨t540, t529m⟩, A310, H⟩ := H;replace H : ((zbf.f kj14 t529m 1).bind fun t541 => (if t541 < 0 then (some false) else (if t541 = t540 then ((zbb.f kj14 l0).bind fun t542 => ((zbg.f kj14 t542 a1).bind fun t545 => ((zbc.f kj14 t545 t523).bind fun t548 => (if t548 = true then ((zbf.f kj14 t529m 1).bind fun t549 => (if t549 < 0 then (some false) else (if t549 = t540 then (some true) else (some false)))) else (some false))))) else (some false)))) = some r := H;have A31 := za.mk A310;clear A310;replace H := Option.bind_eq_some_iff.mp H;obtain ⟨t541, A320, H⟩ := H;replace H : (if t541 < 0 then (some false) else (if t541 = t540 then ((zbb.f kj14 l0).bind fun t542 => ((zbg.f kj14 t542 a1).bind fun t545 => ((zbc.f kj14 t545 t523).bind fun t548 => (if t548 = true then ((zbf.f kj14 t529m 1).bind fun t549 => (if t549 < 0 then (some false) else (if t549 = t540 then (some true) else (some false)))) else (some false))))) else (some false))) = some r := H;have A32 := za.mk A320;clear A320;by_cases c33 : t541 < 0
       ·rw [if_pos c33] at H
        have c33b0 : decide (t541 < 0) = true := decide_eq_true c33;clear c33;obtain rfl := Option.some.inj H;go_wp2_with (first | ((with_reducible refine zt (f := 23) rfl ?_); refine zbt (some 49) rfl rfl Try.func23 (by kernel_rfl) rfl #[.slice Ao22 t529.length co22, .int .i64 1] rfl Zmt ?_; (with_reducible refine (zbs.calls kj14 (fun k_ => w19.heap.size ≤ k_ ∧ some k_ ≠ (.slice Ao23 t523.length co23 : Value).ownBlock) (.slice Ao22 t529.length co22) t529 1 t540 t529m w _ ?side1 ?side2 A31.out).mono ?_); (case side1 => exact Zq0 HB); (case side2 => (with_reducible repeat (first | apply Kd.zdn | apply Kd.zdo | apply Kd.zdu)); exact HO_8.out); rintro e w34 ⟨rfl, hy0, hb, hkp⟩; refine ⟨_, rfl, ?_⟩; have n0_ := za.mk (Kd.zf2 (Zq11 HO_6) hkp (fun k_ hk_ hs_ => by have h1_ := hk_.1; have h2_ := hs_.1; omega)); have HLEN := za.mk ((Kd.zbr hy0).1); have n1_ := za.mk hy0; have n2_ := za.mk hb; clear hy0 hkp; clear HO_6; clear HO_8; clear HB; have HO_6 := n0_; have HO_8 := n1_; have HB := n2_; clear n0_ n1_ n2_; (try clear hb); (try clear hb2); (try clear hk); (try clear hi)) | ((with_reducible refine zt (f := 24) rfl ?_); refine zbt (some 52) rfl rfl Try.func24 (by kernel_rfl) rfl #[.slice Ao22 t529.length co22, .int .i64 1] rfl Zmt ?_; (with_reducible refine (zbf.ze9 kj14 _ _ t529m t529.length HLEN.out 1 t541 _ ?side1 ?side2 A32.out).mono ?_); (case side1 => exact Zq5 ((Kd.zbr HO_8.out).2.2)); (case side2 => exact (Kd.zbr HO_8.out).2.1); rintro e w' ⟨rfl, ⟨nd, rfl⟩⟩; refine ⟨_, rfl, ?_⟩));go_ret;exact ⟨by first | rfl | (simp [zn, zo] <;> rfl) | (simp [*, zn, zo] <;> rfl), Zq0 HB⟩
       ·rw [if_neg c33] at H
        have c33b0 : decide (t541 < 0) = false := decide_eq_false c33;clear c33;by_cases c35 : t541 = t540
        ·rw [if_pos c35] at H
         have c35b0 : (t541 == t540) = true := beq_iff_eq.mpr c35;have c35b1 : (t541 != t540) = false := bne_eq_false_iff_eq.mpr c35;clear c35;replace H := Option.bind_eq_some_iff.mp H;obtain ⟨t542, A360, H⟩ := H;replace H : ((zbg.f kj14 t542 a1).bind fun t545 => ((zbc.f kj14 t545 t523).bind fun t548 => (if t548 = true then ((zbf.f kj14 t529m 1).bind fun t549 => (if t549 < 0 then (some false) else (if t549 = t540 then (some true) else (some false)))) else (some false)))) = some r := H;have A36 := za.mk A360;clear A360;replace H := Option.bind_eq_some_iff.mp H;obtain ⟨t545, A370, H⟩ := H;replace H : ((zbc.f kj14 t545 t523).bind fun t548 => (if t548 = true then ((zbf.f kj14 t529m 1).bind fun t549 => (if t549 < 0 then (some false) else (if t549 = t540 then (some true) else (some false)))) else (some false))) = some r := H;have A37 := za.mk A370;clear A370;replace H := Option.bind_eq_some_iff.mp H;obtain ⟨t548, A380, H⟩ := H;replace H : (if t548 = true then ((zbf.f kj14 t529m 1).bind fun t549 => (if t549 < 0 then (some false) else (if t549 = t540 then (some true) else (some false)))) else (some false)) = some r := H;have A38 := za.mk A380;clear A380;by_cases c39 : t548 = true
         ·subst c39
          have H1 : ((zbf.f kj14 t529m 1).bind fun t549 => (if t549 < 0 then (some false) else (if t549 = t540 then (some true) else (some false)))) = some r := by rw [if_pos rfl] at H; exact H
          clear H;have H := H1;clear H1;replace H := Option.bind_eq_some_iff.mp H;obtain ⟨t549, A400, H⟩ := H;replace H : (if t549 < 0 then (some false) else (if t549 = t540 then (some true) else (some false))) = some r := H;have A40 := za.mk A400;clear A400;by_cases c41 : t549 < 0
          ·rw [if_pos c41] at H
           have c41b0 : decide (t549 < 0) = true := decide_eq_true c41;clear c41;obtain rfl := Option.some.inj H;go_wp2_with (first | ((with_reducible refine zt (f := 23) rfl ?_); refine zbt (some 49) rfl rfl Try.func23 (by kernel_rfl) rfl #[.slice Ao22 t529.length co22, .int .i64 1] rfl Zmt ?_; (with_reducible refine (zbs.calls kj14 (fun k_ => w19.heap.size ≤ k_ ∧ some k_ ≠ (.slice Ao23 t523.length co23 : Value).ownBlock) (.slice Ao22 t529.length co22) t529 1 t540 t529m w _ ?side1 ?side2 A31.out).mono ?_); (case side1 => exact Zq0 HB); (case side2 => (with_reducible repeat (first | apply Kd.zdn | apply Kd.zdo | apply Kd.zdu)); exact HO_8.out); rintro e w42 ⟨rfl, hy0, hb, hkp⟩; refine ⟨_, rfl, ?_⟩; have n0_ := za.mk (Kd.zf2 (Zq11 HO_6) hkp (fun k_ hk_ hs_ => by have h1_ := hk_.1; have h2_ := hs_.1; omega)); have HLEN := za.mk ((Kd.zbr hy0).1); have n1_ := za.mk hy0; have n2_ := za.mk hb; clear hy0 hkp; clear HO_6; clear HO_8; clear HB; have HO_6 := n0_; have HO_8 := n1_; have HB := n2_; clear n0_ n1_ n2_; (try clear hb); (try clear hb2); (try clear hk); (try clear hi)) | ((with_reducible refine zt (f := 24) rfl ?_); refine zbt (some 52) rfl rfl Try.func24 (by kernel_rfl) rfl #[.slice Ao22 t529.length co22, .int .i64 1] rfl Zmt ?_; (with_reducible refine (zbf.ze9 kj14 _ _ t529m t529.length HLEN.out 1 t541 _ ?side1 ?side2 A32.out).mono ?_); (case side1 => exact Zq5 ((Kd.zbr HO_8.out).2.2)); (case side2 => exact (Kd.zbr HO_8.out).2.1); rintro e w' ⟨rfl, ⟨nd, rfl⟩⟩; refine ⟨_, rfl, ?_⟩) | ((with_reducible refine zt (f := 19) rfl ?_); refine zbt (some 59) rfl rfl Try.func19 (by kernel_rfl) rfl #[.slice A0 l0.length c0] rfl Zmt ?_; (with_reducible refine (zbb.calls kj14 _ _ l0 t542 _ ?side1 ?side2 A36.out).mono ?_); (case side1 => repeat (first | exact (Kd.zcf HR0.out (Zq0 HB)) | (with_reducible refine Kd.zc8 ?_ _) | (with_reducible refine Kd.zdl ?_ _) | (with_reducible refine Kd.zeb ?_))); (case side2 => exact HC0.out); rintro e w43 ⟨v543, rfl, ho0, hb⟩; refine ⟨_, rfl, ?_⟩; have n0_ := za.mk (Kd.zcg (Zq11 HO_6) hb); have n1_ := za.mk (Kd.zcg (Zq11 HO_8) hb); have n2_ := za.mk (Kd.zcr ho0 (zu (Zq0 HB))); have n3_ := za.mk (zk (Zq0 HB) hb); clear HO_6; clear HO_8; clear HB; have HO_6 := n0_; have HO_8 := n1_; have HO544 := n2_; have HB := n3_; clear n0_ n1_ n2_ n3_; (try clear hb); (try clear hb2); (try clear hk); (try clear hi); (try clear ho0); obtain ⟨Ao44, co44, eo44⟩ := Kd.zch HO544.out; subst eo44) | ((with_reducible refine zt (f := 10) rfl ?_); refine zbt (some 61) rfl rfl Try.func10 (by kernel_rfl) rfl #[.slice Ao44 t542.length co44, .int .i64 a1] rfl Zmt ?_; (with_reducible refine (zbg.zga kj14 _ _ t542 a1 t545 _ ?side1 ?side2 A37.out).mono ?_); (case side1 => exact Zq5 ((Kd.zbm HO544.out).2.2)); (case side2 => exact (Kd.zbm HO544.out).2.1); rintro e w45 ⟨v546, rfl, ho0, hb⟩; refine ⟨_, rfl, ?_⟩; have n0_ := za.mk (Kd.zc4 (Zq11 HO_6) (Kd.zee ho0) hb); have n1_ := za.mk (Kd.zc4 (Zq11 HO_8) (Kd.zee ho0) hb); have n2_ := za.mk (Kd.zb9 (Zq10 HO544) hb); have n3_ := za.mk (Kd.zdm (Kd.zei (Kd.zei ho0 (Kd.S_lt (Zq11 HO_6))) (Kd.S_lt (Zq11 HO_8))) (zu (Zq0 HB))); have n4_ := za.mk (zk (Zq0 HB) hb); clear HO_6; clear HO_8; clear HO544; clear HB; have HO_6 := n0_; have HO_8 := n1_; have HO544 := n2_; have HO547 := n3_; have HB := n4_; clear n0_ n1_ n2_ n3_ n4_; (try clear hb); (try clear hb2); (try clear hk); (try clear hi); (try clear ho0); obtain ⟨Ao46, co46, eo46⟩ := Kd.zdp HO547.out; subst eo46) | ((with_reducible refine zt (f := 20) rfl ?_); refine zbt (some 64) rfl rfl Try.func20 (by kernel_rfl) rfl #[.slice Ao46 t545.length co46, .slice Ao23 t523.length co23] rfl Zmt ?_; (with_reducible refine (zbc.calls kj14 _ _ t545 _ _ t523 true _ ?side1 ?side2 ?side3 ?side4 A38.out).mono ?_); (case side1 => exact Zq5 ((Kd.zbr HO547.out).2.2)); (case side2 => exact (Kd.zbr HO547.out).2.1); (case side3 => exact Zq5 ((Kd.zbr HO_6.out).2.2)); (case side4 => exact (Kd.zbr HO_6.out).2.1); rintro e w' ⟨rfl, ⟨nd, rfl⟩⟩; refine ⟨_, rfl, ?_⟩) | ((with_reducible refine zt (f := 24) rfl ?_); refine zbt (some 68) rfl rfl Try.func24 (by kernel_rfl) rfl #[.slice Ao22 t529.length co22, .int .i64 1] rfl Zmt ?_; (with_reducible refine (zbf.ze9 kj14 _ _ t529m t529.length HLEN.out 1 t549 _ ?side1 ?side2 A40.out).mono ?_); (case side1 => exact Zq5 ((Kd.zbr HO_8.out).2.2)); (case side2 => exact (Kd.zbr HO_8.out).2.1); rintro e w' ⟨rfl, ⟨nd, rfl⟩⟩; refine ⟨_, rfl, ?_⟩));go_ret;exact ⟨by first | rfl | (simp [zn, zo] <;> rfl) | (simp [*, zn, zo] <;> rfl), Zq0 HB⟩
          ·rw [if_neg c41] at H
           have c41b0 : decide (t549 < 0) = false := decide_eq_false c41;clear c41;by_cases c47 : t549 = t540
           ·rw [if_pos c47] at H
            have c47b0 : (t549 == t540) = true := beq_iff_eq.mpr c47;have c47b1 : (t549 != t540) = false := bne_eq_false_iff_eq.mpr c47;clear c47;obtain rfl := Option.some.inj H;go_wp2_with (first | ((with_reducible refine zt (f := 23) rfl ?_); refine zbt (some 49) rfl rfl Try.func23 (by kernel_rfl) rfl #[.slice Ao22 t529.length co22, .int .i64 1] rfl Zmt ?_; (with_reducible refine (zbs.calls kj14 (fun k_ => w19.heap.size ≤ k_ ∧ some k_ ≠ (.slice Ao23 t523.length co23 : Value).ownBlock) (.slice Ao22 t529.length co22) t529 1 t540 t529m w _ ?side1 ?side2 A31.out).mono ?_); (case side1 => exact Zq0 HB); (case side2 => (with_reducible repeat (first | apply Kd.zdn | apply Kd.zdo | apply Kd.zdu)); exact HO_8.out); rintro e w48 ⟨rfl, hy0, hb, hkp⟩; refine ⟨_, rfl, ?_⟩; have n0_ := za.mk (Kd.zf2 (Zq11 HO_6) hkp (fun k_ hk_ hs_ => by have h1_ := hk_.1; have h2_ := hs_.1; omega)); have HLEN := za.mk ((Kd.zbr hy0).1); have n1_ := za.mk hy0; have n2_ := za.mk hb; clear hy0 hkp; clear HO_6; clear HO_8; clear HB; have HO_6 := n0_; have HO_8 := n1_; have HB := n2_; clear n0_ n1_ n2_; (try clear hb); (try clear hb2); (try clear hk); (try clear hi)) | ((with_reducible refine zt (f := 24) rfl ?_); refine zbt (some 52) rfl rfl Try.func24 (by kernel_rfl) rfl #[.slice Ao22 t529.length co22, .int .i64 1] rfl Zmt ?_; (with_reducible refine (zbf.ze9 kj14 _ _ t529m t529.length HLEN.out 1 t541 _ ?side1 ?side2 A32.out).mono ?_); (case side1 => exact Zq5 ((Kd.zbr HO_8.out).2.2)); (case side2 => exact (Kd.zbr HO_8.out).2.1); rintro e w' ⟨rfl, ⟨nd, rfl⟩⟩; refine ⟨_, rfl, ?_⟩) | ((with_reducible refine zt (f := 19) rfl ?_); refine zbt (some 59) rfl rfl Try.func19 (by kernel_rfl) rfl #[.slice A0 l0.length c0] rfl Zmt ?_; (with_reducible refine (zbb.calls kj14 _ _ l0 t542 _ ?side1 ?side2 A36.out).mono ?_); (case side1 => repeat (first | exact (Kd.zcf HR0.out (Zq0 HB)) | (with_reducible refine Kd.zc8 ?_ _) | (with_reducible refine Kd.zdl ?_ _) | (with_reducible refine Kd.zeb ?_))); (case side2 => exact HC0.out); rintro e w49 ⟨v543, rfl, ho0, hb⟩; refine ⟨_, rfl, ?_⟩; have n0_ := za.mk (Kd.zcg (Zq11 HO_6) hb); have n1_ := za.mk (Kd.zcg (Zq11 HO_8) hb); have n2_ := za.mk (Kd.zcr ho0 (zu (Zq0 HB))); have n3_ := za.mk (zk (Zq0 HB) hb); clear HO_6; clear HO_8; clear HB; have HO_6 := n0_; have HO_8 := n1_; have HO544 := n2_; have HB := n3_; clear n0_ n1_ n2_ n3_; (try clear hb); (try clear hb2); (try clear hk); (try clear hi); (try clear ho0); obtain ⟨Ao50, co50, eo50⟩ := Kd.zch HO544.out; subst eo50) | ((with_reducible refine zt (f := 10) rfl ?_); refine zbt (some 61) rfl rfl Try.func10 (by kernel_rfl) rfl #[.slice Ao50 t542.length co50, .int .i64 a1] rfl Zmt ?_; (with_reducible refine (zbg.zga kj14 _ _ t542 a1 t545 _ ?side1 ?side2 A37.out).mono ?_); (case side1 => exact Zq5 ((Kd.zbm HO544.out).2.2)); (case side2 => exact (Kd.zbm HO544.out).2.1); rintro e w51 ⟨v546, rfl, ho0, hb⟩; refine ⟨_, rfl, ?_⟩; have n0_ := za.mk (Kd.zc4 (Zq11 HO_6) (Kd.zee ho0) hb); have n1_ := za.mk (Kd.zc4 (Zq11 HO_8) (Kd.zee ho0) hb); have n2_ := za.mk (Kd.zb9 (Zq10 HO544) hb); have n3_ := za.mk (Kd.zdm (Kd.zei (Kd.zei ho0 (Kd.S_lt (Zq11 HO_6))) (Kd.S_lt (Zq11 HO_8))) (zu (Zq0 HB))); have n4_ := za.mk (zk (Zq0 HB) hb); clear HO_6; clear HO_8; clear HO544; clear HB; have HO_6 := n0_; have HO_8 := n1_; have HO544 := n2_; have HO547 := n3_; have HB := n4_; clear n0_ n1_ n2_ n3_ n4_; (try clear hb); (try clear hb2); (try clear hk); (try clear hi); (try clear ho0); obtain ⟨Ao52, co52, eo52⟩ := Kd.zdp HO547.out; subst eo52) | ((with_reducible refine zt (f := 20) rfl ?_); refine zbt (some 64) rfl rfl Try.func20 (by kernel_rfl) rfl #[.slice Ao52 t545.length co52, .slice Ao23 t523.length co23] rfl Zmt ?_; (with_reducible refine (zbc.calls kj14 _ _ t545 _ _ t523 true _ ?side1 ?side2 ?side3 ?side4 A38.out).mono ?_); (case side1 => exact Zq5 ((Kd.zbr HO547.out).2.2)); (case side2 => exact (Kd.zbr HO547.out).2.1); (case side3 => exact Zq5 ((Kd.zbr HO_6.out).2.2)); (case side4 => exact (Kd.zbr HO_6.out).2.1); rintro e w' ⟨rfl, ⟨nd, rfl⟩⟩; refine ⟨_, rfl, ?_⟩) | ((with_reducible refine zt (f := 24) rfl ?_); refine zbt (some 68) rfl rfl Try.func24 (by kernel_rfl) rfl #[.slice Ao22 t529.length co22, .int .i64 1] rfl Zmt ?_; (with_reducible refine (zbf.ze9 kj14 _ _ t529m t529.length HLEN.out 1 t549 _ ?side1 ?side2 A40.out).mono ?_); (case side1 => exact Zq5 ((Kd.zbr HO_8.out).2.2)); (case side2 => exact (Kd.zbr HO_8.out).2.1); rintro e w' ⟨rfl, ⟨nd, rfl⟩⟩; refine ⟨_, rfl, ?_⟩));go_ret;exact ⟨by first | rfl | (simp [zn, zo] <;> rfl) | (simp [*, zn, zo] <;> rfl), Zq0 HB⟩
           ·rw [if_neg c47] at H
            have c47b0 : (t549 == t540) = false := beq_eq_false_iff_ne.mpr c47;have c47b1 : (t549 != t540) = true := bne_iff_ne.mpr c47;obtain rfl := Option.some.inj H;go_wp2_with (first | ((with_reducible refine zt (f := 23) rfl ?_); refine zbt (some 49) rfl rfl Try.func23 (by kernel_rfl) rfl #[.slice Ao22 t529.length co22, .int .i64 1] rfl Zmt ?_; (with_reducible refine (zbs.calls kj14 (fun k_ => w19.heap.size ≤ k_ ∧ some k_ ≠ (.slice Ao23 t523.length co23 : Value).ownBlock) (.slice Ao22 t529.length co22) t529 1 t540 t529m w _ ?side1 ?side2 A31.out).mono ?_); (case side1 => exact Zq0 HB); (case side2 => (with_reducible repeat (first | apply Kd.zdn | apply Kd.zdo | apply Kd.zdu)); exact HO_8.out); rintro e w53 ⟨rfl, hy0, hb, hkp⟩; refine ⟨_, rfl, ?_⟩; have n0_ := za.mk (Kd.zf2 (Zq11 HO_6) hkp (fun k_ hk_ hs_ => by have h1_ := hk_.1; have h2_ := hs_.1; omega)); have HLEN := za.mk ((Kd.zbr hy0).1); have n1_ := za.mk hy0; have n2_ := za.mk hb; clear hy0 hkp; clear HO_6; clear HO_8; clear HB; have HO_6 := n0_; have HO_8 := n1_; have HB := n2_; clear n0_ n1_ n2_; (try clear hb); (try clear hb2); (try clear hk); (try clear hi)) | ((with_reducible refine zt (f := 24) rfl ?_); refine zbt (some 52) rfl rfl Try.func24 (by kernel_rfl) rfl #[.slice Ao22 t529.length co22, .int .i64 1] rfl Zmt ?_; (with_reducible refine (zbf.ze9 kj14 _ _ t529m t529.length HLEN.out 1 t541 _ ?side1 ?side2 A32.out).mono ?_); (case side1 => exact Zq5 ((Kd.zbr HO_8.out).2.2)); (case side2 => exact (Kd.zbr HO_8.out).2.1); rintro e w' ⟨rfl, ⟨nd, rfl⟩⟩; refine ⟨_, rfl, ?_⟩) | ((with_reducible refine zt (f := 19) rfl ?_); refine zbt (some 59) rfl rfl Try.func19 (by kernel_rfl) rfl #[.slice A0 l0.length c0] rfl Zmt ?_; (with_reducible refine (zbb.calls kj14 _ _ l0 t542 _ ?side1 ?side2 A36.out).mono ?_); (case side1 => repeat (first | exact (Kd.zcf HR0.out (Zq0 HB)) | (with_reducible refine Kd.zc8 ?_ _) | (with_reducible refine Kd.zdl ?_ _) | (with_reducible refine Kd.zeb ?_))); (case side2 => exact HC0.out); rintro e w54 ⟨v543, rfl, ho0, hb⟩; refine ⟨_, rfl, ?_⟩; have n0_ := za.mk (Kd.zcg (Zq11 HO_6) hb); have n1_ := za.mk (Kd.zcg (Zq11 HO_8) hb); have n2_ := za.mk (Kd.zcr ho0 (zu (Zq0 HB))); have n3_ := za.mk (zk (Zq0 HB) hb); clear HO_6; clear HO_8; clear HB; have HO_6 := n0_; have HO_8 := n1_; have HO544 := n2_; have HB := n3_; clear n0_ n1_ n2_ n3_; (try clear hb); (try clear hb2); (try clear hk); (try clear hi); (try clear ho0); obtain ⟨Ao55, co55, eo55⟩ := Kd.zch HO544.out; subst eo55) | ((with_reducible refine zt (f := 10) rfl ?_); refine zbt (some 61) rfl rfl Try.func10 (by kernel_rfl) rfl #[.slice Ao55 t542.length co55, .int .i64 a1] rfl Zmt ?_; (with_reducible refine (zbg.zga kj14 _ _ t542 a1 t545 _ ?side1 ?side2 A37.out).mono ?_); (case side1 => exact Zq5 ((Kd.zbm HO544.out).2.2)); (case side2 => exact (Kd.zbm HO544.out).2.1); rintro e w56 ⟨v546, rfl, ho0, hb⟩; refine ⟨_, rfl, ?_⟩; have n0_ := za.mk (Kd.zc4 (Zq11 HO_6) (Kd.zee ho0) hb); have n1_ := za.mk (Kd.zc4 (Zq11 HO_8) (Kd.zee ho0) hb); have n2_ := za.mk (Kd.zb9 (Zq10 HO544) hb); have n3_ := za.mk (Kd.zdm (Kd.zei (Kd.zei ho0 (Kd.S_lt (Zq11 HO_6))) (Kd.S_lt (Zq11 HO_8))) (zu (Zq0 HB))); have n4_ := za.mk (zk (Zq0 HB) hb); clear HO_6; clear HO_8; clear HO544; clear HB; have HO_6 := n0_; have HO_8 := n1_; have HO544 := n2_; have HO547 := n3_; have HB := n4_; clear n0_ n1_ n2_ n3_ n4_; (try clear hb); (try clear hb2); (try clear hk); (try clear hi); (try clear ho0); obtain ⟨Ao57, co57, eo57⟩ := Kd.zdp HO547.out; subst eo57) | ((with_reducible refine zt (f := 20) rfl ?_); refine zbt (some 64) rfl rfl Try.func20 (by kernel_rfl) rfl #[.slice Ao57 t545.length co57, .slice Ao23 t523.length co23] rfl Zmt ?_; (with_reducible refine (zbc.calls kj14 _ _ t545 _ _ t523 true _ ?side1 ?side2 ?side3 ?side4 A38.out).mono ?_); (case side1 => exact Zq5 ((Kd.zbr HO547.out).2.2)); (case side2 => exact (Kd.zbr HO547.out).2.1); (case side3 => exact Zq5 ((Kd.zbr HO_6.out).2.2)); (case side4 => exact (Kd.zbr HO_6.out).2.1); rintro e w' ⟨rfl, ⟨nd, rfl⟩⟩; refine ⟨_, rfl, ?_⟩) | ((with_reducible refine zt (f := 24) rfl ?_); refine zbt (some 68) rfl rfl Try.func24 (by kernel_rfl) rfl #[.slice Ao22 t529.length co22, .int .i64 1] rfl Zmt ?_; (with_reducible refine (zbf.ze9 kj14 _ _ t529m t529.length HLEN.out 1 t549 _ ?side1 ?side2 A40.out).mono ?_); (case side1 => exact Zq5 ((Kd.zbr HO_8.out).2.2)); (case side2 => exact (Kd.zbr HO_8.out).2.1); rintro e w' ⟨rfl, ⟨nd, rfl⟩⟩; refine ⟨_, rfl, ?_⟩));go_ret;exact ⟨by first | rfl | (simp [zn, zo] <;> rfl) | (simp [*, zn, zo] <;> rfl), Zq0 HB⟩
         ·replace c39 := Bool.eq_false_iff.mpr c39
          subst c39;have H1 : (some false) = some r := by rw [if_neg (show ¬ (false = true) by decide)] at H; exact H
          clear H;have H := H1;clear H1;obtain rfl := Option.some.inj H;go_wp2_with (first | ((with_reducible refine zt (f := 23) rfl ?_); refine zbt (some 49) rfl rfl Try.func23 (by kernel_rfl) rfl #[.slice Ao22 t529.length co22, .int .i64 1] rfl Zmt ?_; (with_reducible refine (zbs.calls kj14 (fun k_ => w19.heap.size ≤ k_ ∧ some k_ ≠ (.slice Ao23 t523.length co23 : Value).ownBlock) (.slice Ao22 t529.length co22) t529 1 t540 t529m w _ ?side1 ?side2 A31.out).mono ?_); (case side1 => exact Zq0 HB); (case side2 => (with_reducible repeat (first | apply Kd.zdn | apply Kd.zdo | apply Kd.zdu)); exact HO_8.out); rintro e w58 ⟨rfl, hy0, hb, hkp⟩; refine ⟨_, rfl, ?_⟩; have n0_ := za.mk (Kd.zf2 (Zq11 HO_6) hkp (fun k_ hk_ hs_ => by have h1_ := hk_.1; have h2_ := hs_.1; omega)); have HLEN := za.mk ((Kd.zbr hy0).1); have n1_ := za.mk hy0; have n2_ := za.mk hb; clear hy0 hkp; clear HO_6; clear HO_8; clear HB; have HO_6 := n0_; have HO_8 := n1_; have HB := n2_; clear n0_ n1_ n2_; (try clear hb); (try clear hb2); (try clear hk); (try clear hi)) | ((with_reducible refine zt (f := 24) rfl ?_); refine zbt (some 52) rfl rfl Try.func24 (by kernel_rfl) rfl #[.slice Ao22 t529.length co22, .int .i64 1] rfl Zmt ?_; (with_reducible refine (zbf.ze9 kj14 _ _ t529m t529.length HLEN.out 1 t541 _ ?side1 ?side2 A32.out).mono ?_); (case side1 => exact Zq5 ((Kd.zbr HO_8.out).2.2)); (case side2 => exact (Kd.zbr HO_8.out).2.1); rintro e w' ⟨rfl, ⟨nd, rfl⟩⟩; refine ⟨_, rfl, ?_⟩) | ((with_reducible refine zt (f := 19) rfl ?_); refine zbt (some 59) rfl rfl Try.func19 (by kernel_rfl) rfl #[.slice A0 l0.length c0] rfl Zmt ?_; (with_reducible refine (zbb.calls kj14 _ _ l0 t542 _ ?side1 ?side2 A36.out).mono ?_); (case side1 => repeat (first | exact (Kd.zcf HR0.out (Zq0 HB)) | (with_reducible refine Kd.zc8 ?_ _) | (with_reducible refine Kd.zdl ?_ _) | (with_reducible refine Kd.zeb ?_))); (case side2 => exact HC0.out); rintro e w59 ⟨v543, rfl, ho0, hb⟩; refine ⟨_, rfl, ?_⟩; have n0_ := za.mk (Kd.zcg (Zq11 HO_6) hb); have n1_ := za.mk (Kd.zcg (Zq11 HO_8) hb); have n2_ := za.mk (Kd.zcr ho0 (zu (Zq0 HB))); have n3_ := za.mk (zk (Zq0 HB) hb); clear HO_6; clear HO_8; clear HB; have HO_6 := n0_; have HO_8 := n1_; have HO544 := n2_; have HB := n3_; clear n0_ n1_ n2_ n3_; (try clear hb); (try clear hb2); (try clear hk); (try clear hi); (try clear ho0); obtain ⟨Ao60, co60, eo60⟩ := Kd.zch HO544.out; subst eo60) | ((with_reducible refine zt (f := 10) rfl ?_); refine zbt (some 61) rfl rfl Try.func10 (by kernel_rfl) rfl #[.slice Ao60 t542.length co60, .int .i64 a1] rfl Zmt ?_; (with_reducible refine (zbg.zga kj14 _ _ t542 a1 t545 _ ?side1 ?side2 A37.out).mono ?_); (case side1 => exact Zq5 ((Kd.zbm HO544.out).2.2)); (case side2 => exact (Kd.zbm HO544.out).2.1); rintro e w61 ⟨v546, rfl, ho0, hb⟩; refine ⟨_, rfl, ?_⟩; have n0_ := za.mk (Kd.zc4 (Zq11 HO_6) (Kd.zee ho0) hb); have n1_ := za.mk (Kd.zc4 (Zq11 HO_8) (Kd.zee ho0) hb); have n2_ := za.mk (Kd.zb9 (Zq10 HO544) hb); have n3_ := za.mk (Kd.zdm (Kd.zei (Kd.zei ho0 (Kd.S_lt (Zq11 HO_6))) (Kd.S_lt (Zq11 HO_8))) (zu (Zq0 HB))); have n4_ := za.mk (zk (Zq0 HB) hb); clear HO_6; clear HO_8; clear HO544; clear HB; have HO_6 := n0_; have HO_8 := n1_; have HO544 := n2_; have HO547 := n3_; have HB := n4_; clear n0_ n1_ n2_ n3_ n4_; (try clear hb); (try clear hb2); (try clear hk); (try clear hi); (try clear ho0); obtain ⟨Ao62, co62, eo62⟩ := Kd.zdp HO547.out; subst eo62) | ((with_reducible refine zt (f := 20) rfl ?_); refine zbt (some 64) rfl rfl Try.func20 (by kernel_rfl) rfl #[.slice Ao62 t545.length co62, .slice Ao23 t523.length co23] rfl Zmt ?_; (with_reducible refine (zbc.calls kj14 _ _ t545 _ _ t523 false _ ?side1 ?side2 ?side3 ?side4 A38.out).mono ?_); (case side1 => exact Zq5 ((Kd.zbr HO547.out).2.2)); (case side2 => exact (Kd.zbr HO547.out).2.1); (case side3 => exact Zq5 ((Kd.zbr HO_6.out).2.2)); (case side4 => exact (Kd.zbr HO_6.out).2.1); rintro e w' ⟨rfl, ⟨nd, rfl⟩⟩; refine ⟨_, rfl, ?_⟩));go_ret;exact ⟨by first | rfl | (simp [zn, zo] <;> rfl) | (simp [*, zn, zo] <;> rfl), Zq0 HB⟩
        ·rw [if_neg c35] at H
         have c35b0 : (t541 == t540) = false := beq_eq_false_iff_ne.mpr c35;have c35b1 : (t541 != t540) = true := bne_iff_ne.mpr c35;obtain rfl := Option.some.inj H;go_wp2_with (first | ((with_reducible refine zt (f := 23) rfl ?_); refine zbt (some 49) rfl rfl Try.func23 (by kernel_rfl) rfl #[.slice Ao22 t529.length co22, .int .i64 1] rfl Zmt ?_; (with_reducible refine (zbs.calls kj14 (fun k_ => w19.heap.size ≤ k_ ∧ some k_ ≠ (.slice Ao23 t523.length co23 : Value).ownBlock) (.slice Ao22 t529.length co22) t529 1 t540 t529m w _ ?side1 ?side2 A31.out).mono ?_); (case side1 => exact Zq0 HB); (case side2 => (with_reducible repeat (first | apply Kd.zdn | apply Kd.zdo | apply Kd.zdu)); exact HO_8.out); rintro e w63 ⟨rfl, hy0, hb, hkp⟩; refine ⟨_, rfl, ?_⟩; have n0_ := za.mk (Kd.zf2 (Zq11 HO_6) hkp (fun k_ hk_ hs_ => by have h1_ := hk_.1; have h2_ := hs_.1; omega)); have HLEN := za.mk ((Kd.zbr hy0).1); have n1_ := za.mk hy0; have n2_ := za.mk hb; clear hy0 hkp; clear HO_6; clear HO_8; clear HB; have HO_6 := n0_; have HO_8 := n1_; have HB := n2_; clear n0_ n1_ n2_; (try clear hb); (try clear hb2); (try clear hk); (try clear hi)) | ((with_reducible refine zt (f := 24) rfl ?_); refine zbt (some 52) rfl rfl Try.func24 (by kernel_rfl) rfl #[.slice Ao22 t529.length co22, .int .i64 1] rfl Zmt ?_; (with_reducible refine (zbf.ze9 kj14 _ _ t529m t529.length HLEN.out 1 t541 _ ?side1 ?side2 A32.out).mono ?_); (case side1 => exact Zq5 ((Kd.zbr HO_8.out).2.2)); (case side2 => exact (Kd.zbr HO_8.out).2.1); rintro e w' ⟨rfl, ⟨nd, rfl⟩⟩; refine ⟨_, rfl, ?_⟩));go_ret;exact ⟨by first | rfl | (simp [zn, zo] <;> rfl) | (simp [*, zn, zo] <;> rfl), Zq0 HB⟩
   ·replace c13 := Bool.eq_false_iff.mpr c13
    subst c13;have H1 : (some false) = some r := by rw [if_neg (show ¬ (false = true) by decide)] at H; exact H
    clear H;have H := H1;clear H1;obtain rfl := Option.some.inj H;go_enter Try.func7, Try.ntmps7
    go_wp2_with (first | ((with_reducible refine zt (f := 18) rfl ?_); refine zbt (some 15) rfl rfl Try.func18 (by kernel_rfl) rfl #[.slice A0 l0.length c0, .int .i64 1048576] rfl Zmt ?_; (with_reducible refine (zck.calls _ _ l0 1048576 t519 _ ?side1 ?side2 A3.out).mono ?_); (case side1 => exact Zq4 HR0); (case side2 => exact HC0.out); rintro e w' ⟨rfl, ⟨nd, rfl⟩⟩; refine ⟨_, rfl, ?_⟩) | ((with_reducible refine zt (f := 19) rfl ?_); refine zbt (some 19) rfl rfl Try.func19 (by kernel_rfl) rfl #[.slice A0 l0.length c0] rfl Zmt ?_; (with_reducible refine (zbb.calls k _ _ l0 t520 _ ?side1 ?side2 A5.out).mono ?_); (case side1 => exact Zq4 HR0); (case side2 => exact HC0.out); rintro e w64 ⟨v521, rfl, ho0, hb⟩; refine ⟨_, rfl, ?_⟩; have n0_ := za.mk (Kd.zcr ho0 (zu (Zq0 HB))); have n1_ := za.mk (zk (Zq0 HB) hb); clear HB; have HO522 := n0_; have HB := n1_; clear n0_ n1_; (try clear hb); (try clear hb2); (try clear hk); (try clear hi); (try clear ho0); obtain ⟨Ao65, co65, eo65⟩ := Kd.zch HO522.out; subst eo65) | ((with_reducible refine zt (f := 12) rfl ?_); refine zbt (some 21) rfl rfl Try.func12 (by kernel_rfl) rfl #[.slice Ao65 t520.length co65, .int .i64 a1] rfl Zmt ?_; (with_reducible refine (zq.calls k _ _ t520 a1 t523 _ ?side1 ?side2 A6.out).mono ?_); (case side1 => exact Zq5 ((Kd.zbm HO522.out).2.2)); (case side2 => exact (Kd.zbm HO522.out).2.1); rintro e w66 ⟨v524, rfl, ho0, hb⟩; refine ⟨_, rfl, ?_⟩; have n0_ := za.mk (Kd.zb9 (Zq10 HO522) hb); have n1_ := za.mk (Kd.zdm ho0 (zu (Zq0 HB))); have n2_ := za.mk (zk (Zq0 HB) hb); clear HO522; clear HB; have HO522 := n0_; have HO525 := n1_; have HB := n2_; clear n0_ n1_ n2_; (try clear hb); (try clear hb2); (try clear hk); (try clear hi); (try clear ho0)) | ((with_reducible refine zt (f := 19) rfl ?_); refine zbt (some 23) rfl rfl Try.func19 (by kernel_rfl) rfl #[.slice A0 l0.length c0] rfl Zmt ?_; (with_reducible refine (zbb.calls k _ _ l0 t526 _ ?side1 ?side2 A7.out).mono ?_); (case side1 => exact Zq5 (Kd.zcf HR0.out HB.out)); (case side2 => exact HC0.out); rintro e w67 ⟨v527, rfl, ho0, hb⟩; refine ⟨_, rfl, ?_⟩; have n0_ := za.mk (Kd.zdq (Zq10 HO522) (Kd.zec ho0) hb); have n1_ := za.mk (Kd.zcg (Zq11 HO525) hb); have n2_ := za.mk (Kd.zcr (Kd.zey ho0 (Kd.R_lt (Zq10 HO522))) (zu (Zq0 HB))); have n3_ := za.mk (zk (Zq0 HB) hb); clear HO522; clear HO525; clear HB; have HO522 := n0_; have HO525 := n1_; have HO528 := n2_; have HB := n3_; clear n0_ n1_ n2_ n3_; (try clear hb); (try clear hb2); (try clear hk); (try clear hi); (try clear ho0); obtain ⟨Ao68, co68, eo68⟩ := Kd.zch HO528.out; subst eo68) | ((with_reducible refine zt (f := 10) rfl ?_); refine zbt (some 26) rfl rfl Try.func10 (by kernel_rfl) rfl #[.slice Ao68 t526.length co68, .int .i64 a1] rfl Zmt ?_; (with_reducible refine (zbg.zga k _ _ t526 a1 t529 _ ?side1 ?side2 A8.out).mono ?_); (case side1 => exact Zq5 ((Kd.zbm HO528.out).2.2)); (case side2 => exact (Kd.zbm HO528.out).2.1); rintro e w69 ⟨v530, rfl, ho0, hb⟩; refine ⟨_, rfl, ?_⟩; have n0_ := za.mk (Kd.zb9 (Zq10 HO522) hb); have n1_ := za.mk (Kd.zc4 (Zq11 HO525) (Kd.zee ho0) hb); have n2_ := za.mk (Kd.zb9 (Zq10 HO528) hb); have n3_ := za.mk (Kd.zdm (Kd.zei ho0 (Kd.S_lt (Zq11 HO525))) (zu (Zq0 HB))); have n4_ := za.mk (zk (Zq0 HB) hb); clear HO522; clear HO525; clear HO528; clear HB; have HO522 := n0_; have HO525 := n1_; have HO528 := n2_; have HO531 := n3_; have HB := n4_; clear n0_ n1_ n2_ n3_ n4_; (try clear hb); (try clear hb2); (try clear hk); (try clear hi); (try clear ho0); obtain ⟨Ao70, co70, eo70⟩ := Kd.zdp HO531.out; subst eo70; obtain ⟨Ao71, co71, eo71⟩ := Kd.zdp HO525.out; subst eo71) | ((with_reducible refine zt (f := 20) rfl ?_); refine zbt (some 29) rfl rfl Try.func20 (by kernel_rfl) rfl #[.slice Ao70 t529.length co70, .slice Ao71 t523.length co71] rfl Zmt ?_; (with_reducible refine (zbc.calls k _ _ t529 _ _ t523 true _ ?side1 ?side2 ?side3 ?side4 A9.out).mono ?_); (case side1 => exact Zq5 ((Kd.zbr HO531.out).2.2)); (case side2 => exact (Kd.zbr HO531.out).2.1); (case side3 => exact Zq5 ((Kd.zbr HO525.out).2.2)); (case side4 => exact (Kd.zbr HO525.out).2.1); rintro e w' ⟨rfl, ⟨nd, rfl⟩⟩; refine ⟨_, rfl, ?_⟩) | ((with_reducible refine zt (f := 19) rfl ?_); refine zbt (some 33) rfl rfl Try.func19 (by kernel_rfl) rfl #[.slice A0 l0.length c0] rfl Zmt ?_; (with_reducible refine (zbb.calls k _ _ l0 t533 _ ?side1 ?side2 A11.out).mono ?_); (case side1 => repeat (first | exact (Kd.zcf HR0.out (Zq0 HB)) | (with_reducible refine Kd.zc8 ?_ _) | (with_reducible refine Kd.zdl ?_ _) | (with_reducible refine Kd.zeb ?_))); (case side2 => exact HC0.out); rintro e w72 ⟨v534, rfl, ho0, hb⟩; refine ⟨_, rfl, ?_⟩; have n0_ := za.mk (Kd.zdq (Zq10 HO522) (Kd.zec ho0) hb); have n1_ := za.mk (Kd.zcg (Zq11 HO525) hb); have n2_ := za.mk (Kd.zdq (Zq10 HO528) (Kd.zec ho0) hb); have n3_ := za.mk (Kd.zcg (Zq11 HO531) hb); have n4_ := za.mk (Kd.zcr (Kd.zey (Kd.zey ho0 (Kd.R_lt (Zq10 HO522))) (Kd.R_lt (Zq10 HO528))) (zu (Zq0 HB))); have n5_ := za.mk (zk (Zq0 HB) hb); clear HO522; clear HO525; clear HO528; clear HO531; clear HB; have HO522 := n0_; have HO525 := n1_; have HO528 := n2_; have HO531 := n3_; have HO535 := n4_; have HB := n5_; clear n0_ n1_ n2_ n3_ n4_ n5_; (try clear hb); (try clear hb2); (try clear hk); (try clear hi); (try clear ho0); obtain ⟨Ao73, co73, eo73⟩ := Kd.zch HO535.out; subst eo73) | ((with_reducible refine zt (f := 21) rfl ?_); refine zbt (some 34) rfl rfl Try.func21 (by kernel_rfl) rfl #[.slice Ao68 t526.length co68, .slice Ao73 t533.length co73] rfl Zmt ?_; (with_reducible refine (zbh.calls k _ _ t526 _ _ t533 false _ ?side1 ?side2 ?side3 ?side4 A12.out).mono ?_); (case side1 => exact Zq5 ((Kd.zbm HO528.out).2.2)); (case side2 => exact (Kd.zbm HO528.out).2.1); (case side3 => exact Zq5 ((Kd.zbm HO535.out).2.2)); (case side4 => exact (Kd.zbm HO535.out).2.1); rintro e w74 ⟨rfl, hb⟩; refine ⟨_, rfl, ?_⟩; have n0_ := za.mk (Kd.zb9 (Zq10 HO522) hb); have n1_ := za.mk (Kd.zcg (Zq11 HO525) hb); have n2_ := za.mk (Kd.zb9 (Zq10 HO528) hb); have n3_ := za.mk (Kd.zcg (Zq11 HO531) hb); have n4_ := za.mk (Kd.zb9 (Zq10 HO535) hb); have n5_ := za.mk (zk (Zq0 HB) hb); clear HO522; clear HO525; clear HO528; clear HO531; clear HO535; clear HB; have HO522 := n0_; have HO525 := n1_; have HO528 := n2_; have HO531 := n3_; have HO535 := n4_; have HB := n5_; clear n0_ n1_ n2_ n3_ n4_ n5_; (try clear hb); (try clear hb2); (try clear hk); (try clear hi)))
    go_ret;exact ⟨by first | rfl | (simp [zn, zo] <;> rfl) | (simp [*, zn, zo] <;> rfl), Zq0 HB⟩
  ·replace c10 := Bool.eq_false_iff.mpr c10
   subst c10;have H1 : (some false) = some r := by rw [if_neg (show ¬ (false = true) by decide)] at H; exact H
   clear H;have H := H1;clear H1;obtain rfl := Option.some.inj H;go_enter Try.func7, Try.ntmps7;go_wp2_with (first | ((with_reducible refine zt (f := 18) rfl ?_); refine zbt (some 15) rfl rfl Try.func18 (by kernel_rfl) rfl #[.slice A0 l0.length c0, .int .i64 1048576] rfl Zmt ?_; (with_reducible refine (zck.calls _ _ l0 1048576 t519 _ ?side1 ?side2 A3.out).mono ?_); (case side1 => exact Zq4 HR0); (case side2 => exact HC0.out); rintro e w' ⟨rfl, ⟨nd, rfl⟩⟩; refine ⟨_, rfl, ?_⟩) | ((with_reducible refine zt (f := 19) rfl ?_); refine zbt (some 19) rfl rfl Try.func19 (by kernel_rfl) rfl #[.slice A0 l0.length c0] rfl Zmt ?_; (with_reducible refine (zbb.calls k _ _ l0 t520 _ ?side1 ?side2 A5.out).mono ?_); (case side1 => exact Zq4 HR0); (case side2 => exact HC0.out); rintro e w75 ⟨v521, rfl, ho0, hb⟩; refine ⟨_, rfl, ?_⟩; have n0_ := za.mk (Kd.zcr ho0 (zu (Zq0 HB))); have n1_ := za.mk (zk (Zq0 HB) hb); clear HB; have HO522 := n0_; have HB := n1_; clear n0_ n1_; (try clear hb); (try clear hb2); (try clear hk); (try clear hi); (try clear ho0); obtain ⟨Ao76, co76, eo76⟩ := Kd.zch HO522.out; subst eo76) | ((with_reducible refine zt (f := 12) rfl ?_); refine zbt (some 21) rfl rfl Try.func12 (by kernel_rfl) rfl #[.slice Ao76 t520.length co76, .int .i64 a1] rfl Zmt ?_; (with_reducible refine (zq.calls k _ _ t520 a1 t523 _ ?side1 ?side2 A6.out).mono ?_); (case side1 => exact Zq5 ((Kd.zbm HO522.out).2.2)); (case side2 => exact (Kd.zbm HO522.out).2.1); rintro e w77 ⟨v524, rfl, ho0, hb⟩; refine ⟨_, rfl, ?_⟩; have n0_ := za.mk (Kd.zb9 (Zq10 HO522) hb); have n1_ := za.mk (Kd.zdm ho0 (zu (Zq0 HB))); have n2_ := za.mk (zk (Zq0 HB) hb); clear HO522; clear HB; have HO522 := n0_; have HO525 := n1_; have HB := n2_; clear n0_ n1_ n2_; (try clear hb); (try clear hb2); (try clear hk); (try clear hi); (try clear ho0)) | ((with_reducible refine zt (f := 19) rfl ?_); refine zbt (some 23) rfl rfl Try.func19 (by kernel_rfl) rfl #[.slice A0 l0.length c0] rfl Zmt ?_; (with_reducible refine (zbb.calls k _ _ l0 t526 _ ?side1 ?side2 A7.out).mono ?_); (case side1 => exact Zq5 (Kd.zcf HR0.out HB.out)); (case side2 => exact HC0.out); rintro e w78 ⟨v527, rfl, ho0, hb⟩; refine ⟨_, rfl, ?_⟩; have n0_ := za.mk (Kd.zdq (Zq10 HO522) (Kd.zec ho0) hb); have n1_ := za.mk (Kd.zcg (Zq11 HO525) hb); have n2_ := za.mk (Kd.zcr (Kd.zey ho0 (Kd.R_lt (Zq10 HO522))) (zu (Zq0 HB))); have n3_ := za.mk (zk (Zq0 HB) hb); clear HO522; clear HO525; clear HB; have HO522 := n0_; have HO525 := n1_; have HO528 := n2_; have HB := n3_; clear n0_ n1_ n2_ n3_; (try clear hb); (try clear hb2); (try clear hk); (try clear hi); (try clear ho0); obtain ⟨Ao79, co79, eo79⟩ := Kd.zch HO528.out; subst eo79) | ((with_reducible refine zt (f := 10) rfl ?_); refine zbt (some 26) rfl rfl Try.func10 (by kernel_rfl) rfl #[.slice Ao79 t526.length co79, .int .i64 a1] rfl Zmt ?_; (with_reducible refine (zbg.zga k _ _ t526 a1 t529 _ ?side1 ?side2 A8.out).mono ?_); (case side1 => exact Zq5 ((Kd.zbm HO528.out).2.2)); (case side2 => exact (Kd.zbm HO528.out).2.1); rintro e w80 ⟨v530, rfl, ho0, hb⟩; refine ⟨_, rfl, ?_⟩; have n0_ := za.mk (Kd.zb9 (Zq10 HO522) hb); have n1_ := za.mk (Kd.zc4 (Zq11 HO525) (Kd.zee ho0) hb); have n2_ := za.mk (Kd.zb9 (Zq10 HO528) hb); have n3_ := za.mk (Kd.zdm (Kd.zei ho0 (Kd.S_lt (Zq11 HO525))) (zu (Zq0 HB))); have n4_ := za.mk (zk (Zq0 HB) hb); clear HO522; clear HO525; clear HO528; clear HB; have HO522 := n0_; have HO525 := n1_; have HO528 := n2_; have HO531 := n3_; have HB := n4_; clear n0_ n1_ n2_ n3_ n4_; (try clear hb); (try clear hb2); (try clear hk); (try clear hi); (try clear ho0); obtain ⟨Ao81, co81, eo81⟩ := Kd.zdp HO531.out; subst eo81; obtain ⟨Ao82, co82, eo82⟩ := Kd.zdp HO525.out; subst eo82) | ((with_reducible refine zt (f := 20) rfl ?_); refine zbt (some 29) rfl rfl Try.func20 (by kernel_rfl) rfl #[.slice Ao81 t529.length co81, .slice Ao82 t523.length co82] rfl Zmt ?_; (with_reducible refine (zbc.calls k _ _ t529 _ _ t523 false _ ?side1 ?side2 ?side3 ?side4 A9.out).mono ?_); (case side1 => exact Zq5 ((Kd.zbr HO531.out).2.2)); (case side2 => exact (Kd.zbr HO531.out).2.1); (case side3 => exact Zq5 ((Kd.zbr HO525.out).2.2)); (case side4 => exact (Kd.zbr HO525.out).2.1); rintro e w' ⟨rfl, ⟨nd, rfl⟩⟩; refine ⟨_, rfl, ?_⟩));go_ret;exact ⟨by first | rfl | (simp [zn, zo] <;> rfl) | (simp [*, zn, zo] <;> rfl), Zq0 HB⟩
def laws_FnExactRunFair.Pure : Prop := ∀ (l0 : List (S65)) (a1 : Int), l0.length * 24 ≤ 140737488351232 → (l0.length ≤ maxLen ∧ ∀ y0 ∈ l0, ((Lit.int .i64 y0.f0).wf = true) ∧ ((Lit.int .i64 y0.f1).wf = true) ∧ ((Lit.int .i64 y0.f2).wf = true)) → (Lit.int .i64 a1).wf = true → ∃ k, laws_FnExactRunFair.f k l0 a1 = some true
def zdi (w0 W : World) (g : Nat) (f0 : List Int) (f1 : Int) : Prop := ∃ A0 c0, W.heap[g]? = some (.cells #[.slice A0 f0.length c0, .int .i64 f1] 69 (0, 0)) ∧ w0.heap.size ≤ g ∧ Kd.C (Kd.int .u8) w0 A0 f0.length f0
theorem zdi.grown {w0 W : World} {g : Nat} {f0 : List Int} {f1 : Int} {W1 : World} {row : Option Nat} (h : zdi w0 W g f0 f1) (hw : W.grownBy W1 row) (hne : some g ≠ row) : zdi w0 W1 g f0 f1 := by
 obtain ⟨A0, c0, hb, hg, hr0⟩ := h
 exact ⟨A0, c0, blk_grown hb hw hne, hg, hr0⟩
theorem zdi.kept {w0 W : World} {g : Nat} {f0 : List Int} {f1 : Int} {W1 : World} {S : Nat → Prop} (h : zdi w0 W g f0 f1) (hk : Kept W W1 S) (hne : ¬ S g) : zdi w0 W1 g f0 f1 := by
 obtain ⟨A0, c0, hb, hg, hr0⟩ := h
 exact ⟨A0, c0, blk_kept hb hk hne, hg, hr0⟩
theorem zdi.below {w0 W : World} {g : Nat} {f0 : List Int} {f1 : Int} {W1 : World} (h : zdi w0 W g f0 f1) (hw : Below W.heap.size W W1) : zdi w0 W1 g f0 f1 := h.grown (zeq hw none) (by simp)
theorem zdi.alloc {w0 W : World} {g : Nat} {f0 : List Int} {f1 : Int} (h : zdi w0 W g f0 f1) (o : Obj) : zdi w0 (W.alloc o) g f0 f1 := h.below (zb1 (Below.refl _ _) o)
theorem zdi.drewN {w0 W : World} {g : Nat} {f0 : List Int} {f1 : Int} (h : zdi w0 W g f0 f1) (m : Nat) : zdi w0 (W.drewN m) g f0 f1 := h
theorem zdi.drew {w0 W : World} {g : Nat} {f0 : List Int} {f1 : Int} (h : zdi w0 W g f0 f1) : zdi w0 W.drew g f0 f1 := h
theorem zdi.at_ {w0 W : World} {g : Nat} {f0 : List Int} {f1 : Int} {w' : World} {m : Nat} (hq : W.drewN m = w') (h : zdi w0 W g f0 f1) : zdi w0 w' g f0 f1 := by subst hq; exact zdi.drewN h m
theorem zdi.apart {w0 W : World} {g : Nat} {f0 : List Int} {f1 : Int} {α : Type} {d : Kd α} {e : Nat} {base : Nat} {ok : Nat → Prop} {v : Value} {xs : List α} (h : zdi w0 W g f0 f1) (ho : d.R e W base ok v xs) (ht : ∀ q, q ∈ e :: d.E → q ≠ 69) : d.R e W base (fun k => ok k ∧ k ≠ g) v xs := by
 obtain ⟨A0, c0, hb, hg, hr0⟩ := h
 exact Kd.R_types ho hb ht
theorem zdi.new (w0 W : World) (A0 : Option Addr) (c0 : Nat) (f0 : List Int) (f1 : Int) (hB : Below w0.heap.size w0 W) (hr0 : Kd.C (Kd.int .u8) w0 A0 f0.length f0) : zdi w0 (W.alloc (.cells #[.slice A0 f0.length c0, .int .i64 f1] 69)) W.heap.size f0 f1 := ⟨A0, c0, by simpa using heap_alloc_new W _, hB.size, hr0⟩
end Go.Proofs.Ytnilnaabjpcfjaa.P
namespace Go.Proofs.Ytnilnaabjpcfjaa.Base
open Go.RowKit Go.Proofs.Ytnilnaabjpcfjaa.P Go.Proofs.YtnilnaabjpcfjaaW.PrintWords Go.Proofs.YtnilnaabjpcfjaaW.PrintLast Go.Proofs.YtnilnaabjpcfjaaW.PrintMore
theorem w64 {x : Int} (h0 : -9223372036854775808 ≤ x) (h1 : x < 9223372036854775808) : wrap64 x = x := by unfold wrap64; omega
theorem mul_bd {a b A B : Int} (ha : 0 ≤ a) (hA : a ≤ A) (hb : 0 ≤ b) (hB : b ≤ B) : 0 ≤ a * b ∧ a * b ≤ A * B :=
  ⟨Int.mul_nonneg ha hb, Int.mul_le_mul hA hB hb (by omega)⟩
theorem in_f (a b c : Int) : zcw.f a b c = some (decide (b ≤ a ∧ a ≤ c)) := by
  unfold zcw.f
  by_cases h : a ≥ b
  · rw [if_pos h]; simp [show b ≤ a from h]
  · rw [if_neg h]; simp [show ¬ b ≤ a from h]
theorem l1In_f (a b c : Int) : zb8.f a b c = some (decide (b ≤ a ∧ a ≤ c)) := by
  unfold zb8.f
  by_cases h : a ≥ b
  · rw [if_pos h]; simp [show b ≤ a from h]
  · rw [if_neg h]; simp [show ¬ b ≤ a from h]
theorem zhb {α : Type} (p : Prop) [Decidable p] (x y : Option α) : (some (decide p)).bind (fun t => if t = true then x else y) = if p then x else y := by
  by_cases hp : p <;> simp [hp]
theorem zfp {a b : Int} (h : 0 ≤ a) : Int.tdiv a b = a / b := Int.tdiv_eq_ediv_of_nonneg h
end Go.Proofs.Ytnilnaabjpcfjaa.Base
namespace Go.Proofs.Ytnilnaabjpcfjaa.Alive
open Go.RowKit Go.Proofs.Ytnilnaabjpcfjaa.P Go.Proofs.Ytnilnaabjpcfjaa.Base Go.Proofs.YtnilnaabjpcfjaaW.PrintWords Go.Proofs.YtnilnaabjpcfjaaW.PrintLast
def TV (c d p : Int) : Prop := 1 ≤ c ∧ c ≤ 8 ∧ c ≤ d ∧ d ≤ p ∧ p ≤ 12
instance (c d p : Int) : Decidable (TV c d p) := by unfold TV; infer_instance
end Go.Proofs.Ytnilnaabjpcfjaa.Alive
namespace Go.Proofs.Ytnilnaabjpcfjaa.Win
open Go.RowKit Go.Proofs.Ytnilnaabjpcfjaa.P Go.Proofs.Ytnilnaabjpcfjaa.Base Go.Proofs.Ytnilnaabjpcfjaa.Alive Go.Proofs.YtnilnaabjpcfjaaW.PrintWords Go.Proofs.YtnilnaabjpcfjaaW.PrintLast
def wr (c p k : Int) : Int := k * p / c
def wd (c p k : Int) : Int := ((k + 1) * p + c - 1) / c
theorem div_sp {x c : Int} (hc : 1 ≤ c) : x / c * c ≤ x ∧ x < x / c * c + c := by
  have h3 := Int.mul_ediv_add_emod x c
  have h4 := Int.emod_nonneg x (show c ≠ 0 by omega)
  have h5 := Int.emod_lt_of_pos x (show 0 < c by omega)
  rw [Int.mul_comm] at h3
  omega
theorem wr_sp {c p k : Int} (hc : 1 ≤ c) : wr c p k * c ≤ k * p ∧ k * p < wr c p k * c + c := div_sp hc
theorem wd_sp {c p k : Int} (hc : 1 ≤ c) : (k + 1) * p ≤ wd c p k * c ∧ wd c p k * c < (k + 1) * p + c := by
  have := div_sp (x := (k + 1) * p + c - 1) hc
  unfold wd; omega
theorem wr_bd {c p k : Int} (hc : 1 ≤ c) (hp : 0 ≤ p) (hp2 : p ≤ 12) (hk : 0 ≤ k) (hk2 : k ≤ 2000000) : 0 ≤ k * p ∧ k * p ≤ 24000000 ∧ 0 ≤ wr c p k ∧ wr c p k ≤ 24000000 := by
  have h := mul_bd (a := k) (b := p) (A := 2000000) (B := 12) hk hk2 hp hp2
  have h0 := Int.ediv_nonneg h.1 (show 0 ≤ c by omega)
  have h1 := Int.ediv_le_self c h.1
  unfold wr; omega
theorem wd_bd {c p k : Int} (hc : 1 ≤ c) (hc2 : c ≤ 8) (hp : 0 ≤ p) (hp2 : p ≤ 12) (hk : 0 ≤ k) (hk2 : k ≤ 2000000) : 0 ≤ (k + 1) * p ∧ (k + 1) * p ≤ 24000012 ∧ 0 ≤ wd c p k ∧ wd c p k ≤ 24000100 := by
  have h := mul_bd (a := k + 1) (b := p) (A := 2000001) (B := 12) (by omega) (by omega) hp hp2
  have h0 := Int.ediv_nonneg (show 0 ≤ (k + 1) * p + c - 1 by omega) (show 0 ≤ c by omega)
  have h1 := Int.ediv_le_self c (show 0 ≤ (k + 1) * p + c - 1 by omega)
  unfold wd; omega
theorem zim {c d p k : Int} (hv : TV c d p) (hk : 0 ≤ k) (hk2 : k ≤ 2000000) : zbk.f c d p k = some (wr c p k, wd c p k) := by
  unfold TV at hv
  have h1 := wr_bd (c := c) (p := p) (k := k) (by omega) (by omega) (by omega) hk hk2
  have h2 := wd_bd (c := c) (p := p) (k := k) (by omega) (by omega) (by omega) (by omega) hk hk2
  unfold zbk.f zdv.f
  rw [if_neg (by omega), if_neg (by omega)]
  simp only [Option.bind_some]
  rw [w64 (x := k + 1) (by omega) (by omega), w64 (x := (k + 1) * p) (by omega) (by omega), w64 (x := k * p) (by omega) (by omega), w64 (x := (k + 1) * p + c) (by omega) (by omega), w64 (x := (k + 1) * p + c - 1) (by omega) (by omega), zfp (by omega), zfp (by omega)]
  show some (wrap64 (wr c p k), wrap64 (wd c p k)) = _
  rw [w64 (by omega) (by omega), w64 (by omega) (by omega)]
theorem zfl {c d p k : Int} (hv : TV c d p) (hk : 0 ≤ k) (hk2 : k ≤ 2000000) : zy.f c d p k = some (wr c p k, wd c p k) := by
  unfold TV at hv
  have h1 := wr_bd (c := c) (p := p) (k := k) (by omega) (by omega) (by omega) hk hk2
  have h2 := wd_bd (c := c) (p := p) (k := k) (by omega) (by omega) (by omega) (by omega) hk hk2
  unfold zy.f
  rw [if_neg (by omega)]
  rw [w64 (x := k + 1) (by omega) (by omega), w64 (x := (k + 1) * p) (by omega) (by omega), w64 (x := k * p) (by omega) (by omega), w64 (x := (k + 1) * p + c) (by omega) (by omega), w64 (x := (k + 1) * p + c - 1) (by omega) (by omega), zfp (by omega), zfp (by omega)]
  show some (wrap64 (wr c p k), wrap64 (wd c p k)) = _
  rw [w64 (by omega) (by omega), w64 (by omega) (by omega)]
end Go.Proofs.Ytnilnaabjpcfjaa.Win
namespace Go.Proofs.Ytnilnaabjpcfjaa.Set
open Go.RowKit Go.Proofs.Ytnilnaabjpcfjaa.P Go.Proofs.Ytnilnaabjpcfjaa.Base Go.Proofs.Ytnilnaabjpcfjaa.Alive Go.Proofs.YtnilnaabjpcfjaaW.PrintWords Go.Proofs.YtnilnaabjpcfjaaW.PrintLast
abbrev Task := S35
def TVt (t : Task) : Prop := TV t.f0 t.f1 t.f2
instance (t : Task) : Decidable (TVt t) := by unfold TVt; infer_instance
def zem (l : List Task) : Prop := l.length ≤ 5 ∧ ∀ t ∈ l, TVt t
instance (l : List Task) : Decidable (zem l) := by unfold zem; infer_instance
def Impl (l : List Task) : Prop := zem l ∧ ∀ t ∈ l, t.f1 = t.f2
instance (l : List Task) : Decidable (Impl l) := by unfold Impl; infer_instance
theorem taskOk_iff (t : Task) : taskOk t = decide (TVt t) := by
  unfold taskOk
  rw [decide_eq_decide]; unfold TVt TV; omega
theorem zin (l : List Task) : zcm.f l = some (decide (¬ ∀ t ∈ l, TVt t)) := by
  unfold zcm.f
  congr 1
  rw [Bool.eq_iff_iff, List.any_eq_true]
  simp [zcm.bad, taskOk_iff]
theorem set_f (l : List Task) : zcp.f l = some (decide (zem l)) := by
  unfold zcp.f
  by_cases h : (l.length : Int) ≤ 5
  · rw [if_pos h, zin]
    simp only [Option.bind_some]
    congr 1
    rw [Bool.eq_iff_iff]
    unfold zem
    have : l.length ≤ 5 := by omega
    simp [this]
  · rw [if_neg h]
    congr 1; symm; rw [decide_eq_false_iff_not]
    unfold zem; omega
theorem any_late_f (l : List Task) : zco.f l = some (decide (¬ ∀ t ∈ l, t.f1 = t.f2)) := by
  unfold zco.f
  congr 1
  rw [Bool.eq_iff_iff, List.any_eq_true]
  simp [zco.bad]
theorem impl_f (l : List Task) : zcj.f l = some (decide (Impl l)) := by
  unfold zcj.f
  rw [set_f, zhb, any_late_f]
  simp only [Option.bind_some]
  by_cases h : zem l
  · rw [if_pos h]
    congr 1
    rw [Bool.eq_iff_iff]
    unfold Impl
    simp [h]
  · rw [if_neg h]
    congr 1; symm; rw [decide_eq_false_iff_not]
    exact fun h' => h h'.1
end Go.Proofs.Ytnilnaabjpcfjaa.Set
set_option linter.unusedVariables false
set_option linter.unusedSectionVars false
namespace Go.Proofs.Ytnilnaabjpcfjaa.Pd2
def sm (f : Nat → Int) : Nat → Int
  | 0 => 0
  | n + 1 => sm f n + f n
theorem zio {f g : Nat → Int} : ∀ n, (∀ k, k < n → f k ≤ g k) → sm f n ≤ sm g n
  | 0, _ => Int.le_refl _
  | n + 1, h => by
    have h1 := zio n (fun k hk => h k (by omega))
    have h2 := h n (by omega)
    simp only [sm]
    omega
theorem zfq {f g : Nat → Int} (n : Nat) (h : ∀ k, k < n → f k = g k) : sm f n = sm g n := by
  have h1 := zio n (fun k hk => Int.le_of_eq (h k hk))
  have h2 := zio n (fun k hk => Int.le_of_eq (h k hk).symm)
  omega
theorem sm_add (f g : Nat → Int) : ∀ n, sm (fun k => f k + g k) n = sm f n + sm g n
  | 0 => rfl
  | n + 1 => by have := sm_add f g n; simp only [sm]; omega
theorem ziq : ∀ n, sm (fun _ => 0) n = 0
  | 0 => rfl
  | n + 1 => by have := ziq n; simp only [sm]; omega
theorem sm_pick {f : Nat → Int} : ∀ n j, j < n → (∀ k, k < n → k ≠ j → f k = 0) → sm f n = f j
  | 0, j, h, _ => by omega
  | n + 1, j, hj, h => by
    simp only [sm]
    by_cases hn : j = n
    · subst hn
      have h1 : sm f j = sm (fun _ => 0) j := zfq j (fun k hk => h k (by omega) (by omega))
      rw [ziq] at h1; omega
    · have h1 := sm_pick n j (by omega) (fun k hk hkj => h k (by omega) hkj)
      have h2 := h n (by omega) (by omega)
      omega
theorem zfr (f : Nat → Int) (n j : Nat) (hj : j < n) : sm f n = sm (fun k => if k = j then 0 else f k) n + f j := by
  have h1 : sm f n = sm (fun k => (if k = j then 0 else f k) + (if k = j then f j else 0)) n :=
    zfq n (fun k _ => by by_cases h : k = j <;> simp [h])
  rw [h1, sm_add]
  have h2 := sm_pick (f := fun k => if k = j then f j else 0) n j hj (fun k _ hk => by simp [hk])
  simp only [if_true] at h2
  rw [h2]
def on (p : Bool) : Int := if p then 1 else 0
theorem zgb (p : Bool) : 0 ≤ on p := by cases p <;> decide
theorem on_le (p : Bool) : on p ≤ 1 := by cases p <;> decide
theorem on_mono {p q : Bool} (h : p = true → q = true) : on p ≤ on q := by
  cases p <;> cases q <;> simp_all [on]
def ct (p : Nat → Bool) (n : Nat) : Int := sm (fun k => on (p k)) n
theorem zfh {p q : Nat → Bool} (n : Nat) (h : ∀ k, k < n → p k = true → q k = true) : ct p n ≤ ct q n :=
  zio n (fun k hk => on_mono (h k hk))
theorem ct_congr {p q : Nat → Bool} (n : Nat) (h : ∀ k, k < n → p k = q k) : ct p n = ct q n := zfq n (fun k hk => by rw [h k hk])
theorem ex_max (p : Nat → Bool) (κ : Nat → Int) : ∀ n, (∃ k, k < n ∧ p k = true) → ∃ k, k < n ∧ p k = true ∧ ∀ j, j < n → p j = true → κ j ≤ κ k
  | 0, h => by obtain ⟨k, hk, _⟩ := h; omega
  | n + 1, h => by
    by_cases h1 : ∃ k, k < n ∧ p k = true
    · obtain ⟨k, hk, hp, hm⟩ := ex_max p κ n h1
      by_cases h2 : p n = true ∧ κ k < κ n
      · refine ⟨n, by omega, h2.1, fun j hj hpj => ?_⟩
        by_cases h3 : j = n
        · subst h3; exact Int.le_refl _
        · have := hm j (by omega) hpj; omega
      · refine ⟨k, by omega, hp, fun j hj hpj => ?_⟩
        by_cases h3 : j = n
        · subst h3
          by_cases h4 : κ k < κ j
          · exact absurd ⟨hpj, h4⟩ h2
          · omega
        · exact hm j (by omega) hpj
    · obtain ⟨k, hk, hp⟩ := h
      have hkn : k = n := by
        by_cases h3 : k = n
        · exact h3
        · exact absurd ⟨k, by omega, hp⟩ h1
      subst hkn
      refine ⟨k, hk, hp, fun j hj hpj => ?_⟩
      by_cases h3 : j = k
      · subst h3; exact Int.le_refl _
      · exact absurd ⟨j, by omega, hpj⟩ h1
def ch (e : Nat → Bool) (κ : Nat → Int) (n : Nat) (m : Int) (k : Nat) : Bool :=
  decide (k < n) && e k && decide (ct (fun j => e j && decide (κ j < κ k)) n < m)
section
variable {e : Nat → Bool} {κ : Nat → Int} {n : Nat} {m : Int}
theorem zgt {k : Nat} : ch e κ n m k = true ↔ k < n ∧ e k = true ∧ ct (fun j => e j && decide (κ j < κ k)) n < m := by
  unfold ch; simp [and_assoc]
theorem zir {k j : Nat} (h : ch e κ n m k = true) (hj : j < n) (hej : e j = true) (hk : κ j < κ k) : ch e κ n m j = true := by
  rw [zgt] at h ⊢
  refine ⟨hj, hej, Int.lt_of_le_of_lt (zfh n (fun i _ hi => ?_)) h.2.2⟩
  simp only [Bool.and_eq_true, decide_eq_true_eq] at hi ⊢
  exact ⟨hi.1, by omega⟩
theorem ch_le (hm : 0 ≤ m) (hinj : ∀ i j, i < n → j < n → e i = true → e j = true → κ i = κ j → i = j) : ct (ch e κ n m) n ≤ m := by
  by_cases h0 : ∃ k, k < n ∧ ch e κ n m k = true
  · obtain ⟨k, hk, hc, hmax⟩ := ex_max (ch e κ n m) κ n h0
    have h1 := (zgt.1 hc).2.2
    have h2 : ct (ch e κ n m) n ≤ ct (fun j => e j && decide (κ j < κ k)) n + 1 := by
      unfold ct
      rw [zfr (fun j => on (ch e κ n m j)) n k hk]
      have h3 := zio (f := fun j => if j = k then 0 else on (ch e κ n m j)) (g := fun j => on (e j && decide (κ j < κ k))) n (fun j hj => by
        show (if j = k then 0 else on (ch e κ n m j)) ≤ _
        by_cases hjk : j = k
        · rw [if_pos hjk]; exact zgb _
        · rw [if_neg hjk]
          apply on_mono
          intro hcj
          have := hmax j hj hcj
          have he := (zgt.1 hcj).2.1
          simp only [Bool.and_eq_true, decide_eq_true_eq]
          refine ⟨he, ?_⟩
          by_cases hl : κ j < κ k
          · exact hl
          · exact absurd (hinj j k hj hk he (zgt.1 hc).2.1 (by omega)) hjk)
      have h4 := on_le (ch e κ n m k)
      exact Int.add_le_add h3 h4
    omega
  · have : ct (ch e κ n m) n ≤ ct (fun _ => false) n := zfh n (fun k hk hc => absurd ⟨k, hk, hc⟩ h0)
    have h2 : ct (fun _ => false) n = 0 := ziq n
    omega
theorem ch_full {k : Nat} (hk : k < n) (hek : e k = true) (hn : ch e κ n m k = false) : m ≤ ct (ch e κ n m) n := by
  obtain ⟨k, hk, hp, hmin⟩ := ex_max (fun k => e k && !(ch e κ n m k)) (fun k => - κ k) n ⟨k, hk, by simp [hek, hn]⟩
  simp only [Bool.and_eq_true, Bool.not_eq_true'] at hp
  have h1 : ¬ ct (fun j => e j && decide (κ j < κ k)) n < m := by
    intro h
    have := zgt.2 ⟨hk, hp.1, h⟩
    rw [hp.2] at this; cases this
  have h2 : ct (fun j => e j && decide (κ j < κ k)) n ≤ ct (ch e κ n m) n := zfh n (fun j hj h => by
    simp only [Bool.and_eq_true, decide_eq_true_eq] at h
    by_cases hc : ch e κ n m j = true
    · exact hc
    · have := hmin j hj (by simp [h.1, hc])
      omega)
  omega
end
section
variable {L W : Int} {r d : Nat → Nat} (hL : 0 < L) (hW : 0 < W) (hWL : W ≤ L)
  (hr : ∀ k u : Nat, r k ≤ u ↔ L * (k : Int) < W * ((u : Int) + 1)) (hd : ∀ k u : Nat, d k ≤ u ↔ L * ((k : Int) + 1) ≤ W * (u : Int))
theorem mul1 (a b : Int) : a * (b + 1) = a * b + a := by rw [Int.mul_add, Int.mul_one]
theorem mulc (a : Int) (k : Nat) : a * ((k + 1 : Nat) : Int) = a * (k : Int) + a := by rw [← mul1]; congr 1
include hr hWL hL in
theorem r_lt (k : Nat) : r k < r (k + 1) := by
  have h1 := (hr (k + 1) (r (k + 1))).1 (Nat.le_refl _)
  rw [mulc, mul1] at h1
  by_cases h0 : r (k + 1) = 0
  · rw [h0] at h1
    have h2 : 0 ≤ L * (k : Int) := Int.mul_nonneg (by omega) (by omega)
    simp at h1; omega
  · obtain ⟨v, hv⟩ : ∃ v, r (k + 1) = v + 1 := ⟨r (k + 1) - 1, by omega⟩
    rw [hv] at h1 ⊢
    rw [mulc] at h1
    have := (hr k v).2 (by rw [mul1]; omega)
    omega
include hd hL hWL in
theorem d_lt (k : Nat) : d k < d (k + 1) := by
  have h1 := (hd (k + 1) (d (k + 1))).1 (Nat.le_refl _)
  rw [mul1, mulc] at h1
  by_cases h0 : d (k + 1) = 0
  · rw [h0] at h1
    have h2 : 0 ≤ L * (k : Int) := Int.mul_nonneg (by omega) (by omega)
    simp at h1; omega
  · obtain ⟨v, hv⟩ : ∃ v, d (k + 1) = v + 1 := ⟨d (k + 1) - 1, by omega⟩
    rw [hv] at h1 ⊢
    rw [mulc] at h1
    have := (hd k v).2 (by rw [mul1]; omega)
    omega
theorem zis {g : Nat → Nat} (h : ∀ k, g k < g (k + 1)) {i j : Nat} (hij : i < j) : g i < g j := by
  induction j with
  | zero => omega
  | succ j ih =>
    have := h j
    by_cases hj : i = j
    · subst hj; exact this
    · have := ih (by omega); omega
include hr hd in
theorem ov (k : Nat) : d k ≤ r (k + 1) + 1 := by
  have h1 := (hr (k + 1) (r (k + 1))).1 (Nat.le_refl _)
  refine (hd k (r (k + 1) + 1)).2 ?_
  rw [mulc] at h1
  rw [mul1]
  push_cast
  omega
include hr hd hL in
theorem r_lt_d (k : Nat) : r k < d k := by
  have h1 := (hd k (d k)).1 (Nat.le_refl _)
  rw [mul1] at h1
  have h2 : 0 ≤ L * (k : Int) := Int.mul_nonneg (by omega) (by omega)
  by_cases h0 : d k = 0
  · rw [h0] at h1; simp at h1; omega
  · obtain ⟨v, hv⟩ : ∃ v, d k = v + 1 := ⟨d k - 1, by omega⟩
    rw [hv] at h1 ⊢
    have h3 : W * ((v + 1 : Nat) : Int) = W * ((v : Int) + 1) := by congr 1
    rw [h3] at h1
    have := (hr k v).2 (by omega)
    omega
include hL in
theorem lk (k : Nat) : 0 ≤ L * (k : Int) := Int.mul_nonneg (by omega) (by omega)
end
structure Sys where
  N : Nat
  M : Int
  L : Int
  W : Nat → Int
  r : Nat → Nat → Nat
  d : Nat → Nat → Nat
  b : Nat → Nat → Bool
  D : Nat → Nat → Int
  K : Nat → Nat → Int
structure Good (S : Sys) : Prop where
  M0 : 0 ≤ S.M
  L0 : 0 < S.L
  W0 : ∀ T, T < S.N → 0 < S.W T
  WL : ∀ T, T < S.N → S.W T ≤ S.L
  hr : ∀ T, T < S.N → ∀ k u : Nat, S.r T k ≤ u ↔ S.L * (k : Int) < S.W T * ((u : Int) + 1)
  hd : ∀ T, T < S.N → ∀ k u : Nat, S.d T k ≤ u ↔ S.L * ((k : Int) + 1) ≤ S.W T * (u : Int)
  hb : ∀ T, T < S.N → ∀ k, S.b T k = true ↔ S.r T (k + 1) + 1 = S.d T k
  Kne : ∀ T V, T < S.N → V < S.N → T ≠ V → ∀ k l, S.K T k ≠ S.K V l
  Kd : ∀ T V, T < S.N → V < S.N → ∀ k l, S.K T k ≤ S.K V l → S.d T k ≤ S.d V l
  Kb : ∀ T V, T < S.N → V < S.N → ∀ k l, S.K T k ≤ S.K V l → S.d T k = S.d V l → S.b V l = true → S.b T k = true ∧ S.D V l ≤ S.D T k
  Dl : ∀ T, T < S.N → 2 * S.W T < S.L → ∀ k, S.D T k = 0
  Dh : ∀ T, T < S.N → S.L ≤ 2 * S.W T → ∀ k, ∃ i, k ≤ i ∧ (∀ l, k ≤ l → l < i → S.b T l = true ∧ (k < l → S.d T l < S.r T l + 3)) ∧
    ((k < i ∧ S.r T i + 3 ≤ S.d T i ∧ S.D T k = (S.d T i : Int) - 1) ∨ (¬ (k < i ∧ S.r T i + 3 ≤ S.d T i) ∧ S.b T i = false ∧ S.D T k = (S.d T i : Int)))
  U : sm S.W S.N ≤ S.M * S.L
namespace Sys
variable (S : Sys)
abbrev St := Nat → List Nat
def el (P : St) (u T : Nat) : Bool := match P T with | [] => false | k :: _ => decide (S.r T k ≤ u)
def key (P : St) (T : Nat) : Int := S.K T ((P T).headD 0)
def sel (P : St) (u T : Nat) : Bool := ch (S.el P u) (S.key P) S.N S.M T
def nxt (P : St) (u : Nat) : St := fun T => if S.sel P u T then (P T).tail else P T
def run (Z : St) : Nat → St
  | 0 => Z
  | u + 1 => S.nxt (run Z u) u
def nsel (P : St) (u : Nat) : Int := ct (S.sel P u) S.N
def Rm (P P' : St) (T c : Nat) : Prop := c ∈ P T ∧ P' T = (P T).erase c ∧ ∀ V, V ≠ T → P' V = P V
def Srt (P : St) : Prop := ∀ T, (P T).Pairwise (· < ·)
variable {S}
theorem zhx {P : St} {u T : Nat} : S.el P u T = true ↔ ∃ k l, P T = k :: l ∧ S.r T k ≤ u := by
  unfold el
  cases h : P T with
  | nil => simp
  | cons k l => simp
theorem zdx {P : St} {u T : Nat} : S.sel P u T = true ↔ T < S.N ∧ S.el P u T = true ∧ ct (fun j => S.el P u j && decide (S.key P j < S.key P T)) S.N < S.M := zgt
theorem sel_lt {P : St} {u T : Nat} (h : S.sel P u T = true) : T < S.N := (zdx.1 h).1
theorem zhy {P : St} {u T : Nat} (h : S.sel P u T = true) : S.el P u T = true := (zdx.1 h).2.1
theorem sel_cons {P : St} {u T : Nat} (h : S.sel P u T = true) : ∃ k l, P T = k :: l ∧ S.r T k ≤ u := zhx.1 (zhy h)
theorem srt_nxt {P : St} {u : Nat} (h : Srt P) : Srt (S.nxt P u) := by
  intro T
  unfold nxt
  split
  · exact (h T).sublist (List.tail_sublist _)
  · exact h T
theorem zit {Z : St} (h : Srt Z) : ∀ u, Srt (S.run Z u)
  | 0 => h
  | u + 1 => srt_nxt (zit h u)
theorem ziu {P : St} {u T k : Nat} (h : k ∈ S.nxt P u T) : k ∈ P T := by
  unfold nxt at h
  split at h
  · exact List.mem_of_mem_tail h
  · exact h
theorem run_sub {Z : St} {T k : Nat} {u v : Nat} (huv : u ≤ v) (h : k ∈ S.run Z v T) : k ∈ S.run Z u T := by
  induction v with
  | zero => obtain rfl : u = 0 := by omega
            exact h
  | succ v ih =>
    by_cases e : u = v + 1
    · subst e; exact h
    · exact ih (by omega) (ziu h)
theorem zd9 {P : St} {u T : Nat} (h : S.sel P u T = false) : S.nxt P u T = P T := by unfold nxt; simp [h]
theorem zgc {P : St} {u T k : Nat} {l : List Nat} (h : S.sel P u T = true) (hp : P T = k :: l) : S.nxt P u T = l := by unfold nxt; simp [h, hp]
theorem head_not {P : St} (hs : Srt P) {T k : Nat} {l : List Nat} (h : P T = k :: l) : k ∉ l := by
  have := hs T
  rw [h, List.pairwise_cons] at this
  intro hk
  have := this.1 k hk
  omega
section
variable (G : Good S)
include G
theorem inj {P : St} {u i j : Nat} (hi : i < S.N) (hj : j < S.N) (h : S.key P i = S.key P j) : i = j := by
  by_cases e : i = j
  · exact e
  · exact absurd h (G.Kne i j hi hj e _ _)
theorem nsel_le (P : St) (u : Nat) : S.nsel P u ≤ S.M := ch_le G.M0 (fun i j hi hj _ _ h => inj G (u := u) hi hj h)
theorem d_inc {T : Nat} (hT : T < S.N) (k : Nat) : S.d T k < S.d T (k + 1) := Go.Proofs.Ytnilnaabjpcfjaa.Pd2.d_lt G.L0 (G.WL T hT) (G.hd T hT) k
theorem r_inc {T : Nat} (hT : T < S.N) (k : Nat) : S.r T k < S.r T (k + 1) := Go.Proofs.Ytnilnaabjpcfjaa.Pd2.r_lt G.L0 (G.WL T hT) (G.hr T hT) k
theorem r_d {T : Nat} (hT : T < S.N) (k : Nat) : S.r T k < S.d T k := Go.Proofs.Ytnilnaabjpcfjaa.Pd2.r_lt_d G.L0 (G.hr T hT) (G.hd T hT) k
theorem over {T : Nat} (hT : T < S.N) (k : Nat) : S.d T k ≤ S.r T (k + 1) + 1 := Go.Proofs.Ytnilnaabjpcfjaa.Pd2.ov (G.hr T hT) (G.hd T hT) k
theorem K_inc {T : Nat} (hT : T < S.N) {k l : Nat} (h : k < l) : S.K T k < S.K T l := by
  by_cases e : S.K T k < S.K T l
  · exact e
  · have h1 := G.Kd T T hT hT l k (by omega)
    have h2 := zis (d_inc G hT) h
    omega
omit G in
theorem full {P : St} {u T : Nat} (hT : T < S.N) (he : S.el P u T = true) (h : S.sel P u T = false) : S.M ≤ S.nsel P u := ch_full hT he h
omit G in
theorem zhc {P : St} {u T : Nat} (hh : S.nsel P u < S.M) (hT : T < S.N) (he : S.el P u T = true) : S.sel P u T = true := by
  cases h : S.sel P u T with
  | true => rfl
  | false => have := full hT he h; omega
omit G in
theorem zhz {P P' : St} {u : Nat} (he : ∀ T, T < S.N → S.el P' u T = S.el P u T) (hk : ∀ T, T < S.N → S.el P u T = true → S.key P' T = S.key P T) (T : Nat) : S.sel P' u T = S.sel P u T := by
  have h1 : ∀ V, V < S.N → S.el P u V = true → ct (fun j => S.el P' u j && decide (S.key P' j < S.key P' V)) S.N = ct (fun j => S.el P u j && decide (S.key P j < S.key P V)) S.N := by
    intro V hV hVe
    apply ct_congr
    intro j hj
    rw [he j hj]
    cases hje : S.el P u j with
    | false => rfl
    | true => rw [hk j hj hje, hk V hV hVe]
  by_cases hs : S.sel P u T = true
  · rw [hs]
    have h2 := zdx.1 hs
    exact zdx.2 ⟨h2.1, by rw [he T h2.1]; exact h2.2.1, by rw [h1 T h2.1 h2.2.1]; exact h2.2.2⟩
  · have hs' : S.sel P u T = false := by simpa using hs
    rw [hs']
    by_cases hs2 : S.sel P' u T = true
    · have h2 := zdx.1 hs2
      have h3 : S.el P u T = true := by rw [← he T h2.1]; exact h2.2.1
      exact absurd (zdx.2 ⟨h2.1, h3, by rw [← h1 T h2.1 h3]; exact h2.2.2⟩) hs
    · simpa using hs2
theorem zgu {P P' : St} {u T c : Nat} (hs : Srt P) (hT : T < S.N) (h : Rm P P' T c) :
    (¬ (S.sel P u T = true ∧ ∃ l, P T = c :: l) ∧ Rm (S.nxt P u) (S.nxt P' u) T c) ∨
    (S.sel P u T = true ∧ (∃ l, P T = c :: l) ∧ ((∀ V, S.nxt P' u V = S.nxt P u V) ∨
      ∃ V y, V < S.N ∧ Rm (S.nxt P u) (S.nxt P' u) V y ∧ S.K T c < S.K V y ∧ S.r V y ≤ u ∧ (∃ l, S.nxt P u V = y :: l) ∧ (V ≠ T → S.el P u V = true ∧ S.sel P u V = false))) := by
  obtain ⟨hc, hPT, hPV⟩ := h
  have hkV : ∀ V, V ≠ T → S.key P' V = S.key P V := fun V hV => by unfold key; rw [hPV V hV]
  have heV : ∀ V, V ≠ T → S.el P' u V = S.el P u V := fun V hV => by unfold el; rw [hPV V hV]
  cases hP : P T with
  | nil => rw [hP] at hc; cases hc
  | cons k l =>
    by_cases hkc : k = c
    ·
      subst hkc
      have hl : P' T = l := by rw [hPT, hP]; simp
      cases hsel : S.sel P u T with
      | true =>
        right
        refine ⟨rfl, ⟨l, rfl⟩, ?_⟩
        have hT1 : S.nxt P u T = l := zgc hsel hP
        have heT : S.el P u T = true := zhy hsel
        have hstay : ∀ V, V ≠ T → S.sel P u V = true → S.sel P' u V = true := by
          intro V hV hsV
          have h2 := zdx.1 hsV
          refine zdx.2 ⟨h2.1, by rw [heV V hV]; exact h2.2.1, Int.lt_of_le_of_lt (zfh S.N (fun j hj hj2 => ?_)) h2.2.2⟩
          simp only [Bool.and_eq_true, decide_eq_true_eq] at hj2 ⊢
          rw [hkV V hV] at hj2
          by_cases hjT : j = T
          · subst hjT
            refine ⟨heT, ?_⟩
            have h3 : S.key P j < S.key P' j := by
              unfold key
              rw [hP, hl]
              cases l with
              | nil => have := hj2.1; unfold el at this; rw [hl] at this; cases this
              | cons y l2 =>
                have := hs j
                rw [hP, List.pairwise_cons] at this
                exact K_inc G hT (this.1 y (by simp))
            omega
          · rw [heV j hjT, hkV j hjT] at hj2
            exact hj2
        by_cases hex : ∃ V, V < S.N ∧ S.sel P' u V = true ∧ ¬ (V ≠ T ∧ S.sel P u V = true)
        · obtain ⟨V, hV, hsV, hnV⟩ := hex
          have hone : ∀ V2, V2 < S.N → V2 ≠ V → S.sel P' u V2 = true → V2 ≠ T ∧ S.sel P u V2 = true := by
            intro V2 hV2 hne hs2
            by_cases hd : V2 ≠ T ∧ S.sel P u V2 = true
            · exact hd
            · exfalso
              by_cases hh : S.nsel P u < S.M
              · have hall : ∀ X, X < S.N → S.sel P' u X = true → ¬ (X ≠ T ∧ S.sel P u X = true) → X = T := by
                  intro X hX hsX hnX
                  by_cases hXT : X = T
                  · exact hXT
                  · exact absurd ⟨hXT, zhc hh hX (by rw [← heV X hXT]; exact zhy hsX)⟩ hnX
                exact hne ((hall V2 hV2 hs2 hd).trans (hall V hV hsV hnV).symm)
              · have hM' := nsel_le G P' u
                unfold nsel ct at hM' hh
                rw [zfr _ S.N T hT] at hh
                rw [zfr _ S.N V hV, zfr _ S.N V2 hV2] at hM'
                simp only [hsel, hsV, hs2, if_neg hne] at hh hM'
                have hq : sm (fun k => if k = T then 0 else on (S.sel P u k)) S.N ≤ sm (fun k => if k = V2 then 0 else if k = V then 0 else on (S.sel P' u k)) S.N := by
                  apply zio
                  intro j hj
                  show (if j = T then 0 else on (S.sel P u j)) ≤ (if j = V2 then 0 else if j = V then 0 else on (S.sel P' u j))
                  by_cases hjT : j = T
                  · rw [if_pos hjT]
                    split
                    · exact Int.le_refl _
                    · split
                      · exact Int.le_refl _
                      · exact zgb _
                  · rw [if_neg hjT]
                    cases hsj : S.sel P u j with
                    | false =>
                      show (0 : Int) ≤ _
                      split
                      · exact Int.le_refl _
                      · split
                        · exact Int.le_refl _
                        · exact zgb _
                    | true =>
                      rw [if_neg (fun e => hd (by subst e; exact ⟨hjT, hsj⟩)), if_neg (fun e => hnV (by subst e; exact ⟨hjT, hsj⟩)), hstay j hjT hsj]
                      exact Int.le_refl _
                have ho : on true = 1 := rfl
                rw [ho] at hh hM'
                omega
          have hrest : ∀ X, X ≠ V → X ≠ T → S.nxt P' u X = S.nxt P u X := by
            intro X hXV hXT
            have : S.sel P' u X = S.sel P u X := by
              cases h1 : S.sel P u X with
              | true => exact hstay X hXT h1
              | false =>
                cases h2 : S.sel P' u X with
                | false => rfl
                | true => have := (hone X (sel_lt h2) hXV h2).2; rw [h1] at this; cases this
            unfold nxt; rw [this, hPV X hXT]
          obtain ⟨y, l2, hy, hry⟩ := sel_cons hsV
          right
          by_cases hVT : V = T
          · subst hVT
            rw [hl] at hy
            refine ⟨V, y, hV, ⟨?_, ?_, ?_⟩, ?_, hry, ⟨l2, by rw [hT1, hy]⟩, fun h => absurd rfl h⟩
            · rw [hT1, hy]; simp
            · rw [hT1, hy, zgc hsV (by rw [hl, hy])]; simp
            · intro X hX; exact hrest X hX hX
            · have := hs V
              rw [hP, hy, List.pairwise_cons] at this
              exact K_inc G hT (this.1 y (by simp))
          · have hnsel : S.sel P u V = false := by
              cases h1 : S.sel P u V with
              | false => rfl
              | true => exact absurd ⟨hVT, h1⟩ hnV
            have heV2 : S.el P u V = true := by rw [← heV V hVT]; exact zhy hsV
            have hy2 : P V = y :: l2 := by rw [← hPV V hVT]; exact hy
            refine ⟨V, y, hV, ⟨?_, ?_, ?_⟩, ?_, hry, ⟨l2, by rw [zd9 hnsel, hy2]⟩, fun _ => ⟨heV2, hnsel⟩⟩
            · rw [zd9 hnsel, hy2]; simp
            · rw [zd9 hnsel, hy2, zgc hsV hy]; simp
            · intro X hX
              by_cases hXT : X = T
              · subst hXT
                have hn : S.sel P' u X = false := by
                  cases h1 : S.sel P' u X with
                  | false => rfl
                  | true => exact absurd rfl (hone X hT hX h1).1
                rw [zd9 hn, hT1, hl]
              · exact hrest X hX hXT
            · have h3 : ¬ S.key P V < S.key P T := by
                intro h4
                have := zir hsel hV heV2 h4
                rw [show ch (S.el P u) (S.key P) S.N S.M V = S.sel P u V from rfl, hnsel] at this
                cases this
              have h4 := G.Kne T V hT hV (fun e => hVT e.symm) k y
              unfold key at h3
              rw [hy2, hP] at h3
              simp only [List.headD_cons] at h3
              omega
        · left
          intro V
          by_cases hVT : V = T
          · subst hVT
            have hn : S.sel P' u V = false := by
              cases h1 : S.sel P' u V with
              | false => rfl
              | true => exact absurd ⟨V, hT, h1, fun h => h.1 rfl⟩ hex
            rw [zd9 hn, hT1, hl]
          · have : S.sel P' u V = S.sel P u V := by
              cases h1 : S.sel P u V with
              | true => exact hstay V hVT h1
              | false =>
                cases h2 : S.sel P' u V with
                | false => rfl
                | true => exact absurd ⟨V, sel_lt h2, h2, fun h => by rw [h1] at h; cases h.2⟩ hex
            unfold nxt; rw [this, hPV V hVT]
      | false =>
        left
        refine ⟨fun h => by simp at h, ?_⟩
        have hnextK : S.el P' u T = true → S.key P T < S.key P' T := by
          intro he
          obtain ⟨y, l2, hy, hry⟩ := zhx.1 he
          unfold key
          rw [hP, hy]
          have := hs T
          rw [hP, ← hl, hy, List.pairwise_cons] at this
          exact K_inc G hT (this.1 y (by simp))
        have hnextE : S.el P' u T = true → S.el P u T = true := by
          intro he
          obtain ⟨y, l2, hy, hry⟩ := zhx.1 he
          refine zhx.2 ⟨k, l, hP, ?_⟩
          have h5 := hs T
          rw [hP, ← hl, hy, List.pairwise_cons] at h5
          have := zis (r_inc G hT) (h5.1 y (by simp))
          omega
        have hsame : ∀ V, S.sel P' u V = S.sel P u V := by
          cases heT : S.el P u T with
          | false =>
            have he' : S.el P' u T = false := by
              cases h1 : S.el P' u T with
              | false => rfl
              | true => have := hnextE h1; rw [heT] at this; cases this
            apply zhz
            · intro V hV
              by_cases hVT : V = T
              · subst hVT; rw [he', heT]
              · exact heV V hVT
            · intro V hV he
              by_cases hVT : V = T
              · subst hVT; rw [heT] at he; cases he
              · exact hkV V hVT
          | true =>
            have hM := full hT heT hsel
            have hbef : ∀ V, S.sel P u V = true → V ≠ T ∧ S.key P V < S.key P T := by
              intro V hsV
              have hVT : V ≠ T := by rintro rfl; rw [hsel] at hsV; cases hsV
              refine ⟨hVT, ?_⟩
              by_cases h1 : S.key P V < S.key P T
              · exact h1
              · have h2 : S.key P V ≠ S.key P T := fun h => hVT (inj G (u := u) (sel_lt hsV) hT h)
                have := zir hsV hT heT (by omega)
                rw [show ch (S.el P u) (S.key P) S.N S.M T = S.sel P u T from rfl, hsel] at this
                cases this
            intro V
            cases hsV : S.sel P u V with
            | true =>
              obtain ⟨hVT, hlt⟩ := hbef V hsV
              have h2 := zdx.1 hsV
              refine zdx.2 ⟨h2.1, by rw [heV V hVT]; exact h2.2.1, Int.lt_of_le_of_lt (zfh S.N (fun j hj hj2 => ?_)) h2.2.2⟩
              simp only [Bool.and_eq_true, decide_eq_true_eq] at hj2 ⊢
              rw [hkV V hVT] at hj2
              by_cases hjT : j = T
              · subst hjT
                have := hnextK hj2.1
                omega
              · rw [heV j hjT, hkV j hjT] at hj2
                exact hj2
            | false =>
              cases hsV' : S.sel P' u V with
              | false => rfl
              | true =>
                exfalso
                have h2 := zdx.1 hsV'
                have h3 : S.M ≤ ct (fun j => S.el P' u j && decide (S.key P' j < S.key P' V)) S.N := by
                  refine Int.le_trans hM (zfh S.N (fun j hj hj2 => ?_))
                  obtain ⟨hjT, hlt⟩ := hbef j hj2
                  simp only [Bool.and_eq_true, decide_eq_true_eq]
                  rw [heV j hjT, hkV j hjT]
                  refine ⟨zhy hj2, ?_⟩
                  by_cases hVT : V = T
                  · subst hVT
                    have := hnextK h2.2.1
                    omega
                  · rw [hkV V hVT]
                    by_cases h4 : S.key P j < S.key P V
                    · exact h4
                    · have hjV : j ≠ V := by rintro rfl; rw [hsV] at hj2; cases hj2
                      have h5 : S.key P j ≠ S.key P V := fun h => hjV (inj G (u := u) hj h2.1 h)
                      have := zir hj2 h2.1 (by rw [← heV V hVT]; exact h2.2.1) (by omega)
                      rw [show ch (S.el P u) (S.key P) S.N S.M V = S.sel P u V from rfl, hsV] at this
                      cases this
                omega
        refine ⟨by rw [zd9 hsel]; exact hc, ?_, ?_⟩
        · rw [zd9 hsel, zd9 (by rw [hsame]; exact hsel)]; exact hPT
        · intro V hV
          unfold nxt
          rw [hsame, hPV V hV]
    ·
      left
      refine ⟨?_, ?_⟩
      · rintro ⟨_, l2, h2⟩
        injection h2 with h3 h4
        exact hkc h3
      · have hP' : P' T = k :: l.erase c := by
          rw [hPT, hP, List.erase_cons_tail]
          simpa using hkc
        have hcl : c ∈ l := by
          rw [hP] at hc
          rcases List.mem_cons.1 hc with h | h
          · exact absurd h.symm hkc
          · exact h
        have hsame : ∀ V, S.sel P' u V = S.sel P u V := by
          apply zhz
          · intro V _
            by_cases hVT : V = T
            · subst hVT; unfold el; rw [hP', hP]
            · exact heV V hVT
          · intro V _ _
            by_cases hVT : V = T
            · subst hVT; unfold key; rw [hP', hP]; rfl
            · exact hkV V hVT
        refine ⟨?_, ?_, ?_⟩
        · unfold nxt; split
          · rw [hP]; exact hcl
          · exact hc
        · unfold nxt; rw [hsame]; split
          · rw [hP', hP]; rfl
          · exact hPT
        · intro V hV
          unfold nxt
          rw [hsame, hPV V hV]
end
end Sys
namespace Sys
variable {S : Sys}
def Nm (S : Sys) (Z : St) (u : Nat) : Prop := ∀ T, T < S.N → ∀ k, k ∈ S.run Z u T → u < S.d T k
theorem run_eq {Z Z' : St} {u v : Nat} (huv : u ≤ v) (h : ∀ T, S.run Z' u T = S.run Z u T) : ∀ T, S.run Z' v T = S.run Z v T := by
  induction v with
  | zero => obtain rfl : u = 0 := by omega
            exact h
  | succ v ih =>
    by_cases e : u = v + 1
    · subst e; exact h
    · have := funext (ih (by omega))
      intro T
      show S.nxt (S.run Z' v) v T = S.nxt (S.run Z v) v T
      rw [this]
section
variable (G : Good S) {Z : St} (hs : Srt Z)
include G hs
theorem chain {Z' : St} {T0 x : Nat} (hT0 : T0 < S.N) (h : Rm Z Z' T0 x) : ∀ u, (∀ V, S.run Z' u V = S.run Z u V) ∨
    ∃ T c, T < S.N ∧ Rm (S.run Z u) (S.run Z' u) T c ∧ S.K T0 x ≤ S.K T c ∧ (x ∈ S.run Z u T0 → T = T0 ∧ c = x) ∧ (x ∉ S.run Z u T0 → (∃ l, S.run Z u T = c :: l) ∧ S.r T c < u)
  | 0 => Or.inr ⟨T0, x, hT0, h, Int.le_refl _, fun _ => ⟨rfl, rfl⟩, fun hn => absurd h.1 hn⟩
  | u + 1 => by
    rcases chain hT0 h u with h1 | ⟨T, c, hT, hR, hK, hin, hout⟩
    · exact Or.inl (run_eq (Nat.le_succ u) h1)
    · have hsu := zit (S := S) hs u
      rcases zgu (u := u) G hsu hT hR with ⟨hns, hR2⟩ | ⟨hsel, ⟨l, hl⟩, h2⟩
      · right
        refine ⟨T, c, hT, hR2, hK, fun hx => hin (ziu hx), fun hx => ?_⟩
        by_cases hxu : x ∈ S.run Z u T0
        · obtain ⟨e1, e2⟩ := hin hxu
          subst e1; subst e2
          exact absurd hR2.1 hx
        · obtain ⟨⟨l, hl⟩, hr⟩ := hout hxu
          have hn : S.sel (S.run Z u) u T = false := by
            cases e : S.sel (S.run Z u) u T with
            | false => rfl
            | true => exact absurd ⟨e, l, hl⟩ hns
          exact ⟨⟨l, by rw [show S.run Z (u + 1) = S.nxt (S.run Z u) u from rfl, zd9 hn, hl]⟩, by omega⟩
      · rcases h2 with h2 | ⟨V, y, hV, hR2, hK2, hry, hy, hVT⟩
        · exact Or.inl h2
        · right
          refine ⟨V, y, hV, hR2, by omega, fun hx => ?_, fun _ => ⟨hy, by omega⟩⟩
          exfalso
          obtain ⟨e1, e2⟩ := hin (ziu hx)
          subst e1; subst e2
          have : S.run Z (u + 1) T = l := zgc hsel hl
          rw [this] at hx
          exact head_not hsu hl hx
structure Mis (S : Sys) (Z : St) (td Tm m : Nat) : Prop where
  hTm : Tm < S.N
  hm : m ∈ S.run Z td Tm
  hmd : S.d Tm m ≤ td
  first : ∀ u, u < td → Nm S Z u
  less : ∀ T, T < S.N → ∀ x, x ∈ Z T → ∃ Z', Rm Z Z' T x ∧ Nm S Z' td
variable {td Tm m : Nat} (H : Mis S Z td Tm m)
include H
omit hs in
theorem hmd : S.d Tm m = td := by
  have h1 := H.hmd
  by_cases e : td = 0
  · have := r_d G H.hTm m; omega
  · have := H.first (td - 1) (by omega) Tm H.hTm m (run_sub (by omega) H.hm)
    omega
omit G hs in
theorem apart {Z' : St} (hN : Nm S Z' td) {u : Nat} (hu : u ≤ td) : ¬ (∀ V, S.run Z' u V = S.run Z u V) := by
  intro h
  have h1 := run_eq hu h Tm
  have h2 := H.hm
  rw [← h1] at h2
  have h3 := hN Tm H.hTm m h2
  have h4 := H.hmd
  omega
theorem hole {t T0 x : Nat} (ht : t < td) (hh : S.nsel (S.run Z t) t < S.M) (hT0 : T0 < S.N) (hx : x ∈ Z T0) (hxn : x ∉ S.run Z (t + 1) T0) :
    ∃ T c l, S.sel (S.run Z t) t T = true ∧ S.run Z t T = c :: (c + 1) :: l ∧ S.K T0 x ≤ S.K T c ∧ S.d T c = t + 1 ∧ S.b T c = true ∧ (x ∈ S.run Z t T0 → T = T0 ∧ c = x) := by
  obtain ⟨Z', hR, hN⟩ := H.less T0 hT0 x hx
  have hst := zit (S := S) hs t
  rcases chain G hs hT0 hR t with h | ⟨T, c, hT, hR2, hK, hin, hout⟩
  · exact absurd h (apart H hN (by omega))
  · rcases zgu (u := t) G hst hT hR2 with ⟨hns, hR3⟩ | ⟨hsel, ⟨l, hl⟩, h2⟩
    · exfalso
      by_cases hxt : x ∈ S.run Z t T0
      · obtain ⟨e1, e2⟩ := hin hxt
        subst e1; subst e2
        exact hxn hR3.1
      · obtain ⟨⟨l, hl⟩, hr⟩ := hout hxt
        exact hns ⟨zhc hh hT (zhx.2 ⟨c, l, hl, by omega⟩), l, hl⟩
    · rcases h2 with h2 | ⟨V, y, hV, hR3, hK2, hry, ⟨l2, hy⟩, hVT⟩
      · exact absurd h2 (apart (u := t + 1) H hN (by omega))
      · have e : V = T := by
          by_cases e : V = T
          · exact e
          · have h3 := hVT e
            have := zhc hh hV h3.1
            rw [h3.2] at this; cases this
        subst e
        rw [zgc hsel hl] at hy
        have hcy : c < y := by
          have := hst V
          rw [hl, hy, List.pairwise_cons] at this
          exact this.1 y (by simp)
        have h1 := H.first t ht V hV c (by rw [hl]; simp)
        have h3 := over G hV c
        have h4 : y = c + 1 := by
          by_cases e : y = c + 1
          · exact e
          · have := zis (r_inc G hV) (show c + 1 < y by omega)
            omega
        subst h4
        exact ⟨V, c, l2, hsel, by rw [hl, hy], hK, by omega, (G.hb V hV c).2 (by omega), hin⟩
end
end Sys
def ls (g : Nat → Int) : List Nat → Int
  | [] => 0
  | k :: l => g k + ls g l
theorem last {p : Nat → Prop} : ∀ n, p 0 → ¬ p n → ∃ t, t < n ∧ p t ∧ ∀ u, t < u → u ≤ n → ¬ p u
  | 0, h0, hn => absurd h0 hn
  | n + 1, h0, hn => by
    by_cases h : p n
    · exact ⟨n, by omega, h, fun u h1 h2 => by obtain rfl : u = n + 1 := by omega
                                               exact hn⟩
    · obtain ⟨t, h1, h2, h3⟩ := last n h0 h
      refine ⟨t, by omega, h2, fun u h4 h5 => ?_⟩
      by_cases e : u = n + 1
      · subst e; exact hn
      · exact h3 u h4 (by omega)
namespace Sys
variable {S : Sys}
section
variable (G : Good S) {Z : St} (hs : Srt Z)
include G
include hs
end
end Sys
namespace Sys
variable {S : Sys}
section
variable (G : Good S) {Z : St} (hs : Srt Z) {td Tm m : Nat} (H : Mis S Z td Tm m)
include G hs H
variable {t : Nat} {i : Nat → Nat}
end
end Sys
namespace Sys
variable {S : Sys}
section
variable (G : Good S) {Z : St} (hs : Srt Z)
include G hs
end
def size (S : Sys) (Z : St) : Int := sm (fun T => ((Z T).length : Int)) S.N
end Sys
end Go.Proofs.Ytnilnaabjpcfjaa.Pd2
namespace Go.Proofs.Ytnilnaabjpcfjaa.Fair
open Go.RowKit Go.Proofs.Ytnilnaabjpcfjaa.P Go.Proofs.Ytnilnaabjpcfjaa.Base Go.Proofs.Ytnilnaabjpcfjaa.Alive Go.Proofs.Ytnilnaabjpcfjaa.Win Go.Proofs.Ytnilnaabjpcfjaa.Set Go.Proofs.YtnilnaabjpcfjaaW.PrintWords Go.Proofs.YtnilnaabjpcfjaaW.PrintLast
set_option linter.unusedVariables false
def lap (c p k : Int) : Bool := decide (wd c p k > wr c p (k + 1))
def gsc (c p k0 : Int) : Nat → Int → Int
  | 0, _ => 0
  | f + 1, i => if k0 < i ∧ 3 ≤ wd c p i - wr c p i ∧ wd c p k0 ≤ wd c p i - 1 then wd c p i - 1 else if lap c p i = true then gsc c p k0 f (i + 1) else wd c p i
def gd (c p k : Int) : Int := if 2 * c < p then 0 else gsc c p k 8 k
def key (c p k T : Int) : Int := ((2 * wd c p k + (if lap c p k = true then 0 else 1)) * 32 + (31 - (if lap c p k = true then (if 2 * c < p then 0 else gd c p k - wd c p k + 1) else 0))) * 8 + T
section
variable {c p : Int} (hc : 1 ≤ c) (hc8 : c ≤ 8) (hcp : c ≤ p) (hp : p ≤ 12)
include hc in
theorem wr_iff (k u : Int) : wr c p k ≤ u ↔ k * p < c * (u + 1) := by
  have h := wr_sp (c := c) (p := p) (k := k) hc
  rw [Int.mul_comm c, Int.add_mul]
  constructor
  · intro h1
    have := Int.mul_le_mul_of_nonneg_right h1 (show 0 ≤ c by omega)
    omega
  · intro h1
    apply Classical.byContradiction
    intro h2
    have := Int.mul_le_mul_of_nonneg_right (show u + 1 ≤ wr c p k by omega) (show 0 ≤ c by omega)
    rw [Int.add_mul] at this
    omega
include hc in
theorem zgv (k u : Int) : wd c p k ≤ u ↔ (k + 1) * p ≤ c * u := by
  have h := wd_sp (c := c) (p := p) (k := k) hc
  rw [Int.mul_comm c]
  constructor
  · intro h1
    have := Int.mul_le_mul_of_nonneg_right h1 (show 0 ≤ c by omega)
    omega
  · intro h1
    apply Classical.byContradiction
    intro h2
    have := Int.mul_le_mul_of_nonneg_right (show u + 1 ≤ wd c p k by omega) (show 0 ≤ c by omega)
    rw [Int.add_mul] at this
    omega
include hc hcp in
theorem wr_nn {k : Int} (hk : 0 ≤ k) : 0 ≤ wr c p k := Int.ediv_nonneg (Int.mul_nonneg hk (by omega)) (by omega)
include hc hcp in
theorem zgd {k : Int} (hk : 0 ≤ k) : 1 ≤ wd c p k := by
  apply Classical.byContradiction
  intro h
  have h1 := (zgv (p := p) hc k 0).1 (by omega)
  have h2 := Int.mul_pos (show 0 < k + 1 by omega) (show 0 < p by omega)
  simp at h1; omega
include hc in
theorem ziv (m : Int) : lap c p (c * m + (c - 1)) = false := by
  unfold lap
  rw [decide_eq_false_iff_not]
  have e : c * m + (c - 1) + 1 = c * (m + 1) := by rw [Int.mul_add, Int.mul_one]; omega
  have h1 := (zgv (p := p) hc (c * m + (c - 1)) ((m + 1) * p)).2 (by rw [e, Int.mul_assoc]; exact Int.le_refl _)
  have h2 : ¬ wr c p (c * m + (c - 1) + 1) ≤ (m + 1) * p - 1 := by
    rw [wr_iff hc, e, Int.mul_assoc, show (m + 1) * p - 1 + 1 = (m + 1) * p by omega]
    omega
  omega
include hc in
theorem gsc_ok (k0 : Int) : ∀ (f : Nat) (i : Int), k0 ≤ i → (∃ m, i ≤ c * m + (c - 1) ∧ c * m + (c - 1) < i + f) → (∀ l, k0 ≤ l → l < i → lap c p l = true ∧ (k0 < l → wd c p l < wr c p l + 3)) →
    (∀ l, k0 < l → wd c p k0 ≤ wd c p l - 1) → ∃ j, i ≤ j ∧ j < i + f ∧ (∀ l, k0 ≤ l → l < j → lap c p l = true ∧ (k0 < l → wd c p l < wr c p l + 3)) ∧
      ((k0 < j ∧ wr c p j + 3 ≤ wd c p j ∧ gsc c p k0 f i = wd c p j - 1) ∨ (¬ (k0 < j ∧ wr c p j + 3 ≤ wd c p j) ∧ lap c p j = false ∧ gsc c p k0 f i = wd c p j)) := by
  intro f
  induction f with
  | zero => rintro i _ ⟨m, h1, h2⟩; omega
  | succ f ih =>
    rintro i hi ⟨m, h1, h2⟩ hno hw
    rw [gsc]
    by_cases e1 : k0 < i ∧ 3 ≤ wd c p i - wr c p i ∧ wd c p k0 ≤ wd c p i - 1
    · rw [if_pos e1]
      exact ⟨i, Int.le_refl _, by omega, hno, Or.inl ⟨e1.1, by omega, rfl⟩⟩
    · rw [if_neg e1]
      have e2 : ¬ (k0 < i ∧ wr c p i + 3 ≤ wd c p i) := fun h => e1 ⟨h.1, by omega, hw i h.1⟩
      cases hl : lap c p i with
      | false => rw [if_neg (by decide)]; exact ⟨i, Int.le_refl _, by omega, hno, Or.inr ⟨e2, hl, rfl⟩⟩
      | true =>
        rw [if_pos rfl]
        have hne : i ≠ c * m + (c - 1) := by
          intro h
          rw [h, ziv hc] at hl
          cases hl
        obtain ⟨j, h3, h4, h5, h6⟩ := ih (i + 1) (by omega) ⟨m, by omega, by omega⟩ (fun l q1 q2 => by
          by_cases e : l = i
          · subst e
            refine ⟨hl, fun h => ?_⟩
            apply Classical.byContradiction
            intro h7
            exact e2 ⟨h, by omega⟩
          · exact hno l q1 (by omega)) hw
        exact ⟨j, by omega, by omega, h5, h6⟩
include hc hcp in
theorem wd_inc (k l : Int) (h : k < l) : wd c p k ≤ wd c p l - 1 := by
  have h1 := wd_sp (c := c) (p := p) (k := l) hc
  rw [zgv hc]
  have h2 : wd c p l * c = c * wd c p l := Int.mul_comm _ _
  have h3 := Int.mul_le_mul_of_nonneg_right (show k + 1 + 1 ≤ l + 1 by omega) (show 0 ≤ p by omega)
  rw [Int.add_mul, Int.one_mul] at h3
  rw [Int.mul_sub, Int.mul_one]
  omega
include hc hcp hc8 in
theorem gd_ok {k : Int} (hk : 0 ≤ k) (hh : ¬ 2 * c < p) : ∃ j, k ≤ j ∧ j < k + 8 ∧ (∀ l, k ≤ l → l < j → lap c p l = true ∧ (k < l → wd c p l < wr c p l + 3)) ∧
      ((k < j ∧ wr c p j + 3 ≤ wd c p j ∧ gd c p k = wd c p j - 1) ∨ (¬ (k < j ∧ wr c p j + 3 ≤ wd c p j) ∧ lap c p j = false ∧ gd c p k = wd c p j)) := by
  unfold gd
  rw [if_neg hh]
  have h1 := Int.mul_ediv_add_emod k c
  have h2 := Int.emod_nonneg k (show c ≠ 0 by omega)
  have h3 := Int.emod_lt_of_pos k (show 0 < c by omega)
  obtain ⟨j, a1, a2, a3, a4⟩ := gsc_ok (p := p) hc k 8 k (Int.le_refl _) ⟨k / c, by omega, by omega⟩ (fun l q1 q2 => by omega) (fun l h => wd_inc hc hcp k l h)
  exact ⟨j, a1, by omega, a3, a4⟩
include hc hcp hc8 in
theorem gd_bd {k : Int} (hk : 0 ≤ k) (hh : ¬ 2 * c < p) : wd c p k ≤ gd c p k ∧ gd c p k ≤ wd c p k + 14 := by
  obtain ⟨j, h1, h2, _, h3⟩ := gd_ok hc hc8 hcp hk hh
  have h4 : wd c p j ≤ wd c p k + 14 := by
    rw [zgv hc, Int.mul_add]
    have h5 := (wd_sp (c := c) (p := p) (k := k) hc).1
    have h6 : wd c p k * c = c * wd c p k := Int.mul_comm _ _
    have h7 : (j + 1) * p ≤ (k + 1) * p + 7 * p := by
      rw [← Int.add_mul]
      exact Int.mul_le_mul_of_nonneg_right (show j + 1 ≤ (k + 1) + 7 by omega) (show 0 ≤ p by omega)
    omega
  by_cases e : j = k
  · subst e
    rcases h3 with ⟨a, _, _⟩ | ⟨_, _, b⟩ <;> omega
  · have := wd_inc hc hcp k j (by omega)
    rcases h3 with ⟨_, _, a⟩ | ⟨_, _, b⟩ <;> omega
end
theorem per (p : Int) (h1 : 1 ≤ p) (h2 : p ≤ 12) : 27720 / p * p = 27720 := by
  have : p = 1 ∨ p = 2 ∨ p = 3 ∨ p = 4 ∨ p = 5 ∨ p = 6 ∨ p = 7 ∨ p = 8 ∨ p = 9 ∨ p = 10 ∨ p = 11 ∨ p = 12 := by omega
  rcases this with rfl | rfl | rfl | rfl | rfl | rfl | rfl | rfl | rfl | rfl | rfl | rfl <;> decide
end Go.Proofs.Ytnilnaabjpcfjaa.Fair
namespace Go.Proofs.Ytnilnaabjpcfjaa.Gen
open Go.RowKit Go.Proofs.YtnilnaabjpcfjaaW.PrintWords Go.Proofs.YtnilnaabjpcfjaaW.PrintLast
def Tot {α : Type} (g : Nat → Option α) (P : α → Prop) : Prop := ∃ r, Ev g r ∧ P r
theorem Tot.ret {α : Type} {P : α → Prop} (a : α) (h : P a) : Tot (fun _ => some a) P := ⟨a, Ev.now a, h⟩
theorem Tot.mono {α : Type} {P Q : α → Prop} {g : Nat → Option α} (h : Tot g P) (hpq : ∀ a, P a → Q a) : Tot g Q := by
  obtain ⟨r, h1, h2⟩ := h
  exact ⟨r, h1, hpq r h2⟩
theorem Tot.congr {α : Type} {P : α → Prop} {g f : Nat → Option α} (e : ∀ k, g k = f k) (h : Tot f P) : Tot g P := by
  have : g = f := funext e
  rw [this]; exact h
theorem Tot.step {α : Type} {P : α → Prop} {g f : Nat → Option α} (e : ∀ k, g (k + 1) = f k) (h : Tot f P) : Tot g P := by
  obtain ⟨r, h1, h2⟩ := h
  exact ⟨r, Ev.step e h1, h2⟩
theorem Tot.bind {α β : Type} {P : α → Prop} {Q : β → Prop} {g : Nat → Option α} {f : Nat → α → Option β} (h : Tot g P) (hf : ∀ a, P a → Tot (fun k => f k a) Q) : Tot (fun k => (g k).bind (f k)) Q := by
  obtain ⟨r, h1, h2⟩ := h
  obtain ⟨q, h3, h4⟩ := hf r h2
  exact ⟨q, Ev.bind h1 h3, h4⟩
theorem Tot.zdy {α β : Type} {Q : β → Prop} {g : Option α} {f : Nat → α → Option β} {a : α} (h : g = some a) (hf : Tot (fun k => f k a) Q) : Tot (fun k => g.bind (f k)) Q := by
  subst h; exact hf
theorem Tot.yes {α : Type} {P : α → Prop} {c : Prop} [Decidable c] {g f : Nat → Option α} (hc : c) (h : Tot g P) : Tot (fun k => if c then g k else f k) P := by
  simp only [if_pos hc]; exact h
theorem Tot.no {α : Type} {P : α → Prop} {c : Prop} [Decidable c] {g f : Nat → Option α} (hc : ¬ c) (h : Tot f P) : Tot (fun k => if c then g k else f k) P := by
  simp only [if_neg hc]; exact h
theorem Tot.ite {α : Type} {P : α → Prop} {c : Prop} [Decidable c] {g f : Nat → Option α} (h1 : c → Tot g P) (h2 : ¬ c → Tot f P) : Tot (fun k => if c then g k else f k) P := by
  by_cases hc : c
  · exact Tot.yes hc (h1 hc)
  · exact Tot.no hc (h2 hc)
theorem Tot.rounds {g : Nat → Option Bool} (h : Tot g (fun r => r = true)) : ∃ k, g k = some true := by
  obtain ⟨r, h1, rfl⟩ := h
  exact h1.rounds
theorem Tot.val {α : Type} {g : Nat → Option α} {a : α} (h : Ev g a) : Tot g (fun r => r = a) := ⟨a, h, rfl⟩
theorem Tot.ev {α : Type} {g : Nat → Option α} {a : α} (h : Tot g (fun r => r = a)) : Ev g a := by
  obtain ⟨r, h1, rfl⟩ := h
  exact h1
theorem Tot.loop {σ ρ : Type} {P : ρ → Prop} (F : Nat → Nat → σ → Option ρ) (n : Nat) (Inv : Nat → σ → Prop)
    (hstep : ∀ i s, i < n → Inv i s → (∀ s', Inv (i + 1) s' → Tot (fun k => F k (i + 1) s') P) → Tot (fun k => F k i s) P)
    (hend : ∀ s, Inv n s → Tot (fun k => F k n s) P) : ∀ i s, i ≤ n → Inv i s → Tot (fun k => F k i s) P := by
  have key : ∀ d i s, i + d = n → Inv i s → Tot (fun k => F k i s) P := by
    intro d
    induction d with
    | zero => intro i s hi h; obtain rfl : i = n := by omega
              exact hend s h
    | succ d ih => intro i s hi h; exact hstep i s (by omega) h (fun s' hs' => ih (i + 1) s' (by omega) hs')
  intro i s hi h
  exact key (n - i) i s (by omega) h
theorem rdOf_at {α : Type} (d : α) (xs : List α) (i : Nat) (h : i < xs.length) : rdOf d xs (i : Int) = xs[i] := by
  unfold rdOf
  rw [List.getD_eq_getElem?_getD, Int.toNat_natCast, List.getElem?_eq_getElem h]
  rfl
theorem zep (xs : List Int) (i : Nat) (h : i < xs.length) : rd xs (i : Int) = xs[i] := by
  unfold rd
  rw [List.getD_eq_getElem?_getD, Int.toNat_natCast, List.getElem?_eq_getElem h]
  rfl
theorem zge {β : Type} (acc tgt : List β) (i : Nat) (hl : acc.length = tgt.length) (h : acc.take i = tgt.take i) (hi : i < tgt.length) : (acc.set i tgt[i]).take (i + 1) = tgt.take (i + 1) := by
  rw [List.take_succ_eq_append_getElem (by simpa [hl] using hi), List.take_succ_eq_append_getElem hi]
  rw [List.take_set_of_le (Nat.le_refl i), h]
  simp
theorem Tot.copy {β : Type} (F : Nat → List β → Int → Option (List β)) (tgt : List β) (z : β)
    (hstep : ∀ k acc (i : Nat) (h : i < tgt.length), acc.length = tgt.length → F (k + 1) acc (i : Int) = F k (acc.set i tgt[i]) ((i : Int) + 1))
    (hend : ∀ k acc, acc.length = tgt.length → F (k + 1) acc (tgt.length : Int) = some acc) : Tot (fun k => F k (List.replicate tgt.length z) 0) (fun r => r = tgt) := by
  have key : ∀ d (i : Nat) acc, i + d = tgt.length → acc.length = tgt.length → acc.take i = tgt.take i → Tot (fun k => F k acc (i : Int)) (fun r => r = tgt) := by
    intro d
    induction d with
    | zero =>
      intro i acc hi hl ht
      obtain rfl : i = tgt.length := by omega
      refine Tot.step (f := fun _ => some acc) (fun k => hend k acc hl) (Tot.ret _ ?_)
      rw [List.take_length, ← hl, List.take_length] at ht
      exact ht
    | succ d ih =>
      intro i acc hi hl ht
      have hlt : i < tgt.length := by omega
      refine Tot.step (fun k => hstep k acc i hlt hl) ?_
      have := ih (i + 1) (acc.set i tgt[i]) (by omega) (by simpa using hl) (zge acc tgt i hl ht hlt)
      simpa using this
  simpa using key tgt.length 0 (List.replicate tgt.length z) (by omega) (by simp) (by simp)
theorem Tot.look {ρ : Type} {r : ρ} (F : Nat → Int → Option ρ) (n : Nat) (hstep : ∀ k (i : Nat), i < n → F (k + 1) (i : Int) = F k ((i : Int) + 1)) (hend : ∀ k, F (k + 1) (n : Int) = some r) : Tot (fun k => F k 0) (fun q => q = r) := by
  have key : ∀ d (i : Nat), i + d = n → Tot (fun k => F k (i : Int)) (fun q => q = r) := by
    intro d
    induction d with
    | zero => intro i hi; obtain rfl : i = n := by omega
              exact Tot.step (f := fun _ => some r) (fun k => hend k) (Tot.ret _ rfl)
    | succ d ih => intro i hi; exact Tot.step (fun k => hstep k i (by omega)) (by simpa using ih (i + 1) (by omega))
  simpa using key n 0 (by omega)
end Go.Proofs.Ytnilnaabjpcfjaa.Gen
namespace Go.Proofs.Ytnilnaabjpcfjaa.Fair
open Go.RowKit Go.Proofs.Ytnilnaabjpcfjaa.P Go.Proofs.Ytnilnaabjpcfjaa.Base Go.Proofs.Ytnilnaabjpcfjaa.Gen Go.Proofs.Ytnilnaabjpcfjaa.Alive Go.Proofs.Ytnilnaabjpcfjaa.Win Go.Proofs.Ytnilnaabjpcfjaa.Set Go.Proofs.YtnilnaabjpcfjaaW.PrintWords Go.Proofs.YtnilnaabjpcfjaaW.PrintLast
open Go.Proofs.Ytnilnaabjpcfjaa.Pd2
set_option linter.unusedVariables false
def tk (l : List Task) (i : Int) : Task := zb l i
def cs (l : List Task) (T : Nat) : Int := (tk l (T : Int)).f0
def ps (l : List Task) (T : Nat) : Int := (tk l (T : Int)).f2
def wt (l : List Task) (T : Nat) : Int := 27720 / ps l T * cs l T
def sysOf (l : List Task) (m : Int) : Pd2.Sys where
  N := l.length
  M := m
  L := 27720
  W := wt l
  r := fun T k => (wr (cs l T) (ps l T) (k : Int)).toNat
  d := fun T k => (wd (cs l T) (ps l T) (k : Int)).toNat
  b := fun T k => lap (cs l T) (ps l T) (k : Int)
  D := fun T k => gd (cs l T) (ps l T) (k : Int)
  K := fun T k => key (cs l T) (ps l T) (k : Int) (T : Int)
theorem tk_mem {l : List Task} {T : Nat} (h : T < l.length) : tk l (T : Int) ∈ l := by
  unfold tk
  rw [show zb l (T : Int) = l[T] from rdOf_at _ l T h]
  exact List.getElem_mem h
section
variable {l : List Task} (hI : Impl l)
include hI
theorem tv {T : Nat} (h : T < l.length) : 1 ≤ cs l T ∧ cs l T ≤ 8 ∧ cs l T ≤ ps l T ∧ ps l T ≤ 12 := by
  have h1 := hI.1.2 _ (tk_mem h)
  have h2 := hI.2 _ (tk_mem h)
  unfold TVt TV at h1
  unfold cs ps
  omega
theorem quo {T : Nat} (h : T < l.length) : 27720 / ps l T * ps l T = 27720 ∧ 0 < 27720 / ps l T := by
  have h1 := tv hI h
  have h2 := per (ps l T) (by omega) h1.2.2.2
  refine ⟨h2, ?_⟩
  apply Classical.byContradiction
  intro h3
  have := Int.mul_le_mul_of_nonneg_right (show 27720 / ps l T ≤ 0 by omega) (show 0 ≤ ps l T by omega)
  omega
theorem lt_scale {T : Nat} (h : T < l.length) (x y : Int) : 27720 * x < wt l T * y ↔ x * ps l T < cs l T * y := by
  obtain ⟨h1, h2⟩ := quo hI h
  unfold wt
  have e1 : (27720 : Int) * x = 27720 / ps l T * (x * ps l T) := by
    rw [Int.mul_comm x, ← Int.mul_assoc, h1]
  rw [e1, Int.mul_assoc]
  exact Int.mul_lt_mul_left h2
theorem le_scale {T : Nat} (h : T < l.length) (x y : Int) : 27720 * x ≤ wt l T * y ↔ x * ps l T ≤ cs l T * y := by
  obtain ⟨h1, h2⟩ := quo hI h
  unfold wt
  have e1 : (27720 : Int) * x = 27720 / ps l T * (x * ps l T) := by
    rw [Int.mul_comm x, ← Int.mul_assoc, h1]
  rw [e1, Int.mul_assoc]
  exact Int.mul_le_mul_left h2
theorem zh0 {T : Nat} (h : T < l.length) : 2 * wt l T < 27720 ↔ 2 * cs l T < ps l T := by
  obtain ⟨h1, h2⟩ := quo hI h
  unfold wt
  have e1 : 2 * (27720 / ps l T * cs l T) = 27720 / ps l T * (2 * cs l T) := by rw [Int.mul_left_comm]
  have e2 : 27720 / ps l T * ps l T = 27720 := h1
  have h3 := Int.mul_lt_mul_left (b := 2 * cs l T) (c := ps l T) h2
  rw [e1]
  omega
theorem zd4 {T : Nat} (h : T < l.length) (k : Nat) : ∃ e g : Int, key (cs l T) (ps l T) (k : Int) (T : Int) = ((2 * wd (cs l T) (ps l T) (k : Int) + e) * 32 + (31 - g)) * 8 + (T : Int) ∧ 0 ≤ g ∧ g ≤ 15 ∧ (T : Int) < 8 ∧
    ((lap (cs l T) (ps l T) (k : Int) = true ∧ e = 0 ∧ ((2 * cs l T < ps l T ∧ g = 0 ∧ gd (cs l T) (ps l T) (k : Int) = 0) ∨ (¬ 2 * cs l T < ps l T ∧ g = gd (cs l T) (ps l T) (k : Int) - wd (cs l T) (ps l T) (k : Int) + 1 ∧ 1 ≤ g ∧ 0 ≤ gd (cs l T) (ps l T) (k : Int)))) ∨
      (lap (cs l T) (ps l T) (k : Int) = false ∧ e = 1)) := by
  obtain ⟨h1, h2, h3, h4⟩ := tv hI h
  have hN := hI.1.1
  unfold key
  cases hl : lap (cs l T) (ps l T) (k : Int) with
  | false => exact ⟨1, 0, by simp, by omega, by omega, by omega, Or.inr ⟨rfl, rfl⟩⟩
  | true =>
    by_cases hh : 2 * cs l T < ps l T
    · exact ⟨0, 0, by simp [hh], by omega, by omega, by omega, Or.inl ⟨rfl, rfl, Or.inl ⟨hh, rfl, by unfold gd; rw [if_pos hh]⟩⟩⟩
    · have h5 := gd_bd h1 h2 h3 (show 0 ≤ (k : Int) by omega) hh
      have h6 := zgd h1 h3 (show 0 ≤ (k : Int) by omega)
      exact ⟨0, gd (cs l T) (ps l T) (k : Int) - wd (cs l T) (ps l T) (k : Int) + 1, by simp [hh], by omega, by omega, by omega, Or.inl ⟨rfl, rfl, Or.inr ⟨hh, rfl, by omega, by omega⟩⟩⟩
theorem good {m : Int} (hm : 1 ≤ m) (hU : sm (wt l) l.length ≤ m * 27720) : Pd2.Good (sysOf l m) where
  M0 := by show 0 ≤ m; omega
  L0 := by show (0 : Int) < 27720; omega
  W0 := fun T hT => by
    obtain ⟨h1, h2⟩ := quo hI hT
    exact Int.mul_pos h2 (by have := (tv hI hT).1; omega)
  WL := fun T hT => by
    obtain ⟨h1, h2⟩ := quo hI hT
    show 27720 / ps l T * cs l T ≤ 27720
    have := Int.mul_le_mul_of_nonneg_left (tv hI hT).2.2.1 (show 0 ≤ 27720 / ps l T by omega)
    omega
  hr := fun T hT k u => by
    obtain ⟨h1, h2, h3, h4⟩ := tv hI hT
    have h5 := wr_nn h1 h3 (show 0 ≤ (k : Int) by omega)
    show (wr (cs l T) (ps l T) (k : Int)).toNat ≤ u ↔ 27720 * (k : Int) < wt l T * ((u : Int) + 1)
    rw [lt_scale hI hT, ← wr_iff h1]
    omega
  hd := fun T hT k u => by
    obtain ⟨h1, h2, h3, h4⟩ := tv hI hT
    have h5 := zgd h1 h3 (show 0 ≤ (k : Int) by omega)
    show (wd (cs l T) (ps l T) (k : Int)).toNat ≤ u ↔ 27720 * ((k : Int) + 1) ≤ wt l T * (u : Int)
    rw [le_scale hI hT, ← zgv h1]
    omega
  hb := fun T hT k => by
    obtain ⟨h1, h2, h3, h4⟩ := tv hI hT
    have h5 := wr_nn h1 h3 (show 0 ≤ (k : Int) + 1 by omega)
    have h6 := zgd h1 h3 (show 0 ≤ (k : Int) by omega)
    have h7 : wd (cs l T) (ps l T) (k : Int) ≤ wr (cs l T) (ps l T) ((k : Int) + 1) + 1 := by
      rw [zgv h1]
      have := (wr_iff (p := ps l T) h1 ((k : Int) + 1) (wr (cs l T) (ps l T) ((k : Int) + 1))).1 (Int.le_refl _)
      omega
    show lap (cs l T) (ps l T) (k : Int) = true ↔ (wr (cs l T) (ps l T) ((k + 1 : Nat) : Int)).toNat + 1 = (wd (cs l T) (ps l T) (k : Int)).toNat
    rw [show ((k + 1 : Nat) : Int) = (k : Int) + 1 by omega]
    unfold lap
    rw [decide_eq_true_eq]
    omega
  Kne := fun T V hT hV hne k k2 => by
    obtain ⟨e1, g1, a1, a2, a3, a4, _⟩ := zd4 hI hT k
    obtain ⟨e2, g2, b1, b2, b3, b4, _⟩ := zd4 hI hV k2
    show key (cs l T) (ps l T) (k : Int) (T : Int) ≠ key (cs l V) (ps l V) (k2 : Int) (V : Int)
    rw [a1, b1]
    omega
  Kd := fun T V hT hV k k2 hk => by
    obtain ⟨e1, g1, a1, a2, a3, a4, a5⟩ := zd4 hI hT k
    obtain ⟨e2, g2, b1, b2, b3, b4, b5⟩ := zd4 hI hV k2
    show (wd (cs l T) (ps l T) (k : Int)).toNat ≤ (wd (cs l V) (ps l V) (k2 : Int)).toNat
    have hk' : key (cs l T) (ps l T) (k : Int) (T : Int) ≤ key (cs l V) (ps l V) (k2 : Int) (V : Int) := hk
    rw [a1, b1] at hk'
    have h1 : 0 ≤ e1 ∧ e1 ≤ 1 := by rcases a5 with h | h <;> omega
    have h2 : 0 ≤ e2 ∧ e2 ≤ 1 := by rcases b5 with h | h <;> omega
    omega
  Kb := fun T V hT hV k k2 hk hd hb => by
    obtain ⟨e1, g1, a1, a2, a3, a4, a5⟩ := zd4 hI hT k
    obtain ⟨e2, g2, b1, b2, b3, b4, b5⟩ := zd4 hI hV k2
    obtain ⟨t1, t2, t3, t4⟩ := tv hI hT
    obtain ⟨v1, v2, v3, v4⟩ := tv hI hV
    have w1 := zgd t1 t3 (show 0 ≤ (k : Int) by omega)
    have w2 := zgd v1 v3 (show 0 ≤ (k2 : Int) by omega)
    have hk' : key (cs l T) (ps l T) (k : Int) (T : Int) ≤ key (cs l V) (ps l V) (k2 : Int) (V : Int) := hk
    have hd' : (wd (cs l T) (ps l T) (k : Int)).toNat = (wd (cs l V) (ps l V) (k2 : Int)).toNat := hd
    have hb' : lap (cs l V) (ps l V) (k2 : Int) = true := hb
    show lap (cs l T) (ps l T) (k : Int) = true ∧ gd (cs l V) (ps l V) (k2 : Int) ≤ gd (cs l T) (ps l T) (k : Int)
    rw [a1, b1] at hk'
    rcases b5 with ⟨q1, q2, q3⟩ | ⟨q1, _⟩
    · rcases a5 with ⟨p1, p2, p3⟩ | ⟨p1, p2⟩
      · refine ⟨p1, ?_⟩
        rcases q3 with q3 | q3 <;> rcases p3 with p3 | p3 <;> omega
      · exfalso; omega
    · rw [hb'] at q1; cases q1
  Dl := fun T hT hw k => by
    show gd (cs l T) (ps l T) (k : Int) = 0
    unfold gd
    rw [if_pos ((zh0 hI hT).1 hw)]
  Dh := fun T hT hw k => by
    obtain ⟨t1, t2, t3, t4⟩ := tv hI hT
    have hh : ¬ 2 * cs l T < ps l T := fun h => by
      have h1 := (zh0 hI hT).2 h
      have h2 : (27720 : Int) ≤ 2 * wt l T := hw
      omega
    obtain ⟨j, j1, j2, j3, j4⟩ := gd_ok t1 t2 t3 (show 0 ≤ (k : Int) by omega) hh
    obtain ⟨i, rfl⟩ := Int.eq_ofNat_of_zero_le (show 0 ≤ j by omega)
    have wn : ∀ q : Nat, 0 ≤ wr (cs l T) (ps l T) (q : Int) := fun q => wr_nn t1 t3 (by omega)
    have dn : ∀ q : Nat, 1 ≤ wd (cs l T) (ps l T) (q : Int) := fun q => zgd t1 t3 (by omega)
    refine ⟨i, by omega, fun q q1 q2 => ?_, ?_⟩
    · have h3 := j3 (q : Int) (by omega) (by omega)
      refine ⟨h3.1, fun h => ?_⟩
      have h4 := h3.2 (by omega)
      have := wn q
      have := dn q
      show (wd (cs l T) (ps l T) (q : Int)).toNat < (wr (cs l T) (ps l T) (q : Int)).toNat + 3
      omega
    · have h1 := wn i
      have h2 := dn i
      show (k < i ∧ (wr (cs l T) (ps l T) (i : Int)).toNat + 3 ≤ (wd (cs l T) (ps l T) (i : Int)).toNat ∧ gd (cs l T) (ps l T) (k : Int) = ((wd (cs l T) (ps l T) (i : Int)).toNat : Int) - 1) ∨
        (¬ (k < i ∧ (wr (cs l T) (ps l T) (i : Int)).toNat + 3 ≤ (wd (cs l T) (ps l T) (i : Int)).toNat) ∧ lap (cs l T) (ps l T) (i : Int) = false ∧ gd (cs l T) (ps l T) (k : Int) = ((wd (cs l T) (ps l T) (i : Int)).toNat : Int))
      rcases j4 with ⟨a, b, c⟩ | ⟨a, b, c⟩
      · left; exact ⟨by omega, by omega, by omega⟩
      · right; exact ⟨fun h => a ⟨by omega, by omega⟩, b, by omega⟩
  U := hU
end
end Go.Proofs.Ytnilnaabjpcfjaa.Fair
namespace Go.Proofs.Ytnilnaabjpcfjaa.Fair
open Go.RowKit Go.Proofs.Ytnilnaabjpcfjaa.P Go.Proofs.Ytnilnaabjpcfjaa.Base Go.Proofs.Ytnilnaabjpcfjaa.Gen Go.Proofs.Ytnilnaabjpcfjaa.Alive Go.Proofs.Ytnilnaabjpcfjaa.Win Go.Proofs.Ytnilnaabjpcfjaa.Set Go.Proofs.YtnilnaabjpcfjaaW.PrintWords Go.Proofs.YtnilnaabjpcfjaaW.PrintLast
set_option linter.unusedVariables false
theorem wrd_bd {c p k : Int} (hc : 1 ≤ c) (hc8 : c ≤ 8) (hcp : c ≤ p) (hp : p ≤ 12) (hk : 0 ≤ k) (hk2 : k ≤ 1000000) : 0 ≤ wr c p k ∧ wr c p k ≤ 24000000 ∧ 0 ≤ wd c p k ∧ wd c p k ≤ 24000100 := by
  have h1 := wr_bd (c := c) (p := p) (k := k) hc (by omega) hp hk (by omega)
  have h2 := wd_bd (c := c) (p := p) (k := k) hc hc8 (by omega) hp hk (by omega)
  omega
section
variable {c d p : Int} (hv : TV c d p)
include hv
theorem over_f {k : Int} (hk : 0 ≤ k) (hk2 : k ≤ 1000000) : zbn.f c d p k = some (lap c p k) := by
  unfold zbn.f
  rw [w64 (x := k + 1) (by omega) (by omega), zim hv hk (by omega), zim hv (show 0 ≤ k + 1 by omega) (by omega)]
  rfl
theorem ziw {k : Int} (hk : 0 ≤ k) (hk2 : k ≤ 1000000) : zbd.f c d p k = some (if lap c p k = true then 1 else 0) := by
  unfold zbd.f
  rw [w64 (x := k + 1) (by omega) (by omega), zfl hv hk (by omega), zfl hv (show 0 ≤ k + 1 by omega) (by omega)]
  simp only [Option.bind_some]
  unfold lap
  by_cases h : wd c p k > wr c p (k + 1)
  · rw [if_pos h, if_pos (decide_eq_true h)]
  · rw [if_neg h, if_neg (by simpa using h)]
theorem group_l0 (k0 : Int) (hk0 : 0 ≤ k0) : ∀ (f : Nat) (i : Int), k0 ≤ i → i ≤ 900000 - f → (∃ m, i ≤ c * m + (c - 1) ∧ c * m + (c - 1) < i + f) →
    Tot (fun k => zx.l0 k k0 (wd c p k0) i c d p) (fun r => r = gsc c p k0 f i) := by
  have hv' := hv
  unfold TV at hv'
  intro f
  induction f with
  | zero => rintro i _ _ ⟨m, h1, h2⟩; omega
  | succ f ih =>
    rintro i hi hib ⟨m, h1, h2⟩
    have hb := wrd_bd (c := c) (p := p) (k := i) (by omega) (by omega) (by omega) (by omega) (by omega) (by omega)
    have hj : ∀ x : Bool, (x = true ↔ k0 < i ∧ 3 ≤ wd c p i - wr c p i ∧ wd c p k0 ≤ wd c p i - 1) → Tot (fun k => zx.j1 k k0 (wd c p k0) i x c d p (wr c p i) (wd c p i)) (fun r => r = gsc c p k0 (f + 1) i) := by
      intro x hx
      refine Tot.step (fun k => by rw [zx.j1]) ?_
      rw [gsc]
      by_cases e : x = true
      · refine Tot.yes e (Tot.ret _ ?_)
        rw [if_pos (hx.1 e), w64 (by omega) (by omega)]
      · refine Tot.no e (Tot.zdy (over_f hv (by omega) (by omega)) ?_)
        rw [if_neg (fun h => e (hx.2 h))]
        cases hl : lap c p i with
        | false => exact Tot.no (by decide) (Tot.ret _ rfl)
        | true =>
          refine Tot.yes rfl ?_
          rw [w64 (x := i + 1) (by omega) (by omega), if_pos rfl]
          have hne : i ≠ c * m + (c - 1) := by
            intro h
            rw [h, ziv (by omega)] at hl
            cases hl
          exact ih (i + 1) (by omega) (by omega) ⟨m, by omega, by omega⟩
    refine Tot.step (fun k => by rw [zx.l0]) (Tot.zdy (zim hv (by omega) (by omega)) ?_)
    rw [w64 (x := wd c p i - wr c p i) (by omega) (by omega), w64 (x := wd c p i - 1) (by omega) (by omega)]
    refine Tot.ite (fun c1 => Tot.ite (fun c2 => hj _ ?_) (fun c2 => hj _ ?_)) (fun c1 => hj _ ?_)
    · rw [decide_eq_true_eq]
      exact ⟨fun h => ⟨by omega, by omega, by omega⟩, fun h => by omega⟩
    · exact ⟨fun h => absurd h (by decide), fun h => by omega⟩
    · exact ⟨fun h => absurd h (by decide), fun h => by omega⟩
theorem zh1 {k : Int} (hk : 0 ≤ k) (hk2 : k ≤ 800000) : Tot (fun n => zx.f n c d p k) (fun r => r = gd c p k) := by
  have hv' := hv
  unfold TV at hv'
  unfold zx.f gd
  rw [w64 (by omega) (by omega)]
  by_cases e : 2 * c < p
  · rw [if_pos e]; exact Tot.yes e (Tot.ret _ rfl)
  · rw [if_neg e]
    refine Tot.no e (Tot.zdy (zim hv hk (by omega)) ?_)
    have h1 := Int.mul_ediv_add_emod k c
    have h2 := Int.emod_nonneg k (show c ≠ 0 by omega)
    have h3 := Int.emod_lt_of_pos k (show 0 < c by omega)
    exact group_l0 hv k hk 8 k (Int.le_refl _) (by omega) ⟨k / c, by omega, by omega⟩
theorem sgroup_l0 (k0 : Int) (hk0 : 0 ≤ k0) : ∀ (f : Nat) (i : Int), k0 ≤ i → i ≤ 900000 - f → (∃ m, i ≤ c * m + (c - 1) ∧ c * m + (c - 1) < i + f) →
    Tot (fun k => zba.l0 k k0 (wd c p k0) i c d p) (fun r => r = gsc c p k0 f i) := by
  have hv' := hv
  unfold TV at hv'
  intro f
  induction f with
  | zero => rintro i _ _ ⟨m, h1, h2⟩; omega
  | succ f ih =>
    rintro i hi hib ⟨m, h1, h2⟩
    have hb := wrd_bd (c := c) (p := p) (k := i) (by omega) (by omega) (by omega) (by omega) (by omega) (by omega)
    have hj : ∀ x : Bool, (x = true ↔ k0 < i ∧ 3 ≤ wd c p i - wr c p i ∧ wd c p k0 ≤ wd c p i - 1) → Tot (fun k => zba.j1 k k0 (wd c p k0) i x c d p (wr c p i) (wd c p i)) (fun r => r = gsc c p k0 (f + 1) i) := by
      intro x hx
      refine Tot.step (fun k => by rw [zba.j1]) ?_
      rw [gsc]
      by_cases e : x = true
      · refine Tot.yes e (Tot.ret _ ?_)
        rw [if_pos (hx.1 e), w64 (by omega) (by omega)]
      · refine Tot.no e (Tot.zdy (ziw hv (by omega) (by omega)) ?_)
        rw [if_neg (fun h => e (hx.2 h))]
        cases hl : lap c p i with
        | false => exact Tot.yes (by decide) (Tot.ret _ rfl)
        | true =>
          refine Tot.no (by decide) ?_
          rw [w64 (x := i + 1) (by omega) (by omega), if_pos rfl]
          have hne : i ≠ c * m + (c - 1) := by
            intro h
            rw [h, ziv (by omega)] at hl
            cases hl
          exact ih (i + 1) (by omega) (by omega) ⟨m, by omega, by omega⟩
    refine Tot.step (fun k => by rw [zba.l0]) (Tot.zdy (zfl hv (by omega) (by omega)) ?_)
    rw [w64 (x := wd c p i - wr c p i) (by omega) (by omega), w64 (x := wd c p i - 1) (by omega) (by omega)]
    refine Tot.ite (fun c1 => Tot.ite (fun c2 => hj _ ?_) (fun c2 => hj _ ?_)) (fun c1 => hj _ ?_)
    · rw [decide_eq_true_eq]
      exact ⟨fun h => ⟨by omega, by omega, by omega⟩, fun h => by omega⟩
    · exact ⟨fun h => absurd h (by decide), fun h => by omega⟩
    · exact ⟨fun h => absurd h (by decide), fun h => by omega⟩
theorem zgw {k : Int} (hk : 0 ≤ k) (hk2 : k ≤ 800000) : Tot (fun n => zba.f n c d p k) (fun r => r = gd c p k) := by
  have hv' := hv
  unfold TV at hv'
  unfold zba.f gd
  rw [w64 (by omega) (by omega)]
  by_cases e : 2 * c < p
  · rw [if_pos e]; exact Tot.yes e (Tot.ret _ rfl)
  · rw [if_neg e]
    refine Tot.no e (Tot.zdy (zfl hv hk (by omega)) ?_)
    have h1 := Int.mul_ediv_add_emod k c
    have h2 := Int.emod_nonneg k (show c ≠ 0 by omega)
    have h3 := Int.emod_lt_of_pos k (show 0 < c by omega)
    exact sgroup_l0 hv k hk 8 k (Int.le_refl _) (by omega) ⟨k / c, by omega, by omega⟩
theorem zfm {k : Int} (hk : 0 ≤ k) : ∃ e g : Int, (∀ T, key c p k T = ((2 * wd c p k + e) * 32 + (31 - g)) * 8 + T) ∧ 0 ≤ g ∧ g ≤ 15 ∧
    ((lap c p k = true ∧ e = 0 ∧ ((g = 0 ∧ gd c p k = 0) ∨ (g = gd c p k - wd c p k + 1 ∧ 1 ≤ g ∧ 0 < gd c p k))) ∨ (lap c p k = false ∧ e = 1 ∧ g = 0)) := by
  have hv' := hv
  unfold TV at hv'
  unfold key
  cases hl : lap c p k with
  | false => exact ⟨1, 0, fun T => by simp, by omega, by omega, Or.inr ⟨rfl, rfl, rfl⟩⟩
  | true =>
    by_cases hh : 2 * c < p
    · exact ⟨0, 0, fun T => by simp [hh], by omega, by omega, Or.inl ⟨rfl, rfl, Or.inl ⟨rfl, by unfold gd; rw [if_pos hh]⟩⟩⟩
    · have h5 := gd_bd (c := c) (p := p) (by omega) (by omega) (by omega) hk hh
      have h6 := zgd (c := c) (p := p) (by omega) (by omega) hk
      exact ⟨0, gd c p k - wd c p k + 1, fun T => by simp [hh], by omega, by omega, Or.inl ⟨rfl, rfl, Or.inr ⟨rfl, by omega, by omega⟩⟩⟩
end
theorem cmp_f (a b : Int) : cmp_Compare_int.f a b = some (if a < b then -1 else if a > b then 1 else 0) := by
  unfold cmp_Compare_int.f cmp_isNaN_int.f
  by_cases h1 : a < b
  · simp [h1]
  · by_cases h2 : a > b
    · simp [h1, h2]
    · simp [h1, h2]
theorem ahead_tot {c d p c2 d2 p2 i j : Int} (hv : TV c d p) (hv2 : TV c2 d2 p2) (hi : 0 ≤ i) (hi2 : i ≤ 800000) (hj : 0 ≤ j) (hj2 : j ≤ 800000) :
    Tot (fun n => zz.f n c d p i c2 d2 p2 j) (fun v => v < 0 ↔ key c p i 0 < key c2 p2 j 0) := by
  obtain ⟨e1, g1, a1, a2, a3, a4⟩ := zfm hv hi
  obtain ⟨e2, g2, b1, b2, b3, b4⟩ := zfm hv2 hj
  rw [a1, b1]
  unfold zz.f
  refine Tot.zdy (zim hv hi (by omega)) (Tot.zdy (zim hv2 hj (by omega)) (Tot.zdy (cmp_f _ _) ?_))
  simp only
  have h1 : 0 ≤ e1 ∧ e1 ≤ 1 := by rcases a4 with h | h <;> omega
  have h2 : 0 ≤ e2 ∧ e2 ≤ 1 := by rcases b4 with h | h <;> omega
  by_cases q1 : wd c p i < wd c2 p2 j
  · rw [if_pos q1]
    refine Tot.no (by decide) (Tot.ret _ ?_)
    exact ⟨fun _ => by omega, fun _ => by omega⟩
  · rw [if_neg q1]
    by_cases q2 : wd c p i > wd c2 p2 j
    · rw [if_pos q2]
      refine Tot.no (by decide) (Tot.ret _ ?_)
      exact ⟨fun h => by omega, fun h => by omega⟩
    · rw [if_neg q2]
      refine Tot.yes rfl (Tot.zdy (over_f hv hi (by omega)) (Tot.zdy (over_f hv2 hj (by omega)) ?_))
      rcases a4 with ⟨u1, u2, u3⟩ | ⟨u1, u2, u3⟩ <;> rcases b4 with ⟨v1, v2, v3⟩ | ⟨v1, v2, v3⟩ <;> rw [u1, v1]
      ·
        refine Tot.yes rfl (Tot.step (fun k => by rw [zz.j0]) (Tot.no (by decide) (Tot.yes rfl (Tot.step (fun k => by rw [zz.j1]) (Tot.no (by decide) (Tot.yes rfl ?_))))))
        refine Tot.bind (zh1 hv2 hj hj2) ?_
        rintro _ rfl
        refine Tot.bind (zh1 hv hi hi2) ?_
        rintro _ rfl
        refine Tot.zdy (cmp_f _ _) (Tot.ret _ ?_)
        have hg : g1 = g2 ∧ gd c p i = gd c2 p2 j ∨ g1 < g2 ∧ gd c p i < gd c2 p2 j ∨ g2 < g1 ∧ gd c2 p2 j < gd c p i := by
          rcases u3 with u3 | u3 <;> rcases v3 with v3 | v3 <;> omega
        rcases hg with h | h | h
        · rw [if_neg (by omega), if_neg (by omega)]; exact ⟨fun h => by omega, fun h => by omega⟩
        · rw [if_neg (by omega), if_pos (by omega)]; exact ⟨fun h => by omega, fun h => by omega⟩
        · rw [if_pos (by omega)]; exact ⟨fun h => by omega, fun h => by omega⟩
      · refine Tot.yes rfl ?_
        refine Tot.step (fun k => by rw [zz.j0]) ?_
        refine Tot.yes (by decide) (Tot.ret _ ?_)
        exact ⟨fun _ => by omega, fun _ => by omega⟩
      · refine Tot.no (by decide) ?_
        refine Tot.step (fun k => by rw [zz.j0]) ?_
        refine Tot.no (by decide) (Tot.yes rfl ?_)
        refine Tot.step (fun k => by rw [zz.j1]) ?_
        refine Tot.yes (by decide) (Tot.ret _ ?_)
        exact ⟨fun h => by omega, fun h => by omega⟩
      · refine Tot.no (by decide) (Tot.step (fun k => by rw [zz.j0]) (Tot.no (by decide) (Tot.no (by decide) (Tot.step (fun k => by rw [zz.j1]) (Tot.no (by decide) (Tot.no (by decide) (Tot.ret _ ?_)))))))
        exact ⟨fun h => by omega, fun h => by omega⟩
def kf (l : List Task) (nx : List Int) (i : Int) : Int := key (tk l i).f0 (tk l i).f2 (rd nx i) i
theorem before_tot {l : List Task} {nx : List Int} {a b : Int} (ha : 0 ≤ a ∧ a < (l.length : Int)) (hb : 0 ≤ b ∧ b < (l.length : Int)) (hn : nx.length = l.length) (hl5 : l.length ≤ 5) (hv : TVt (tk l a)) (hv2 : TVt (tk l b)) (hi : 0 ≤ rd nx a) (hi2 : rd nx a ≤ 800000) (hj : 0 ≤ rd nx b) (hj2 : rd nx b ≤ 800000) :
    Tot (fun n => zi.f n l nx a b) (fun v => v = decide (kf l nx a < kf l nx b)) := by
  unfold TVt at hv hv2
  obtain ⟨e1, g1, a1, a2, a3, a4⟩ := zfm hv hi
  obtain ⟨e2, g2, b1, b2, b3, b4⟩ := zfm hv2 hj
  unfold kf
  rw [a1, b1]
  unfold zi.f
  refine Tot.yes ha.1 (Tot.yes ha.2 (Tot.yes (by rw [hn]; exact ha.2) (Tot.zdy (zfl hv hi (by omega)) (Tot.yes hb.1 (Tot.yes hb.2 (Tot.yes (by rw [hn]; exact hb.2) (Tot.zdy (zfl hv2 hj (by omega)) ?_)))))))
  simp only
  have h1 : 0 ≤ e1 ∧ e1 ≤ 1 := by rcases a4 with h | h <;> omega
  have h2 : 0 ≤ e2 ∧ e2 ≤ 1 := by rcases b4 with h | h <;> omega
  refine Tot.ite (fun q => ?_) (fun q => Tot.ret _ ?_)
  · have q' : wd (tk l a).f0 (tk l a).f2 (rd nx a) = wd (tk l b).f0 (tk l b).f2 (rd nx b) := q
    refine Tot.zdy (ziw hv hi (by omega)) (Tot.zdy (ziw hv2 hj (by omega)) ?_)
    rcases a4 with ⟨u1, u2, u3⟩ | ⟨u1, u2, u3⟩ <;> rcases b4 with ⟨v1, v2, v3⟩ | ⟨v1, v2, v3⟩ <;> rw [u1, v1]
    · refine Tot.yes rfl (Tot.yes rfl ?_)
      refine Tot.bind (zgw hv hi hi2) ?_
      rintro _ rfl
      refine Tot.bind (zgw hv2 hj hj2) ?_
      rintro _ rfl
      have hg : g1 = g2 ∧ gd (tk l a).f0 (tk l a).f2 (rd nx a) = gd (tk l b).f0 (tk l b).f2 (rd nx b) ∨ g1 < g2 ∧ gd (tk l a).f0 (tk l a).f2 (rd nx a) < gd (tk l b).f0 (tk l b).f2 (rd nx b) ∨ g2 < g1 ∧ gd (tk l b).f0 (tk l b).f2 (rd nx b) < gd (tk l a).f0 (tk l a).f2 (rd nx a) := by
        rcases u3 with u3 | u3 <;> rcases v3 with v3 | v3 <;> omega
      refine Tot.ite (fun r => Tot.ret _ ?_) (fun r => Tot.ret _ ?_)
      · rw [decide_eq_decide]; omega
      · rw [decide_eq_decide]; omega
    · refine Tot.no (by decide) (Tot.ret _ ?_)
      symm; rw [show decide ((if true = true then (1 : Int) else 0) > (if false = true then 1 else 0)) = true by decide]; rw [decide_eq_true_eq]; omega
    · refine Tot.no (by decide) (Tot.ret _ ?_)
      symm; rw [show decide ((if false = true then (1 : Int) else 0) > (if true = true then 1 else 0)) = false by decide]; rw [decide_eq_false_iff_not]; omega
    · refine Tot.yes rfl (Tot.no (by decide) (Tot.ret _ ?_))
      rw [decide_eq_decide]; omega
  · have q' : ¬ wd (tk l a).f0 (tk l a).f2 (rd nx a) = wd (tk l b).f0 (tk l b).f2 (rd nx b) := q
    show decide (wd (tk l a).f0 (tk l a).f2 (rd nx a) < wd (tk l b).f0 (tk l b).f2 (rd nx b)) = _
    rw [decide_eq_decide]; omega
end Go.Proofs.Ytnilnaabjpcfjaa.Fair
namespace Go.Proofs.Ytnilnaabjpcfjaa.Isort
open Go.RowKit Go.Proofs.Ytnilnaabjpcfjaa.P Go.Proofs.Ytnilnaabjpcfjaa.Base Go.Proofs.Ytnilnaabjpcfjaa.Gen Go.Proofs.YtnilnaabjpcfjaaW.PrintWords Go.Proofs.YtnilnaabjpcfjaaW.PrintLast
set_option linter.unusedVariables false
theorem zgf (l : List Int) (i : Nat) (x : Int) (h : i < l.length) : rd (l.set i x) (i : Int) = x := by
  rw [zep _ i (by simpa using h)]
  simp
theorem zfa (l : List Int) (i a : Nat) (x : Int) (h : a ≠ i) : rd (l.set i x) (a : Int) = rd l (a : Int) := by
  unfold rd
  rw [List.getD_eq_getElem?_getD, List.getD_eq_getElem?_getD, Int.toNat_natCast, List.getElem?_set_ne (by omega)]
theorem zhd (l : List Int) (j : Nat) (h : j + 1 < l.length) : (swl l j).Perm l := by
  have := Go.Sort.perm_set_set l (j + 1) j h (by omega)
  unfold swl
  have e1 : rd l (j : Int) = l[j] := zep l j (by omega)
  have e2 : rd l ((j : Int) + 1) = l[j + 1] := zep l (j + 1) h
  rw [e1, e2]
  simpa [List.getElem_set] using this
section
variable (cf : Int → Int → Int) (K : Int → Int)
def But (l : List Int) (j i : Nat) : Prop := (∀ p q : Nat, p < q → q ≤ i → p ≠ j → q ≠ j → K (rd l p) ≤ K (rd l q)) ∧ ∀ q : Nat, j < q → q ≤ i → K (rd l j) ≤ K (rd l q)
def Srt (l : List Int) (i : Nat) : Prop := ∀ p q : Nat, p < q → q < i → K (rd l p) ≤ K (rd l q)
theorem inn_perm : ∀ (j : Nat) (l : List Int), j < l.length → (inn cf j l).Perm l := by
  intro j
  induction j with
  | zero => intro l _; exact List.Perm.refl _
  | succ j ih =>
    intro l hj
    rw [inn]
    split
    · exact (ih _ (by rw [zc9]; omega)).trans (zhd l j hj)
    · exact List.Perm.refl _
theorem zgg (l : List Int) (j : Nat) (h : j + 1 < l.length) : rd (swl l j) (j : Int) = rd l ((j + 1 : Nat) : Int) := by
  unfold swl
  rw [zgf _ _ _ (by rw [List.length_set]; omega)]
  rfl
theorem zfb (l : List Int) (j : Nat) (h : j + 1 < l.length) : rd (swl l j) ((j + 1 : Nat) : Int) = rd l (j : Int) := by
  unfold swl
  rw [zfa _ _ _ _ (by omega), zgf _ _ _ h]
theorem zdj (l : List Int) (j p : Nat) (h1 : p ≠ j) (h2 : p ≠ j + 1) : rd (swl l j) (p : Int) = rd l (p : Int) := by
  unfold swl
  rw [zfa _ _ _ _ h1, zfa _ _ _ _ h2]
theorem inn_srt (i : Nat) : ∀ (j : Nat) (l : List Int), (∀ x ∈ l, ∀ y ∈ l, cf x y < 0 ↔ K x < K y) → j ≤ i → i < l.length → But K l j i → Srt K (inn cf j l) (i + 1) := by
  intro j
  induction j with
  | zero =>
    intro l _ _ _ hb p q hpq hq
    rw [inn]
    by_cases e : p = 0
    · subst e; exact hb.2 q hpq (by omega)
    · exact hb.1 p q hpq (by omega) e (by omega)
  | succ j ih =>
    intro l hcf hji hil hb
    have hj1 : j + 1 < l.length := by omega
    have m0 : rd l (j : Int) ∈ l := by rw [zep l j (by omega)]; exact List.getElem_mem _
    have m1 : rd l ((j + 1 : Nat) : Int) ∈ l := by rw [zep l (j + 1) hj1]; exact List.getElem_mem _
    have hc := hcf _ m1 _ m0
    rw [inn]
    by_cases h : cf (rd l ((j : Int) + 1)) (rd l (j : Int)) < 0
    · rw [if_pos h]
      have hK : K (rd l ((j + 1 : Nat) : Int)) < K (rd l (j : Int)) := hc.1 h
      refine ih _ (fun x hx y hy => hcf x ((zhd l j hj1).mem_iff.1 hx) y ((zhd l j hj1).mem_iff.1 hy)) (by omega) (by rw [zc9]; exact hil) ⟨fun p q hpq hq hpj hqj => ?_, fun q hq hqi => ?_⟩
      · by_cases e1 : q = j + 1
        · subst e1
          rw [zfb l j hj1, zdj l j p hpj (by omega)]
          exact hb.1 p j (by omega) (by omega) (by omega) (by omega)
        · by_cases e2 : p = j + 1
          · subst e2
            rw [zfb l j hj1, zdj l j q hqj e1]
            exact hb.1 j q (by omega) hq (by omega) e1
          · rw [zdj l j p hpj e2, zdj l j q hqj e1]
            exact hb.1 p q hpq hq e2 e1
      · rw [zgg l j hj1]
        by_cases e1 : q = j + 1
        · subst e1
          rw [zfb l j hj1]; omega
        · rw [zdj l j q (by omega) e1]
          exact hb.2 q (by omega) hqi
    · rw [if_neg h]
      have hK : K (rd l (j : Int)) ≤ K (rd l ((j + 1 : Nat) : Int)) := by
        apply Classical.byContradiction
        intro hn
        exact h (hc.2 (by omega))
      intro p q hpq hq
      by_cases e1 : q = j + 1
      · subst e1
        by_cases e2 : p = j
        · subst e2; exact hK
        · have := hb.1 p j (by omega) (by omega) (by omega) (by omega)
          omega
      · by_cases e2 : p = j + 1
        · subst e2; exact hb.2 q hpq (by omega)
        · exact hb.1 p q hpq (by omega) e2 e1
theorem outr_ok : ∀ (d i : Nat) (l : List Int), (∀ x ∈ l, ∀ y ∈ l, cf x y < 0 ↔ K x < K y) → i + d ≤ l.length → Srt K l i → (outr cf d i l).Perm l ∧ Srt K (outr cf d i l) (i + d) := by
  intro d
  induction d with
  | zero => intro i l _ _ h; exact ⟨List.Perm.refl _, h⟩
  | succ d ih =>
    intro i l hcf hi h
    have hp := inn_perm cf i l (by omega)
    have hs := inn_srt cf K i i l hcf (Nat.le_refl _) (by omega) ⟨fun p q hpq hq h1 h2 => h p q hpq (by omega), fun q h1 h2 => by omega⟩
    have := ih (i + 1) (inn cf i l) (fun x hx y hy => hcf x (hp.mem_iff.1 hx) y (hp.mem_iff.1 hy)) (by rw [hp.length_eq]; omega) hs
    refine ⟨this.1.trans hp, ?_⟩
    rw [show i + (d + 1) = i + 1 + d by omega]
    exact this.2
theorem isort_ok (l : List Int) (hcf : ∀ x ∈ l, ∀ y ∈ l, cf x y < 0 ↔ K x < K y) : (zda cf l).Perm l ∧ Srt K (zda cf l) l.length := by
  unfold zda
  rcases Nat.eq_zero_or_pos l.length with h0 | h0
  · obtain rfl := List.eq_nil_of_length_eq_zero h0
    exact ⟨List.Perm.refl _, fun p q _ h => by simp at h⟩
  · have := outr_ok cf K (l.length - 1) 1 l hcf (by omega) (fun p q h1 h2 => by omega)
    rw [show 1 + (l.length - 1) = l.length by omega] at this
    exact this
end
theorem inn_at (cf : Int → Int → Int) : ∀ (j : Nat) (l : List Int), j < l.length → (∀ q : Nat, j < q → rd (inn cf j l) (q : Int) = rd l (q : Int)) ∧ ∀ p : Nat, p ≤ j → ∃ p' : Nat, p' ≤ j ∧ rd (inn cf j l) (p : Int) = rd l (p' : Int) := by
  intro j
  induction j with
  | zero => intro l _; exact ⟨fun q _ => rfl, fun p hp => ⟨p, hp, rfl⟩⟩
  | succ j ih =>
    intro l hj
    rw [inn]
    split
    · obtain ⟨h1, h2⟩ := ih (swl l j) (by rw [zc9]; omega)
      refine ⟨fun q hq => ?_, fun p hp => ?_⟩
      · rw [h1 q (by omega), zdj l j q (by omega) (by omega)]
      · by_cases e : p = j + 1
        · subst e
          rw [h1 (j + 1) (by omega), zfb l j hj]
          exact ⟨j, by omega, rfl⟩
        · obtain ⟨p', h3, h4⟩ := h2 p (by omega)
          rw [h4]
          by_cases e2 : p' = j
          · subst e2; rw [zgg l p' hj]; exact ⟨p' + 1, by omega, rfl⟩
          · rw [zdj l j p' e2 (by omega)]; exact ⟨p', by omega, rfl⟩
    · exact ⟨fun q _ => rfl, fun p hp => ⟨p, hp, rfl⟩⟩
theorem inn_same {cf cg : Int → Int → Int} : ∀ (j : Nat) (l : List Int), j < l.length → (∀ p : Nat, p < j → (cf (rd l (j : Int)) (rd l (p : Int)) < 0 ↔ cg (rd l (j : Int)) (rd l (p : Int)) < 0)) → inn cf j l = inn cg j l := by
  intro j
  induction j with
  | zero => intro l _ _; rfl
  | succ j ih =>
    intro l hj h
    have h1 : cf (rd l ((j : Int) + 1)) (rd l (j : Int)) < 0 ↔ cg (rd l ((j : Int) + 1)) (rd l (j : Int)) < 0 := h j (by omega)
    rw [inn, inn]
    by_cases e : cf (rd l ((j : Int) + 1)) (rd l (j : Int)) < 0
    · rw [if_pos e, if_pos (h1.1 e)]
      refine ih _ (by rw [zc9]; omega) (fun p hp => ?_)
      rw [zgg l j hj, zdj l j p (by omega) (by omega)]
      exact h p (by omega)
    · rw [if_neg e, if_neg (fun h2 => e (h1.2 h2))]
theorem outr_same {cf cg : Int → Int → Int} (h : ∀ x y : Int, y < x → (cf x y < 0 ↔ cg x y < 0)) : ∀ (d i : Nat) (l : List Int), i + d ≤ l.length → (∀ p q : Nat, p < q → i ≤ q → q < l.length → rd l (p : Int) < rd l (q : Int)) → outr cf d i l = outr cg d i l := by
  intro d
  induction d with
  | zero => intro i l _ _; rfl
  | succ d ih =>
    intro i l hi hs
    have h1 : inn cf i l = inn cg i l := inn_same i l (by omega) (fun p hp => h _ _ (hs p i hp (Nat.le_refl _) (by omega)))
    rw [outr, outr, h1]
    obtain ⟨h2, h3⟩ := inn_at cg i l (by omega)
    refine ih (i + 1) _ (by rw [zdr]; omega) (fun p q hpq hq hql => ?_)
    rw [zdr] at hql
    rw [h2 q (by omega)]
    by_cases e : p ≤ i
    · obtain ⟨p', h4, h5⟩ := h3 p e
      rw [h5]
      exact hs p' q (by omega) (by omega) hql
    · rw [h2 p (by omega)]
      exact hs p q hpq (by omega) hql
theorem isort_same {cf cg : Int → Int → Int} (h : ∀ x y : Int, y < x → (cf x y < 0 ↔ cg x y < 0)) {l : List Int} (hl : l.Pairwise (· < ·)) : zda cf l = zda cg l := by
  unfold zda
  rcases Nat.eq_zero_or_pos l.length with h0 | h0
  · rw [h0]; rfl
  · refine outr_same h _ _ l (by omega) (fun p q hpq _ hq => ?_)
    rw [zep l p (by omega), zep l q hq]
    exact List.pairwise_iff_getElem.1 hl p q (by omega) hq hpq
end Go.Proofs.Ytnilnaabjpcfjaa.Isort
namespace Go.Proofs.Ytnilnaabjpcfjaa.Fair
open Go.RowKit Go.Proofs.Ytnilnaabjpcfjaa.P Go.Proofs.Ytnilnaabjpcfjaa.Base Go.Proofs.Ytnilnaabjpcfjaa.Gen Go.Proofs.Ytnilnaabjpcfjaa.Alive Go.Proofs.Ytnilnaabjpcfjaa.Win Go.Proofs.Ytnilnaabjpcfjaa.Set Go.Proofs.Ytnilnaabjpcfjaa.Isort Go.Proofs.YtnilnaabjpcfjaaW.PrintWords Go.Proofs.YtnilnaabjpcfjaaW.PrintLast
set_option linter.unusedVariables false
def elg (l : List Task) (nx : List Int) (now : Int) : Nat → List Int
  | 0 => []
  | i + 1 => if wr (tk l (i : Int)).f0 (tk l (i : Int)).f2 (rd nx (i : Int)) ≤ now then elg l nx now i ++ [(i : Int)] else elg l nx now i
def srt (l : List Task) (nx : List Int) (now : Int) : List Int := zda (fun x y => kf l nx x - kf l nx y) (elg l nx now l.length)
def row (l : List Task) (nx : List Int) (now m : Int) : List Int := (srt l nx now).take m.toNat
def StOk (l : List Task) (nx : List Int) (t : Nat) : Prop := nx.length = l.length ∧ ∀ i : Nat, i < l.length → 0 ≤ rd nx (i : Int) ∧ rd nx (i : Int) ≤ t
theorem nodup_at {s : List Int} (h : s.Nodup) {i j : Nat} (hi : i < s.length) (hj : j < s.length) (e : s[i] = s[j]) : i = j := by
  have h1 := List.pairwise_iff_getElem.1 h
  by_cases h2 : i < j
  · exact absurd e (h1 i j hi hj h2)
  · by_cases h3 : j < i
    · exact absurd e.symm (h1 j i hj hi h3)
    · omega
theorem zen (l : List Task) (nx : List Int) (now : Int) : ∀ n (x : Int), x ∈ elg l nx now n ↔ 0 ≤ x ∧ x < (n : Int) ∧ wr (tk l x).f0 (tk l x).f2 (rd nx x) ≤ now := by
  intro n
  induction n with
  | zero => intro x; simp only [elg, List.not_mem_nil, false_iff]; omega
  | succ n ih =>
    intro x
    rw [elg]
    by_cases h : wr (tk l (n : Int)).f0 (tk l (n : Int)).f2 (rd nx (n : Int)) ≤ now
    · rw [if_pos h, List.mem_append, ih, List.mem_singleton]
      constructor
      · rintro (h1 | rfl)
        · exact ⟨h1.1, by omega, h1.2.2⟩
        · exact ⟨by omega, by omega, h⟩
      · intro h1
        by_cases e : x = (n : Int)
        · exact Or.inr e
        · exact Or.inl ⟨h1.1, by omega, h1.2.2⟩
    · rw [if_neg h, ih]
      constructor
      · intro h1; exact ⟨h1.1, by omega, h1.2.2⟩
      · intro h1
        by_cases e : x = (n : Int)
        · subst e; exact absurd h1.2.2 h
        · exact ⟨h1.1, by omega, h1.2.2⟩
theorem elg_up (l : List Task) (nx : List Int) (now : Int) : ∀ n, (elg l nx now n).Pairwise (· < ·) := by
  intro n
  induction n with
  | zero => exact List.Pairwise.nil
  | succ n ih =>
    rw [elg]
    split
    · rw [List.pairwise_append]
      refine ⟨ih, List.pairwise_singleton _ _, fun x hx y hy => ?_⟩
      have := (zen l nx now n x).1 hx
      rw [List.mem_singleton] at hy
      omega
    · exact ih
section
variable {l : List Task} (hI : Impl l) {nx : List Int} {t : Nat} (hS : StOk l nx t) (ht : t ≤ 400000)
include hI in
theorem tvt {x : Int} (h0 : 0 ≤ x) (h1 : x < (l.length : Int)) : TVt (tk l x) := by
  obtain ⟨T, rfl⟩ := Int.eq_ofNat_of_zero_le h0
  exact hI.1.2 _ (tk_mem (by omega))
include hS in
theorem zgn {x : Int} (h0 : 0 ≤ x) (h1 : x < (l.length : Int)) : 0 ≤ rd nx x ∧ rd nx x ≤ t := by
  obtain ⟨T, rfl⟩ := Int.eq_ofNat_of_zero_le h0
  exact hS.2 T (by omega)
include hI hS in
theorem kf_inj {x y : Int} (hx0 : 0 ≤ x) (hx1 : x < (l.length : Int)) (hy0 : 0 ≤ y) (hy1 : y < (l.length : Int)) (h : kf l nx x = kf l nx y) : x = y := by
  obtain ⟨e1, g1, a1, a2, a3, a4⟩ := zfm (tvt hI hx0 hx1) (zgn hS hx0 hx1).1
  obtain ⟨e2, g2, b1, b2, b3, b4⟩ := zfm (tvt hI hy0 hy1) (zgn hS hy0 hy1).1
  unfold kf at h
  rw [a1, b1] at h
  have := hI.1.1
  omega
include hI hS in
theorem srt_ok (now : Int) : (srt l nx now).Perm (elg l nx now l.length) ∧ (∀ p q : Nat, p < q → q < (srt l nx now).length → kf l nx (rd (srt l nx now) (p : Int)) < kf l nx (rd (srt l nx now) (q : Int))) := by
  have h1 := isort_ok (fun x y => kf l nx x - kf l nx y) (kf l nx) (elg l nx now l.length) (fun x _ y _ => by constructor <;> intro h <;> omega)
  have hp : (srt l nx now).Perm (elg l nx now l.length) := h1.1
  refine ⟨hp, fun p q hpq hq => ?_⟩
  have h2 := h1.2 p q hpq (by rw [← hp.length_eq]; exact hq)
  have h3 : kf l nx (rd (srt l nx now) (p : Int)) ≤ kf l nx (rd (srt l nx now) (q : Int)) := h2
  have hnd : (srt l nx now).Nodup := hp.nodup_iff.2 ((elg_up l nx now l.length).imp (fun h => by omega))
  have mp : rd (srt l nx now) (p : Int) ∈ srt l nx now := by rw [zep _ p (by omega)]; exact List.getElem_mem _
  have mq : rd (srt l nx now) (q : Int) ∈ srt l nx now := by rw [zep _ q hq]; exact List.getElem_mem _
  have bp := (zen l nx now l.length _).1 (hp.mem_iff.1 mp)
  have bq := (zen l nx now l.length _).1 (hp.mem_iff.1 mq)
  apply Classical.byContradiction
  intro h4
  have h5 := kf_inj hI hS bp.1 bp.2.1 bq.1 bq.2.1 (by omega)
  rw [zep _ p (by omega), zep _ q hq] at h5
  have := nodup_at hnd (by omega) hq h5
  omega
include hI hS in
theorem srt_mem (now x : Int) : x ∈ srt l nx now ↔ 0 ≤ x ∧ x < (l.length : Int) ∧ wr (tk l x).f0 (tk l x).f2 (rd nx x) ≤ now := by
  rw [(srt_ok hI hS now).1.mem_iff, zen]
include hI hS in
theorem zh2 (now : Int) : (srt l nx now).Nodup := (srt_ok hI hS now).1.nodup_iff.2 ((elg_up l nx now l.length).imp (fun h => by omega))
include hI hS in
theorem zhe (now : Int) : (srt l nx now).length ≤ 5 := by
  rw [(srt_ok hI hS now).1.length_eq]
  have : ∀ n, (elg l nx now n).length ≤ n := by
    intro n
    induction n with
    | zero => exact Nat.le_refl _
    | succ n ih =>
      rw [elg]
      split
      · rw [List.length_append, List.length_singleton]; omega
      · omega
  have h1 := this l.length
  have h2 := hI.1.1
  omega
include hI hS ht in
theorem flist_elg (now : Int) : ∀ n, n ≤ l.length → zdh l nx now n = elg l nx now n := by
  intro n
  induction n with
  | zero => intro _; rfl
  | succ n ih =>
    intro hn
    have h1 := zgn hS (x := (n : Int)) (by omega) (by omega)
    have h2 : fwin l nx (n : Int) = (wr (tk l (n : Int)).f0 (tk l (n : Int)).f2 (rd nx (n : Int)), wd (tk l (n : Int)).f0 (tk l (n : Int)).f2 (rd nx (n : Int))) := by
      show (zbk.f (tk l (n : Int)).f0 (tk l (n : Int)).f1 (tk l (n : Int)).f2 (rd nx (n : Int))).getD (0, 0) = _
      rw [zim (tvt hI (by omega) (by omega)) h1.1 (by omega)]
      rfl
    rw [zdh, elg, h2, ih (by omega)]
theorem uni {P : Int → Nat → Prop} : ∀ ls : List Int, (∀ a ∈ ls, ∃ K, ∀ k, K ≤ k → P a k) → ∃ K, ∀ a ∈ ls, ∀ k, K ≤ k → P a k
  | [], _ => ⟨0, fun a h => by cases h⟩
  | b :: ls, h => by
    obtain ⟨K1, h1⟩ := h b (by simp)
    obtain ⟨K2, h2⟩ := uni ls (fun a ha => h a (List.mem_cons_of_mem _ ha))
    refine ⟨max K1 K2, fun a ha k hk => ?_⟩
    rcases List.mem_cons.1 ha with rfl | ha
    · exact h1 k (by omega)
    · exact h2 a ha k (by omega)
include hI hS ht in
theorem row_ev (now m : Int) (hm : 0 ≤ m) : ∃ K, ∀ k, K ≤ k → fokb k l nx (zdh l nx now l.length) = true ∧ frow k l nx now m = row l nx now m := by
  have he := flist_elg hI hS ht now l.length (Nat.le_refl _)
  have h1 : ∀ a ∈ elg l nx now l.length, ∃ K, ∀ b ∈ elg l nx now l.length, ∀ k, K ≤ k → ∃ v, ze7 k l nx a b = some v ∧ (v < 0 ↔ key (tk l a).f0 (tk l a).f2 (rd nx a) 0 < key (tk l b).f0 (tk l b).f2 (rd nx b) 0) := by
    intro a ha
    refine uni (P := fun b k => ∃ v, ze7 k l nx a b = some v ∧ (v < 0 ↔ key (tk l a).f0 (tk l a).f2 (rd nx a) 0 < key (tk l b).f0 (tk l b).f2 (rd nx b) 0)) _ (fun b hb => ?_)
    have ha' := (zen l nx now l.length a).1 ha
    have hb' := (zen l nx now l.length b).1 hb
    have r1 := zgn hS ha'.1 ha'.2.1
    have r2 := zgn hS hb'.1 hb'.2.1
    obtain ⟨v, ⟨K, hK⟩, hv⟩ := ahead_tot (tvt hI ha'.1 ha'.2.1) (tvt hI hb'.1 hb'.2.1) r1.1 (by omega) r2.1 (by omega)
    exact ⟨K, fun k hk => ⟨v, hK k hk, hv⟩⟩
  obtain ⟨K, hK⟩ := uni (P := fun a k => ∀ b ∈ elg l nx now l.length, ∃ v, ze7 k l nx a b = some v ∧ (v < 0 ↔ key (tk l a).f0 (tk l a).f2 (rd nx a) 0 < key (tk l b).f0 (tk l b).f2 (rd nx b) 0)) (elg l nx now l.length) (fun a ha => by
    obtain ⟨K, h⟩ := h1 a ha
    exact ⟨K, fun k hk b hb => h b hb k hk⟩)
  refine ⟨K, fun k hk => ⟨?_, ?_⟩⟩
  · rw [he, fokb_iff]
    intro a ha b hb
    obtain ⟨v, hv, _⟩ := hK a ha k hk b hb
    show ze7 k l nx a b = some ((ze7 k l nx a b).getD 0)
    rw [hv]; rfl
  · unfold frow row srt
    rw [he]
    have h2 : zda (fcmp k l nx) (elg l nx now l.length) = zda (fun x y => if x ∈ elg l nx now l.length ∧ y ∈ elg l nx now l.length then fcmp k l nx x y else kf l nx x - kf l nx y) (elg l nx now l.length) :=
      zik (fun a ha b hb => by rw [if_pos ⟨ha, hb⟩])
    have h3 := isort_same (cf := fun x y => if x ∈ elg l nx now l.length ∧ y ∈ elg l nx now l.length then fcmp k l nx x y else kf l nx x - kf l nx y) (cg := fun x y => kf l nx x - kf l nx y) (fun x y hxy => by
      show (if x ∈ elg l nx now l.length ∧ y ∈ elg l nx now l.length then fcmp k l nx x y else kf l nx x - kf l nx y) < 0 ↔ kf l nx x - kf l nx y < 0
      by_cases hb : x ∈ elg l nx now l.length ∧ y ∈ elg l nx now l.length
      · rw [if_pos hb]
        obtain ⟨v, hv, hvk⟩ := hK x hb.1 k hk y hb.2
        have hx' := (zen l nx now l.length x).1 hb.1
        have hy' := (zen l nx now l.length y).1 hb.2
        have hfc : fcmp k l nx x y = v := by unfold fcmp; rw [hv]; rfl
        rw [hfc, hvk]
        obtain ⟨e1, g1, a1, a2, a3, a4⟩ := zfm (tvt hI hx'.1 hx'.2.1) (zgn hS hx'.1 hx'.2.1).1
        obtain ⟨e2, g2, b1, b2, b3, b4⟩ := zfm (tvt hI hy'.1 hy'.2.1) (zgn hS hy'.1 hy'.2.1).1
        unfold kf
        rw [a1, b1, a1, b1]
        have := hI.1.1
        omega
      · rw [if_neg hb]) (elg_up l nx now l.length)
    rw [h2, h3]
    generalize zda (fun x y => kf l nx x - kf l nx y) (elg l nx now l.length) = s
    by_cases h4 : m ≤ (s.length : Int)
    · rw [show min m (s.length : Int) = m by omega]
    · rw [show min m (s.length : Int) = (s.length : Int) by omega, Int.toNat_natCast, List.take_of_length_le (Nat.le_refl _), List.take_of_length_le (by omega)]
theorem l4_tot (o : List Int) (v : Int) (ho : o.length ≤ 1000) : Tot (fun k => zb4.f k o v) (fun r => r < 0 ↔ v ∉ o) := by
  have loop : ∀ d i, i + d = o.length → (∀ a (h : a < o.length), a < i → o[a] ≠ v) → Tot (fun k => zb4.l0 k o v (i : Int)) (fun r => r < 0 ↔ v ∉ o) := by
    intro d
    induction d with
    | zero =>
      intro i hi hm
      refine Tot.step (fun k => by rw [zb4.l0]) (Tot.no (by omega) (Tot.ret _ ⟨fun _ hv => ?_, fun _ => by omega⟩))
      obtain ⟨a, ha, rfl⟩ := List.mem_iff_getElem.1 hv
      exact hm a ha (by omega) rfl
    | succ d ih =>
      intro i hi hm
      have hil : i < o.length := by omega
      refine Tot.step (fun k => by rw [zb4.l0]) (Tot.yes (by omega) (Tot.yes (by omega) ?_))
      rw [zep o i hil, w64 (by omega) (by omega)]
      refine Tot.ite (fun h => Tot.ret _ ⟨fun h2 => by omega, fun h2 => absurd (h ▸ List.getElem_mem hil) h2⟩) (fun h => ih (i + 1) (by omega) (fun a ha hai => ?_))
      by_cases e : a = i
      · subst e; exact h
      · exact hm a ha (by omega)
  exact loop o.length 0 (by omega) (fun a _ h => by omega)
include hI hS ht in
theorem fpick_tot (now m : Int) : Tot (fun k => zw.f k l nx now m) (fun r => r = row l nx now m) := by
  have hp := srt_ok hI hS now
  have hlen := zhe hI hS now
  have hnd := zh2 hI hS now
  obtain ⟨s, hs⟩ : ∃ s, srt l nx now = s := ⟨_, rfl⟩
  have hmem : ∀ x, x ∈ s ↔ 0 ≤ x ∧ x < (l.length : Int) ∧ wr (tk l x).f0 (tk l x).f2 (rd nx x) ≤ now := fun x => by rw [← hs]; exact srt_mem hI hS now x
  rw [hs] at hp hlen hnd
  have hl5 := hI.1.1
  have main : ∀ (d q : Nat), q + d = s.length → ((q : Int) ≤ m ∨ q = 0) → Tot (fun k => zw.l0 k l nx now m (s.take q)) (fun r => r = s.take m.toNat) := by
    intro d
    induction d with
    | zero =>
      intro q hq hqm
      have hall : ∀ x, x ∈ s → x ∈ s.take q := fun x hx => by rw [List.take_of_length_le (by omega)]; exact hx
      refine Tot.step (fun k => by rw [zw.l0]) (Tot.ite (fun c1 => ?_) (fun c1 => Tot.ret _ ?_))
      · have scan : ∀ e i : Nat, i + e = l.length → Tot (fun k => zw.l1 k l nx now m (s.take q) (-1) (i : Int)) (fun r => r = s.take m.toNat) := by
          intro e
          induction e with
          | zero =>
            intro i hi
            refine Tot.step (fun k => by rw [zw.l1]) (Tot.no (by omega) (Tot.yes (by decide) (Tot.ret _ ?_)))
            rw [List.length_take] at c1
            rw [List.take_of_length_le (by omega), List.take_of_length_le (by omega)]
          | succ e ih2 =>
            intro i hi
            have r1 := zgn hS (x := (i : Int)) (by omega) (by omega)
            refine Tot.step (fun k => by rw [zw.l1]) ?_
            refine Tot.yes (by omega) (Tot.yes (by omega) ?_)
            refine Tot.yes (by rw [hS.1]; omega) ?_
            refine Tot.zdy (zfl (tvt hI (by omega) (by omega)) r1.1 (by omega)) ?_
            rw [w64 (x := (i : Int) + 1) (by omega) (by omega)]
            refine Tot.ite (fun c2 => ?_) (fun c2 => ih2 (i + 1) (by omega))
            refine Tot.bind (l4_tot (s.take q) (i : Int) (by rw [List.length_take]; omega)) ?_
            intro r hr
            refine Tot.no (fun h => (hr.1 h) (hall _ ((hmem _).2 ⟨by omega, by omega, c2⟩))) (ih2 (i + 1) (by omega))
        exact scan l.length 0 (by omega)
      · rw [List.length_take] at c1
        rcases hqm with h | h
        · rw [show m.toNat = q by omega]
        · subst h
          have h0 : s = [] := List.eq_nil_of_length_eq_zero (by omega)
          rw [h0]; simp
    | succ d ih =>
      intro q hq hqm
      have hql : q < s.length := by omega
      have hsq : s[q] ∉ s.take q := fun h => by
        obtain ⟨a, ha, e⟩ := List.mem_iff_getElem.1 h
        rw [List.length_take] at ha
        rw [List.getElem_take] at e
        have := nodup_at hnd (by omega) hql e
        omega
      have hbq := (hmem s[q]).1 (List.getElem_mem hql)
      refine Tot.step (fun k => by rw [zw.l0]) (Tot.ite (fun c1 => ?_) (fun c1 => Tot.ret _ ?_))
      · rw [List.length_take] at c1
        have scan : ∀ e (i : Nat) (b : Int), i + e = l.length → ((b = -1 ∧ (i : Int) ≤ s[q]) ∨ (0 ≤ b ∧ b < (i : Int) ∧ b ∈ s ∧ b ∉ s.take q ∧ (s[q] < (i : Int) → kf l nx b ≤ kf l nx s[q]))) →
            Tot (fun k => zw.l1 k l nx now m (s.take q) b (i : Int)) (fun r => r = s.take m.toNat) := by
          intro e
          induction e with
          | zero =>
            intro i b hi hb
            rcases hb with ⟨_, hb⟩ | ⟨hb0, hbi, hbs, hbt, hbk⟩
            · omega
            · have hbk' := hbk (by omega)
              obtain ⟨a, ha, rfl⟩ := List.mem_iff_getElem.1 hbs
              have haq : ¬ a < q := fun h => hbt (List.mem_iff_getElem.2 ⟨a, by rw [List.length_take]; omega, by rw [List.getElem_take]⟩)
              have e2 : a = q := by
                apply Classical.byContradiction
                intro hne
                have := hp.2 q a (by omega) ha
                rw [zep s q hql, zep s a ha] at this
                omega
              subst e2
              refine Tot.step (fun k => by rw [zw.l1]) (Tot.no (by omega) (Tot.no (by omega) (Tot.yes (by rw [List.length_take]; omega) ?_)))
              rw [← List.take_succ_eq_append_getElem hql]
              exact ih (a + 1) (by omega) (Or.inl (by omega))
          | succ e ih2 =>
            intro i b hi hb
            have r1 := zgn hS (x := (i : Int)) (by omega) (by omega)
            refine Tot.step (fun k => by rw [zw.l1]) ?_
            refine Tot.yes (by omega) (Tot.yes (by omega) ?_)
            refine Tot.yes (by rw [hS.1]; omega) ?_
            refine Tot.zdy (zfl (tvt hI (by omega) (by omega)) r1.1 (by omega)) ?_
            rw [w64 (x := (i : Int) + 1) (by omega) (by omega)]
            have skip : (i : Int) ≠ s[q] → Tot (fun k => zw.l1 k l nx now m (s.take q) b ((i : Int) + 1)) (fun r => r = s.take m.toNat) := fun hne => by
              refine ih2 (i + 1) b (by omega) ?_
              rcases hb with ⟨h1, h2⟩ | ⟨h1, h2, h3, h4, h5⟩
              · left; exact ⟨h1, by omega⟩
              · right; exact ⟨h1, by omega, h3, h4, fun h => h5 (by omega)⟩
            refine Tot.ite (fun c2 => ?_) (fun c2 => skip (fun h => c2 (by rw [h]; exact hbq.2.2)))
            refine Tot.bind (l4_tot (s.take q) (i : Int) (by rw [List.length_take]; omega)) ?_
            intro r hr
            refine Tot.ite (fun c3 => ?_) (fun c3 => skip (fun h => c3 (hr.2 (by rw [h]; exact hsq))))
            have hi_s : (i : Int) ∈ s := (hmem _).2 ⟨by omega, by omega, c2⟩
            have hi_t := hr.1 c3
            refine Tot.ite (fun c4 => ?_) (fun c4 => ?_)
            · refine ih2 (i + 1) (i : Int) (by omega) (Or.inr ⟨by omega, by omega, hi_s, hi_t, fun h => ?_⟩)
              rcases hb with ⟨h1, h2⟩ | ⟨h1, _⟩
              · have : s[q] = (i : Int) := by omega
                rw [this]; exact Int.le_refl _
              · omega
            · rcases hb with ⟨h1, h2⟩ | ⟨h1, h2, h3, h4, h5⟩
              · omega
              · have hb' := (hmem b).1 h3
                have r2 := zgn hS hb'.1 hb'.2.1
                refine Tot.bind (before_tot ⟨by omega, by omega⟩ ⟨hb'.1, hb'.2.1⟩ hS.1 hl5 (tvt hI (by omega) (by omega)) (tvt hI hb'.1 hb'.2.1) r1.1 (by omega) r2.1 (by omega)) ?_
                rintro _ rfl
                refine Tot.ite (fun c5 => ?_) (fun c5 => ?_)
                · have c5 := of_decide_eq_true c5
                  refine ih2 (i + 1) (i : Int) (by omega) (Or.inr ⟨by omega, by omega, hi_s, hi_t, fun h => ?_⟩)
                  by_cases e3 : s[q] = (i : Int)
                  · rw [e3]; exact Int.le_refl _
                  · have := h5 (by omega); omega
                · have c5 : ¬ kf l nx (i : Int) < kf l nx b := fun h => c5 (decide_eq_true h)
                  refine ih2 (i + 1) b (by omega) (Or.inr ⟨h1, by omega, h3, h4, fun h => ?_⟩)
                  by_cases e3 : s[q] = (i : Int)
                  · rw [e3]; omega
                  · exact h5 (by omega)
        exact scan l.length 0 (-1) (by omega) (Or.inl ⟨rfl, by have := hbq.1; omega⟩)
      · rw [List.length_take] at c1
        rcases hqm with h | h
        · rw [show m.toNat = q by omega]
        · subst h
          rw [show m.toNat = 0 by omega]
  unfold zw.f row
  rw [hs]
  exact main s.length 0 (by omega) (Or.inr rfl)
end
end Go.Proofs.Ytnilnaabjpcfjaa.Fair
namespace Go.Proofs.Ytnilnaabjpcfjaa.Tm
open Go.RowKit Go.Proofs.Ytnilnaabjpcfjaa.P Go.Proofs.Ytnilnaabjpcfjaa.Base Go.Proofs.Ytnilnaabjpcfjaa.Gen Go.Proofs.Ytnilnaabjpcfjaa.Alive Go.Proofs.Ytnilnaabjpcfjaa.Set Go.Proofs.YtnilnaabjpcfjaaW.PrintWords Go.Proofs.YtnilnaabjpcfjaaW.PrintLast
def sm {α : Type} (f : α → Int) : List α → Int
  | [] => 0
  | a :: l => f a + sm f l
theorem zio {α : Type} (f g : α → Int) (l : List α) (h : ∀ a ∈ l, f a ≤ g a) : sm f l ≤ sm g l := by
  induction l with
  | nil => exact Int.le_refl _
  | cons a l ih =>
    have h1 := h a (List.mem_cons_self ..)
    have h2 := ih (fun x hx => h x (List.mem_cons_of_mem _ hx))
    rw [sm, sm]; omega
theorem zfq {α : Type} (f g : α → Int) (l : List α) (h : ∀ a ∈ l, f a = g a) : sm f l = sm g l := by
  induction l with
  | nil => rfl
  | cons a l ih => rw [sm, sm, h a (List.mem_cons_self ..), ih (fun x hx => h x (List.mem_cons_of_mem _ hx))]
theorem sm_add {α : Type} (f g : α → Int) (l : List α) : sm (fun a => f a + g a) l = sm f l + sm g l := by
  induction l with
  | nil => rfl
  | cons a l ih => rw [sm, sm, sm, ih]; omega
def hy (l : List Task) : Nat := l.foldl (fun h t => Nat.lcm h t.f2.toNat) 1
def AllV (l : List Task) : Prop := ∀ t ∈ l, TVt t
theorem _root_.Go.Proofs.Ytnilnaabjpcfjaa.Set.zem.all {l : List Task} (h : zem l) : AllV l := h.2
theorem AllV.take {l : List Task} (h : AllV l) (i : Nat) : AllV (l.take i) := fun t ht => h t (List.mem_of_mem_take ht)
def d1 (t : Int) (x : Task) : Int := if t ≥ x.f1 then ((t - x.f1) / x.f2 + 1) * x.f0 else 0
def dm (l : List Task) (t : Int) : Int := sm (d1 t) l
def Edf (l : List Task) : Prop := zem l ∧ ∀ t : Int, 1 ≤ t → t ≤ hy l → dm l t ≤ t
theorem rdT_at (l : List Task) (i : Nat) (h : i < l.length) : zb l (i : Int) = l[i] := by
  unfold zb
  rw [List.getD_eq_getElem?_getD, Int.toNat_natCast, List.getElem?_eq_getElem h]
  rfl
theorem stv_f (c d p : Int) : zcq.f c d p = some (decide (TV c d p)) := by
  unfold zcq.f
  rw [l1In_f, l1In_f, l1In_f, zhb, zhb]
  by_cases h1 : 1 ≤ c ∧ c ≤ 8
  · by_cases h2 : c ≤ d ∧ d ≤ p
    · rw [if_pos h1, if_pos h2]; simp only [Option.bind_some]; congr 1; rw [decide_eq_decide]; unfold TV; omega
    · rw [if_pos h1, if_neg h2]; congr 1; symm; rw [decide_eq_false_iff_not]; unfold TV; omega
  · rw [if_neg h1]; congr 1; symm; rw [decide_eq_false_iff_not]; unfold TV; omega
theorem sset_ev (l : List Task) (hl : l.length ≤ 2097152) : Ev (fun k => zbx.f k l) (decide (zem l)) := by
  have loop : ∀ d i, i + d = l.length → (∀ j (h : j < l.length), j < i → TVt l[j]) → Ev (fun k => zbx.l0 k l (i : Int)) (decide (zem l)) := by
    intro d
    induction d with
    | zero =>
      intro i hi hm
      have ha : ∀ t ∈ l, TVt t := by
        intro t ht
        obtain ⟨j, hj, rfl⟩ := List.mem_iff_getElem.1 ht
        exact hm j hj (by omega)
      refine Ev.step (f := fun _ => some (decide (zem l))) (fun k => ?_) (Ev.now _)
      simp only [zbx.l0]
      rw [if_neg (by omega)]
      congr 1
      rw [decide_eq_decide]
      unfold zem
      exact ⟨fun h => ⟨by omega, ha⟩, fun h => by omega⟩
    | succ d ih =>
      intro i hi hm
      have hil : i < l.length := by omega
      by_cases hv : TVt l[i]
      · refine Ev.step (fun k => ?_) (ih (i + 1) (by omega) (fun j hj hji => ?_))
        · have hv' : TV l[i].f0 l[i].f1 l[i].f2 := hv
          simp only [zbx.l0]
          rw [if_pos (by omega), if_pos (by omega), rdT_at l i hil, stv_f, decide_eq_true hv', w64 (by omega) (by omega)]
          rfl
        · by_cases e : j = i
          · subst e; exact hv
          · exact hm j hj (by omega)
      · rw [decide_eq_false (fun h => hv (h.2 _ (List.getElem_mem hil)))]
        have hv' : ¬ TV l[i].f0 l[i].f1 l[i].f2 := hv
        refine Ev.step (f := fun _ => some false) (fun k => ?_) (Ev.now _)
        simp only [zbx.l0]
        rw [if_pos (by omega), if_pos (by omega), rdT_at l i hil, stv_f, decide_eq_false hv']
        rfl
  exact loop l.length 0 (by omega) (fun j _ h => by omega)
end Go.Proofs.Ytnilnaabjpcfjaa.Tm
namespace Go.Proofs.Ytnilnaabjpcfjaa.Fair
open Go.RowKit Go.Proofs.Ytnilnaabjpcfjaa.P Go.Proofs.Ytnilnaabjpcfjaa.Base Go.Proofs.Ytnilnaabjpcfjaa.Gen Go.Proofs.Ytnilnaabjpcfjaa.Alive Go.Proofs.Ytnilnaabjpcfjaa.Win Go.Proofs.Ytnilnaabjpcfjaa.Set Go.Proofs.Ytnilnaabjpcfjaa.Isort Go.Proofs.YtnilnaabjpcfjaaW.PrintWords Go.Proofs.YtnilnaabjpcfjaaW.PrintLast
set_option linter.unusedVariables false
theorem zh3 (nx r : List Int) (i : Int) : fadv nx (r ++ [i]) = (fadv nx r).set i.toNat (wrap64 (rd (fadv nx r) i + 1)) := by
  unfold fadv; rw [List.foldl_append]; rfl
theorem fadv_rd (nx : List Int) (n : Nat) (hn : nx.length = n) (B : Int) (hB : B ≤ 1000000) (hb : ∀ i : Nat, i < n → 0 ≤ rd nx (i : Int) ∧ rd nx (i : Int) ≤ B) : ∀ d : Nat, ∀ r : List Int, r.length = d → (∀ x ∈ r, 0 ≤ x ∧ x < (n : Int)) → r.Nodup →
    ∀ i : Nat, i < n → rd (fadv nx r) (i : Int) = rd nx (i : Int) + (if (i : Int) ∈ r then 1 else 0) := by
  intro d
  induction d with
  | zero =>
    intro r hr _ _ i _
    obtain rfl := List.eq_nil_of_length_eq_zero hr
    simp [fadv]
  | succ d ih =>
    intro r hr hx hnd i hi
    have hne : r ≠ [] := fun h => by subst h; cases hr
    obtain ⟨r0, a, rfl⟩ : ∃ r0 a, r = r0 ++ [a] := ⟨r.dropLast, r.getLast hne, (List.dropLast_concat_getLast hne).symm⟩
    rw [List.length_append, List.length_singleton] at hr
    have hnd' := List.nodup_append.1 hnd
    have h1 := ih r0 (by omega) (fun x h => hx x (List.mem_append_left _ h)) hnd'.1
    obtain ⟨ha0, ha1⟩ := hx a (by simp)
    obtain ⟨A, rfl⟩ := Int.eq_ofNat_of_zero_le ha0
    have hA : A < n := by omega
    have har : ((A : Nat) : Int) ∉ r0 := fun h => hnd'.2.2 _ h _ (by simp) rfl
    rw [zh3, Int.toNat_natCast]
    have h2 := h1 A hA
    rw [if_neg har] at h2
    have h3 := hb A hA
    by_cases e : i = A
    · subst e
      rw [zgf _ _ _ (by rw [ze8]; omega), h2, w64 (by omega) (by omega)]
      simp
    · rw [zfa _ _ _ _ e, h1 i hi]
      have : ((i : Nat) : Int) ≠ (A : Int) := by omega
      simp [this]
def nxs (l : List Task) (m : Int) : Nat → List Int
  | 0 => List.replicate l.length 0
  | t + 1 => fadv (nxs l m t) (row l (nxs l m t) (t : Int) m)
def rowt (l : List Task) (m : Int) (t : Nat) : List Int := row l (nxs l m t) (t : Int) m
def rws (l : List Task) (m : Int) (n : Nat) : List (List Int) := (List.range n).map (rowt l m)
def FR (l : List Task) (m : Int) : List (List Int) := if Impl l ∧ 1 ≤ m ∧ m ≤ 5 then rws l m 120 else []
theorem rws_succ (l : List Task) (m : Int) (n : Nat) : rws l m (n + 1) = rws l m n ++ [rowt l m n] := by unfold rws; rw [List.range_succ, List.map_append]; rfl
theorem zhf (l : List Task) (m : Int) (n : Nat) : (rws l m n).length = n := by unfold rws; simp
theorem zero_rd (n : Nat) (i : Int) : rd (List.replicate n 0) i = 0 := by
  unfold rd
  rw [List.getD_eq_getElem?_getD, List.getElem?_replicate]
  split <;> rfl
section
variable {l : List Task} (hI : Impl l) (m : Int)
include hI in
theorem zhg {nx : List Int} {t : Nat} (hS : StOk l nx t) : (row l nx (t : Int) m).Nodup ∧ ∀ x ∈ row l nx (t : Int) m, 0 ≤ x ∧ x < (l.length : Int) ∧ wr (tk l x).f0 (tk l x).f2 (rd nx x) ≤ (t : Int) :=
  ⟨(zh2 hI hS (t : Int)).sublist (List.take_sublist _ _), fun x hx => (srt_mem hI hS (t : Int) x).1 (List.mem_of_mem_take hx)⟩
include hI in
theorem zgx : ∀ t : Nat, t ≤ 400000 → StOk l (nxs l m t) t
  | 0, _ => ⟨List.length_replicate, fun i _ => by rw [nxs, zero_rd]; omega⟩
  | t + 1, ht => by
    have h := zgx t (by omega)
    obtain ⟨h1, h2⟩ := zhg hI m h
    refine ⟨by rw [nxs, ze8]; exact h.1, fun i hi => ?_⟩
    have h3 := fadv_rd (nxs l m t) l.length h.1 (t : Int) (by omega) h.2 _ _ rfl (fun x hx => ⟨(h2 x hx).1, (h2 x hx).2.1⟩) h1 i hi
    have h4 := h.2 i hi
    rw [nxs, h3]
    split <;> omega
include hI in
theorem nxs_step {t : Nat} (ht : t ≤ 400000) {i : Nat} (hi : i < l.length) : rd (nxs l m (t + 1)) (i : Int) = rd (nxs l m t) (i : Int) + (if (i : Int) ∈ rowt l m t then 1 else 0) := by
  have h := zgx hI m t ht
  obtain ⟨h1, h2⟩ := zhg hI m h
  exact fadv_rd (nxs l m t) l.length h.1 (t : Int) (by omega) h.2 _ _ rfl (fun x hx => ⟨(h2 x hx).1, (h2 x hx).2.1⟩) h1 i hi
theorem set_fill {β : Type} (o : List β) (z v : β) (q : Nat) : (o ++ List.replicate (q + 1) z).set o.length v = (o ++ [v]) ++ List.replicate q z := by
  rw [List.set_append_right _ _ (Nat.le_refl _)]
  simp [List.replicate_succ]
include hI in
theorem run_l0 (hm : 0 ≤ m) : ∀ d now : Nat, now + d = 120 → ∃ K, ∀ k, K ≤ k → zbg.l0 k l m d now (nxs l m now) (rws l m now ++ List.replicate d []) = some (rws l m 120) := by
  intro d
  induction d with
  | zero =>
    intro now h
    obtain rfl : now = 120 := by omega
    exact ⟨0, fun k _ => by rw [zbg.l0]; simp⟩
  | succ d ih =>
    intro now h
    obtain ⟨K1, h1⟩ := row_ev hI (zgx hI m now (by omega)) (by omega) (now : Int) m hm
    obtain ⟨K2, h2⟩ := ih (now + 1) (by omega)
    refine ⟨max K1 K2, fun k hk => ?_⟩
    obtain ⟨h3, h4⟩ := h1 k (by omega)
    have h5 := h2 k (by omega)
    rw [zbg.l0, if_pos h3, h4]
    have e : (rws l m now ++ List.replicate (d + 1) []).set now (row l (nxs l m now) (now : Int) m) = rws l m (now + 1) ++ List.replicate d [] := by
      have := set_fill (rws l m now) [] (row l (nxs l m now) (now : Int) m) d
      rw [zhf] at this
      rw [this, rws_succ]; rfl
    rw [e]
    exact h5
end
theorem cores_f (a : Int) : zcu.f a = some (decide (1 ≤ a ∧ a ≤ 5)) := by
  unfold zcu.f
  rw [in_f]
  rfl
theorem run_tot (l : List Task) (m : Int) : Tot (fun k => zbg.f k l m) (fun r => r = FR l m) := by
  unfold zbg.f FR
  refine Tot.zdy (impl_f l) ?_
  by_cases hI : Impl l
  · refine Tot.yes (decide_eq_true hI) (Tot.zdy (cores_f m) ?_)
    by_cases hm : 1 ≤ m ∧ m ≤ 5
    · refine Tot.yes (decide_eq_true hm) (Tot.yes ⟨by have := hI.1.1; omega, fun t ht => by have := hI.1.2 t ht; unfold TVt TV at this; omega, by omega⟩ ?_)
      rw [if_pos ⟨hI, hm⟩]
      obtain ⟨K, hK⟩ := run_l0 hI m (by omega) 120 0 (by omega)
      exact ⟨_, ⟨K, hK⟩, rfl⟩
    · rw [if_neg (fun h => hm h.2)]
      exact Tot.no (fun h => hm (of_decide_eq_true h)) (Tot.ret _ rfl)
  · rw [if_neg (fun h => hI h.1)]
    exact Tot.no (fun h => hI (of_decide_eq_true h)) (Tot.ret _ rfl)
theorem srun_tot (l : List Task) (m : Int) (hl : l.length ≤ 2097152) : Tot (fun k => zq.f k l m) (fun r => r = FR l m) := by
  unfold zq.f
  refine Tot.zdy (a := ([] : List (List Int))) rfl ?_
  have out : ∀ b : Bool, (b = true → ¬ (zem l ∧ 1 ≤ m ∧ m ≤ 5)) → (b = false → zem l ∧ 1 ≤ m ∧ m ≤ 5) → Tot (fun k => zq.j0 k l m [] b) (fun r => r = FR l m) := by
    intro b hb1 hb2
    refine Tot.step (fun k => by rw [zq.j0]) (Tot.ite (fun h => Tot.ret _ ?_) (fun h => ?_))
    · unfold FR; rw [if_neg (fun h2 => hb1 h ⟨h2.1.1, h2.2⟩)]
    · obtain ⟨hs, hm⟩ := hb2 (by simpa using h)
      have loop : ∀ d i : Nat, i + d = l.length → (∀ j : Nat, j < i → (tk l (j : Int)).f1 = (tk l (j : Int)).f2) → Tot (fun k => zq.l0 k l m [] (i : Int)) (fun r => r = FR l m) := by
        intro d
        induction d with
        | zero =>
          intro i hi hall
          have hI : Impl l := ⟨hs, fun t ht => by
            obtain ⟨j, hj, rfl⟩ := List.mem_iff_getElem.1 ht
            have := hall j (by omega)
            unfold tk at this
            rw [show zb l (j : Int) = l[j] from rdOf_at _ l j hj] at this
            exact this⟩
          have hl5 := hs.1
          refine Tot.step (fun k => by rw [zq.l0]) ?_
          refine Tot.no (by omega) (Tot.yes (by omega) ?_)
          refine Tot.yes (by rw [Int.toNat_natCast]; omega) ?_
          rw [Int.toNat_natCast]
          have ticks : ∀ d now : Nat, now + d = 120 → Tot (fun k => zq.l1 k l m (rws l m now) (nxs l m now) (now : Int)) (fun r => r = FR l m) := by
            intro d
            induction d with
            | zero =>
              intro now hn
              obtain rfl : now = 120 := by omega
              refine Tot.step (fun k => by rw [zq.l1]) (Tot.no (by decide) (Tot.ret _ ?_))
              unfold FR; rw [if_pos ⟨hI, hm⟩]
            | succ d ih =>
              intro now hn
              have hS := zgx hI m now (by omega)
              refine Tot.step (fun k => by rw [zq.l1]) (Tot.yes (by omega) ?_)
              refine Tot.bind (fpick_tot hI hS (by omega) (now : Int) m) ?_
              rintro _ rfl
              obtain ⟨hr1, hr2⟩ := zhg hI m hS
              have adv : ∀ e j : Nat, j + e = (row l (nxs l m now) (now : Int) m).length → Tot (fun k => zq.l2 k l m (rws l m now) (fadv (nxs l m now) ((row l (nxs l m now) (now : Int) m).take j)) (now : Int) (row l (nxs l m now) (now : Int) m) (j : Int)) (fun r => r = FR l m) := by
                intro e
                induction e with
                | zero =>
                  intro j hj
                  refine Tot.step (fun k => by rw [zq.l2]) (Tot.no (by omega) ?_)
                  refine Tot.yes (by rw [zhf]; omega) ?_
                  rw [List.take_of_length_le (by omega), w64 (x := (now : Int) + 1) (by omega) (by omega)]
                  have := ih (now + 1) (by omega)
                  rw [rws_succ] at this
                  exact this
                | succ e ih2 =>
                  intro j hj
                  have hjl : j < (row l (nxs l m now) (now : Int) m).length := by omega
                  have hx := hr2 _ (List.getElem_mem hjl)
                  have hrl : (row l (nxs l m now) (now : Int) m).length ≤ 5 := by
                    have := zhe hI hS (now : Int)
                    unfold row
                    rw [List.length_take]; omega
                  refine Tot.step (fun k => by rw [zq.l2]) (Tot.yes (by omega) (Tot.yes (by omega) ?_))
                  rw [zep _ j hjl, w64 (x := (j : Int) + 1) (by omega) (by omega)]
                  refine Tot.yes hx.1 ?_
                  refine Tot.yes (by rw [ze8, hS.1]; exact hx.2.1) ?_
                  have := ih2 (j + 1) (by omega)
                  rw [List.take_succ_eq_append_getElem hjl, zh3] at this
                  exact this
              have := adv (row l (nxs l m now) (now : Int) m).length 0 (by omega)
              exact this
          exact ticks 120 0 (by omega)
        | succ d ih =>
          intro i hi hall
          refine Tot.step (fun k => by rw [zq.l0]) (Tot.yes (by omega) (Tot.yes (by omega) ?_))
          rw [w64 (x := (i : Int) + 1) (by omega) (by omega)]
          refine Tot.ite (fun h1 => ih (i + 1) (by omega) (fun j hj => ?_)) (fun h1 => Tot.ret _ ?_)
          · by_cases e : j = i
            · subst e; exact h1
            · exact hall j (by omega)
          · unfold FR
            rw [if_neg (fun h2 => h1 (h2.1.2 _ (tk_mem (by omega))))]
      exact loop l.length 0 (by omega) (fun j hj => by omega)
  refine Tot.bind (Tot.val (Tm.sset_ev l hl)) ?_
  rintro _ rfl
  by_cases hs : zem l
  · refine Tot.yes (decide_eq_true hs) (Tot.zdy (l1In_f _ _ _) ?_)
    refine out _ (fun h => fun h2 => ?_) (fun h => ?_)
    · simp only [Bool.not_eq_true', decide_eq_false_iff_not] at h
      exact h h2.2
    · simp only [Bool.not_eq_false', decide_eq_true_eq] at h
      exact ⟨hs, h⟩
  · exact Tot.no (fun h => hs (of_decide_eq_true h)) (out _ (fun _ h => hs h.1) (fun h => by cases h))
end Go.Proofs.Ytnilnaabjpcfjaa.Fair
namespace Go.Proofs.Ytnilnaabjpcfjaa.Fair
open Go.RowKit Go.Proofs.Ytnilnaabjpcfjaa.P Go.Proofs.Ytnilnaabjpcfjaa.Base Go.Proofs.Ytnilnaabjpcfjaa.Gen Go.Proofs.Ytnilnaabjpcfjaa.Alive Go.Proofs.Ytnilnaabjpcfjaa.Set Go.Proofs.Ytnilnaabjpcfjaa.Tm Go.Proofs.YtnilnaabjpcfjaaW.PrintWords Go.Proofs.YtnilnaabjpcfjaaW.PrintLast
set_option linter.unusedVariables false
noncomputable instance (l : List Task) : Decidable (Edf l) := Classical.propDecidable _
end Go.Proofs.Ytnilnaabjpcfjaa.Fair
namespace Go.Proofs.Ytnilnaabjpcfjaa.Pb
open Go.RowKit Go.Proofs.Ytnilnaabjpcfjaa.P Go.Proofs.Ytnilnaabjpcfjaa.Gen Go.Proofs.Ytnilnaabjpcfjaa.Base Go.Proofs.YtnilnaabjpcfjaaW.PrintWords Go.Proofs.YtnilnaabjpcfjaaW.PrintLast
def Bytes (s : List Int) : Prop := s.length ≤ 2000 ∧ ∀ x ∈ s, 0 ≤ x ∧ x ≤ 255
theorem Bytes.rd {s : List Int} (h : Bytes s) (i : Int) : 0 ≤ rd s i ∧ rd s i ≤ 255 := by
  unfold Go.Proofs.YtnilnaabjpcfjaaW.PrintWords.rd
  rw [List.getD_eq_getElem?_getD]
  rcases Nat.lt_or_ge i.toNat s.length with hi | hi
  · rw [List.getElem?_eq_getElem hi]
    exact h.2 _ (List.getElem_mem hi)
  · rw [List.getElem?_eq_none hi]
    simp
def At (p q : Int) (c : Int) : Prop := p ≤ q ∧ q ≤ p + c
end Go.Proofs.Ytnilnaabjpcfjaa.Pb
namespace Go.Proofs.Ytnilnaabjpcfjaa.DrSet
open Go.RowKit Go.Proofs.Ytnilnaabjpcfjaa.P Go.Proofs.Ytnilnaabjpcfjaa.Base Go.Proofs.Ytnilnaabjpcfjaa.Gen Go.Proofs.Ytnilnaabjpcfjaa.Pb Go.Proofs.YtnilnaabjpcfjaaW.PrintWords Go.Proofs.YtnilnaabjpcfjaaW.PrintLast
abbrev Task := S35
end Go.Proofs.Ytnilnaabjpcfjaa.DrSet
namespace Go.Proofs.Ytnilnaabjpcfjaa.Fair
open Go.RowKit Go.Proofs.Ytnilnaabjpcfjaa.P Go.Proofs.Ytnilnaabjpcfjaa.Base Go.Proofs.Ytnilnaabjpcfjaa.Gen Go.Proofs.Ytnilnaabjpcfjaa.Alive Go.Proofs.Ytnilnaabjpcfjaa.Win Go.Proofs.Ytnilnaabjpcfjaa.Set Go.Proofs.Ytnilnaabjpcfjaa.Isort Go.Proofs.Ytnilnaabjpcfjaa.Pb Go.Proofs.YtnilnaabjpcfjaaW.PrintWords Go.Proofs.YtnilnaabjpcfjaaW.PrintLast
set_option linter.unusedVariables false
set_option linter.unusedSectionVars false
theorem FR_yes {l : List Task} {m : Int} (h : Impl l ∧ 1 ≤ m ∧ m ≤ 5) : FR l m = rws l m 120 := by unfold FR; rw [if_pos h]
theorem FR_no {l : List Task} {m : Int} (h : ¬ (Impl l ∧ 1 ≤ m ∧ m ≤ 5)) : FR l m = [] := by unfold FR; rw [if_neg h]
theorem rws_at (l : List Task) (m : Int) {t : Nat} (ht : t < 120) : zc5 (rws l m 120) (t : Int) = rowt l m t := by
  unfold zc5
  rw [List.getD_eq_getElem?_getD, Int.toNat_natCast]
  unfold rws
  rw [List.getElem?_map, List.getElem?_range ht]; rfl
theorem FR_at {l : List Task} {m : Int} {i : Nat} (h : i < (FR l m).length) : (zc5 (FR l m) (i : Int)).length ≤ 5 := by
  by_cases hI : Impl l ∧ 1 ≤ m ∧ m ≤ 5
  · rw [FR_yes hI] at h ⊢
    rw [zhf] at h
    rw [rws_at l m h]
    have := zhe hI.1 (zgx hI.1 m i (by omega)) (i : Int)
    unfold rowt row
    rw [List.length_take]; omega
  · rw [FR_no hI] at h
    simp at h
theorem FR_len (l : List Task) (m : Int) : (FR l m).length ≤ 120 := by
  unfold FR
  split
  · rw [zhf]; exact Nat.le_refl _
  · simp
section
variable {l : List Task} (hI : Impl l) {m : Int}
include hI
theorem rowt_ok {t : Nat} (ht : t ≤ 400000) : (rowt l m t).Nodup ∧ (rowt l m t).length ≤ 5 ∧ ∀ x ∈ rowt l m t, 0 ≤ x ∧ x < (l.length : Int) ∧ wr (tk l x).f0 (tk l x).f2 (rd (nxs l m t) x) ≤ (t : Int) := by
  have hS := zgx hI m t ht
  have h := zhg hI m hS
  refine ⟨h.1, ?_, h.2⟩
  have := zhe hI hS (t : Int)
  unfold rowt row
  rw [List.length_take]; omega
theorem released : ∀ t : Nat, t ≤ 400000 → ∀ i : Nat, i < l.length → rd (nxs l m t) (i : Int) = 0 ∨ wr (cs l i) (ps l i) (rd (nxs l m t) (i : Int) - 1) < (t : Int)
  | 0, _, i, _ => Or.inl (by rw [nxs, zero_rd])
  | t + 1, ht, i, hi => by
    have ih := released t (by omega) i hi
    have h1 := nxs_step hI m (t := t) (by omega) hi
    rw [h1]
    by_cases h : (i : Int) ∈ rowt l m t
    · rw [if_pos h]
      right
      have h2 := ((rowt_ok hI (m := m) (t := t) (by omega)).2.2 _ h).2.2
      rw [show rd (nxs l m t) (i : Int) + 1 - 1 = rd (nxs l m t) (i : Int) by omega]
      show wr (tk l (i : Int)).f0 (tk l (i : Int)).f2 (rd (nxs l m t) (i : Int)) < _
      omega
    · rw [if_neg h, Int.add_zero]
      rcases ih with h2 | h2
      · left; exact h2
      · right; omega
end
end Go.Proofs.Ytnilnaabjpcfjaa.Fair
namespace Go.Proofs.Ytnilnaabjpcfjaa.CopyTask
open Go.RowKit Go.Proofs.Ytnilnaabjpcfjaa.P Go.Proofs.Ytnilnaabjpcfjaa.Base Go.Proofs.Ytnilnaabjpcfjaa.Gen Go.Proofs.Ytnilnaabjpcfjaa.Set Go.Proofs.YtnilnaabjpcfjaaW.PrintWords Go.Proofs.YtnilnaabjpcfjaaW.PrintLast
abbrev LTask := S65
def cv (x : LTask) : Task := ⟨x.f0, x.f1, x.f2⟩
theorem rdB_at (l : List LTask) (i : Nat) (h : i < l.length) : zd1 l (i : Int) = l[i] := by
  unfold zd1
  rw [List.getD_eq_getElem?_getD, Int.toNat_natCast, List.getElem?_eq_getElem h]
  rfl
theorem zea (l : List LTask) (hl : l.length ≤ 1048576) : Tot (fun k => zbb.f k l) (fun r => r = l.map cv) := by
  have h := Tot.copy (fun k acc i => zbb.l0 k l acc i) (l.map cv) z35 (fun k acc i h ha => by
    have hi : i < l.length := by simpa using h
    have ha' : acc.length = l.length := by simpa using ha
    simp only [zbb.l0, zdw.f, Option.bind_some]
    rw [if_pos (by omega), if_pos (by omega), if_pos (by omega), rdB_at _ _ hi, w64 (by omega) (by omega), Int.toNat_natCast, List.getElem_map]
    rfl) (fun k acc ha => by
    simp only [zbb.l0]
    rw [if_neg (by simp)])
  refine Tot.congr (fun k => ?_) h
  unfold zbb.f
  rw [if_pos (by omega), if_pos (by omega), Int.toNat_natCast, List.length_map]
theorem zix (l : List Task) (hl : l.length ≤ 1048576) : Tot (fun k => zbh.f k l l) (fun r => r = true) := by
  have h := Tot.look (r := true) (fun k i => zbh.l0 k l l i) l.length (fun k i h => by
    simp only [zbh.l0, zde.f, if_true, Option.bind_some]
    rw [if_pos (by omega), if_pos (by omega), if_pos (by omega), w64 (by omega) (by omega)]) (fun k => by
    simp only [zbh.l0]
    rw [if_neg (by omega)])
  refine Tot.congr (fun k => ?_) h
  unfold zbh.f
  rw [if_pos rfl]
theorem szTaskS_f (l : List LTask) (hl : l.length ≤ maxLen) : ∃ r, zck.f l 1048576 = some r ∧ (r < 0 ∨ l.length ≤ 1048576) := by
  have hm : maxLen ≤ 9223372036854775807 := by decide
  unfold zck.f
  rw [w64 (by omega) (by omega)]
  by_cases h : (1048576 : Int) - (l.length : Int) < 0
  · rw [if_pos h]; exact ⟨_, rfl, Or.inl (by decide)⟩
  · rw [if_neg h]; exact ⟨_, rfl, Or.inr (by omega)⟩
end Go.Proofs.Ytnilnaabjpcfjaa.CopyTask
namespace Go.Proofs.Ytnilnaabjpcfjaa.Mark
open Go.RowKit Go.Proofs.Ytnilnaabjpcfjaa.P Go.Proofs.Ytnilnaabjpcfjaa.Base Go.Proofs.Ytnilnaabjpcfjaa.Gen Go.Proofs.YtnilnaabjpcfjaaW.PrintWords Go.Proofs.YtnilnaabjpcfjaaW.PrintLast
def marks (a : Int) (n : Nat) : List Int := (List.range n).map (fun i : Nat => a + (i : Int))
theorem zfc (a : Int) (n : Nat) : (marks a n).length = n := by unfold marks; simp
theorem zh4 (a : Int) (n i : Nat) (h : i < (marks a n).length) : (marks a n)[i] = a + (i : Int) := by simp only [marks, List.getElem_map, List.getElem_range]
theorem zh5 (l : List Int) (a : Int) (hl : l.length ≤ 2097152) (h0 : 0 ≤ a) (h1 : a ≤ 4294967296) : Tot (fun k => zbz.f k l a) (fun r => r = (a + l.length, marks a l.length)) := by
  have key : ∀ d (i : Nat) (acc : List Int), i + d = l.length → acc.length = l.length → acc.take i = (marks a l.length).take i → Tot (fun k => zbz.l0 k acc (a + i) (i : Int)) (fun r => r = (a + l.length, marks a l.length)) := by
    intro d
    induction d with
    | zero =>
      intro i acc hi hac ht
      obtain rfl : i = l.length := by omega
      refine Tot.step (f := fun _ => some (a + (l.length : Int), acc)) (fun k => ?_) (Tot.ret _ ?_)
      · simp only [zbz.l0]
        rw [if_neg (by omega)]
      · rw [List.take_of_length_le (by omega), List.take_of_length_le (by rw [zfc]; omega)] at ht
        rw [ht]
    | succ d ih =>
      intro i acc hi hac ht
      have hm : i < (marks a l.length).length := by rw [zfc]; omega
      have hf := zge acc (marks a l.length) i (by rw [zfc]; exact hac) ht hm
      rw [zh4] at hf
      refine Tot.step (fun k => ?_) (ih (i + 1) (acc.set i (a + (i : Int))) (by omega) (by simpa using hac) hf)
      simp only [zbz.l0]
      rw [if_pos (by omega), if_pos (by omega), w64 (x := a + i + 1) (by omega) (by omega), w64 (x := (i : Int) + 1) (by omega) (by omega), Int.toNat_natCast]
      rw [show a + (i : Int) + 1 = a + ((i + 1 : Nat) : Int) by omega]
      rfl
  have h := key l.length 0 l (by omega) rfl rfl
  refine Tot.congr (fun k => ?_) h
  unfold zbz.f
  simp
theorem zh6 (a : Int) (n : Nat) (hl : n ≤ 2097152) (h0 : 0 ≤ a) (h1 : a ≤ 4294967296) : Tot (fun k => zb5.f k (marks a n) a) (fun r => r = a + n) := by
  have key : ∀ d (i : Nat), i + d = n → Tot (fun k => zb5.l0 k (marks a n) (a + i) (i : Int)) (fun r => r = a + n) := by
    have hlen := zfc a n
    intro d
    induction d with
    | zero =>
      intro i hi
      refine Tot.step (f := fun _ => some (a + (i : Int))) (fun k => ?_) (Tot.ret _ (by omega))
      simp only [zb5.l0]
      rw [if_neg (by omega)]
    | succ d ih =>
      intro i hi
      refine Tot.step (fun k => ?_) (ih (i + 1) (by omega))
      simp only [zb5.l0]
      rw [if_pos (by omega), if_pos (by omega), zep _ _ (by omega), zh4, if_pos rfl, w64 (x := a + i + 1) (by omega) (by omega), w64 (x := (i : Int) + 1) (by omega) (by omega)]
      rw [show a + (i : Int) + 1 = a + ((i + 1 : Nat) : Int) by omega]
      rfl
  have h := key n 0 (by omega)
  refine Tot.congr (fun k => ?_) h
  unfold zb5.f
  simp
end Go.Proofs.Ytnilnaabjpcfjaa.Mark
namespace Go.Proofs.Ytnilnaabjpcfjaa.MarkSS
open Go.RowKit Go.Proofs.Ytnilnaabjpcfjaa.P Go.Proofs.Ytnilnaabjpcfjaa.Base Go.Proofs.Ytnilnaabjpcfjaa.Gen Go.Proofs.Ytnilnaabjpcfjaa.Mark Go.Proofs.YtnilnaabjpcfjaaW.PrintWords Go.Proofs.YtnilnaabjpcfjaaW.PrintLast
def mk (a : Int) : List (List Int) → List (List Int)
  | [] => []
  | r :: rs => marks a r.length :: mk (a + r.length) rs
def tl : List (List Int) → Nat
  | [] => 0
  | r :: rs => r.length + tl rs
theorem zh7 : ∀ (l : List (List Int)) (a : Int), (mk a l).length = l.length
  | [], _ => rfl
  | r :: rs, a => by rw [mk, List.length_cons, List.length_cons, zh7 rs]
theorem mk_get : ∀ (l : List (List Int)) (a : Int) (i : Nat) (h : i < l.length), (mk a l)[i]? = some (marks (a + (tl (l.take i) : Int)) l[i].length)
  | [], _, i, h => by simp at h
  | r :: rs, a, 0, _ => by simp [mk, tl]
  | r :: rs, a, i + 1, h => by
    have hi : i < rs.length := by rw [List.length_cons] at h; omega
    have := mk_get rs (a + r.length) i hi
    rw [mk, List.getElem?_cons_succ, this, List.take_succ_cons, tl, List.getElem_cons_succ]
    congr 2
    omega
theorem zhh : ∀ (l : List (List Int)) (i : Nat) (h : i < l.length), tl (l.take (i + 1)) = tl (l.take i) + l[i].length
  | [], i, h => by simp at h
  | r :: rs, 0, _ => by simp [tl]
  | r :: rs, i + 1, h => by
    have hi : i < rs.length := by rw [List.length_cons] at h; omega
    have := zhh rs i hi
    rw [List.take_succ_cons, tl, this, List.take_succ_cons, tl, List.getElem_cons_succ]
    omega
theorem tl_le (l : List (List Int)) (h : ∀ x ∈ l, x.length ≤ 1000) : ∀ i, i ≤ l.length → tl (l.take i) ≤ 1000 * i := by
  intro i
  induction i with
  | zero => intro _; simp [tl]
  | succ i ih =>
    intro hi
    rw [zhh l i (by omega)]
    have := h l[i] (List.getElem_mem (by omega))
    have := ih (by omega)
    omega
section
variable (l : List (List Int)) (hl : l.length ≤ 1000) (hr : ∀ x ∈ l, x.length ≤ 1000)
include hl hr
theorem mark_tot : Tot (fun k => zbs.f k l 1) (fun r => r = (1 + (tl l : Int), mk 1 l)) := by
  have key : ∀ d (i : Nat) (acc : List (List Int)), i + d = l.length → acc.length = l.length → acc.take i = (mk 1 l).take i → (∀ j, i ≤ j → acc[j]? = l[j]?) → Tot (fun k => zbs.l0 k acc (1 + (tl (l.take i) : Int)) (i : Int)) (fun r => r = (1 + (tl l : Int), mk 1 l)) := by
    intro d
    induction d with
    | zero =>
      intro i acc hi hac ht _
      obtain rfl : i = l.length := by omega
      refine Tot.step (f := fun _ => some (1 + (tl (l.take l.length) : Int), acc)) (fun k => ?_) (Tot.ret _ ?_)
      · simp only [zbs.l0]
        rw [if_neg (by omega)]
      · rw [List.take_of_length_le (by omega), List.take_of_length_le (by rw [zh7]; omega)] at ht
        rw [ht, List.take_length]
    | succ d ih =>
      intro i acc hi hac ht hd
      have hil : i < l.length := by omega
      have hm : i < (mk 1 l).length := by rw [zh7]; omega
      have hg := mk_get l 1 i hil
      have hgm : (mk 1 l)[i] = marks (1 + (tl (l.take i) : Int)) l[i].length := Option.some.inj ((List.getElem?_eq_getElem hm).symm.trans hg)
      have hf := zge acc (mk 1 l) i (by rw [zh7]; exact hac) ht hm
      rw [hgm] at hf
      have hb := tl_le l hr i (by omega)
      have hrow : acc.getD i [] = l[i] := by rw [List.getD_eq_getElem?_getD, hd i (Nat.le_refl _), List.getElem?_eq_getElem hil]; rfl
      have hlr := hr l[i] (List.getElem_mem hil)
      refine Tot.step (f := fun k => (zbz.f k l[i] (1 + (tl (l.take i) : Int))).bind fun p => zbs.l0 k (acc.set i p.2) p.1 (((i + 1 : Nat) : Int))) (fun k => ?_) ?_
      · simp only [zbs.l0]
        rw [if_pos (by omega), if_pos (by omega), Int.toNat_natCast, hrow, w64 (x := (i : Int) + 1) (by omega) (by omega)]
        rfl
      refine Tot.bind (zh5 l[i] _ (by omega) (by omega) (by omega)) ?_
      rintro _ rfl
      have := ih (i + 1) (acc.set i (marks (1 + (tl (l.take i) : Int)) l[i].length)) (by omega) (by simpa using hac) hf (fun j hj => by rw [List.getElem?_set_ne (by omega)]; exact hd j (by omega))
      rw [zhh l i hil] at this
      simp only
      rw [show (1 : Int) + ((tl (l.take i) + l[i].length : Nat) : Int) = 1 + (tl (l.take i) : Int) + (l[i].length : Int) by omega] at this
      exact this
  have h := key l.length 0 l (by omega) rfl rfl (fun _ _ => rfl)
  unfold zbs.f
  simpa [tl] using h
theorem held_tot : Tot (fun k => zbf.f k (mk 1 l) 1) (fun r => r = 1 + (tl l : Int)) := by
  have hml := zh7 l 1
  have key : ∀ d (i : Nat), i + d = l.length → Tot (fun k => zbf.l0 k (mk 1 l) (1 + (tl (l.take i) : Int)) (i : Int)) (fun r => r = 1 + (tl l : Int)) := by
    intro d
    induction d with
    | zero =>
      intro i hi
      obtain rfl : i = l.length := by omega
      refine Tot.step (f := fun _ => some (1 + (tl (l.take l.length) : Int))) (fun k => ?_) (Tot.ret _ (by rw [List.take_length]))
      simp only [zbf.l0]
      rw [if_neg (by omega)]
    | succ d ih =>
      intro i hi
      have hil : i < l.length := by omega
      have hg := mk_get l 1 i hil
      have hb := tl_le l hr i (by omega)
      have hlr := hr l[i] (List.getElem_mem hil)
      have hrow : zc5 (mk 1 l) (i : Int) = marks (1 + (tl (l.take i) : Int)) l[i].length := by
        unfold zc5
        rw [List.getD_eq_getElem?_getD, Int.toNat_natCast, hg]
        rfl
      refine Tot.step (fun k => by rw [zbf.l0]) (Tot.yes (by omega) (Tot.yes (by omega) ?_))
      rw [hrow]
      refine Tot.bind (zh6 _ _ (by omega) (by omega) (by omega)) ?_
      rintro _ rfl
      refine Tot.no (by omega) ?_
      have := ih (i + 1) (by omega)
      rw [zhh l i hil, show (1 : Int) + ((tl (l.take i) + l[i].length : Nat) : Int) = 1 + (tl (l.take i) : Int) + (l[i].length : Int) by omega] at this
      rw [w64 (x := (i : Int) + 1) (by omega) (by omega)]
      exact this
  have h := key l.length 0 (by omega)
  unfold zbf.f
  simpa [tl] using h
theorem zhi : Tot (fun k => zbc.f k l l) (fun r => r = true) := by
  have ints : ∀ x : List Int, x.length ≤ 1000 → Tot (fun k => zb7.f k x x) (fun r => r = true) := by
    intro x hx
    have loop : ∀ d i : Nat, i + d = x.length → Tot (fun k => zb7.l0 k x x (i : Int)) (fun r => r = true) := by
      intro d
      induction d with
      | zero => intro i hi; exact Tot.step (fun k => by rw [zb7.l0]) (Tot.no (by omega) (Tot.ret _ rfl))
      | succ d ih =>
        intro i hi
        refine Tot.step (fun k => by rw [zb7.l0]) (Tot.yes (by omega) (Tot.yes (by omega) (Tot.yes (by omega) (Tot.yes rfl ?_))))
        rw [w64 (by omega) (by omega)]
        exact ih (i + 1) (by omega)
    unfold zb7.f
    exact Tot.yes rfl (loop x.length 0 (by omega))
  have loop : ∀ d i : Nat, i + d = l.length → Tot (fun k => zbc.l0 k l l (i : Int)) (fun r => r = true) := by
    intro d
    induction d with
    | zero => intro i hi; exact Tot.step (fun k => by rw [zbc.l0]) (Tot.no (by omega) (Tot.ret _ rfl))
    | succ d ih =>
      intro i hi
      have hil : i < l.length := by omega
      have hrow : zc5 l (i : Int) = l[i] := by
        unfold zc5
        rw [List.getD_eq_getElem?_getD, Int.toNat_natCast, List.getElem?_eq_getElem hil]
        rfl
      refine Tot.step (fun k => by rw [zbc.l0]) (Tot.yes (by omega) (Tot.yes (by omega) (Tot.yes (by omega) ?_)))
      rw [hrow]
      refine Tot.bind (ints _ (hr _ (List.getElem_mem hil))) ?_
      rintro _ rfl
      refine Tot.yes rfl ?_
      rw [w64 (by omega) (by omega)]
      exact ih (i + 1) (by omega)
  unfold zbc.f
  exact Tot.yes rfl (loop l.length 0 (by omega))
end
end Go.Proofs.Ytnilnaabjpcfjaa.MarkSS
namespace Go.Proofs.Ytnilnaabjpcfjaa.Pure
open Go.RowKit Go.Proofs.Ytnilnaabjpcfjaa.P Go.Proofs.Ytnilnaabjpcfjaa.Base Go.Proofs.Ytnilnaabjpcfjaa.Gen Go.Proofs.YtnilnaabjpcfjaaW.PrintWords Go.Proofs.YtnilnaabjpcfjaaW.PrintLast
open Go.Proofs.Ytnilnaabjpcfjaa.Set Go.Proofs.Ytnilnaabjpcfjaa.Fair Go.Proofs.Ytnilnaabjpcfjaa.CopyTask Go.Proofs.Ytnilnaabjpcfjaa.MarkSS
theorem zhj (l : List Task) (a : Int) (hl : l.length ≤ 1048576) (h0 : 0 ≤ a) (h1 : a ≤ 1000000000) : Tot (fun k => zbj.f k l a) (fun r => r.1 = a + 3 * l.length) := by
  have key : ∀ d (i : Nat) (acc : List Task) (b : Int), i + d = l.length → acc.length = l.length → b = a + 3 * i → Tot (fun k => zbj.l0 k acc b (i : Int)) (fun r => r.1 = a + 3 * l.length) := by
    intro d
    induction d with
    | zero =>
      intro i acc b hi hac hb
      exact Tot.step (fun k => by rw [zbj.l0]) (Tot.no (by omega) (Tot.ret _ (by simp only; omega)))
    | succ d ih =>
      intro i acc b hi hac hb
      refine Tot.step (fun k => by rw [zbj.l0]) (Tot.yes (by omega) (Tot.yes (by omega) ?_))
      simp only [Option.bind_some]
      rw [w64 (x := b + 1) (by omega) (by omega), w64 (x := b + 1 + 1) (by omega) (by omega), w64 (x := b + 1 + 1 + 1) (by omega) (by omega), w64 (x := (i : Int) + 1) (by omega) (by omega)]
      exact ih (i + 1) _ _ (by omega) (by simp only [List.length_set]; exact hac) (by omega)
  exact key l.length 0 l a (by omega) rfl (by omega)
theorem FnExactRunFair : laws_FnExactRunFair.Pure := by
  intro A m _ hA _
  apply Tot.rounds
  unfold laws_FnExactRunFair.f
  obtain ⟨t, ht, hr⟩ := szTaskS_f A hA.1
  refine Tot.zdy ht (Tot.ite (fun _ => Tot.ret _ rfl) (fun h0 => ?_))
  have hA2 := hr.resolve_left h0
  have hAm : (A.map cv).length = A.length := List.length_map _
  refine Tot.bind (zea A hA2) ?_
  rintro _ rfl
  refine Tot.bind (srun_tot (A.map cv) m (by omega)) ?_
  intro R1 e1
  have hlen := FR_len (A.map cv) m
  have hrow : ∀ x ∈ FR (A.map cv) m, x.length ≤ 1000 := fun x hx => by
    obtain ⟨i, hi, rfl⟩ := List.mem_iff_getElem.1 hx
    have h5 := FR_at (l := A.map cv) (m := m) (i := i) hi
    have e : zc5 (FR (A.map cv) m) (i : Int) = (FR (A.map cv) m)[i] := by
      unfold zc5
      rw [List.getD_eq_getElem?_getD, Int.toNat_natCast, List.getElem?_eq_getElem hi]
      rfl
    rw [e] at h5
    omega
  have hv : Tot (fun k => zbg.f k (A.map cv) m) (fun r => r = R1) := by rw [e1]; exact run_tot (A.map cv) m
  rw [← e1] at hlen hrow
  clear e1
  refine Tot.bind (zea A hA2) ?_
  rintro _ rfl
  refine Tot.bind hv ?_
  intro R2 e2
  subst e2
  refine Tot.bind (zhi _ (by omega) hrow) ?_
  rintro _ rfl
  refine Tot.yes rfl (Tot.bind (zea A hA2) ?_)
  rintro _ rfl
  refine Tot.bind (zix _ (by omega)) ?_
  rintro _ rfl
  refine Tot.yes rfl (Tot.bind (zhj _ 1 (by omega) (by omega) (by omega)) ?_)
  rintro ⟨k1, _⟩ hk1
  simp only at hk1 ⊢
  refine Tot.no (by omega) (Tot.bind (zhi _ (by omega) hrow) ?_)
  rintro _ rfl
  refine Tot.step (fun k => by rw [laws_FnExactRunFair.j0]) (Tot.no (by simp) ?_)
  refine Tot.bind (mark_tot _ (by omega) hrow) ?_
  rintro _ rfl
  simp only
  refine Tot.bind (held_tot _ (by omega) hrow) ?_
  rintro _ rfl
  refine Tot.no (by omega) (Tot.yes rfl (Tot.bind (zea A hA2) ?_))
  rintro _ rfl
  refine Tot.bind hv ?_
  intro R3 e3
  subst e3
  refine Tot.bind (zhi _ (by omega) hrow) ?_
  rintro _ rfl
  refine Tot.yes rfl (Tot.bind (held_tot _ (by omega) hrow) ?_)
  rintro _ rfl
  exact Tot.no (by omega) (Tot.yes rfl (Tot.ret _ rfl))
end Go.Proofs.Ytnilnaabjpcfjaa.Pure
namespace Go.Proofs.Ytnilnaabjpcfjaa.Opn
open Go.ChangeShapes Go.WideShapes Go.Deep Go.RowKit Go.Proofs.YtnilnaabjpcfjaaW.PrintWords
section
variable {H : Type} {enc : TypeId × Value → H} {P : Program} {W : World} {base : Nat} {spare : Nat → Bool} {held : Bool}
def Opens {α : Type} (enc : TypeId × Value → H) (P : Program) (W : World) (base : Nat) (spare : Nat → Bool) (held : Bool) (t : TypeId) (d : Kd α) (G : α → Prop) : Prop :=
  ∀ (fuel : Nat) (cs : List Value) (x : DataW H × List MemPlace), DataW.trod enc P W base spare held fuel t cs = some x → ∃ a, d.K W a cs ∧ G a
theorem list_of {α : Type} (m : Nat) (R : Nat → α → Prop) (h : ∀ i, i < m → ∃ a, R i a) : ∃ xs : List α, xs.length = m ∧ ∀ i a, xs[i]? = some a → R i a := by
  induction m with
  | zero => exact ⟨[], rfl, fun i a ha => by simp at ha⟩
  | succ m ih =>
    obtain ⟨xs, hl, hx⟩ := ih (fun i hi => h i (by omega))
    obtain ⟨a, ha⟩ := h m (by omega)
    refine ⟨xs ++ [a], by simp [hl], fun i b hb => ?_⟩
    rcases Nat.lt_or_ge i m with hi | hi
    · rw [List.getElem?_append_left (by omega)] at hb
      exact hx i b hb
    · have hi' : i = m := by
        have := (List.getElem?_eq_some_iff.1 hb).1
        simp at this
        omega
      subst hi'
      have : a = b := by simpa [hl] using hb
      subst this
      exact ha
theorem slice_row {α : Type} {t e : TypeId} {d : Kd α} {G : α → Prop} (hu : P.underlying t = some (.slice e)) (hC : P.cellsOf e = d.sz) (he : Opens enc P W base spare held e d G)
    {fuel : Nat} {A : Option Addr} {n cap : Nat} {x : DataW H × List MemPlace} (h : DataW.trod enc P W base spare held fuel t [.slice A n cap] = some x) :
    ∃ xs : List α, xs.length = n ∧ n ≤ cap ∧ n ≤ maxLen ∧ d.C W A xs.length xs ∧ ∀ y ∈ xs, G y := by
  rcases open_slice hu h with ⟨h0, _⟩ | ⟨a, len, c, m, k, D, Pl, hcs, _, hl, hm, hmm, _, hel⟩
  · simp only [List.cons.injEq, Value.slice.injEq, and_true] at h0
    obtain ⟨rfl, rfl, rfl⟩ := h0
    exact ⟨[], rfl, Nat.le_refl _, by simp [maxLen], Kd.C_nil d W, fun y hy => by simp at hy⟩
  · simp only [List.cons.injEq, Value.slice.injEq, and_true] at hcs
    obtain ⟨rfl, rfl, rfl⟩ := hcs
    have hle : n ≤ m := by rw [hmm]; split <;> omega
    obtain ⟨xs, hxl, hx⟩ := list_of (α := α) n (fun i y => G y ∧ ∃ cs', d.K W y cs' ∧ cs'.length = d.sz ∧ ∀ j, j < d.sz → W.cell? ((a.add (i * d.sz)).add j) = cs'[j]?) (by
      intro i hi
      obtain ⟨cs', hc, ht⟩ := hel i (by omega)
      obtain ⟨y, hK, hG⟩ := he _ _ _ ht
      rw [hC] at hc
      obtain ⟨_, hcl, hcc⟩ := World.cells?_some hc
      exact ⟨y, hG, cs', hK, hcl, hcc⟩)
    refine ⟨xs, hxl, hl, by omega, ⟨rfl, by simp only [maxLen] at hm; omega, fun hp => ⟨a, rfl, fun j p hj => ?_⟩⟩, fun y hy => ?_⟩
    · obtain ⟨_, cs', hK, hcl, hcc⟩ := hx j p hj
      refine ⟨cs', hcl, hK, fun i u hi => ?_⟩
      have hlt : i < d.sz := by
        have := (List.getElem?_eq_some_iff.1 hi).1
        omega
      rw [← Go.Deep.add_add, hcc i hlt, hi]
    · obtain ⟨i, hi, rfl⟩ := List.getElem_of_mem hy
      exact (hx i _ (List.getElem?_eq_getElem hi)).1
theorem trod_ints {t : TypeId} {fs : Array Field} (hs : P.underlying t = some (.struct fs)) (hC : P.cellsOf t = fs.size) (hf : ∀ (j : Nat) (f : Field), fs[j]? = some f → f.offset = j ∧ P.cellsOf f.type = 1 ∧ P.underlying f.type = some (.int .i64))
    {fuel : Nat} {cs : List Value} {x : DataW H × List MemPlace} (h : DataW.trod enc P W base spare held fuel t cs = some x) :
    ∃ xs : List Int, xs.length = fs.size ∧ cs = xs.map (Value.int .i64) ∧ ∀ y ∈ xs, (Lit.int .i64 y).wf = true := by
  obtain ⟨ys, n, _, _, hl, hyl, hy⟩ := DataW.trod_struct hs h
  obtain ⟨xs, hxl, hx⟩ := list_of (α := Int) fs.size (fun j y => cs[j]? = some (.int .i64 y) ∧ (Lit.int .i64 y).wf = true) (by
    intro j hj
    have hfj : fs[j]? = some fs[j] := Array.getElem?_eq_getElem hj
    obtain ⟨ho, hk, hi⟩ := hf j _ hfj
    have h1 := hy j _ hfj
    rw [ho, hk] at h1
    have hjl : j < cs.length := by omega
    have e1 : (cs.drop j).take 1 = [cs[j]'hjl] := by
      rw [List.drop_eq_getElem_cons hjl]
      rfl
    rw [e1, List.getElem?_eq_getElem (by omega)] at h1
    obtain ⟨y, hc, _, hw⟩ := DataW.trod_int hi h1
    refine ⟨y, ?_, hw⟩
    rw [List.getElem?_eq_getElem hjl]
    simpa using hc)
  refine ⟨xs, hxl, ?_, fun y hy' => ?_⟩
  · apply List.ext_getElem?
    intro j
    rcases Nat.lt_or_ge j fs.size with hj | hj
    · rw [List.getElem?_map]
      have e := List.getElem?_eq_getElem (l := xs) (i := j) (by omega)
      rw [e, (hx j _ e).1]
      rfl
    · rw [List.getElem?_eq_none (by omega), List.getElem?_eq_none (by simp; omega)]
  · obtain ⟨i, hi, rfl⟩ := List.getElem_of_mem hy'
    exact (hx i _ (List.getElem?_eq_getElem hi)).2
theorem one3 {xs : List Int} (h : xs.length = 3) : ∃ a b c, xs = [a, b, c] := by
  match xs, h with
  | [a, b, c], _ => exact ⟨a, b, c, rfl⟩
theorem sized_row {t e : TypeId} {A : Option Addr} {n cap : Nat} {d : DataW H} {ps : List MemPlace} {ts : List TypeId} {ds : List (DataW H)} {j : Nat}
    (hsz : (DataW.weightsEach P ts ds).all (· ≤ reachBytes) = true) (ht : ts[j]? = some t) (hd : ds[j]? = some d) (hu : P.underlying t = some (.slice e)) {B : Nat} (hB : P.bytesOf e = B)
    (h : DataW.Trod enc P W base spare held t (.slice A n cap) d ps) : n * B ≤ 140737488351232 := by
  obtain ⟨fuel, hf⟩ := h
  have hf' : DataW.trod enc P W base spare held fuel t [.slice A n cap] = some (d, ps) := hf
  rcases open_slice hu hf' with ⟨h0, _⟩ | ⟨a, len, c, m, k, D, Pl, hcs, _, hl, hm, hmm, hx, hel⟩
  · simp only [List.cons.injEq, Value.slice.injEq, and_true] at h0
    obtain ⟨rfl, rfl, rfl⟩ := h0
    simp
  · simp only [List.cons.injEq, Value.slice.injEq, and_true] at hcs
    obtain ⟨rfl, rfl, rfl⟩ := hcs
    obtain ⟨hx, _⟩ := Prod.mk.inj hx
    subst hx
    have z := sized_slice hsz ht hd hu
    rw [hB] at z
    simp only [List.length_map, List.length_range] at z
    exact Nat.le_trans (Nat.mul_le_mul_right _ (by omega)) z
end
end Go.Proofs.Ytnilnaabjpcfjaa.Opn
namespace Go.Proofs.Ytnilnaabjpcfjaa.Head
open Go
def chars (l : List Nat) : List Char := l.map Char.ofNat
def w1 : List Nat := [104, 97, 114, 110, 101, 115, 115]
def w2 : List Nat := [50, 53, 51, 97, 57, 57, 101, 98, 100, 48, 53, 53, 97, 98, 56, 56, 102, 57, 48, 98, 57, 52, 49, 102, 100, 56, 55, 52, 49, 48, 50, 98, 101, 48, 97, 97, 53, 99, 51, 56, 55, 53, 102, 48, 55, 102, 51, 52, 57, 51, 50, 100, 101, 101, 54, 99, 54, 49, 50, 54, 48, 55, 54, 48]
def w3 : List Nat := [99, 117, 116]
def w4 : List Nat := [97, 116, 32, 108, 111, 111, 112, 46, 101, 120, 97, 109, 112, 108, 101, 47, 100, 101, 97, 100, 108, 105, 110, 101, 115, 99, 104, 101, 100, 117, 108, 101, 114, 47, 108, 97, 119, 115, 46, 70, 110, 70, 97, 105, 114, 76, 97, 103, 32, 108, 111, 111, 112, 46, 101, 120, 97, 109, 112, 108, 101, 47, 100, 101, 97, 100, 108, 105, 110, 101, 115, 99, 104, 101, 100, 117, 108, 101, 114, 47, 108, 97, 119, 115, 46, 70, 110, 70, 97, 105, 114, 79, 110, 101, 32, 108, 111, 111, 112, 46, 101, 120, 97, 109, 112, 108, 101, 47, 100, 101, 97, 100, 108, 105, 110, 101, 115, 99, 104, 101, 100, 117, 108, 101, 114, 47, 108, 97, 119, 115, 46, 70, 110, 70, 97, 105, 114, 87, 105, 110, 100, 111, 119, 115, 32, 108, 111, 111, 112, 46, 101, 120, 97, 109, 112, 108, 101, 47, 100, 101, 97, 100, 108, 105, 110, 101, 115, 99, 104, 101, 100, 117, 108, 101, 114, 47, 108, 97, 119, 115, 46, 70, 110, 70, 97, 105, 114, 82, 111, 119, 115, 32, 108, 111, 111, 112, 46, 101, 120, 97, 109, 112, 108, 101, 47, 100, 101, 97, 100, 108, 105, 110, 101, 115, 99, 104, 101, 100, 117, 108, 101, 114, 47, 108, 97, 119, 115, 46, 70, 110, 69, 120, 97, 99, 116, 82, 117, 110, 70, 97, 105, 114, 32, 108, 111, 111, 112, 46, 101, 120, 97, 109, 112, 108, 101, 47, 100, 101, 97, 100, 108, 105, 110, 101, 115, 99, 104, 101, 100, 117, 108, 101, 114, 47, 108, 97, 119, 115, 46, 70, 110, 70, 97, 105, 114, 70, 117, 108, 108]
theorem io_eq : Try.prog.initOrder = String.ofList (chars (w1 ++ 32 :: (w2 ++ 32 :: (w3 ++ 32 :: w4)))) := by kernel_rfl
theorem io_list : Try.prog.initOrder.toList = chars (w1 ++ 32 :: (w2 ++ 32 :: (w3 ++ 32 :: w4))) := by rw [io_eq, String.toList_ofList]
theorem ws_one (c : Char) (r w : List Char) (ws : List (List Char)) (hc : c ≠ Char.ofNat 32) (h : wordsSigns r = w :: ws) : wordsSigns (c :: r) = (c :: w) :: ws := by
  have e : wordsSigns (c :: r) = match wordsSigns r with
    | w :: ws => (c :: w) :: ws
    | [] => [[c]] := by
    rw [wordsSigns]
    · rfl
    · exact hc
  rw [e, h]
theorem ws_word (w : List Char) (h : ∀ c ∈ w, c ≠ Char.ofNat 32) (r : List Char) : wordsSigns (w ++ Char.ofNat 32 :: r) = w :: wordsSigns r := by
  induction w with
  | nil => rfl
  | cons c w ih => exact ws_one _ _ _ _ (h c (by simp)) (ih (fun x hx => h x (by simp [hx])))
theorem ws_nat (w r : List Nat) (h : w.all (fun n => !(Char.ofNat n == Char.ofNat 32)) = true) : wordsSigns (chars (w ++ 32 :: r)) = chars w :: wordsSigns (chars r) := by
  have e : chars (w ++ 32 :: r) = chars w ++ Char.ofNat 32 :: chars r := by simp [chars]
  rw [e]
  refine ws_word _ (fun c hc => ?_) _
  obtain ⟨n, hn, rfl⟩ := List.mem_map.1 hc
  have := List.all_eq_true.1 h n hn
  simpa using this
theorem zhk : behindMainWord (wordsSigns Try.prog.initOrder.toList) = chars w3 :: wordsSigns (chars w4) := by
  rw [io_list, ws_nat _ _ (by kernel_rfl), ws_nat _ _ (by kernel_rfl), ws_nat _ _ (by kernel_rfl)]
  generalize wordsSigns (chars w4) = R
  kernel_rfl
theorem make_gen (P : Program) (c : List Char) (R : List (List Char)) (h : behindMainWord (wordsSigns P.initOrder.toList) = c :: R) (h1 : (c == "gc".toList || c == "spec".toList) = false) (h2 : (c == "cut".toList) = true) : P.make = some .cut := by
  unfold Program.make
  rw [h]
  simp only [h1, h2, Bool.true_or, if_true, Bool.false_eq_true, if_false]
theorem make : Try.prog.make = some .cut := make_gen _ _ _ zhk (by kernel_rfl) (by kernel_rfl)
theorem enter_gen (P : Program) (c : List Char) (R : List (List Char)) (h : behindMainWord (wordsSigns P.initOrder.toList) = c :: R) (h1 : ∀ R, stripLifts liftWords (c :: R) = ([], c :: R)) (h2 : (some c == some "cut".toList) = true)
    (h3 : P.laysLater = false) (h4 : P.bearsReflect = false) (h5 : P.doorFits [] = true) : P.mayEnter = true := by
  unfold Program.mayEnter
  rw [h]
  simp only [h1, h2, h3, h4, h5, List.head?_cons, Bool.not_false, Bool.or_true, Bool.and_true, List.contains_nil]
theorem enter : Try.prog.mayEnter = true := enter_gen _ _ _ zhk (fun R => by kernel_rfl) (by kernel_rfl) (by kernel_rfl) (by kernel_rfl) (by kernel_rfl)
theorem lifts : Try.prog.liftsFinal = false := by
  unfold Program.liftsFinal Program.headLifts
  simp only [zhk]
  generalize wordsSigns (chars w4) = R
  kernel_rfl
end Go.Proofs.Ytnilnaabjpcfjaa.Head
namespace Go.Proofs.Ytnilnaabjpcfjaa.fnExactRunFair
open Go.ChangeShapes Go.WideShapes Go.ChangeAt Go.RowKit Go.Proofs.YtnilnaabjpcfjaaW.PrintWords Go.Proofs.Ytnilnaabjpcfjaa.P
open Go.ChangeMaps (open_string shut_string)
theorem own : ownKnob Try.prog.godebug = none := by kernel_rfl
theorem laidOut : laidOutB Try.prog = true := by kernel_rfl
theorem fieldsT65 : ∃ fs, Try.prog.underlying 65 = some (.struct fs) ∧ fs.size = 3 ∧ Try.prog.cellsOf 65 = fs.size ∧ ∀ (j : Nat) (f : Field), fs[j]? = some f → f.offset = j ∧ Try.prog.cellsOf f.type = 1 ∧ Try.prog.underlying f.type = some (.int .i64) := by
  refine ⟨_, Try.underlying65, rfl, by kernel_rfl, fun j f hj => ?_⟩
  match j, hj with
  | 0, hj => obtain rfl := Option.some.inj hj; exact ⟨rfl, by kernel_rfl, Try.underlying3⟩
  | 1, hj => obtain rfl := Option.some.inj hj; exact ⟨rfl, by kernel_rfl, Try.underlying3⟩
  | 2, hj => obtain rfl := Option.some.inj hj; exact ⟨rfl, by kernel_rfl, Try.underlying3⟩
  | n + 3, hj => exact absurd hj (by simp)
theorem opensT65 {H : Type} {enc : TypeId × Value → H} {W : World} {base : Nat} {spare : Nat → Bool} {held : Bool} : Opn.Opens enc Try.prog W base spare held 65 k65 (fun x => ((Lit.int .i64 x.f0).wf = true) ∧ ((Lit.int .i64 x.f1).wf = true) ∧ ((Lit.int .i64 x.f2).wf = true)) := by
  intro fuel cs x h
  obtain ⟨fs, hu, hm, hc, hf⟩ := fieldsT65
  obtain ⟨xs, hl, rfl, hw⟩ := Opn.trod_ints hu hc hf h
  obtain ⟨a, b, c, rfl⟩ := Opn.one3 (hl.trans hm)
  exact ⟨⟨a, b, c⟩, k65_mk _ _, by simpa using hw⟩
theorem lifted (os : Os) (started : os.Started) (H : Type) (enc : TypeId × Value → H) :
    ReturnsInHanded {} Try.checked os 7 .any (Rows.fnExactRunFairSpec.pre6 enc Try.prog Try.f7 Rows.fnExactRunFairRow.domain false) (Rows.fnExactRunFairSpec.post enc Try.prog Try.f7 false true false false) := by
  refine returnsInHanded_of_change_sized (C := Try.checked) own started (by kernel_rfl) Try.func7
    (ChangeSpec.witness6 (enc := enc) (C := Try.checked) false ⟨#[], #[.slice none 0 0, .int .i64 0], []⟩ 8 (by kernel_rfl) (by kernel_rfl) (by kernel_rfl) (by kernel_rfl)) ?_
  intro W base args ds gs before hval0 hW hcnd hsz0 _
  have hsz : (DataW.weightsEach Try.prog (Try.f7.params.toList ++ Rows.fnExactRunFairSpec.plain.varTypes Try.prog) (ds ++ gs)).all (· ≤ reachBytes) = true := hsz0
  have hval : ∀ (j : Nat) t v, Try.f7.params[j]? = some t → args[j]? = some v → Value.okWide Try.prog W .any base t v := hval0
  have hW' := hW
  obtain ⟨p, q, hA0, hV, rfl, hfz, hnd⟩ := hW
  have hA : DataW.TrodAll enc Try.prog W 0 (fun _ => true) true Try.f7.params.toList args.toList ds p := hA0
  rw [Try.params7] at hA hval hsz
  obtain ⟨v0, vs0, d0, ds0, p0, q0, hargs, rfl, rfl, h0, r0⟩ := trodAll_cons hA
  obtain ⟨v1, vs1, d1, ds1, p1, q1, rfl, rfl, rfl, h1, r1⟩ := trodAll_cons r0
  obtain ⟨rfl, rfl, rfl⟩ := trodAll_nil r1
  obtain rfl : args = #[v0, v1] := by cases args; simp_all
  obtain ⟨rfl, rfl⟩ := trodVars_none hV
  have k0 := h0
  have lt0 : ∀ x ∈ p0, x.block < W.heap.size := by obtain ⟨m, hm⟩ := k0; exact DataW.trod_lt m _ _ _ hm
  obtain ⟨A0, n0, c0, rfl⟩ := okWide_slice Try.underlying42 (hval 0 42 v0 rfl rfl)
  have y0 : n0 * 24 ≤ 140737488351232 := Opn.sized_row hsz (j := 0) (t := 42) rfl rfl Try.underlying42 (by kernel_rfl) h0
  obtain ⟨l0, rfl, hc0, hm0, hr0, hg0⟩ : ∃ xs : List (S65), xs.length = n0 ∧ n0 ≤ c0 ∧ n0 ≤ maxLen ∧ Kd.C k65 W A0 xs.length xs ∧ ∀ y0 ∈ xs, ((Lit.int .i64 y0.f0).wf = true) ∧ ((Lit.int .i64 y0.f1).wf = true) ∧ ((Lit.int .i64 y0.f2).wf = true) := by
    obtain ⟨fuel, hf⟩ := h0
    exact Opn.slice_row Try.underlying42 (by kernel_rfl) opensT65 hf
  obtain ⟨a1, rfl, rfl, rfl, w1⟩ := open_int Try.underlying3 (hval 1 3 v1 rfl rfl) h1
  obtain ⟨k, hk⟩ := Pure.FnExactRunFair l0 a1 y0 ⟨hm0, hg0⟩ w1
  clear hA0 hval0 hsz0 hsz
  refine (laws_FnExactRunFair.calls k A0 c0 l0 a1 true W hr0 hc0 hk).mono fun e W' ⟨he, hd⟩ => ?_
  have bel := hd
  subst he
  exact ⟨_, rfl, _, _, _, [], _, [], hW', trodAll_mk1 (shut_bool Try.underlying4 _), (trodAll_cons_mk (Below.trod laidOut (by kernel_rfl) (of_decide_eq_true (by kernel_rfl)) k0 bel lt0) (trodAll_cons_mk (shut_int Try.underlying3 w1) trodAll_mk0)), rfl, bel.frame _, fun h => by cases h⟩
theorem closed : joinedFacts Try.prog 7 Try.f7 Rows.fnExactRunFairSpec Rows.fnExactRunFairRow = true := by
  simp only [joinedFacts, Head.enter, Head.lifts, Head.make]
  kernel_rfl
theorem named : Try.prog.funcNamed Rows.fnExactRunFairRow.func = some 7 := by kernel_rfl
theorem wrapped : Try.f7.isWrapper Try.prog Rows.fnExactRunFairRow.wrapper Rows.fnExactRunFairRow.mainSum := by unfold Func.isWrapper; first | (rw [if_pos (by decide +kernel)]; kernel_rfl) | (rw [if_neg (by decide +kernel)]; exact ⟨rfl, rfl⟩)
theorem over : Rows.fnExactRunFairRow.holds Try.pinned (OpenSpec.ofChange Rows.fnExactRunFairSpec) :=
  OpenClaim.holds_of_wide 7 Try.f7 rfl rfl rfl rfl rfl rfl rfl ⟨rfl, rfl, rfl, rfl, rfl⟩ rfl rfl rfl rfl rfl named Try.func7 closed
    (of_decide_eq_true (by kernel_rfl)) wrapped
    (fun os started H enc _ => lifted os started H enc)
theorem proved : Rows.FnExactRunFairSaid := over
#print axioms proved
end Go.Proofs.Ytnilnaabjpcfjaa.fnExactRunFair
namespace Go.Proofs.Ytnilnaabjpcfjaa
theorem fnExactRunFair_holds : Rows.FnExactRunFairSaid := fnExactRunFair.proved
end Go.Proofs.Ytnilnaabjpcfjaa
