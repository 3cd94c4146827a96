/- The law FnFlowLink for every input, part 1 of its proof: what the program's functions answer, and the plain law. No condition. -/
import Derived.Test.YtooabmmnbifclaaProg
import Derived.Below
import Derived.Deep.Draws
import Derived.Deep.AppendLies
import Derived.Maps.AppendAt
import Derived.OwnWalk
import Derived.Laws.BytesArg
import Derived.Laws.MakeOwn
import Derived.Laws.OwnMore
import Derived.Deep.OwnRows
import Derived.Tactics
import Derived.Lib.ConvBytes
import Derived.Laws.Slices
import Derived.WalkKit
import Derived.KernelRfl
import Derived.RowKit3
import Derived.Deep.LoopGhost
import Derived.Deep.QuietTactic
import Derived.BigQuiet
import Derived.WideLaws
import Derived.Deep.DeepCutAuto
import Derived.Deep.CutBlock
import Derived.Deep.RegionHeld3
import Derived.Laws.Rows
import Derived.Lib.AppendStr
import Derived.ArgAppend
import Derived.Laws.IdiomCopy
import Derived.OrdersHeld
import Derived.Laws.BitsLemmas
import Derived.RowKit
import Derived.Test.YtooabmmnbifclaaWWords
import Derived.Test.YtooabmmnbifclaaWLast
import Derived.Test.YtooabmmnbifclaaWTab
import Derived.Test.YtooabmmnbifclaaWFour
import Derived.Test.YtooabmmnbifclaaWQPut
import Derived.Test.YtooabmmnbifclaaWApart
import Derived.Test.YtooabmmnbifclaaWArr
import Derived.Test.YtooabmmnbifclaaWZeros
import Derived.Test.YtooabmmnbifclaaWFoot
import Derived.Test.YtooabmmnbifclaaWKept
import Derived.Test.YtooabmmnbifclaaWShare
import Derived.Test.YtooabmmnbifclaaWN
import Derived.Test.YtooabmmnbifclaaWFootNe
import Derived.Test.YtooabmmnbifclaaWAt
import Derived.Test.YtooabmmnbifclaaWEqStruct
import Derived.Test.YtooabmmnbifclaaWRepsOne
import Derived.Test.YtooabmmnbifclaaWInv
import Derived.Test.YtooabmmnbifclaaWInvWords
import Derived.Test.YtooabmmnbifclaaWGuard
import Derived.Test.YtooabmmnbifclaaWNEv
import Derived.Test.YtooabmmnbifclaaWMore
-- Laid by a program of this work.
namespace Go.Proofs.Ytooabmmnbifclaa.P
open Go.RowKit Go.Proofs.YtooabmmnbifclaaW.PrintWords Go.Proofs.YtooabmmnbifclaaW.PrintLast Go.Proofs.YtooabmmnbifclaaW.PrintMore
attribute [local go_sem] max2_int min2_int max_two min_two max_three min_three max_four min_four   -- for this text's walks alone
set_option linter.unusedVariables false
set_option linter.unusedSimpArgs false

def errW : Option Int → Value
  | none => .nilIface
  | some c => .iface 0 (.int .i64 c)
theorem errW_none : errW none = .nilIface := rfl
theorem errW_some (c : Int) : errW (some c) = .iface 0 (.int .i64 c) := rfl

theorem info3 : (Try.prog.info? 3).map (fun i => (i.zero, i.size, i.bytes)) = some (some (.int .i64 0), 1, 8) := by kernel_rfl
theorem info4 : (Try.prog.info? 4).map (fun i => (i.zero, i.size, i.bytes)) = some (some (.bool false), 1, 1) := by kernel_rfl
theorem info5 : (Try.prog.info? 5).map (fun i => (i.zero, i.size, i.bytes)) = some (some (.int .u8 0), 1, 1) := by kernel_rfl
theorem info25 : (Try.prog.info? 25).map (fun i => (i.zero, i.size, i.bytes)) = some (some (.agg #[(.int .i64 0), (.int .i64 0)]), 2, 16) := by kernel_rfl
theorem info31 : (Try.prog.info? 31).map (fun i => (i.zero, i.size, i.bytes)) = some (some (.agg #[(.int .i64 0), (.int .i64 0)]), 2, 16) := by kernel_rfl
theorem info37 : (Try.prog.info? 37).map (fun i => (i.zero, i.size, i.bytes)) = some (some (.agg #[(.int .i64 0), (.int .i64 0)]), 2, 16) := by kernel_rfl
-- the values' own types
/-! #### struct type 37 -/
structure S37 where
  f0 : Int
  f1 : Int
def z37 : S37 := ⟨(0 : Int), (0 : Int)⟩
def k37 : Kd S37 := Kd.iso (Kd.pair (Kd.int .i64) (Kd.int .i64)) (fun x : S37 => (x.f0, x.f1))
theorem k37_open {w : World} {x : S37} {cs : List Value} (h : k37.K w x cs) : cs = [.int .i64 x.f0, .int .i64 x.f1] := by
  obtain ⟨_, _, rfl, rfl, rfl⟩ := h
  exact rfl
theorem k37_openM {w : World} {base : Nat} {ok : Nat → Prop} {x : S37} {cs : List Value} (h : k37.M w base ok x cs) : cs = [.int .i64 x.f0, .int .i64 x.f1] := by
  obtain ⟨_, _, rfl, rfl, rfl⟩ := h
  exact rfl
theorem k37_mk (w : World) (x : S37)  : k37.K w x [.int .i64 x.f0, .int .i64 x.f1] := ⟨[.int .i64 x.f0], [.int .i64 x.f1], rfl, rfl, rfl⟩
theorem k37_mkM (w : World) (base : Nat) (ok : Nat → Prop) (x : S37)  : k37.M w base ok x [.int .i64 x.f0, .int .i64 x.f1] := ⟨[.int .i64 x.f0], [.int .i64 x.f1], rfl, rfl, rfl⟩
def rd_T37 (xs : List S37) (i : Int) : S37 := xs.getD i.toNat z37
theorem at_T37 {w : World} {A : Option Addr} {n : Nat} {xs : List S37} (h : Kd.C k37 w A n xs) (i : Int) (h0 : 0 ≤ i) (h1 : i < n) : ∃ ad , A = some ad ∧ w.cell? (ad.add (i.toNat * 2)) = some (.int .i64 (rd_T37 xs i).f0) ∧ w.cell? ⟨(ad.add (i.toNat * 2)).block, (ad.add (i.toNat * 2)).off + 1, none⟩ = some (.int .i64 (rd_T37 xs i).f1) := by
  obtain ⟨ad, c, e, _, hK, hc0⟩ := Kd.C_get h z37 i h0 h1
  have hc : ∀ j u, c[j]? = some u → w.cell? (ad.add (i.toNat * 2 + j)) = some u := hc0
  obtain rfl := k37_open hK
  exact ⟨ad, e, hc 0 _ rfl, by rw [← add_field _ _ 1 (by omega)]; exact hc 1 _ rfl⟩

/-! #### struct type 25 -/
structure S25 where
  f0 : Int
  f1 : Int
def z25 : S25 := ⟨(0 : Int), (0 : Int)⟩
def k25 : Kd S25 := Kd.iso (Kd.pair (Kd.int .i64) (Kd.int .i64)) (fun x : S25 => (x.f0, x.f1))
theorem k25_open {w : World} {x : S25} {cs : List Value} (h : k25.K w x cs) : cs = [.int .i64 x.f0, .int .i64 x.f1] := by
  obtain ⟨_, _, rfl, rfl, rfl⟩ := h
  exact rfl
theorem k25_openM {w : World} {base : Nat} {ok : Nat → Prop} {x : S25} {cs : List Value} (h : k25.M w base ok x cs) : cs = [.int .i64 x.f0, .int .i64 x.f1] := by
  obtain ⟨_, _, rfl, rfl, rfl⟩ := h
  exact rfl
theorem k25_mk (w : World) (x : S25)  : k25.K w x [.int .i64 x.f0, .int .i64 x.f1] := ⟨[.int .i64 x.f0], [.int .i64 x.f1], rfl, rfl, rfl⟩
theorem k25_mkM (w : World) (base : Nat) (ok : Nat → Prop) (x : S25)  : k25.M w base ok x [.int .i64 x.f0, .int .i64 x.f1] := ⟨[.int .i64 x.f0], [.int .i64 x.f1], rfl, rfl, rfl⟩
def rd_T25 (xs : List S25) (i : Int) : S25 := xs.getD i.toNat z25
theorem at_T25 {w : World} {A : Option Addr} {n : Nat} {xs : List S25} (h : Kd.C k25 w A n xs) (i : Int) (h0 : 0 ≤ i) (h1 : i < n) : ∃ ad , A = some ad ∧ w.cell? (ad.add (i.toNat * 2)) = some (.int .i64 (rd_T25 xs i).f0) ∧ w.cell? ⟨(ad.add (i.toNat * 2)).block, (ad.add (i.toNat * 2)).off + 1, none⟩ = some (.int .i64 (rd_T25 xs i).f1) := by
  obtain ⟨ad, c, e, _, hK, hc0⟩ := Kd.C_get h z25 i h0 h1
  have hc : ∀ j u, c[j]? = some u → w.cell? (ad.add (i.toNat * 2 + j)) = some u := hc0
  obtain rfl := k25_open hK
  exact ⟨ad, e, hc 0 _ rfl, by rw [← add_field _ _ 1 (by omega)]; exact hc 1 _ rfl⟩

/-! #### struct type 31 -/
structure S31 where
  f0 : Int
  f1 : Int
def z31 : S31 := ⟨(0 : Int), (0 : Int)⟩
def k31 : Kd S31 := Kd.iso (Kd.pair (Kd.int .i64) (Kd.int .i64)) (fun x : S31 => (x.f0, x.f1))
theorem k31_open {w : World} {x : S31} {cs : List Value} (h : k31.K w x cs) : cs = [.int .i64 x.f0, .int .i64 x.f1] := by
  obtain ⟨_, _, rfl, rfl, rfl⟩ := h
  exact rfl
theorem k31_openM {w : World} {base : Nat} {ok : Nat → Prop} {x : S31} {cs : List Value} (h : k31.M w base ok x cs) : cs = [.int .i64 x.f0, .int .i64 x.f1] := by
  obtain ⟨_, _, rfl, rfl, rfl⟩ := h
  exact rfl
theorem k31_mk (w : World) (x : S31)  : k31.K w x [.int .i64 x.f0, .int .i64 x.f1] := ⟨[.int .i64 x.f0], [.int .i64 x.f1], rfl, rfl, rfl⟩
theorem k31_mkM (w : World) (base : Nat) (ok : Nat → Prop) (x : S31)  : k31.M w base ok x [.int .i64 x.f0, .int .i64 x.f1] := ⟨[.int .i64 x.f0], [.int .i64 x.f1], rfl, rfl, rfl⟩
def rd_T31 (xs : List S31) (i : Int) : S31 := xs.getD i.toNat z31
theorem at_T31 {w : World} {A : Option Addr} {n : Nat} {xs : List S31} (h : Kd.C k31 w A n xs) (i : Int) (h0 : 0 ≤ i) (h1 : i < n) : ∃ ad , A = some ad ∧ w.cell? (ad.add (i.toNat * 2)) = some (.int .i64 (rd_T31 xs i).f0) ∧ w.cell? ⟨(ad.add (i.toNat * 2)).block, (ad.add (i.toNat * 2)).off + 1, none⟩ = some (.int .i64 (rd_T31 xs i).f1) := by
  obtain ⟨ad, c, e, _, hK, hc0⟩ := Kd.C_get h z31 i h0 h1
  have hc : ∀ j u, c[j]? = some u → w.cell? (ad.add (i.toNat * 2 + j)) = some u := hc0
  obtain rfl := k31_open hK
  exact ⟨ad, e, hc 0 _ rfl, by rw [← add_field _ _ 1 (by omega)]; exact hc 1 _ rfl⟩

end Go.Proofs.Ytooabmmnbifclaa.P
-- Laid by a program of this work.
namespace Go.Proofs.Ytooabmmnbifclaa.P
open Go.RowKit Go.Proofs.YtooabmmnbifclaaW.PrintWords Go.Proofs.YtooabmmnbifclaaW.PrintLast Go.Proofs.YtooabmmnbifclaaW.PrintMore
attribute [local go_sem] max2_int min2_int max_two min_two max_three min_three max_four min_four   -- for this text's walks alone
set_option linter.unusedVariables false
set_option linter.unusedSimpArgs false

/-! ### spec_l1In: function 47 -/
def spec_l1In.f (a0 : Int) (a1 : Int) (a2 : Int) : Option (Bool) := if a0 ≥ a1 then (some (decide (a0 ≤ a2))) else (some false)
set_option maxHeartbeats 8000000 in
set_option maxRecDepth 100000 in
theorem spec_l1In.calls (a0 : Int) (a1 : Int) (a2 : Int) (r : Bool) (w : World) (h : spec_l1In.f a0 a1 a2 = some r) :
    Calls Try.prog 47 #[.int .i64 a0, .int .i64 a1, .int .i64 a2] w fun e w' => e = .returned (.bool r) ∧ Drawn0 w w' := by
  have H : (if a0 ≥ a1 then (some (decide (a0 ≤ a2))) else (some false)) = some r := h
  clear h
  by_cases c4 : a0 ≥ a1
  · rw [if_pos c4] at H
    have c4b0 : decide (a1 ≤ a0) = true := decide_eq_true c4
    clear c4
    obtain rfl := Option.some.inj H
    go_enter Try.func47, Try.ntmps47
    go_wp2
    go_ret
    exact ⟨by first | rfl | (simp; done) | (simp [*]; done), by repeat (first | exact Drawn0.refl _ | apply Drawn0.step)⟩
  · rw [if_neg c4] at H
    have c4b0 : decide (a1 ≤ a0) = false := decide_eq_false c4
    clear c4
    obtain rfl := Option.some.inj H
    go_enter Try.func47, Try.ntmps47
    go_wp2
    go_ret
    exact ⟨by first | rfl | (simp; done) | (simp [*]; done), by repeat (first | exact Drawn0.refl _ | apply Drawn0.step)⟩

end Go.Proofs.Ytooabmmnbifclaa.P
-- Laid by a program of this work.
namespace Go.Proofs.Ytooabmmnbifclaa.P
open Go.RowKit Go.Proofs.YtooabmmnbifclaaW.PrintWords Go.Proofs.YtooabmmnbifclaaW.PrintLast Go.Proofs.YtooabmmnbifclaaW.PrintMore
attribute [local go_sem] max2_int min2_int max_two min_two max_three min_three max_four min_four   -- for this text's walks alone
set_option linter.unusedVariables false
set_option linter.unusedSimpArgs false

/-! ### spec_FlowValid: function 17 -/
def spec_FlowValid.f (a0_0 : Int) (a0_1 : Int) : Option (Bool) := (spec_l1In.f a0_0 0 20).bind fun t102 => (if t102 = true then ((spec_l1In.f a0_1 0 20).bind fun t103 => (some t103)) else (some false))
set_option maxHeartbeats 8000000 in
set_option maxRecDepth 100000 in
theorem spec_FlowValid.calls (a0_0 : Int) (a0_1 : Int) (r : Bool) (w : World) (h : spec_FlowValid.f a0_0 a0_1 = some r) :
    Calls Try.prog 17 #[.agg #[.int .i64 a0_0, .int .i64 a0_1]] w fun e w' => e = .returned (.bool r) ∧ Below w.heap.size w w' := by
  have hu25 := Try.underlying25
  have HB := Aside0.mk (Below.refl w.heap.size w)
  have H : ((spec_l1In.f a0_0 0 20).bind fun t102 => (if t102 = true then ((spec_l1In.f a0_1 0 20).bind fun t103 => (some t103)) else (some false))) = some r := h
  clear h
  replace H := Option.bind_eq_some_iff.mp H
  obtain ⟨t102, A20, H⟩ := H
  replace H : (if t102 = true then ((spec_l1In.f a0_1 0 20).bind fun t103 => (some t103)) else (some false)) = some r := H
  have A2 := Aside0.mk A20
  clear A20
  by_cases c3 : t102 = true
  · subst c3
    have H1 : ((spec_l1In.f a0_1 0 20).bind fun t103 => (some t103)) = some r := by rw [if_pos rfl] at H; exact H
    clear H
    have H := H1
    clear H1
    replace H := Option.bind_eq_some_iff.mp H
    obtain ⟨t103, A40, H⟩ := H
    replace H : (some t103) = some r := H
    have A4 := Aside0.mk A40
    clear A40
    obtain rfl := Option.some.inj H
    go_enter Try.func17, Try.ntmps17
    go_wp2_with (first | ((with_reducible refine gate_dst (N := 1) rfl ?_); refine box_event ?hg (N := 1) ?hd (cs := #[.int .i64 a0_0, .int .i64 a0_1]) (t := 25) ?hr ?_; (case hd => rfl); (case hg => rfl); (case hr => first | (go_simp; done) | (go_simp; rfl)); intro gb101 hg w5 hbox hb; have n0_ := Aside0.mk (below_step (by repeat (first | (with_reducible first | exact HB.out | apply below_alloc | apply pw_below_drewN | apply below_drew1) | exact HB.out)) hb); have n1_ := Aside0.mk (hbox); have n2_ := Aside0.mk ((by rw [hg]; exact (below_size (by repeat (first | (with_reducible first | exact HB.out | apply below_alloc | apply pw_below_drewN | apply below_drew1) | exact HB.out))) : w.heap.size ≤ gb101)); have n3_ := Aside0.mk ((by rw [hg]; exact (below_size (by repeat (first | (with_reducible first | exact HB.out | apply below_alloc | apply pw_below_drewN | apply below_drew1) | exact HB.out))) : w.heap.size ≤ gb101)); clear HB; have HB := n0_; have BK101 := n1_; have GW101 := n2_; have GE101 := n3_; clear n0_ n1_ n2_ n3_; clear hb hbox hg; have hcz6_0 : w5.cell? ⟨gb101, 0, none⟩ = some (.int .i64 a0_0) := (blk_cell BK101.out 0).trans rfl; have hcz6_1 : w5.cell? ⟨gb101, 1, none⟩ = some (.int .i64 a0_1) := (blk_cell BK101.out 1).trans rfl; have hfz6_0 := blk_frozen BK101.out 0; have hfz6_1 := blk_frozen BK101.out 1) | ((with_reducible refine gate_callee (f := 47) rfl ?_); refine goesL_ (some 5) rfl rfl Try.func47 (by kernel_rfl) rfl #[.int .i64 a0_0, .int .i64 0, .int .i64 20] rfl (by (try simp only [List.map_toArray, List.map_cons, List.map_nil]); first | done | rfl | (simp only [List.length_drop, List.length_take]; rfl)) ?_; (with_reducible refine (spec_l1In.calls a0_0 0 20 true _ A2.out).mono ?_); rintro e w' ⟨rfl, ⟨nd, rfl⟩⟩; refine ⟨_, rfl, ?_⟩) | (go_at_call 47; (with_reducible refine (spec_l1In.calls a0_1 0 20 t103 _ A4.out).mono ?_); rintro e w' ⟨rfl, ⟨nd, rfl⟩⟩))
    go_ret
    exact ⟨by first | rfl | (simp [errW_none, errW_some] <;> rfl) | (simp [*, errW_none, errW_some] <;> rfl), by repeat (first | (with_reducible first | exact HB.out | apply below_alloc | apply pw_below_drewN | apply below_drew1 | refine below_set ?_ GE101.out) | exact HB.out)⟩
  · replace c3 := Bool.eq_false_iff.mpr c3
    subst c3
    have H1 : (some false) = some r := by rw [if_neg (show ¬ (false = true) by decide)] at H; exact H
    clear H
    have H := H1
    clear H1
    obtain rfl := Option.some.inj H
    go_enter Try.func17, Try.ntmps17
    go_wp2_with (first | ((with_reducible refine gate_dst (N := 1) rfl ?_); refine box_event ?hg (N := 1) ?hd (cs := #[.int .i64 a0_0, .int .i64 a0_1]) (t := 25) ?hr ?_; (case hd => rfl); (case hg => rfl); (case hr => first | (go_simp; done) | (go_simp; rfl)); intro gb101 hg w7 hbox hb; have n0_ := Aside0.mk (below_step (by repeat (first | (with_reducible first | exact HB.out | apply below_alloc | apply pw_below_drewN | apply below_drew1) | exact HB.out)) hb); have n1_ := Aside0.mk (hbox); have n2_ := Aside0.mk ((by rw [hg]; exact (below_size (by repeat (first | (with_reducible first | exact HB.out | apply below_alloc | apply pw_below_drewN | apply below_drew1) | exact HB.out))) : w.heap.size ≤ gb101)); have n3_ := Aside0.mk ((by rw [hg]; exact (below_size (by repeat (first | (with_reducible first | exact HB.out | apply below_alloc | apply pw_below_drewN | apply below_drew1) | exact HB.out))) : w.heap.size ≤ gb101)); clear HB; have HB := n0_; have BK101 := n1_; have GW101 := n2_; have GE101 := n3_; clear n0_ n1_ n2_ n3_; clear hb hbox hg; have hcz8_0 : w7.cell? ⟨gb101, 0, none⟩ = some (.int .i64 a0_0) := (blk_cell BK101.out 0).trans rfl; have hcz8_1 : w7.cell? ⟨gb101, 1, none⟩ = some (.int .i64 a0_1) := (blk_cell BK101.out 1).trans rfl; have hfz8_0 := blk_frozen BK101.out 0; have hfz8_1 := blk_frozen BK101.out 1) | ((with_reducible refine gate_callee (f := 47) rfl ?_); refine goesL_ (some 5) rfl rfl Try.func47 (by kernel_rfl) rfl #[.int .i64 a0_0, .int .i64 0, .int .i64 20] rfl (by (try simp only [List.map_toArray, List.map_cons, List.map_nil]); first | done | rfl | (simp only [List.length_drop, List.length_take]; rfl)) ?_; (with_reducible refine (spec_l1In.calls a0_0 0 20 false _ A2.out).mono ?_); rintro e w' ⟨rfl, ⟨nd, rfl⟩⟩; refine ⟨_, rfl, ?_⟩))
    go_ret
    exact ⟨by first | rfl | (simp [errW_none, errW_some] <;> rfl) | (simp [*, errW_none, errW_some] <;> rfl), by repeat (first | (with_reducible first | exact HB.out | apply below_alloc | apply pw_below_drewN | apply below_drew1 | refine below_set ?_ GE101.out) | exact HB.out)⟩

end Go.Proofs.Ytooabmmnbifclaa.P
-- Laid by a program of this work.
namespace Go.Proofs.Ytooabmmnbifclaa.P
open Go.RowKit Go.Proofs.YtooabmmnbifclaaW.PrintWords Go.Proofs.YtooabmmnbifclaaW.PrintLast Go.Proofs.YtooabmmnbifclaaW.PrintMore
attribute [local go_sem] max2_int min2_int max_two min_two max_three min_three max_four min_four   -- for this text's walks alone
set_option linter.unusedVariables false
set_option linter.unusedSimpArgs false

/-! ### impl_in: function 48 -/
def impl_in.f (a0 : Int) (a1 : Int) (a2 : Int) : Option (Bool) := if a0 ≥ a1 then (some (decide (a0 ≤ a2))) else (some false)
set_option maxHeartbeats 8000000 in
set_option maxRecDepth 100000 in
theorem impl_in.calls (a0 : Int) (a1 : Int) (a2 : Int) (r : Bool) (w : World) (h : impl_in.f a0 a1 a2 = some r) :
    Calls Try.prog 48 #[.int .i64 a0, .int .i64 a1, .int .i64 a2] w fun e w' => e = .returned (.bool r) ∧ Drawn0 w w' := by
  have H : (if a0 ≥ a1 then (some (decide (a0 ≤ a2))) else (some false)) = some r := h
  clear h
  by_cases c4 : a0 ≥ a1
  · rw [if_pos c4] at H
    have c4b0 : decide (a1 ≤ a0) = true := decide_eq_true c4
    clear c4
    obtain rfl := Option.some.inj H
    go_enter Try.func48, Try.ntmps48
    go_wp2
    go_ret
    exact ⟨by first | rfl | (simp; done) | (simp [*]; done), by repeat (first | exact Drawn0.refl _ | apply Drawn0.step)⟩
  · rw [if_neg c4] at H
    have c4b0 : decide (a1 ≤ a0) = false := decide_eq_false c4
    clear c4
    obtain rfl := Option.some.inj H
    go_enter Try.func48, Try.ntmps48
    go_wp2
    go_ret
    exact ⟨by first | rfl | (simp; done) | (simp [*]; done), by repeat (first | exact Drawn0.refl _ | apply Drawn0.step)⟩

end Go.Proofs.Ytooabmmnbifclaa.P
-- Laid by a program of this work.
namespace Go.Proofs.Ytooabmmnbifclaa.P
open Go.RowKit Go.Proofs.YtooabmmnbifclaaW.PrintWords Go.Proofs.YtooabmmnbifclaaW.PrintLast Go.Proofs.YtooabmmnbifclaaW.PrintMore
attribute [local go_sem] max2_int min2_int max_two min_two max_three min_three max_four min_four   -- for this text's walks alone
set_option linter.unusedVariables false
set_option linter.unusedSimpArgs false

/-! ### impl_FlowValid: function 19 -/
def impl_FlowValid.f (a0_0 : Int) (a0_1 : Int) : Option (Bool) := (impl_in.f a0_0 0 20).bind fun t108 => (if t108 = true then ((impl_in.f a0_1 0 20).bind fun t109 => (some t109)) else (some false))
set_option maxHeartbeats 8000000 in
set_option maxRecDepth 100000 in
theorem impl_FlowValid.calls (a0_0 : Int) (a0_1 : Int) (r : Bool) (w : World) (h : impl_FlowValid.f a0_0 a0_1 = some r) :
    Calls Try.prog 19 #[.agg #[.int .i64 a0_0, .int .i64 a0_1]] w fun e w' => e = .returned (.bool r) ∧ Below w.heap.size w w' := by
  have hu25 := Try.underlying25
  have HB := Aside0.mk (Below.refl w.heap.size w)
  have H : ((impl_in.f a0_0 0 20).bind fun t108 => (if t108 = true then ((impl_in.f a0_1 0 20).bind fun t109 => (some t109)) else (some false))) = some r := h
  clear h
  replace H := Option.bind_eq_some_iff.mp H
  obtain ⟨t108, A20, H⟩ := H
  replace H : (if t108 = true then ((impl_in.f a0_1 0 20).bind fun t109 => (some t109)) else (some false)) = some r := H
  have A2 := Aside0.mk A20
  clear A20
  by_cases c3 : t108 = true
  · subst c3
    have H1 : ((impl_in.f a0_1 0 20).bind fun t109 => (some t109)) = some r := by rw [if_pos rfl] at H; exact H
    clear H
    have H := H1
    clear H1
    replace H := Option.bind_eq_some_iff.mp H
    obtain ⟨t109, A40, H⟩ := H
    replace H : (some t109) = some r := H
    have A4 := Aside0.mk A40
    clear A40
    obtain rfl := Option.some.inj H
    go_enter Try.func19, Try.ntmps19
    go_wp2_with (first | ((with_reducible refine gate_dst (N := 1) rfl ?_); refine box_event ?hg (N := 1) ?hd (cs := #[.int .i64 a0_0, .int .i64 a0_1]) (t := 25) ?hr ?_; (case hd => rfl); (case hg => rfl); (case hr => first | (go_simp; done) | (go_simp; rfl)); intro gb107 hg w5 hbox hb; have n0_ := Aside0.mk (below_step (by repeat (first | (with_reducible first | exact HB.out | apply below_alloc | apply pw_below_drewN | apply below_drew1) | exact HB.out)) hb); have n1_ := Aside0.mk (hbox); have n2_ := Aside0.mk ((by rw [hg]; exact (below_size (by repeat (first | (with_reducible first | exact HB.out | apply below_alloc | apply pw_below_drewN | apply below_drew1) | exact HB.out))) : w.heap.size ≤ gb107)); have n3_ := Aside0.mk ((by rw [hg]; exact (below_size (by repeat (first | (with_reducible first | exact HB.out | apply below_alloc | apply pw_below_drewN | apply below_drew1) | exact HB.out))) : w.heap.size ≤ gb107)); clear HB; have HB := n0_; have BK107 := n1_; have GW107 := n2_; have GE107 := n3_; clear n0_ n1_ n2_ n3_; clear hb hbox hg; have hcz6_0 : w5.cell? ⟨gb107, 0, none⟩ = some (.int .i64 a0_0) := (blk_cell BK107.out 0).trans rfl; have hcz6_1 : w5.cell? ⟨gb107, 1, none⟩ = some (.int .i64 a0_1) := (blk_cell BK107.out 1).trans rfl; have hfz6_0 := blk_frozen BK107.out 0; have hfz6_1 := blk_frozen BK107.out 1) | ((with_reducible refine gate_callee (f := 48) rfl ?_); refine goesL_ (some 5) rfl rfl Try.func48 (by kernel_rfl) rfl #[.int .i64 a0_0, .int .i64 0, .int .i64 20] rfl (by (try simp only [List.map_toArray, List.map_cons, List.map_nil]); first | done | rfl | (simp only [List.length_drop, List.length_take]; rfl)) ?_; (with_reducible refine (impl_in.calls a0_0 0 20 true _ A2.out).mono ?_); rintro e w' ⟨rfl, ⟨nd, rfl⟩⟩; refine ⟨_, rfl, ?_⟩) | (go_at_call 48; (with_reducible refine (impl_in.calls a0_1 0 20 t109 _ A4.out).mono ?_); rintro e w' ⟨rfl, ⟨nd, rfl⟩⟩))
    go_ret
    exact ⟨by first | rfl | (simp [errW_none, errW_some] <;> rfl) | (simp [*, errW_none, errW_some] <;> rfl), by repeat (first | (with_reducible first | exact HB.out | apply below_alloc | apply pw_below_drewN | apply below_drew1 | refine below_set ?_ GE107.out) | exact HB.out)⟩
  · replace c3 := Bool.eq_false_iff.mpr c3
    subst c3
    have H1 : (some false) = some r := by rw [if_neg (show ¬ (false = true) by decide)] at H; exact H
    clear H
    have H := H1
    clear H1
    obtain rfl := Option.some.inj H
    go_enter Try.func19, Try.ntmps19
    go_wp2_with (first | ((with_reducible refine gate_dst (N := 1) rfl ?_); refine box_event ?hg (N := 1) ?hd (cs := #[.int .i64 a0_0, .int .i64 a0_1]) (t := 25) ?hr ?_; (case hd => rfl); (case hg => rfl); (case hr => first | (go_simp; done) | (go_simp; rfl)); intro gb107 hg w7 hbox hb; have n0_ := Aside0.mk (below_step (by repeat (first | (with_reducible first | exact HB.out | apply below_alloc | apply pw_below_drewN | apply below_drew1) | exact HB.out)) hb); have n1_ := Aside0.mk (hbox); have n2_ := Aside0.mk ((by rw [hg]; exact (below_size (by repeat (first | (with_reducible first | exact HB.out | apply below_alloc | apply pw_below_drewN | apply below_drew1) | exact HB.out))) : w.heap.size ≤ gb107)); have n3_ := Aside0.mk ((by rw [hg]; exact (below_size (by repeat (first | (with_reducible first | exact HB.out | apply below_alloc | apply pw_below_drewN | apply below_drew1) | exact HB.out))) : w.heap.size ≤ gb107)); clear HB; have HB := n0_; have BK107 := n1_; have GW107 := n2_; have GE107 := n3_; clear n0_ n1_ n2_ n3_; clear hb hbox hg; have hcz8_0 : w7.cell? ⟨gb107, 0, none⟩ = some (.int .i64 a0_0) := (blk_cell BK107.out 0).trans rfl; have hcz8_1 : w7.cell? ⟨gb107, 1, none⟩ = some (.int .i64 a0_1) := (blk_cell BK107.out 1).trans rfl; have hfz8_0 := blk_frozen BK107.out 0; have hfz8_1 := blk_frozen BK107.out 1) | ((with_reducible refine gate_callee (f := 48) rfl ?_); refine goesL_ (some 5) rfl rfl Try.func48 (by kernel_rfl) rfl #[.int .i64 a0_0, .int .i64 0, .int .i64 20] rfl (by (try simp only [List.map_toArray, List.map_cons, List.map_nil]); first | done | rfl | (simp only [List.length_drop, List.length_take]; rfl)) ?_; (with_reducible refine (impl_in.calls a0_0 0 20 false _ A2.out).mono ?_); rintro e w' ⟨rfl, ⟨nd, rfl⟩⟩; refine ⟨_, rfl, ?_⟩))
    go_ret
    exact ⟨by first | rfl | (simp [errW_none, errW_some] <;> rfl) | (simp [*, errW_none, errW_some] <;> rfl), by repeat (first | (with_reducible first | exact HB.out | apply below_alloc | apply pw_below_drewN | apply below_drew1 | refine below_set ?_ GE107.out) | exact HB.out)⟩

end Go.Proofs.Ytooabmmnbifclaa.P
-- Laid by a program of this work.
namespace Go.Proofs.Ytooabmmnbifclaa.P
open Go.RowKit Go.Proofs.YtooabmmnbifclaaW.PrintWords Go.Proofs.YtooabmmnbifclaaW.PrintLast Go.Proofs.YtooabmmnbifclaaW.PrintMore
attribute [local go_sem] max2_int min2_int max_two min_two max_three min_three max_four min_four   -- for this text's walks alone
set_option linter.unusedVariables false
set_option linter.unusedSimpArgs false

/-! ### spec_LinkValid: function 20 -/
def spec_LinkValid.f (a0_0 : Int) (a0_1 : Int) : Option (Bool) := (spec_l1In.f a0_0 0 20).bind fun t118 => (if t118 = true then ((spec_l1In.f a0_1 1 20).bind fun t119 => (some t119)) else (some false))
set_option maxHeartbeats 8000000 in
set_option maxRecDepth 100000 in
theorem spec_LinkValid.calls (a0_0 : Int) (a0_1 : Int) (r : Bool) (w : World) (h : spec_LinkValid.f a0_0 a0_1 = some r) :
    Calls Try.prog 20 #[.agg #[.int .i64 a0_0, .int .i64 a0_1]] w fun e w' => e = .returned (.bool r) ∧ Below w.heap.size w w' := by
  have hu31 := Try.underlying31
  have HB := Aside0.mk (Below.refl w.heap.size w)
  have H : ((spec_l1In.f a0_0 0 20).bind fun t118 => (if t118 = true then ((spec_l1In.f a0_1 1 20).bind fun t119 => (some t119)) else (some false))) = some r := h
  clear h
  replace H := Option.bind_eq_some_iff.mp H
  obtain ⟨t118, A20, H⟩ := H
  replace H : (if t118 = true then ((spec_l1In.f a0_1 1 20).bind fun t119 => (some t119)) else (some false)) = some r := H
  have A2 := Aside0.mk A20
  clear A20
  by_cases c3 : t118 = true
  · subst c3
    have H1 : ((spec_l1In.f a0_1 1 20).bind fun t119 => (some t119)) = some r := by rw [if_pos rfl] at H; exact H
    clear H
    have H := H1
    clear H1
    replace H := Option.bind_eq_some_iff.mp H
    obtain ⟨t119, A40, H⟩ := H
    replace H : (some t119) = some r := H
    have A4 := Aside0.mk A40
    clear A40
    obtain rfl := Option.some.inj H
    go_enter Try.func20, Try.ntmps20
    go_wp2_with (first | ((with_reducible refine gate_dst (N := 1) rfl ?_); refine box_event ?hg (N := 1) ?hd (cs := #[.int .i64 a0_0, .int .i64 a0_1]) (t := 31) ?hr ?_; (case hd => rfl); (case hg => rfl); (case hr => first | (go_simp; done) | (go_simp; rfl)); intro gb117 hg w5 hbox hb; have n0_ := Aside0.mk (below_step (by repeat (first | (with_reducible first | exact HB.out | apply below_alloc | apply pw_below_drewN | apply below_drew1) | exact HB.out)) hb); have n1_ := Aside0.mk (hbox); have n2_ := Aside0.mk ((by rw [hg]; exact (below_size (by repeat (first | (with_reducible first | exact HB.out | apply below_alloc | apply pw_below_drewN | apply below_drew1) | exact HB.out))) : w.heap.size ≤ gb117)); have n3_ := Aside0.mk ((by rw [hg]; exact (below_size (by repeat (first | (with_reducible first | exact HB.out | apply below_alloc | apply pw_below_drewN | apply below_drew1) | exact HB.out))) : w.heap.size ≤ gb117)); clear HB; have HB := n0_; have BK117 := n1_; have GW117 := n2_; have GE117 := n3_; clear n0_ n1_ n2_ n3_; clear hb hbox hg; have hcz6_0 : w5.cell? ⟨gb117, 0, none⟩ = some (.int .i64 a0_0) := (blk_cell BK117.out 0).trans rfl; have hcz6_1 : w5.cell? ⟨gb117, 1, none⟩ = some (.int .i64 a0_1) := (blk_cell BK117.out 1).trans rfl; have hfz6_0 := blk_frozen BK117.out 0; have hfz6_1 := blk_frozen BK117.out 1) | ((with_reducible refine gate_callee (f := 47) rfl ?_); refine goesL_ (some 5) rfl rfl Try.func47 (by kernel_rfl) rfl #[.int .i64 a0_0, .int .i64 0, .int .i64 20] rfl (by (try simp only [List.map_toArray, List.map_cons, List.map_nil]); first | done | rfl | (simp only [List.length_drop, List.length_take]; rfl)) ?_; (with_reducible refine (spec_l1In.calls a0_0 0 20 true _ A2.out).mono ?_); rintro e w' ⟨rfl, ⟨nd, rfl⟩⟩; refine ⟨_, rfl, ?_⟩) | (go_at_call 47; (with_reducible refine (spec_l1In.calls a0_1 1 20 t119 _ A4.out).mono ?_); rintro e w' ⟨rfl, ⟨nd, rfl⟩⟩))
    go_ret
    exact ⟨by first | rfl | (simp [errW_none, errW_some] <;> rfl) | (simp [*, errW_none, errW_some] <;> rfl), by repeat (first | (with_reducible first | exact HB.out | apply below_alloc | apply pw_below_drewN | apply below_drew1 | refine below_set ?_ GE117.out) | exact HB.out)⟩
  · replace c3 := Bool.eq_false_iff.mpr c3
    subst c3
    have H1 : (some false) = some r := by rw [if_neg (show ¬ (false = true) by decide)] at H; exact H
    clear H
    have H := H1
    clear H1
    obtain rfl := Option.some.inj H
    go_enter Try.func20, Try.ntmps20
    go_wp2_with (first | ((with_reducible refine gate_dst (N := 1) rfl ?_); refine box_event ?hg (N := 1) ?hd (cs := #[.int .i64 a0_0, .int .i64 a0_1]) (t := 31) ?hr ?_; (case hd => rfl); (case hg => rfl); (case hr => first | (go_simp; done) | (go_simp; rfl)); intro gb117 hg w7 hbox hb; have n0_ := Aside0.mk (below_step (by repeat (first | (with_reducible first | exact HB.out | apply below_alloc | apply pw_below_drewN | apply below_drew1) | exact HB.out)) hb); have n1_ := Aside0.mk (hbox); have n2_ := Aside0.mk ((by rw [hg]; exact (below_size (by repeat (first | (with_reducible first | exact HB.out | apply below_alloc | apply pw_below_drewN | apply below_drew1) | exact HB.out))) : w.heap.size ≤ gb117)); have n3_ := Aside0.mk ((by rw [hg]; exact (below_size (by repeat (first | (with_reducible first | exact HB.out | apply below_alloc | apply pw_below_drewN | apply below_drew1) | exact HB.out))) : w.heap.size ≤ gb117)); clear HB; have HB := n0_; have BK117 := n1_; have GW117 := n2_; have GE117 := n3_; clear n0_ n1_ n2_ n3_; clear hb hbox hg; have hcz8_0 : w7.cell? ⟨gb117, 0, none⟩ = some (.int .i64 a0_0) := (blk_cell BK117.out 0).trans rfl; have hcz8_1 : w7.cell? ⟨gb117, 1, none⟩ = some (.int .i64 a0_1) := (blk_cell BK117.out 1).trans rfl; have hfz8_0 := blk_frozen BK117.out 0; have hfz8_1 := blk_frozen BK117.out 1) | ((with_reducible refine gate_callee (f := 47) rfl ?_); refine goesL_ (some 5) rfl rfl Try.func47 (by kernel_rfl) rfl #[.int .i64 a0_0, .int .i64 0, .int .i64 20] rfl (by (try simp only [List.map_toArray, List.map_cons, List.map_nil]); first | done | rfl | (simp only [List.length_drop, List.length_take]; rfl)) ?_; (with_reducible refine (spec_l1In.calls a0_0 0 20 false _ A2.out).mono ?_); rintro e w' ⟨rfl, ⟨nd, rfl⟩⟩; refine ⟨_, rfl, ?_⟩))
    go_ret
    exact ⟨by first | rfl | (simp [errW_none, errW_some] <;> rfl) | (simp [*, errW_none, errW_some] <;> rfl), by repeat (first | (with_reducible first | exact HB.out | apply below_alloc | apply pw_below_drewN | apply below_drew1 | refine below_set ?_ GE117.out) | exact HB.out)⟩

end Go.Proofs.Ytooabmmnbifclaa.P
-- Laid by a program of this work.
namespace Go.Proofs.Ytooabmmnbifclaa.P
open Go.RowKit Go.Proofs.YtooabmmnbifclaaW.PrintWords Go.Proofs.YtooabmmnbifclaaW.PrintLast Go.Proofs.YtooabmmnbifclaaW.PrintMore
attribute [local go_sem] max2_int min2_int max_two min_two max_three min_three max_four min_four   -- for this text's walks alone
set_option linter.unusedVariables false
set_option linter.unusedSimpArgs false

/-! ### impl_LinkValid: function 22 -/
def impl_LinkValid.f (a0_0 : Int) (a0_1 : Int) : Option (Bool) := (impl_in.f a0_0 0 20).bind fun t124 => (if t124 = true then ((impl_in.f a0_1 1 20).bind fun t125 => (some t125)) else (some false))
set_option maxHeartbeats 8000000 in
set_option maxRecDepth 100000 in
theorem impl_LinkValid.calls (a0_0 : Int) (a0_1 : Int) (r : Bool) (w : World) (h : impl_LinkValid.f a0_0 a0_1 = some r) :
    Calls Try.prog 22 #[.agg #[.int .i64 a0_0, .int .i64 a0_1]] w fun e w' => e = .returned (.bool r) ∧ Below w.heap.size w w' := by
  have hu31 := Try.underlying31
  have HB := Aside0.mk (Below.refl w.heap.size w)
  have H : ((impl_in.f a0_0 0 20).bind fun t124 => (if t124 = true then ((impl_in.f a0_1 1 20).bind fun t125 => (some t125)) else (some false))) = some r := h
  clear h
  replace H := Option.bind_eq_some_iff.mp H
  obtain ⟨t124, A20, H⟩ := H
  replace H : (if t124 = true then ((impl_in.f a0_1 1 20).bind fun t125 => (some t125)) else (some false)) = some r := H
  have A2 := Aside0.mk A20
  clear A20
  by_cases c3 : t124 = true
  · subst c3
    have H1 : ((impl_in.f a0_1 1 20).bind fun t125 => (some t125)) = some r := by rw [if_pos rfl] at H; exact H
    clear H
    have H := H1
    clear H1
    replace H := Option.bind_eq_some_iff.mp H
    obtain ⟨t125, A40, H⟩ := H
    replace H : (some t125) = some r := H
    have A4 := Aside0.mk A40
    clear A40
    obtain rfl := Option.some.inj H
    go_enter Try.func22, Try.ntmps22
    go_wp2_with (first | ((with_reducible refine gate_dst (N := 1) rfl ?_); refine box_event ?hg (N := 1) ?hd (cs := #[.int .i64 a0_0, .int .i64 a0_1]) (t := 31) ?hr ?_; (case hd => rfl); (case hg => rfl); (case hr => first | (go_simp; done) | (go_simp; rfl)); intro gb123 hg w5 hbox hb; have n0_ := Aside0.mk (below_step (by repeat (first | (with_reducible first | exact HB.out | apply below_alloc | apply pw_below_drewN | apply below_drew1) | exact HB.out)) hb); have n1_ := Aside0.mk (hbox); have n2_ := Aside0.mk ((by rw [hg]; exact (below_size (by repeat (first | (with_reducible first | exact HB.out | apply below_alloc | apply pw_below_drewN | apply below_drew1) | exact HB.out))) : w.heap.size ≤ gb123)); have n3_ := Aside0.mk ((by rw [hg]; exact (below_size (by repeat (first | (with_reducible first | exact HB.out | apply below_alloc | apply pw_below_drewN | apply below_drew1) | exact HB.out))) : w.heap.size ≤ gb123)); clear HB; have HB := n0_; have BK123 := n1_; have GW123 := n2_; have GE123 := n3_; clear n0_ n1_ n2_ n3_; clear hb hbox hg; have hcz6_0 : w5.cell? ⟨gb123, 0, none⟩ = some (.int .i64 a0_0) := (blk_cell BK123.out 0).trans rfl; have hcz6_1 : w5.cell? ⟨gb123, 1, none⟩ = some (.int .i64 a0_1) := (blk_cell BK123.out 1).trans rfl; have hfz6_0 := blk_frozen BK123.out 0; have hfz6_1 := blk_frozen BK123.out 1) | ((with_reducible refine gate_callee (f := 48) rfl ?_); refine goesL_ (some 5) rfl rfl Try.func48 (by kernel_rfl) rfl #[.int .i64 a0_0, .int .i64 0, .int .i64 20] rfl (by (try simp only [List.map_toArray, List.map_cons, List.map_nil]); first | done | rfl | (simp only [List.length_drop, List.length_take]; rfl)) ?_; (with_reducible refine (impl_in.calls a0_0 0 20 true _ A2.out).mono ?_); rintro e w' ⟨rfl, ⟨nd, rfl⟩⟩; refine ⟨_, rfl, ?_⟩) | (go_at_call 48; (with_reducible refine (impl_in.calls a0_1 1 20 t125 _ A4.out).mono ?_); rintro e w' ⟨rfl, ⟨nd, rfl⟩⟩))
    go_ret
    exact ⟨by first | rfl | (simp [errW_none, errW_some] <;> rfl) | (simp [*, errW_none, errW_some] <;> rfl), by repeat (first | (with_reducible first | exact HB.out | apply below_alloc | apply pw_below_drewN | apply below_drew1 | refine below_set ?_ GE123.out) | exact HB.out)⟩
  · replace c3 := Bool.eq_false_iff.mpr c3
    subst c3
    have H1 : (some false) = some r := by rw [if_neg (show ¬ (false = true) by decide)] at H; exact H
    clear H
    have H := H1
    clear H1
    obtain rfl := Option.some.inj H
    go_enter Try.func22, Try.ntmps22
    go_wp2_with (first | ((with_reducible refine gate_dst (N := 1) rfl ?_); refine box_event ?hg (N := 1) ?hd (cs := #[.int .i64 a0_0, .int .i64 a0_1]) (t := 31) ?hr ?_; (case hd => rfl); (case hg => rfl); (case hr => first | (go_simp; done) | (go_simp; rfl)); intro gb123 hg w7 hbox hb; have n0_ := Aside0.mk (below_step (by repeat (first | (with_reducible first | exact HB.out | apply below_alloc | apply pw_below_drewN | apply below_drew1) | exact HB.out)) hb); have n1_ := Aside0.mk (hbox); have n2_ := Aside0.mk ((by rw [hg]; exact (below_size (by repeat (first | (with_reducible first | exact HB.out | apply below_alloc | apply pw_below_drewN | apply below_drew1) | exact HB.out))) : w.heap.size ≤ gb123)); have n3_ := Aside0.mk ((by rw [hg]; exact (below_size (by repeat (first | (with_reducible first | exact HB.out | apply below_alloc | apply pw_below_drewN | apply below_drew1) | exact HB.out))) : w.heap.size ≤ gb123)); clear HB; have HB := n0_; have BK123 := n1_; have GW123 := n2_; have GE123 := n3_; clear n0_ n1_ n2_ n3_; clear hb hbox hg; have hcz8_0 : w7.cell? ⟨gb123, 0, none⟩ = some (.int .i64 a0_0) := (blk_cell BK123.out 0).trans rfl; have hcz8_1 : w7.cell? ⟨gb123, 1, none⟩ = some (.int .i64 a0_1) := (blk_cell BK123.out 1).trans rfl; have hfz8_0 := blk_frozen BK123.out 0; have hfz8_1 := blk_frozen BK123.out 1) | ((with_reducible refine gate_callee (f := 48) rfl ?_); refine goesL_ (some 5) rfl rfl Try.func48 (by kernel_rfl) rfl #[.int .i64 a0_0, .int .i64 0, .int .i64 20] rfl (by (try simp only [List.map_toArray, List.map_cons, List.map_nil]); first | done | rfl | (simp only [List.length_drop, List.length_take]; rfl)) ?_; (with_reducible refine (impl_in.calls a0_0 0 20 false _ A2.out).mono ?_); rintro e w' ⟨rfl, ⟨nd, rfl⟩⟩; refine ⟨_, rfl, ?_⟩))
    go_ret
    exact ⟨by first | rfl | (simp [errW_none, errW_some] <;> rfl) | (simp [*, errW_none, errW_some] <;> rfl), by repeat (first | (with_reducible first | exact HB.out | apply below_alloc | apply pw_below_drewN | apply below_drew1 | refine below_set ?_ GE123.out) | exact HB.out)⟩

end Go.Proofs.Ytooabmmnbifclaa.P
-- Laid by a program of this work.
namespace Go.Proofs.Ytooabmmnbifclaa.P
open Go.RowKit Go.Proofs.YtooabmmnbifclaaW.PrintWords Go.Proofs.YtooabmmnbifclaaW.PrintLast Go.Proofs.YtooabmmnbifclaaW.PrintMore
attribute [local go_sem] max2_int min2_int max_two min_two max_three min_three max_four min_four   -- for this text's walks alone
set_option linter.unusedVariables false
set_option linter.unusedSimpArgs false

/-! ### impl_TaskValid: function 55 -/
def impl_TaskValid.f (a0_0 : Int) (a0_1 : Int) (a0_2 : Int) : Option (Bool) := (impl_in.f a0_0 1 8).bind fun t273 => (if t273 = true then ((impl_in.f a0_1 a0_0 a0_2).bind fun t274 => (if t274 = true then (some (decide (a0_2 ≤ 12))) else (some false))) else (some false))
set_option maxHeartbeats 8000000 in
set_option maxRecDepth 100000 in
theorem impl_TaskValid.calls (a0_0 : Int) (a0_1 : Int) (a0_2 : Int) (r : Bool) (w : World) (h : impl_TaskValid.f a0_0 a0_1 a0_2 = some r) :
    Calls Try.prog 55 #[.agg #[.int .i64 a0_0, .int .i64 a0_1, .int .i64 a0_2]] w fun e w' => e = .returned (.bool r) ∧ Below w.heap.size w w' := by
  have hu76 := Try.underlying76
  have HB := Aside0.mk (Below.refl w.heap.size w)
  have H : ((impl_in.f a0_0 1 8).bind fun t273 => (if t273 = true then ((impl_in.f a0_1 a0_0 a0_2).bind fun t274 => (if t274 = true then (some (decide (a0_2 ≤ 12))) else (some false))) else (some false))) = some r := h
  clear h
  replace H := Option.bind_eq_some_iff.mp H
  obtain ⟨t273, A20, H⟩ := H
  replace H : (if t273 = true then ((impl_in.f a0_1 a0_0 a0_2).bind fun t274 => (if t274 = true then (some (decide (a0_2 ≤ 12))) else (some false))) else (some false)) = some r := H
  have A2 := Aside0.mk A20
  clear A20
  by_cases c3 : t273 = true
  · subst c3
    have H1 : ((impl_in.f a0_1 a0_0 a0_2).bind fun t274 => (if t274 = true then (some (decide (a0_2 ≤ 12))) else (some false))) = some r := by rw [if_pos rfl] at H; exact H
    clear H
    have H := H1
    clear H1
    replace H := Option.bind_eq_some_iff.mp H
    obtain ⟨t274, A40, H⟩ := H
    replace H : (if t274 = true then (some (decide (a0_2 ≤ 12))) else (some false)) = some r := H
    have A4 := Aside0.mk A40
    clear A40
    by_cases c5 : t274 = true
    · subst c5
      have H1 : (some (decide (a0_2 ≤ 12))) = some r := by rw [if_pos rfl] at H; exact H
      clear H
      have H := H1
      clear H1
      obtain rfl := Option.some.inj H
      go_enter Try.func55, Try.ntmps55
      go_wp2_with (first | ((with_reducible refine gate_dst (N := 1) rfl ?_); refine box_event ?hg (N := 1) ?hd (cs := #[.int .i64 a0_0, .int .i64 a0_1, .int .i64 a0_2]) (t := 76) ?hr ?_; (case hd => rfl); (case hg => rfl); (case hr => first | (go_simp; done) | (go_simp; rfl)); intro gb272 hg w6 hbox hb; have n0_ := Aside0.mk (below_step (by repeat (first | (with_reducible first | exact HB.out | apply below_alloc | apply pw_below_drewN | apply below_drew1) | exact HB.out)) hb); have n1_ := Aside0.mk (hbox); have n2_ := Aside0.mk ((by rw [hg]; exact (below_size (by repeat (first | (with_reducible first | exact HB.out | apply below_alloc | apply pw_below_drewN | apply below_drew1) | exact HB.out))) : w.heap.size ≤ gb272)); have n3_ := Aside0.mk ((by rw [hg]; exact (below_size (by repeat (first | (with_reducible first | exact HB.out | apply below_alloc | apply pw_below_drewN | apply below_drew1) | exact HB.out))) : w.heap.size ≤ gb272)); clear HB; have HB := n0_; have BK272 := n1_; have GW272 := n2_; have GE272 := n3_; clear n0_ n1_ n2_ n3_; clear hb hbox hg; have hcz7_0 : w6.cell? ⟨gb272, 0, none⟩ = some (.int .i64 a0_0) := (blk_cell BK272.out 0).trans rfl; have hcz7_1 : w6.cell? ⟨gb272, 1, none⟩ = some (.int .i64 a0_1) := (blk_cell BK272.out 1).trans rfl; have hcz7_2 : w6.cell? ⟨gb272, 2, none⟩ = some (.int .i64 a0_2) := (blk_cell BK272.out 2).trans rfl; have hfz7_0 := blk_frozen BK272.out 0; have hfz7_1 := blk_frozen BK272.out 1; have hfz7_2 := blk_frozen BK272.out 2) | ((with_reducible refine gate_callee (f := 48) rfl ?_); refine goesL_ (some 5) rfl rfl Try.func48 (by kernel_rfl) rfl #[.int .i64 a0_0, .int .i64 1, .int .i64 8] rfl (by (try simp only [List.map_toArray, List.map_cons, List.map_nil]); first | done | rfl | (simp only [List.length_drop, List.length_take]; rfl)) ?_; (with_reducible refine (impl_in.calls a0_0 1 8 true _ A2.out).mono ?_); rintro e w' ⟨rfl, ⟨nd, rfl⟩⟩; refine ⟨_, rfl, ?_⟩) | (go_at_call 48; (with_reducible refine (impl_in.calls a0_1 a0_0 a0_2 true _ A4.out).mono ?_); rintro e w' ⟨rfl, ⟨nd, rfl⟩⟩))
      go_ret
      exact ⟨by first | rfl | (simp [errW_none, errW_some] <;> rfl) | (simp [*, errW_none, errW_some] <;> rfl), by repeat (first | (with_reducible first | exact HB.out | apply below_alloc | apply pw_below_drewN | apply below_drew1 | refine below_set ?_ GE272.out) | exact HB.out)⟩
    · replace c5 := Bool.eq_false_iff.mpr c5
      subst c5
      have H1 : (some false) = some r := by rw [if_neg (show ¬ (false = true) by decide)] at H; exact H
      clear H
      have H := H1
      clear H1
      obtain rfl := Option.some.inj H
      go_enter Try.func55, Try.ntmps55
      go_wp2_with (first | ((with_reducible refine gate_dst (N := 1) rfl ?_); refine box_event ?hg (N := 1) ?hd (cs := #[.int .i64 a0_0, .int .i64 a0_1, .int .i64 a0_2]) (t := 76) ?hr ?_; (case hd => rfl); (case hg => rfl); (case hr => first | (go_simp; done) | (go_simp; rfl)); intro gb272 hg w8 hbox hb; have n0_ := Aside0.mk (below_step (by repeat (first | (with_reducible first | exact HB.out | apply below_alloc | apply pw_below_drewN | apply below_drew1) | exact HB.out)) hb); have n1_ := Aside0.mk (hbox); have n2_ := Aside0.mk ((by rw [hg]; exact (below_size (by repeat (first | (with_reducible first | exact HB.out | apply below_alloc | apply pw_below_drewN | apply below_drew1) | exact HB.out))) : w.heap.size ≤ gb272)); have n3_ := Aside0.mk ((by rw [hg]; exact (below_size (by repeat (first | (with_reducible first | exact HB.out | apply below_alloc | apply pw_below_drewN | apply below_drew1) | exact HB.out))) : w.heap.size ≤ gb272)); clear HB; have HB := n0_; have BK272 := n1_; have GW272 := n2_; have GE272 := n3_; clear n0_ n1_ n2_ n3_; clear hb hbox hg; have hcz9_0 : w8.cell? ⟨gb272, 0, none⟩ = some (.int .i64 a0_0) := (blk_cell BK272.out 0).trans rfl; have hcz9_1 : w8.cell? ⟨gb272, 1, none⟩ = some (.int .i64 a0_1) := (blk_cell BK272.out 1).trans rfl; have hcz9_2 : w8.cell? ⟨gb272, 2, none⟩ = some (.int .i64 a0_2) := (blk_cell BK272.out 2).trans rfl; have hfz9_0 := blk_frozen BK272.out 0; have hfz9_1 := blk_frozen BK272.out 1; have hfz9_2 := blk_frozen BK272.out 2) | ((with_reducible refine gate_callee (f := 48) rfl ?_); refine goesL_ (some 5) rfl rfl Try.func48 (by kernel_rfl) rfl #[.int .i64 a0_0, .int .i64 1, .int .i64 8] rfl (by (try simp only [List.map_toArray, List.map_cons, List.map_nil]); first | done | rfl | (simp only [List.length_drop, List.length_take]; rfl)) ?_; (with_reducible refine (impl_in.calls a0_0 1 8 true _ A2.out).mono ?_); rintro e w' ⟨rfl, ⟨nd, rfl⟩⟩; refine ⟨_, rfl, ?_⟩) | (go_at_call 48; (with_reducible refine (impl_in.calls a0_1 a0_0 a0_2 false _ A4.out).mono ?_); rintro e w' ⟨rfl, ⟨nd, rfl⟩⟩))
      go_ret
      exact ⟨by first | rfl | (simp [errW_none, errW_some] <;> rfl) | (simp [*, errW_none, errW_some] <;> rfl), by repeat (first | (with_reducible first | exact HB.out | apply below_alloc | apply pw_below_drewN | apply below_drew1 | refine below_set ?_ GE272.out) | exact HB.out)⟩
  · replace c3 := Bool.eq_false_iff.mpr c3
    subst c3
    have H1 : (some false) = some r := by rw [if_neg (show ¬ (false = true) by decide)] at H; exact H
    clear H
    have H := H1
    clear H1
    obtain rfl := Option.some.inj H
    go_enter Try.func55, Try.ntmps55
    go_wp2_with (first | ((with_reducible refine gate_dst (N := 1) rfl ?_); refine box_event ?hg (N := 1) ?hd (cs := #[.int .i64 a0_0, .int .i64 a0_1, .int .i64 a0_2]) (t := 76) ?hr ?_; (case hd => rfl); (case hg => rfl); (case hr => first | (go_simp; done) | (go_simp; rfl)); intro gb272 hg w10 hbox hb; have n0_ := Aside0.mk (below_step (by repeat (first | (with_reducible first | exact HB.out | apply below_alloc | apply pw_below_drewN | apply below_drew1) | exact HB.out)) hb); have n1_ := Aside0.mk (hbox); have n2_ := Aside0.mk ((by rw [hg]; exact (below_size (by repeat (first | (with_reducible first | exact HB.out | apply below_alloc | apply pw_below_drewN | apply below_drew1) | exact HB.out))) : w.heap.size ≤ gb272)); have n3_ := Aside0.mk ((by rw [hg]; exact (below_size (by repeat (first | (with_reducible first | exact HB.out | apply below_alloc | apply pw_below_drewN | apply below_drew1) | exact HB.out))) : w.heap.size ≤ gb272)); clear HB; have HB := n0_; have BK272 := n1_; have GW272 := n2_; have GE272 := n3_; clear n0_ n1_ n2_ n3_; clear hb hbox hg; have hcz11_0 : w10.cell? ⟨gb272, 0, none⟩ = some (.int .i64 a0_0) := (blk_cell BK272.out 0).trans rfl; have hcz11_1 : w10.cell? ⟨gb272, 1, none⟩ = some (.int .i64 a0_1) := (blk_cell BK272.out 1).trans rfl; have hcz11_2 : w10.cell? ⟨gb272, 2, none⟩ = some (.int .i64 a0_2) := (blk_cell BK272.out 2).trans rfl; have hfz11_0 := blk_frozen BK272.out 0; have hfz11_1 := blk_frozen BK272.out 1; have hfz11_2 := blk_frozen BK272.out 2) | ((with_reducible refine gate_callee (f := 48) rfl ?_); refine goesL_ (some 5) rfl rfl Try.func48 (by kernel_rfl) rfl #[.int .i64 a0_0, .int .i64 1, .int .i64 8] rfl (by (try simp only [List.map_toArray, List.map_cons, List.map_nil]); first | done | rfl | (simp only [List.length_drop, List.length_take]; rfl)) ?_; (with_reducible refine (impl_in.calls a0_0 1 8 false _ A2.out).mono ?_); rintro e w' ⟨rfl, ⟨nd, rfl⟩⟩; refine ⟨_, rfl, ?_⟩))
    go_ret
    exact ⟨by first | rfl | (simp [errW_none, errW_some] <;> rfl) | (simp [*, errW_none, errW_some] <;> rfl), by repeat (first | (with_reducible first | exact HB.out | apply below_alloc | apply pw_below_drewN | apply below_drew1 | refine below_set ?_ GE272.out) | exact HB.out)⟩

end Go.Proofs.Ytooabmmnbifclaa.P
-- Laid by a program of this work.
namespace Go.Proofs.Ytooabmmnbifclaa.P
open Go.RowKit Go.Proofs.YtooabmmnbifclaaW.PrintWords Go.Proofs.YtooabmmnbifclaaW.PrintLast Go.Proofs.YtooabmmnbifclaaW.PrintMore
attribute [local go_sem] max2_int min2_int max_two min_two max_three min_three max_four min_four   -- for this text's walks alone
set_option linter.unusedVariables false
set_option linter.unusedSimpArgs false

/-! ### laws_alive: function 36 -/
def laws_alive.f  : Option (Bool) := (impl_TaskValid.f 1 1 1).bind fun t275 => (some t275)
set_option maxHeartbeats 8000000 in
set_option maxRecDepth 100000 in
theorem laws_alive.calls  (r : Bool) (w : World) (h : laws_alive.f  = some r) :
    Calls Try.prog 36 #[] w fun e w' => e = .returned (.bool r) ∧ Below w.heap.size w w' := by
  have hu76 := Try.underlying76
  have HB := Aside0.mk (Below.refl w.heap.size w)
  have H : ((impl_TaskValid.f 1 1 1).bind fun t275 => (some t275)) = some r := h
  clear h
  replace H := Option.bind_eq_some_iff.mp H
  obtain ⟨t275, A10, H⟩ := H
  replace H : (some t275) = some r := H
  have A1 := Aside0.mk A10
  clear A10
  obtain rfl := Option.some.inj H
  go_enter Try.func36, Try.ntmps36
  go_wp2_with (first | ((with_reducible refine gate_callee (f := 55) rfl ?_); refine goesL_ (some 2) rfl rfl Try.func55 (by kernel_rfl) rfl #[.agg #[.int .i64 1, .int .i64 1, .int .i64 1]] rfl (by (try simp only [List.map_toArray, List.map_cons, List.map_nil]); first | done | rfl | (simp only [List.length_drop, List.length_take]; rfl)) ?_; (with_reducible refine (impl_TaskValid.calls 1 1 1 t275 _ A1.out).mono ?_); rintro e w2 ⟨rfl, hb⟩; refine ⟨_, rfl, ?_⟩; have n0_ := Aside0.mk (below_step (by repeat (first | (with_reducible first | exact HB.out | apply below_alloc | apply pw_below_drewN | apply below_drew1) | exact HB.out)) hb); clear HB; have HB := n0_; clear n0_; (try clear hb); (try clear hb2); (try clear hk); (try clear hi)))
  go_ret
  exact ⟨by first | rfl | (simp [errW_none, errW_some] <;> rfl) | (simp [*, errW_none, errW_some] <;> rfl), by repeat (first | (with_reducible first | exact HB.out | apply below_alloc | apply pw_below_drewN | apply below_drew1) | exact HB.out)⟩

end Go.Proofs.Ytooabmmnbifclaa.P
-- Laid by a program of this work.
namespace Go.Proofs.Ytooabmmnbifclaa.P
open Go.RowKit Go.Proofs.YtooabmmnbifclaaW.PrintWords Go.Proofs.YtooabmmnbifclaaW.PrintLast Go.Proofs.YtooabmmnbifclaaW.PrintMore
attribute [local go_sem] max2_int min2_int max_two min_two max_three min_three max_four min_four   -- for this text's walks alone
set_option linter.unusedVariables false
set_option linter.unusedSimpArgs false

/-- A state of type 84 at block g of W; what its slices lead to came in by w0. -/
def IsS84 (w0 W : World) (g : Nat) (f0 : List Int) (f1 : Int) : Prop := ∃ A0 c0, W.heap[g]? = some (.cells #[.slice A0 f0.length c0, .int .i64 f1] 84 (0, 0)) ∧ w0.heap.size ≤ g ∧ Kd.C (Kd.int .u8) w0 A0 f0.length f0
theorem IsS84.grown {w0 W : World} {g : Nat} {f0 : List Int} {f1 : Int} {W1 : World} {row : Option Nat} (h : IsS84 w0 W g f0 f1) (hw : W.grownBy W1 row) (hne : some g ≠ row) : IsS84 w0 W1 g f0 f1 := by
  obtain ⟨A0, c0, hb, hg, hr0⟩ := h
  exact ⟨A0, c0, blk_grown hb hw hne, hg, hr0⟩
theorem IsS84.own_neN {w0 W : World} {g : Nat} {f0 : List Int} {f1 : Int} {α : Type} {d : Kd α} {e : Nat} {base : Nat} {ok : Nat → Prop} {v : Value} {xs : List α} (h : IsS84 w0 W g f0 f1) (ho : Kd.N d e W base ok v xs) (ht : e ≠ 84) : some g ≠ v.ownBlock := by
  obtain ⟨A0, c0, hb, hg, hr0⟩ := h
  exact Kd.N_ne ho hb ht
theorem IsS84.fresh {w0 W : World} {g : Nat} {f0 : List Int} {f1 : Int} (h : IsS84 w0 W g f0 f1) : ∀ k, W.heap.size ≤ k → k ≠ g := by
  obtain ⟨A0, c0, hb, hg, hr0⟩ := h
  exact Kd.freshB hb
theorem IsS84.kept {w0 W : World} {g : Nat} {f0 : List Int} {f1 : Int} {W1 : World} {S : Nat → Prop} (h : IsS84 w0 W g f0 f1) (hk : Kept W W1 S) (hne : ¬ S g) : IsS84 w0 W1 g f0 f1 := by
  obtain ⟨A0, c0, hb, hg, hr0⟩ := h
  exact ⟨A0, c0, blk_kept hb hk hne, hg, hr0⟩
theorem IsS84.below {w0 W : World} {g : Nat} {f0 : List Int} {f1 : Int} {W1 : World} (h : IsS84 w0 W g f0 f1) (hw : Below W.heap.size W W1) : IsS84 w0 W1 g f0 f1 := h.grown (grown_of_below hw none) (by simp)
theorem IsS84.alloc {w0 W : World} {g : Nat} {f0 : List Int} {f1 : Int} (h : IsS84 w0 W g f0 f1) (o : Obj) : IsS84 w0 (W.alloc o) g f0 f1 := h.below (below_alloc (Below.refl _ _) o)
theorem IsS84.drewN {w0 W : World} {g : Nat} {f0 : List Int} {f1 : Int} (h : IsS84 w0 W g f0 f1) (m : Nat) : IsS84 w0 (W.drewN m) g f0 f1 := h
theorem IsS84.drew {w0 W : World} {g : Nat} {f0 : List Int} {f1 : Int} (h : IsS84 w0 W g f0 f1) : IsS84 w0 W.drew g f0 f1 := h
theorem IsS84.at_ {w0 W : World} {g : Nat} {f0 : List Int} {f1 : Int} {w' : World} {m : Nat} (hq : W.drewN m = w') (h : IsS84 w0 W g f0 f1) : IsS84 w0 w' g f0 f1 := by subst hq; exact IsS84.drewN h m
theorem IsS84.apart {w0 W : World} {g : Nat} {f0 : List Int} {f1 : Int} {α : Type} {d : Kd α} {e : Nat} {base : Nat} {ok : Nat → Prop} {v : Value} {xs : List α} (h : IsS84 w0 W g f0 f1) (ho : d.R e W base ok v xs) (ht : ∀ q, q ∈ e :: d.E → q ≠ 84) : d.R e W base (fun k => ok k ∧ k ≠ g) v xs := by
  obtain ⟨A0, c0, hb, hg, hr0⟩ := h
  exact Kd.R_types ho hb ht
theorem IsS84.own_ne {w0 W : World} {g : Nat} {f0 : List Int} {f1 : Int} {α : Type} {d : Kd α} {e : Nat} {base : Nat} {ok : Nat → Prop} {v : Value} {xs : List α} (h : IsS84 w0 W g f0 f1) (ho : d.R e W base ok v xs) (ht : e ≠ 84) : some g ≠ v.ownBlock := by
  obtain ⟨A0, c0, hb, hg, hr0⟩ := h
  exact Kd.R_ne ho hb ht
theorem IsS84.apartQ {w0 W : World} {g : Nat} {f0 : List Int} {f1 : Int} {α : Type} {d : Kd α} {e : Nat} {base : Nat} {ok : Nat → Prop} {v : Value} {xs : List α} (h : IsS84 w0 W g f0 f1) (ho : d.Q e W base ok v xs) (ht : ∀ q, q ∈ e :: d.E → q ≠ 84) : d.Q e W base (fun k => ok k ∧ k ≠ g) v xs := by
  obtain ⟨A0, c0, hb, hg, hr0⟩ := h
  exact Kd.Q_types ho hb ht
theorem IsS84.own_neQ {w0 W : World} {g : Nat} {f0 : List Int} {f1 : Int} {α : Type} {d : Kd α} {e : Nat} {base : Nat} {ok : Nat → Prop} {v : Value} {xs : List α} (h : IsS84 w0 W g f0 f1) (ho : d.Q e W base ok v xs) (ht : e ≠ 84) : some g ≠ v.ownBlock := by
  obtain ⟨A0, c0, hb, hg, hr0⟩ := h
  exact Kd.Q_ne ho hb ht
theorem IsS84.apartS {w0 W : World} {g : Nat} {f0 : List Int} {f1 : Int} {α : Type} {d : Kd α} {e : Nat} {base : Nat} {ok : Nat → Prop} {v : Value} {xs : List α} (h : IsS84 w0 W g f0 f1) (ho : d.S e W base ok v xs) (ht : ∀ q, q ∈ e :: d.E → q ≠ 84) : d.S e W base (fun k => ok k ∧ k ≠ g) v xs := by
  obtain ⟨A0, c0, hb, hg, hr0⟩ := h
  exact Kd.S_types ho hb ht
theorem IsS84.own_neS {w0 W : World} {g : Nat} {f0 : List Int} {f1 : Int} {α : Type} {d : Kd α} {e : Nat} {base : Nat} {ok : Nat → Prop} {v : Value} {xs : List α} (h : IsS84 w0 W g f0 f1) (ho : d.S e W base ok v xs) (ht : e ≠ 84) : some g ≠ v.ownBlock := by
  obtain ⟨A0, c0, hb, hg, hr0⟩ := h
  exact Kd.S_ne ho hb ht
theorem IsS84.lt {w0 W : World} {g : Nat} {f0 : List Int} {f1 : Int} (h : IsS84 w0 W g f0 f1) : g < W.heap.size := by
  obtain ⟨A0, c0, hb, hg, hr0⟩ := h
  exact blk_lt hb
theorem IsS84.ge {w0 W : World} {g : Nat} {f0 : List Int} {f1 : Int} (h : IsS84 w0 W g f0 f1) : w0.heap.size ≤ g := by
  obtain ⟨A0, c0, hb, hg, hr0⟩ := h
  exact hg
theorem IsS84.ne_blk {w0 W : World} {g : Nat} {f0 : List Int} {f1 : Int} {a : Nat} {cs : Array Value} {t : TypeId} {fr : Nat × Nat} (h : IsS84 w0 W g f0 f1) (hb2 : W.heap[a]? = some (.cells cs t fr)) (ht : t ≠ 84) : g ≠ a := by
  obtain ⟨A0, c0, hb, hg, hr0⟩ := h
  rintro rfl
  rw [hb] at hb2
  injection hb2 with hb2
  injection hb2 with _ ht2
  exact ht ht2.symm
theorem IsS84.far {w0 W : World} {g : Nat} {f0 : List Int} {f1 : Int} {p : Addr} (h : IsS84 w0 W g f0 f1) (hne : g ≠ p.block) (u : Value) : IsS84 w0 (W.setCell p u) g f0 f1 := by
  obtain ⟨A0, c0, hb, hg, hr0⟩ := h
  exact ⟨A0, c0, blk_far hb hne u, hg, hr0⟩
theorem cellS84_0 {W : World} {g : Nat} {A0 : Option Addr} {c0 : Nat} {f0 : List Int} {f1 : Int} (h : W.heap[g]? = some (.cells #[.slice A0 f0.length c0, .int .i64 f1] 84 (0, 0))) : W.cell? ⟨g, 0, none⟩ = some (.slice A0 f0.length c0) := (blk_cell h 0).trans rfl
theorem cellS84_1 {W : World} {g : Nat} {A0 : Option Addr} {c0 : Nat} {f0 : List Int} {f1 : Int} (h : W.heap[g]? = some (.cells #[.slice A0 f0.length c0, .int .i64 f1] 84 (0, 0))) : W.cell? ⟨g, 1, none⟩ = some (.int .i64 f1) := (blk_cell h 1).trans rfl
theorem IsS84.set_1 {w0 W : World} {g : Nat} {f0 : List Int} {f1 : Int} (h : IsS84 w0 W g f0 f1) (x : Int) : IsS84 w0 (W.setCell ⟨g, 1, none⟩ (.int .i64 x)) g f0 x := by
  obtain ⟨A0, c0, hb, hg, hr0⟩ := h
  exact ⟨A0, c0, by simpa using blk_set hb 1 (.int .i64 x), hg, hr0⟩
theorem IsS84.new (w0 W : World) (A0 : Option Addr) (c0 : Nat) (f0 : List Int) (f1 : Int) (hB : Below w0.heap.size w0 W) (hr0 : Kd.C (Kd.int .u8) w0 A0 f0.length f0) : IsS84 w0 (W.alloc (.cells #[.slice A0 f0.length c0, .int .i64 f1] 84)) W.heap.size f0 f1 := ⟨A0, c0, by simpa using heap_alloc_new W _, hB.size, hr0⟩

/-! ### spec_l20Rd_pick: function 58 -/
def spec_l20Rd_pick.j0 : Nat → Int → Bool → List Int → Int → Option (Int × Int)
  | 0, _, _, _, _ => none
  | k + 1, x1, x24, x1000, x1001 => if x24 = true then (some (0, x1001)) else (if (wrap64 (x1001 - 1)) < (x1000.length : Int) then (if 0 ≤ (wrap64 (x1001 - 1)) then (if x1 = 0 then (none) else (some (Int.tmod (wrap64 (rd x1000 (wrap64 (x1001 - 1)))) x1, x1001))) else (none)) else (if (x1000.length : Int) = 0 then (none) else (if 0 ≤ (Int.tmod (wrap64 (x1001 - 1)) (x1000.length : Int)) then (if (Int.tmod (wrap64 (x1001 - 1)) (x1000.length : Int)) < (x1000.length : Int) then (if 0 ≤ (Int.tmod (wrap64 ((wrap64 ((wrap64 (x1001 - 1)) * 7)) + 3)) (x1000.length : Int)) then (if (Int.tmod (wrap64 ((wrap64 ((wrap64 (x1001 - 1)) * 7)) + 3)) (x1000.length : Int)) < (x1000.length : Int) then (if x1 = 0 then (none) else (some (Int.tmod (Go.bits .xor .i64 (wrap64 ((wrap64 ((wrap64 ((wrap64 ((wrap64 (rd x1000 (Int.tmod (wrap64 (x1001 - 1)) (x1000.length : Int)))) * 131)) + (wrap64 ((wrap64 (rd x1000 (Int.tmod (wrap64 ((wrap64 ((wrap64 (x1001 - 1)) * 7)) + 3)) (x1000.length : Int)))) * 1117)))) + (wrap64 ((wrap64 (x1001 - 1)) * 29)))) + (wrap64 ((wrap64 (Int.tdiv (wrap64 (x1001 - 1)) (x1000.length : Int))) * 53)))) (wrap64 (Int.tdiv (wrap64 ((wrap64 ((wrap64 ((wrap64 ((wrap64 (rd x1000 (Int.tmod (wrap64 (x1001 - 1)) (x1000.length : Int)))) * 131)) + (wrap64 ((wrap64 (rd x1000 (Int.tmod (wrap64 ((wrap64 ((wrap64 (x1001 - 1)) * 7)) + 3)) (x1000.length : Int)))) * 1117)))) + (wrap64 ((wrap64 (x1001 - 1)) * 29)))) + (wrap64 ((wrap64 (Int.tdiv (wrap64 (x1001 - 1)) (x1000.length : Int))) * 53)))) 64))) x1, x1001))) else (none)) else (none)) else (none)) else (none))))
def spec_l20Rd_pick.f (k : Nat) (s0_0 : List Int) (s0_1 : Int) (a1 : Int) : Option (Int × Int) := if a1 < 1 then (spec_l20Rd_pick.j0 k a1 true s0_0 (wrap64 (s0_1 + 1))) else (spec_l20Rd_pick.j0 k a1 ((s0_0.length : Int) == 0) s0_0 (wrap64 (s0_1 + 1)))
theorem spec_l20Rd_pick.mono_l : ∀ k, (∀ y0 y1 y2 y3, LeO (spec_l20Rd_pick.j0 k y0 y1 y2 y3) (spec_l20Rd_pick.j0 (k + 1) y0 y1 y2 y3))
  | 0 => fun _ _ _ _ r h => by simp [spec_l20Rd_pick.j0] at h
  | k + 1 => by
    have ih0 := spec_l20Rd_pick.mono_l k
    · intro y0 y1 y2 y3
      unfold spec_l20Rd_pick.j0
      repeat' first
      | (with_reducible exact ih0 _ _ _ _)
      | (with_reducible exact LeO.refl _)
      | (with_reducible exact LeO.none _)
      | (with_reducible refine LeO.ite ?_ ?_)
      | (with_reducible refine LeO.bind ?_ (fun _ => ?_))
      | exact ih0 _ _ _ _
      | exact LeO.none _
      | refine LeO.ite ?_ ?_
      | refine LeO.bind ?_ (fun _ => ?_)
theorem spec_l20Rd_pick.mono : ∀ a0 a1 a2 k, LeO (spec_l20Rd_pick.f k a0 a1 a2) (spec_l20Rd_pick.f (k + 1) a0 a1 a2) := by
  intro a0 a1 a2 k
  have ih0 := spec_l20Rd_pick.mono_l k
  unfold spec_l20Rd_pick.f
  repeat' first
      | (with_reducible exact ih0 _ _ _ _)
      | (with_reducible exact LeO.refl _)
      | (with_reducible exact LeO.none _)
      | (with_reducible refine LeO.ite ?_ ?_)
      | (with_reducible refine LeO.bind ?_ (fun _ => ?_))
      | exact ih0 _ _ _ _
      | exact LeO.none _
      | refine LeO.ite ?_ ?_
      | refine LeO.bind ?_ (fun _ => ?_)
set_option maxHeartbeats 8000000 in
set_option maxRecDepth 100000 in
theorem spec_l20Rd_pick.calls (k : Nat) (g : Nat) (s0_0 : List Int) (s0_1 : Int) (a1 : Int) (r1 : Int) (r2 : Int) (w0 w : World) (hI : IsS84 w0 w g s0_0 s0_1) (hB : Below w0.heap.size w0 w) (h : spec_l20Rd_pick.f k s0_0 s0_1 a1 = some (r1, r2)) :
    Calls Try.prog 58 #[.pointer (some ⟨g, 0, none⟩), .int .i64 a1] w fun e w' => e = .returned (.int .i64 r1) ∧ IsS84 w0 w' g s0_0 r2 ∧ Below w0.heap.size w0 w' ∧ KeepBut w w' g none := by
  have HI0 := Aside0.mk hI
  have HK := Aside0.mk (KeepBut.refl w g none)
  have HL := Aside0.mk hB.size
  clear hI
  have HW0 := Aside0.mk hB.size
  have HB := Aside0.mk hB
  clear hB
  have H : (if a1 < 1 then (spec_l20Rd_pick.j0 k a1 true s0_0 (wrap64 (s0_1 + 1))) else (spec_l20Rd_pick.j0 k a1 ((s0_0.length : Int) == 0) s0_0 (wrap64 (s0_1 + 1)))) = some (r1, r2) := h
  clear h
  have HC3 := Aside0.mk H
  clear H
  obtain ⟨ASz4_0, cSz4_0, HGz4, hgz4, HSz4_0⟩ := HI0.out
  have hcz4_0 := cellS84_0 HGz4
  have hcz4_1 := cellS84_1 HGz4
  have hfz4_1 := blk_frozen HGz4 1
  clear HGz4 hgz4
  go_enter Try.func58, Try.ntmps58
  go_upto_region 2 with (fail)
  repeat (go_quiet (fail); go_upto_region 2 with (fail))
  go_cut [24] (fun v24 wc => ∃ (kq : Nat) (x24_2 : Bool), v24 = .bool x24_2 ∧ Aside0 (spec_l20Rd_pick.j0 kq a1 x24_2 s0_0 (wrap64 (s0_1 + 1)) = some (r1, r2)) ∧ Aside0 (kq ≤ k) ∧ Aside0 (IsS84 w0 wc g s0_0 (wrap64 (s0_1 + 1))) ∧ Aside0 (KeepBut w wc g none) ∧ Aside0 (Below w0.heap.size w0 wc))
  case first =>
    have H := HC3.out
    clear HC3
    by_cases c5 : a1 < 1
    · rw [if_pos c5] at H
      have c5b0 : decide (a1 < 1) = true := decide_eq_true c5
      clear c5
      (first | rw [c5b0] | (simp only [i64_w, i32_w]; rw [c5b0]) | skip)
      have H' := Aside0.mk H
      clear H
      go_wp2
      repeat (go_quiet (fail); try go_wp2)
      go_meet
      case rel => exact ⟨_, (true), (by first | rfl | (simp; done) | (simp [*]; done)), H', ⟨by first | omega | exact Nat.le_refl _⟩, ⟨by repeat (first | (with_reducible first | exact HI0.out | apply IsS84.alloc | apply IsS84.drewN | apply IsS84.drew | apply IsS84.set_1) | exact HI0.out)⟩, ⟨by repeat (first | (with_reducible first | exact HK.out | apply KeepBut.set_ | apply keep_drewN | apply keep_drew | apply keep_alloc) | exact HK.out)⟩, ⟨by repeat (first | (with_reducible first | exact HB.out | apply below_alloc | apply pw_below_drewN | apply below_drew1 | refine below_set ?_ (IsS84.ge HI0.out)) | exact HB.out)⟩⟩
    · rw [if_neg c5] at H
      have c5b0 : decide (a1 < 1) = false := decide_eq_false c5
      clear c5
      (first | rw [c5b0] | (simp only [i64_w, i32_w]; rw [c5b0]) | skip)
      have H' := Aside0.mk H
      clear H
      obtain ⟨ASz6_0, cSz6_0, HGz6, hgz6, HSz6_0⟩ := HI0.out
      have hcz6_0 := cellS84_0 HGz6
      have hcz6_1 := cellS84_1 HGz6
      have hfz6_1 := blk_frozen HGz6 1
      clear HGz6 hgz6
      go_wp2
      repeat (go_quiet (fail); try go_wp2)
      go_meet
      case rel => exact ⟨_, (((s0_0.length : Int) == 0)), (by first | rfl | (simp; done) | (simp [*]; done)), H', ⟨by first | omega | exact Nat.le_refl _⟩, ⟨by repeat (first | (with_reducible first | exact HI0.out | apply IsS84.alloc | apply IsS84.drewN | apply IsS84.drew | apply IsS84.set_1) | exact HI0.out)⟩, ⟨by repeat (first | (with_reducible first | exact HK.out | apply KeepBut.set_ | apply keep_drewN | apply keep_drew | apply keep_alloc) | exact HK.out)⟩, ⟨by repeat (first | (with_reducible first | exact HB.out | apply below_alloc | apply pw_below_drewN | apply below_drew1 | refine below_set ?_ (IsS84.ge HI0.out)) | exact HB.out)⟩⟩
  case rest =>
    clear HC3
    try clear p2
    try clear c5
    try clear c5b0
    try clear p6
    try clear hcz4_0
    try clear hcz4_1
    try clear hcz6_0
    try clear hcz6_1
    try clear hfz4_1
    try clear hfz6_1
    obtain ⟨kq, x24_2, rfl, HA, HJ2, HI0, HK, HB⟩ := hcut
    cases kq with
    | zero => exact absurd HA.out (by simp [spec_l20Rd_pick.j0])
    | succ kj2 =>
      have H := HA.out
      clear HA
      simp only [spec_l20Rd_pick.j0] at H
      by_cases c7 : x24_2 = true
      · subst c7
        have H1 : (some (0, (wrap64 (s0_1 + 1)))) = some (r1, r2) := by rw [if_pos rfl] at H; exact H
        clear H
        have H := H1
        clear H1
        simp only [Option.some.injEq, Prod.mk.injEq] at H
        obtain ⟨rfl, rfl⟩ := H
        go_wp2
        repeat (go_quiet (fail); try go_wp2)
        go_ret
        exact ⟨by first | rfl | (simp [errW_none, errW_some] <;> rfl) | (simp [*, errW_none, errW_some] <;> rfl), by repeat (first | (with_reducible first | exact HI0.out | apply IsS84.alloc | apply IsS84.drewN | apply IsS84.drew | apply IsS84.set_1) | exact HI0.out), by repeat (first | (with_reducible first | exact HB.out | apply below_alloc | apply pw_below_drewN | apply below_drew1 | refine below_set ?_ (IsS84.ge HI0.out)) | exact HB.out), by repeat (first | (with_reducible first | exact HK.out | apply KeepBut.set_ | apply keep_drewN | apply keep_drew | apply keep_alloc) | exact HK.out)⟩
      · replace c7 := Bool.eq_false_iff.mpr c7
        subst c7
        have H1 : (if (wrap64 ((wrap64 (s0_1 + 1)) - 1)) < (s0_0.length : Int) then (if 0 ≤ (wrap64 ((wrap64 (s0_1 + 1)) - 1)) then (if a1 = 0 then (none) else (some (Int.tmod (wrap64 (rd s0_0 (wrap64 ((wrap64 (s0_1 + 1)) - 1)))) a1, (wrap64 (s0_1 + 1))))) else (none)) else (if (s0_0.length : Int) = 0 then (none) else (if 0 ≤ (Int.tmod (wrap64 ((wrap64 (s0_1 + 1)) - 1)) (s0_0.length : Int)) then (if (Int.tmod (wrap64 ((wrap64 (s0_1 + 1)) - 1)) (s0_0.length : Int)) < (s0_0.length : Int) then (if 0 ≤ (Int.tmod (wrap64 ((wrap64 ((wrap64 ((wrap64 (s0_1 + 1)) - 1)) * 7)) + 3)) (s0_0.length : Int)) then (if (Int.tmod (wrap64 ((wrap64 ((wrap64 ((wrap64 (s0_1 + 1)) - 1)) * 7)) + 3)) (s0_0.length : Int)) < (s0_0.length : Int) then (if a1 = 0 then (none) else (some (Int.tmod (Go.bits .xor .i64 (wrap64 ((wrap64 ((wrap64 ((wrap64 ((wrap64 (rd s0_0 (Int.tmod (wrap64 ((wrap64 (s0_1 + 1)) - 1)) (s0_0.length : Int)))) * 131)) + (wrap64 ((wrap64 (rd s0_0 (Int.tmod (wrap64 ((wrap64 ((wrap64 ((wrap64 (s0_1 + 1)) - 1)) * 7)) + 3)) (s0_0.length : Int)))) * 1117)))) + (wrap64 ((wrap64 ((wrap64 (s0_1 + 1)) - 1)) * 29)))) + (wrap64 ((wrap64 (Int.tdiv (wrap64 ((wrap64 (s0_1 + 1)) - 1)) (s0_0.length : Int))) * 53)))) (wrap64 (Int.tdiv (wrap64 ((wrap64 ((wrap64 ((wrap64 ((wrap64 (rd s0_0 (Int.tmod (wrap64 ((wrap64 (s0_1 + 1)) - 1)) (s0_0.length : Int)))) * 131)) + (wrap64 ((wrap64 (rd s0_0 (Int.tmod (wrap64 ((wrap64 ((wrap64 ((wrap64 (s0_1 + 1)) - 1)) * 7)) + 3)) (s0_0.length : Int)))) * 1117)))) + (wrap64 ((wrap64 ((wrap64 (s0_1 + 1)) - 1)) * 29)))) + (wrap64 ((wrap64 (Int.tdiv (wrap64 ((wrap64 (s0_1 + 1)) - 1)) (s0_0.length : Int))) * 53)))) 64))) a1, (wrap64 (s0_1 + 1))))) else (none)) else (none)) else (none)) else (none)))) = some (r1, r2) := by rw [if_neg (show ¬ (false = true) by decide)] at H; exact H
        clear H
        have H := H1
        clear H1
        by_cases c8 : (wrap64 ((wrap64 (s0_1 + 1)) - 1)) < (s0_0.length : Int)
        · rw [if_pos c8] at H
          have c8b0 : decide ((wrap64 ((wrap64 (s0_1 + 1)) - 1)) < (s0_0.length : Int)) = true := decide_eq_true c8
          clear c8
          obtain ⟨ji9, hji9⟩ : ∃ j_ : Int, (wrap64 ((wrap64 (s0_1 + 1)) - 1)) = j_ := ⟨_, rfl⟩
          replace H : (if 0 ≤ (ji9) then (if a1 = 0 then (none) else (some (Int.tmod (wrap64 (rd s0_0 (ji9))) a1, (wrap64 (s0_1 + 1))))) else (none)) = some (r1, r2) := by first | (rw [hji9] at H; exact H) | (simp only [hji9] at H ⊢; exact H)
          (try rw [hji9] at c8b0)
          have hji9w : (IntKind.i64.wrap ((wrap64 (s0_1 + 1)) - 1)) = ji9 := (i64_w _).trans hji9
          by_cases c10 : 0 ≤ (ji9)
          · rw [if_pos c10] at H
            have c10b0 : decide (0 ≤ (ji9)) = true := decide_eq_true c10
            clear c10
            by_cases c11 : a1 = 0
            · rw [if_pos c11] at H
              exact absurd H (by simp)
            · rw [if_neg c11] at H
              have c11b0 : (a1 == 0) = false := beq_eq_false_iff_ne.mpr c11
              have c11b1 : (a1 != 0) = true := bne_iff_ne.mpr c11
              simp only [Option.some.injEq, Prod.mk.injEq] at H
              obtain ⟨rfl, rfl⟩ := H
              obtain ⟨ASz12_0, cSz12_0, HGz12, hgz12, HSz12_0⟩ := HI0.out
              have hcz12_0 := cellS84_0 HGz12
              have hcz12_1 := cellS84_1 HGz12
              have hfz12_1 := blk_frozen HGz12 1
              clear HGz12 hgz12
              have p237 : 0 ≤ ((ji9) : Int) := of_decide_eq_true (by first | (with_reducible assumption) | assumption)
              have q237 : (ji9) < (s0_0.length : Int) := of_decide_eq_true (by first | (with_reducible assumption) | assumption)
              obtain ⟨ad237, e237, hx237_0⟩ := Kd.at_int HSz12_0 (ji9) p237 q237
              cases e237
              replace hx237_0 := pw_cell_below HB.out hx237_0
              replace p237 := eq_true p237
              replace q237 := eq_true q237
              go_wp2
              repeat (go_quiet (fail); try go_wp2)
              go_ret
              exact ⟨by first | rfl | (simp [errW_none, errW_some] <;> rfl) | (simp only [← hji9]; first | rfl | (simp [errW_none, errW_some] <;> rfl)) | (simp [*, errW_none, errW_some] <;> rfl), by repeat (first | (with_reducible first | exact HI0.out | apply IsS84.alloc | apply IsS84.drewN | apply IsS84.drew | apply IsS84.set_1) | exact HI0.out), by repeat (first | (with_reducible first | exact HB.out | apply below_alloc | apply pw_below_drewN | apply below_drew1 | refine below_set ?_ (IsS84.ge HI0.out)) | exact HB.out), by repeat (first | (with_reducible first | exact HK.out | apply KeepBut.set_ | apply keep_drewN | apply keep_drew | apply keep_alloc) | exact HK.out)⟩
          · rw [if_neg c10] at H
            exact absurd H (by simp)
        · rw [if_neg c8] at H
          have c8b0 : decide ((wrap64 ((wrap64 (s0_1 + 1)) - 1)) < (s0_0.length : Int)) = false := decide_eq_false c8
          clear c8
          by_cases c13 : (s0_0.length : Int) = 0
          · rw [if_pos c13] at H
            exact absurd H (by simp)
          · rw [if_neg c13] at H
            have c13b0 : ((s0_0.length : Int) == 0) = false := beq_eq_false_iff_ne.mpr c13
            have c13b1 : ((s0_0.length : Int) != 0) = true := bne_iff_ne.mpr c13
            have c13b2 : ¬ (s0_0 = []) := fun h_ => c13 (by rw [h_]; rfl)
            obtain ⟨ji14, hji14⟩ : ∃ j_ : Int, (Int.tmod (wrap64 ((wrap64 (s0_1 + 1)) - 1)) (s0_0.length : Int)) = j_ := ⟨_, rfl⟩
            replace H : (if 0 ≤ (ji14) then (if (ji14) < (s0_0.length : Int) then (if 0 ≤ (Int.tmod (wrap64 ((wrap64 ((wrap64 ((wrap64 (s0_1 + 1)) - 1)) * 7)) + 3)) (s0_0.length : Int)) then (if (Int.tmod (wrap64 ((wrap64 ((wrap64 ((wrap64 (s0_1 + 1)) - 1)) * 7)) + 3)) (s0_0.length : Int)) < (s0_0.length : Int) then (if a1 = 0 then (none) else (some (Int.tmod (Go.bits .xor .i64 (wrap64 ((wrap64 ((wrap64 ((wrap64 ((wrap64 (rd s0_0 (ji14))) * 131)) + (wrap64 ((wrap64 (rd s0_0 (Int.tmod (wrap64 ((wrap64 ((wrap64 ((wrap64 (s0_1 + 1)) - 1)) * 7)) + 3)) (s0_0.length : Int)))) * 1117)))) + (wrap64 ((wrap64 ((wrap64 (s0_1 + 1)) - 1)) * 29)))) + (wrap64 ((wrap64 (Int.tdiv (wrap64 ((wrap64 (s0_1 + 1)) - 1)) (s0_0.length : Int))) * 53)))) (wrap64 (Int.tdiv (wrap64 ((wrap64 ((wrap64 ((wrap64 ((wrap64 (rd s0_0 (ji14))) * 131)) + (wrap64 ((wrap64 (rd s0_0 (Int.tmod (wrap64 ((wrap64 ((wrap64 ((wrap64 (s0_1 + 1)) - 1)) * 7)) + 3)) (s0_0.length : Int)))) * 1117)))) + (wrap64 ((wrap64 ((wrap64 (s0_1 + 1)) - 1)) * 29)))) + (wrap64 ((wrap64 (Int.tdiv (wrap64 ((wrap64 (s0_1 + 1)) - 1)) (s0_0.length : Int))) * 53)))) 64))) a1, (wrap64 (s0_1 + 1))))) else (none)) else (none)) else (none)) else (none)) = some (r1, r2) := by first | (rw [hji14] at H; exact H) | (simp only [hji14] at H ⊢; exact H)
            by_cases c15 : 0 ≤ (ji14)
            · rw [if_pos c15] at H
              have c15b0 : decide (0 ≤ (ji14)) = true := decide_eq_true c15
              clear c15
              by_cases c16 : (ji14) < (s0_0.length : Int)
              · rw [if_pos c16] at H
                have c16b0 : decide ((ji14) < (s0_0.length : Int)) = true := decide_eq_true c16
                clear c16
                obtain ⟨ji17, hji17⟩ : ∃ j_ : Int, (Int.tmod (wrap64 ((wrap64 ((wrap64 ((wrap64 (s0_1 + 1)) - 1)) * 7)) + 3)) (s0_0.length : Int)) = j_ := ⟨_, rfl⟩
                replace H : (if 0 ≤ (ji17) then (if (ji17) < (s0_0.length : Int) then (if a1 = 0 then (none) else (some (Int.tmod (Go.bits .xor .i64 (wrap64 ((wrap64 ((wrap64 ((wrap64 ((wrap64 (rd s0_0 (ji14))) * 131)) + (wrap64 ((wrap64 (rd s0_0 (ji17))) * 1117)))) + (wrap64 ((wrap64 ((wrap64 (s0_1 + 1)) - 1)) * 29)))) + (wrap64 ((wrap64 (Int.tdiv (wrap64 ((wrap64 (s0_1 + 1)) - 1)) (s0_0.length : Int))) * 53)))) (wrap64 (Int.tdiv (wrap64 ((wrap64 ((wrap64 ((wrap64 ((wrap64 (rd s0_0 (ji14))) * 131)) + (wrap64 ((wrap64 (rd s0_0 (ji17))) * 1117)))) + (wrap64 ((wrap64 ((wrap64 (s0_1 + 1)) - 1)) * 29)))) + (wrap64 ((wrap64 (Int.tdiv (wrap64 ((wrap64 (s0_1 + 1)) - 1)) (s0_0.length : Int))) * 53)))) 64))) a1, (wrap64 (s0_1 + 1))))) else (none)) else (none)) = some (r1, r2) := by first | (rw [hji17] at H; exact H) | (simp only [hji17] at H ⊢; exact H)
                by_cases c18 : 0 ≤ (ji17)
                · rw [if_pos c18] at H
                  have c18b0 : decide (0 ≤ (ji17)) = true := decide_eq_true c18
                  clear c18
                  by_cases c19 : (ji17) < (s0_0.length : Int)
                  · rw [if_pos c19] at H
                    have c19b0 : decide ((ji17) < (s0_0.length : Int)) = true := decide_eq_true c19
                    clear c19
                    by_cases c20 : a1 = 0
                    · rw [if_pos c20] at H
                      exact absurd H (by simp)
                    · rw [if_neg c20] at H
                      have c20b0 : (a1 == 0) = false := beq_eq_false_iff_ne.mpr c20
                      have c20b1 : (a1 != 0) = true := bne_iff_ne.mpr c20
                      simp only [Option.some.injEq, Prod.mk.injEq] at H
                      obtain ⟨rfl, rfl⟩ := H
                      obtain ⟨ASz21_0, cSz21_0, HGz21, hgz21, HSz21_0⟩ := HI0.out
                      have hcz21_0 := cellS84_0 HGz21
                      have hcz21_1 := cellS84_1 HGz21
                      have hfz21_1 := blk_frozen HGz21 1
                      clear HGz21 hgz21
                      have p238 : 0 ≤ ((ji14) : Int) := of_decide_eq_true (by first | (with_reducible assumption) | assumption)
                      have q238 : (ji14) < (s0_0.length : Int) := of_decide_eq_true (by first | (with_reducible assumption) | assumption)
                      obtain ⟨ad238, e238, hx238_0⟩ := Kd.at_int HSz21_0 (ji14) p238 q238
                      cases e238
                      replace hx238_0 := pw_cell_below HB.out hx238_0
                      replace p238 := eq_true p238
                      replace q238 := eq_true q238
                      have p239 : 0 ≤ ((ji17) : Int) := of_decide_eq_true (by first | (with_reducible assumption) | assumption)
                      have q239 : (ji17) < (s0_0.length : Int) := of_decide_eq_true (by first | (with_reducible assumption) | assumption)
                      obtain ⟨ad239, e239, hx239_0⟩ := Kd.at_int HSz21_0 (ji17) p239 q239
                      obtain rfl : ad238 = ad239 := (by injection e239)
                      replace hx239_0 := pw_cell_below HB.out hx239_0
                      replace p239 := eq_true p239
                      replace q239 := eq_true q239
                      go_wp2
                      repeat (go_quiet (fail); try go_wp2)
                      go_ret
                      exact ⟨by first | rfl | (simp [errW_none, errW_some] <;> rfl) | (simp only [← hji14, ← hji17]; first | rfl | (simp [errW_none, errW_some] <;> rfl)) | (simp [*, errW_none, errW_some] <;> rfl), by repeat (first | (with_reducible first | exact HI0.out | apply IsS84.alloc | apply IsS84.drewN | apply IsS84.drew | apply IsS84.set_1) | exact HI0.out), by repeat (first | (with_reducible first | exact HB.out | apply below_alloc | apply pw_below_drewN | apply below_drew1 | refine below_set ?_ (IsS84.ge HI0.out)) | exact HB.out), by repeat (first | (with_reducible first | exact HK.out | apply KeepBut.set_ | apply keep_drewN | apply keep_drew | apply keep_alloc) | exact HK.out)⟩
                  · rw [if_neg c19] at H
                    exact absurd H (by simp)
                · rw [if_neg c18] at H
                  exact absurd H (by simp)
              · rw [if_neg c16] at H
                exact absurd H (by simp)
            · rw [if_neg c15] at H
              exact absurd H (by simp)

end Go.Proofs.Ytooabmmnbifclaa.P
-- Laid by a program of this work.
namespace Go.Proofs.Ytooabmmnbifclaa.P
open Go.RowKit Go.Proofs.YtooabmmnbifclaaW.PrintWords Go.Proofs.YtooabmmnbifclaaW.PrintLast Go.Proofs.YtooabmmnbifclaaW.PrintMore
attribute [local go_sem] max2_int min2_int max_two min_two max_three min_three max_four min_four   -- for this text's walks alone
set_option linter.unusedVariables false
set_option linter.unusedSimpArgs false

/-! ### spec_l20Open: function 54 -/
def spec_l20Open.f (l0 : List Int) : Option (List Int × Int) := if (l0.length : Int) > 2000 then (if 2000 ≤ (l0.length : Int) then (some (l0.take 2000, 0)) else (none)) else (some (l0, 0))
set_option maxHeartbeats 8000000 in
set_option maxRecDepth 100000 in
theorem spec_l20Open.calls (A0 : Option Addr) (c0 : Nat) (l0 : List Int) (r1 : List Int) (r2 : Int) (w0 w : World) (hB : Below w0.heap.size w0 w) (hr0 : Kd.C (Kd.int .u8) w0 A0 l0.length l0) (hc0 : l0.length ≤ c0) (h : spec_l20Open.f l0 = some (r1, r2)) :
    Calls Try.prog 54 #[.slice A0 l0.length c0] w fun e w' => ∃ g_ : Nat, e = .returned (.pointer (some ⟨g_, 0, none⟩)) ∧ IsS84 w0 w' g_ r1 r2 ∧ Below w0.heap.size w0 w' ∧ Below w.heap.size w w' := by
  have hu84 := Try.underlying84
  have HR0 := Aside0.mk hr0
  have HC0 := Aside0.mk hc0
  clear hr0 hc0
  have HBW := Aside0.mk (Below.refl w.heap.size w)
  have HW0 := Aside0.mk hB.size
  have HB := Aside0.mk hB
  clear hB
  have H : (if (l0.length : Int) > 2000 then (if 2000 ≤ (l0.length : Int) then (some (l0.take 2000, 0)) else (none)) else (some (l0, 0))) = some (r1, r2) := h
  clear h
  by_cases c2 : (l0.length : Int) > 2000
  · rw [if_pos c2] at H
    have c2b0 : decide (2000 < (l0.length : Int)) = true := decide_eq_true c2
    have c2b1 : decide (2000 < l0.length) = true := decide_eq_true (by omega)
    clear c2
    by_cases c3 : 2000 ≤ (l0.length : Int)
    · rw [if_pos c3] at H
      have c3b0 := eq_true c3
      have c3b1 : decide (2000 ≤ (l0.length : Int)) = true := decide_eq_true c3
      clear c3
      simp only [Option.some.injEq, Prod.mk.injEq] at H
      obtain ⟨rfl, rfl⟩ := H
      obtain ⟨i04, hi04, _, hsz4, _⟩ := info_parts info5
      obtain ⟨hcut4, hA4, hC4⟩ := print_take_of (P := Try.prog) (Value.int .u8) 0 47 5 .i64 Try.underlying47 hi04 hsz4 A0 c0 l0 2000 (by omega) (of_decide_eq_true (by first | (with_reducible assumption) | assumption)) HC0.out
      have HR262 := Aside0.mk (Kd.C_of_reads (h1 := fun _ => rfl) (hA4 _ (Kd.reads_of_C HR0.out)))
      have HC262 := Aside0.mk hC4
      clear hA4 hC4 hi04 hsz4
      go_enter Try.func54, Try.ntmps54
      go_wp2_with (first | ((with_reducible refine gate_dst (N := 10) rfl ?_); refine box_event ?hg (N := 10) ?hd (cs := #[.slice A0 (l0.take 2000).length c0, .int .i64 0]) (t := 84) ?hr ?_; (case hd => rfl); (case hg => rfl); (case hr => first | (go_simp; done) | (go_simp; rfl)); intro gb263 hg w5 hbox hb; have n0_ := Aside0.mk (below_step HBW.out hb); have n1_ := Aside0.mk (below_step (by repeat (first | (with_reducible first | exact HB.out | apply below_alloc | apply pw_below_drewN | apply below_drew1) | exact HB.out)) hb); have n2_ := Aside0.mk (hbox); have n3_ := Aside0.mk ((by rw [hg]; exact (below_size (by repeat (first | (with_reducible first | exact HBW.out | apply below_alloc | apply pw_below_drewN | apply below_drew1) | exact HBW.out))) : w.heap.size ≤ gb263)); have n4_ := Aside0.mk ((Nat.le_trans HW0.out (by rw [hg]; exact (below_size (by repeat (first | (with_reducible first | exact HBW.out | apply below_alloc | apply pw_below_drewN | apply below_drew1) | exact HBW.out))) : w.heap.size ≤ gb263) : w0.heap.size ≤ gb263)); clear HBW; clear HB; have HBW := n0_; have HB := n1_; have BK263 := n2_; have GW263 := n3_; have GE263 := n4_; clear n0_ n1_ n2_ n3_ n4_; clear hb hbox hg))
      go_ret
      exact ⟨_, rfl, (show IsS84 w0 _ gb263 (l0.take 2000) 0 from ⟨_, _, by (with_reducible repeat (first | refine blk_drewN ?_ _ | refine blk_drew ?_ | refine blk_alloc ?_ _)); exact BK263.out, GE263.out, HR262.out⟩), by repeat (first | (with_reducible first | exact HB.out | apply below_alloc | apply pw_below_drewN | apply below_drew1 | refine below_set ?_ GE263.out) | exact HB.out), by repeat (first | (with_reducible first | exact HBW.out | apply below_alloc | apply pw_below_drewN | apply below_drew1 | refine below_set ?_ GW263.out) | exact HBW.out)⟩
    · rw [if_neg c3] at H
      exact absurd H (by simp)
  · rw [if_neg c2] at H
    have c2b0 : decide (2000 < (l0.length : Int)) = false := decide_eq_false c2
    have c2b1 : decide (2000 < l0.length) = false := decide_eq_false (by omega)
    clear c2
    simp only [Option.some.injEq, Prod.mk.injEq] at H
    obtain ⟨rfl, rfl⟩ := H
    go_enter Try.func54, Try.ntmps54
    go_wp2_with (first | ((with_reducible refine gate_dst (N := 10) rfl ?_); refine box_event ?hg (N := 10) ?hd (cs := #[.slice A0 l0.length c0, .int .i64 0]) (t := 84) ?hr ?_; (case hd => rfl); (case hg => rfl); (case hr => first | (go_simp; done) | (go_simp; rfl)); intro gb264 hg w6 hbox hb; have n0_ := Aside0.mk (below_step HBW.out hb); have n1_ := Aside0.mk (below_step (by repeat (first | (with_reducible first | exact HB.out | apply below_alloc | apply pw_below_drewN | apply below_drew1) | exact HB.out)) hb); have n2_ := Aside0.mk (hbox); have n3_ := Aside0.mk ((by rw [hg]; exact (below_size (by repeat (first | (with_reducible first | exact HBW.out | apply below_alloc | apply pw_below_drewN | apply below_drew1) | exact HBW.out))) : w.heap.size ≤ gb264)); have n4_ := Aside0.mk ((Nat.le_trans HW0.out (by rw [hg]; exact (below_size (by repeat (first | (with_reducible first | exact HBW.out | apply below_alloc | apply pw_below_drewN | apply below_drew1) | exact HBW.out))) : w.heap.size ≤ gb264) : w0.heap.size ≤ gb264)); clear HBW; clear HB; have HBW := n0_; have HB := n1_; have BK264 := n2_; have GW264 := n3_; have GE264 := n4_; clear n0_ n1_ n2_ n3_ n4_; clear hb hbox hg))
    go_ret
    exact ⟨_, rfl, (show IsS84 w0 _ gb264 l0 0 from ⟨_, _, by (with_reducible repeat (first | refine blk_drewN ?_ _ | refine blk_drew ?_ | refine blk_alloc ?_ _)); exact BK264.out, GE264.out, HR0.out⟩), by repeat (first | (with_reducible first | exact HB.out | apply below_alloc | apply pw_below_drewN | apply below_drew1 | refine below_set ?_ GE264.out) | exact HB.out), by repeat (first | (with_reducible first | exact HBW.out | apply below_alloc | apply pw_below_drewN | apply below_drew1 | refine below_set ?_ GW264.out) | exact HBW.out)⟩

end Go.Proofs.Ytooabmmnbifclaa.P
-- Laid by a program of this work.
namespace Go.Proofs.Ytooabmmnbifclaa.P
open Go.RowKit Go.Proofs.YtooabmmnbifclaaW.PrintWords Go.Proofs.YtooabmmnbifclaaW.PrintLast Go.Proofs.YtooabmmnbifclaaW.PrintMore
attribute [local go_sem] max2_int min2_int max_two min_two max_three min_three max_four min_four   -- for this text's walks alone
set_option linter.unusedVariables false
set_option linter.unusedSimpArgs false

/-! ### spec_l20Rd_odd: function 60 -/
def spec_l20Rd_odd.f (k : Nat) (s0_0 : List Int) (s0_1 : Int) (a1 : Int) : Option (Bool × Int) := if a1 > 0 then ((spec_l20Rd_pick.f k s0_0 s0_1 a1).bind fun bt240 => (some ((bt240.1 == (wrap64 (a1 - 1))), bt240.2))) else (some (false, s0_1))
theorem spec_l20Rd_odd.mono : ∀ a0 a1 a2 k, LeO (spec_l20Rd_odd.f k a0 a1 a2) (spec_l20Rd_odd.f (k + 1) a0 a1 a2) := by
  intro a0 a1 a2 k
  unfold spec_l20Rd_odd.f
  repeat' first
      | (with_reducible exact spec_l20Rd_pick.mono _ _ _ _)
      | (with_reducible exact LeO.refl _)
      | (with_reducible exact LeO.none _)
      | (with_reducible refine LeO.ite ?_ ?_)
      | (with_reducible refine LeO.bind ?_ (fun _ => ?_))
      | exact spec_l20Rd_pick.mono _ _ _ _
      | exact LeO.none _
      | refine LeO.ite ?_ ?_
      | refine LeO.bind ?_ (fun _ => ?_)
set_option maxHeartbeats 8000000 in
set_option maxRecDepth 100000 in
theorem spec_l20Rd_odd.calls (k : Nat) (g : Nat) (s0_0 : List Int) (s0_1 : Int) (a1 : Int) (r1 : Bool) (r2 : Int) (w0 w : World) (hI : IsS84 w0 w g s0_0 s0_1) (hB : Below w0.heap.size w0 w) (h : spec_l20Rd_odd.f k s0_0 s0_1 a1 = some (r1, r2)) :
    Calls Try.prog 60 #[.pointer (some ⟨g, 0, none⟩), .int .i64 a1] w fun e w' => e = .returned (.bool r1) ∧ IsS84 w0 w' g s0_0 r2 ∧ Below w0.heap.size w0 w' ∧ KeepBut w w' g none := by
  have HI0 := Aside0.mk hI
  have HK := Aside0.mk (KeepBut.refl w g none)
  have HL := Aside0.mk hB.size
  clear hI
  have HW0 := Aside0.mk hB.size
  have HB := Aside0.mk hB
  clear hB
  have H : (if a1 > 0 then ((spec_l20Rd_pick.f k s0_0 s0_1 a1).bind fun bt240 => (some ((bt240.1 == (wrap64 (a1 - 1))), bt240.2))) else (some (false, s0_1))) = some (r1, r2) := h
  clear h
  by_cases c3 : a1 > 0
  · rw [if_pos c3] at H
    have c3b0 : decide (0 < a1) = true := decide_eq_true c3
    clear c3
    replace H := Option.bind_eq_some_iff.mp H
    obtain ⟨⟨t240, t241⟩, A40, H⟩ := H
    replace H : (some ((t240 == (wrap64 (a1 - 1))), t241)) = some (r1, r2) := H
    have A4 := Aside0.mk A40
    clear A40
    simp only [Option.some.injEq, Prod.mk.injEq] at H
    obtain ⟨rfl, rfl⟩ := H
    go_enter Try.func60, Try.ntmps60
    go_wp2_with (first | (go_at_call 58; (with_reducible refine (spec_l20Rd_pick.calls k g s0_0 s0_1 a1 t240 t241 w0 _ ?side1 ?side2 A4.out).mono ?_); (case side1 => repeat (first | (with_reducible first | exact HI0.out | apply IsS84.alloc | apply IsS84.drewN | apply IsS84.drew | apply IsS84.set_1) | exact HI0.out)); (case side2 => repeat (first | (with_reducible first | exact HB.out | apply below_alloc | apply pw_below_drewN | apply below_drew1 | refine below_set ?_ (IsS84.ge HI0.out)) | exact HB.out)); rintro e w5 ⟨rfl, hi, hb, hk⟩; have n0_ := Aside0.mk (KeepBut.trans (by repeat (first | (with_reducible first | exact HK.out | apply KeepBut.set_ | apply keep_drewN | apply keep_drew | apply keep_alloc) | exact HK.out)) hk (.inl rfl)); have n1_ := Aside0.mk (hb); have n2_ := Aside0.mk (hi); clear HK; clear HB; clear HI0; have HK := n0_; have HB := n1_; have HI0 := n2_; clear n0_ n1_ n2_; (try clear hb); (try clear hb2); (try clear hk); (try clear hi)))
    go_ret
    exact ⟨by first | rfl | (simp [errW_none, errW_some] <;> rfl) | (simp [*, errW_none, errW_some] <;> rfl), by repeat (first | (with_reducible first | exact HI0.out | apply IsS84.alloc | apply IsS84.drewN | apply IsS84.drew | apply IsS84.set_1) | exact HI0.out), by repeat (first | (with_reducible first | exact HB.out | apply below_alloc | apply pw_below_drewN | apply below_drew1 | refine below_set ?_ (IsS84.ge HI0.out)) | exact HB.out), by repeat (first | (with_reducible first | exact HK.out | apply KeepBut.set_ | apply keep_drewN | apply keep_drew | apply keep_alloc) | exact HK.out)⟩
  · rw [if_neg c3] at H
    have c3b0 : decide (0 < a1) = false := decide_eq_false c3
    clear c3
    simp only [Option.some.injEq, Prod.mk.injEq] at H
    obtain ⟨rfl, rfl⟩ := H
    go_enter Try.func60, Try.ntmps60
    go_wp2
    go_ret
    exact ⟨by first | rfl | (simp [errW_none, errW_some] <;> rfl) | (simp [*, errW_none, errW_some] <;> rfl), by repeat (first | (with_reducible first | exact HI0.out | apply IsS84.alloc | apply IsS84.drewN | apply IsS84.drew | apply IsS84.set_1) | exact HI0.out), by repeat (first | (with_reducible first | exact HB.out | apply below_alloc | apply pw_below_drewN | apply below_drew1 | refine below_set ?_ (IsS84.ge HI0.out)) | exact HB.out), by repeat (first | (with_reducible first | exact HK.out | apply KeepBut.set_ | apply keep_drewN | apply keep_drew | apply keep_alloc) | exact HK.out)⟩

end Go.Proofs.Ytooabmmnbifclaa.P
-- Laid by a program of this work.
namespace Go.Proofs.Ytooabmmnbifclaa.P
open Go.RowKit Go.Proofs.YtooabmmnbifclaaW.PrintWords Go.Proofs.YtooabmmnbifclaaW.PrintLast Go.Proofs.YtooabmmnbifclaaW.PrintMore
attribute [local go_sem] max2_int min2_int max_two min_two max_three min_three max_four min_four   -- for this text's walks alone
set_option linter.unusedVariables false
set_option linter.unusedSimpArgs false

/-! ### spec_l20Flow: function 56 -/
def spec_l20Flow.f (k : Nat) (s0_0 : List Int) (s0_1 : Int) (a1 : Int) : Option (Int × Int × Int) := (spec_l20Rd_pick.f k s0_0 s0_1 21).bind fun bt286 => ((spec_l20Rd_pick.f k s0_0 bt286.2 7).bind fun bt288 => ((spec_l20Rd_odd.f k s0_0 bt288.2 a1).bind fun bt291 => (if bt291.1 = true then ((some (([(⟨(-1), 0⟩ : S25), (⟨0, 21⟩ : S25), (⟨21, 0⟩ : S25), (⟨0, (-1)⟩ : S25)] : List (S25)) : List (S25))).bind fun y293 => ((spec_l20Rd_pick.f k s0_0 bt291.2 4).bind fun bt296 => (if 0 ≤ bt296.1 then (if bt296.1 < (y293.length : Int) then (some ((rd_T25 y293 bt296.1).f0, (rd_T25 y293 bt296.1).f1, bt296.2)) else (none)) else (none)))) else (some (bt286.1, bt288.1, bt291.2)))))
theorem spec_l20Flow.mono : ∀ a0 a1 a2 k, LeO (spec_l20Flow.f k a0 a1 a2) (spec_l20Flow.f (k + 1) a0 a1 a2) := by
  intro a0 a1 a2 k
  unfold spec_l20Flow.f
  repeat' first
      | (with_reducible exact spec_l20Rd_odd.mono _ _ _ _)
      | (with_reducible exact spec_l20Rd_pick.mono _ _ _ _)
      | (with_reducible exact LeO.refl _)
      | (with_reducible exact LeO.none _)
      | (with_reducible refine LeO.ite ?_ ?_)
      | (with_reducible refine LeO.bind ?_ (fun _ => ?_))
      | exact spec_l20Rd_odd.mono _ _ _ _
      | exact spec_l20Rd_pick.mono _ _ _ _
      | exact LeO.none _
      | refine LeO.ite ?_ ?_
      | refine LeO.bind ?_ (fun _ => ?_)
set_option maxHeartbeats 8000000 in
set_option maxRecDepth 100000 in
theorem spec_l20Flow.calls (k : Nat) (g : Nat) (s0_0 : List Int) (s0_1 : Int) (a1 : Int) (r1 : Int) (r2 : Int) (r3 : Int) (w0 w : World) (hI : IsS84 w0 w g s0_0 s0_1) (hB : Below w0.heap.size w0 w) (h : spec_l20Flow.f k s0_0 s0_1 a1 = some (r1, r2, r3)) :
    Calls Try.prog 56 #[.pointer (some ⟨g, 0, none⟩), .int .i64 a1] w fun e w' => e = .returned (.agg #[.int .i64 r1, .int .i64 r2]) ∧ IsS84 w0 w' g s0_0 r3 ∧ Below w0.heap.size w0 w' ∧ KeepBut w w' g none := by
  have hu25 := Try.underlying25
  have HI0 := Aside0.mk hI
  have HK := Aside0.mk (KeepBut.refl w g none)
  have HL := Aside0.mk hB.size
  clear hI
  have HW0 := Aside0.mk hB.size
  have HB := Aside0.mk hB
  clear hB
  have H : ((spec_l20Rd_pick.f k s0_0 s0_1 21).bind fun bt286 => ((spec_l20Rd_pick.f k s0_0 bt286.2 7).bind fun bt288 => ((spec_l20Rd_odd.f k s0_0 bt288.2 a1).bind fun bt291 => (if bt291.1 = true then ((some (([(⟨(-1), 0⟩ : S25), (⟨0, 21⟩ : S25), (⟨21, 0⟩ : S25), (⟨0, (-1)⟩ : S25)] : List (S25)) : List (S25))).bind fun y293 => ((spec_l20Rd_pick.f k s0_0 bt291.2 4).bind fun bt296 => (if 0 ≤ bt296.1 then (if bt296.1 < (y293.length : Int) then (some ((rd_T25 y293 bt296.1).f0, (rd_T25 y293 bt296.1).f1, bt296.2)) else (none)) else (none)))) else (some (bt286.1, bt288.1, bt291.2)))))) = some (r1, r2, r3) := h
  clear h
  replace H := Option.bind_eq_some_iff.mp H
  obtain ⟨⟨t286, t287⟩, A30, H⟩ := H
  replace H : ((spec_l20Rd_pick.f k s0_0 t287 7).bind fun bt288 => ((spec_l20Rd_odd.f k s0_0 bt288.2 a1).bind fun bt291 => (if bt291.1 = true then ((some (([(⟨(-1), 0⟩ : S25), (⟨0, 21⟩ : S25), (⟨21, 0⟩ : S25), (⟨0, (-1)⟩ : S25)] : List (S25)) : List (S25))).bind fun y293 => ((spec_l20Rd_pick.f k s0_0 bt291.2 4).bind fun bt296 => (if 0 ≤ bt296.1 then (if bt296.1 < (y293.length : Int) then (some ((rd_T25 y293 bt296.1).f0, (rd_T25 y293 bt296.1).f1, bt296.2)) else (none)) else (none)))) else (some (t286, bt288.1, bt291.2))))) = some (r1, r2, r3) := H
  have A3 := Aside0.mk A30
  clear A30
  replace H := Option.bind_eq_some_iff.mp H
  obtain ⟨⟨t288, t289⟩, A40, H⟩ := H
  replace H : ((spec_l20Rd_odd.f k s0_0 t289 a1).bind fun bt291 => (if bt291.1 = true then ((some (([(⟨(-1), 0⟩ : S25), (⟨0, 21⟩ : S25), (⟨21, 0⟩ : S25), (⟨0, (-1)⟩ : S25)] : List (S25)) : List (S25))).bind fun y293 => ((spec_l20Rd_pick.f k s0_0 bt291.2 4).bind fun bt296 => (if 0 ≤ bt296.1 then (if bt296.1 < (y293.length : Int) then (some ((rd_T25 y293 bt296.1).f0, (rd_T25 y293 bt296.1).f1, bt296.2)) else (none)) else (none)))) else (some (t286, t288, bt291.2)))) = some (r1, r2, r3) := H
  have A4 := Aside0.mk A40
  clear A40
  replace H := Option.bind_eq_some_iff.mp H
  obtain ⟨⟨t291, t292⟩, A50, H⟩ := H
  replace H : (if t291 = true then ((some (([(⟨(-1), 0⟩ : S25), (⟨0, 21⟩ : S25), (⟨21, 0⟩ : S25), (⟨0, (-1)⟩ : S25)] : List (S25)) : List (S25))).bind fun y293 => ((spec_l20Rd_pick.f k s0_0 t292 4).bind fun bt296 => (if 0 ≤ bt296.1 then (if bt296.1 < (y293.length : Int) then (some ((rd_T25 y293 bt296.1).f0, (rd_T25 y293 bt296.1).f1, bt296.2)) else (none)) else (none)))) else (some (t286, t288, t292))) = some (r1, r2, r3) := H
  have A5 := Aside0.mk A50
  clear A50
  by_cases c6 : t291 = true
  · subst c6
    have H1 : ((some (([(⟨(-1), 0⟩ : S25), (⟨0, 21⟩ : S25), (⟨21, 0⟩ : S25), (⟨0, (-1)⟩ : S25)] : List (S25)) : List (S25))).bind fun y293 => ((spec_l20Rd_pick.f k s0_0 t292 4).bind fun bt296 => (if 0 ≤ bt296.1 then (if bt296.1 < (y293.length : Int) then (some ((rd_T25 y293 bt296.1).f0, (rd_T25 y293 bt296.1).f1, bt296.2)) else (none)) else (none)))) = some (r1, r2, r3) := by rw [if_pos rfl] at H; exact H
    clear H
    have H := H1
    clear H1
    obtain ⟨y293, hy293⟩ : ∃ y_ : List (S25), y_ = (([(⟨(-1), 0⟩ : S25), (⟨0, 21⟩ : S25), (⟨21, 0⟩ : S25), (⟨0, (-1)⟩ : S25)] : List (S25))) := ⟨_, rfl⟩
    replace H : ((spec_l20Rd_pick.f k s0_0 t292 4).bind fun bt296 => (if 0 ≤ bt296.1 then (if bt296.1 < (y293.length : Int) then (some ((rd_T25 y293 bt296.1).f0, (rd_T25 y293 bt296.1).f1, bt296.2)) else (none)) else (none))) = some (r1, r2, r3) := by first | (rw [hy293]; with_reducible exact H) | (have H2_ := (Option.bind_some _ _).symm.trans H; rw [hy293]; with_reducible exact H2_) | (have H2_ := (Option.bind_some _ _).symm.trans H; with_reducible exact H2_) | with_reducible exact H | (rw [hy293]; exact H) | exact H
    have Ny293 := Aside0.mk hy293
    clear hy293
    replace H := Option.bind_eq_some_iff.mp H
    obtain ⟨⟨t296, t297⟩, A70, H⟩ := H
    replace H : (if 0 ≤ t296 then (if t296 < (y293.length : Int) then (some ((rd_T25 y293 t296).f0, (rd_T25 y293 t296).f1, t297)) else (none)) else (none)) = some (r1, r2, r3) := H
    have A7 := Aside0.mk A70
    clear A70
    by_cases c8 : 0 ≤ t296
    · rw [if_pos c8] at H
      have c8b0 : decide (0 ≤ t296) = true := decide_eq_true c8
      clear c8
      by_cases c9 : t296 < (y293.length : Int)
      · rw [if_pos c9] at H
        have c9b0 : decide (t296 < (y293.length : Int)) = true := decide_eq_true c9
        clear c9
        simp only [Option.some.injEq, Prod.mk.injEq] at H
        obtain ⟨rfl, rfl, rfl⟩ := H
        go_enter Try.func56, Try.ntmps56
        go_wp2_with (first | ((with_reducible refine gate_dst (N := 4) rfl ?_); refine box_event ?hg (N := 4) ?hd (cs := #[.int .i64 0, .int .i64 0]) (t := 25) ?hr ?_; (case hd => rfl); (case hg => rfl); (case hr => first | (go_simp; done) | (go_simp; rfl)); intro gb285 hg w10 hbox hb; have n0_ := Aside0.mk (IsS84.below (by repeat (first | (with_reducible first | exact HI0.out | apply IsS84.alloc | apply IsS84.drewN | apply IsS84.drew | apply IsS84.set_1) | exact HI0.out)) hb); have n1_ := Aside0.mk (KeepBut.trans (by repeat (first | (with_reducible first | exact HK.out | apply KeepBut.set_ | apply keep_drewN | apply keep_drew | apply keep_alloc) | exact HK.out)) (KeepBut.of_below hb g none) (.inl rfl)); have n2_ := Aside0.mk (below_step (by repeat (first | (with_reducible first | exact HB.out | apply below_alloc | apply pw_below_drewN | apply below_drew1 | refine below_set ?_ (IsS84.ge HI0.out)) | exact HB.out)) hb); have n3_ := Aside0.mk (hbox); have n4_ := Aside0.mk ((by rw [hg]; exact (keep_size (w := w) (g := g) (row := none) (by repeat (first | (with_reducible first | exact HK.out | apply KeepBut.set_ | apply keep_drewN | apply keep_drew | apply keep_alloc) | exact HK.out))) : w.heap.size ≤ gb285)); have n5_ := Aside0.mk ((Nat.le_trans HW0.out (by rw [hg]; exact (keep_size (w := w) (g := g) (row := none) (by repeat (first | (with_reducible first | exact HK.out | apply KeepBut.set_ | apply keep_drewN | apply keep_drew | apply keep_alloc) | exact HK.out))) : w.heap.size ≤ gb285) : w0.heap.size ≤ gb285)); have n6_ := Aside0.mk ((by rw [hg]; exact Nat.ne_of_lt (IsS84.lt (show IsS84 w0 _ g s0_0 s0_1 from by repeat (first | (with_reducible first | exact HI0.out | apply IsS84.alloc | apply IsS84.drewN | apply IsS84.drew | apply IsS84.set_1) | exact HI0.out))) : g ≠ gb285)); have n7_ := Aside0.mk ((by rw [hg]; exact Nat.ne_of_gt (IsS84.lt (show IsS84 w0 _ g s0_0 s0_1 from by repeat (first | (with_reducible first | exact HI0.out | apply IsS84.alloc | apply IsS84.drewN | apply IsS84.drew | apply IsS84.set_1) | exact HI0.out))) : gb285 ≠ g)); clear HI0; clear HK; clear HB; have HI0 := n0_; have HK := n1_; have HB := n2_; have BK285 := n3_; have GW285 := n4_; have GE285 := n5_; have NB0_285 := n6_; have NB285_0 := n7_; clear n0_ n1_ n2_ n3_ n4_ n5_ n6_ n7_; clear hb hbox hg) | ((with_reducible refine gate_callee (f := 58) rfl ?_); refine goesL_ (some 7) rfl rfl Try.func58 (by kernel_rfl) rfl #[.pointer (some ⟨g, 0, none⟩), .int .i64 21] rfl (by (try simp only [List.map_toArray, List.map_cons, List.map_nil]); first | done | rfl | (simp only [List.length_drop, List.length_take]; rfl)) ?_; (with_reducible refine (spec_l20Rd_pick.calls k g s0_0 s0_1 21 t286 t287 w0 _ ?side1 ?side2 A3.out).mono ?_); (case side1 => repeat (first | (with_reducible first | exact HI0.out | apply IsS84.alloc | apply IsS84.drewN | apply IsS84.drew | apply IsS84.set_1 | refine IsS84.far ?_ NB0_285.out _) | exact HI0.out)); (case side2 => repeat (first | (with_reducible first | exact HB.out | apply below_alloc | apply pw_below_drewN | apply below_drew1 | refine below_set ?_ (IsS84.ge HI0.out) | refine below_set ?_ GE285.out) | exact HB.out)); rintro e w11 ⟨rfl, hi, hb, hk⟩; refine ⟨_, rfl, ?_⟩; have n0_ := Aside0.mk (KeepBut.blk hk (g' := gb285) (o := .cells #[.int .i64 0, .int .i64 0] 25 (0, 0)) (by (with_reducible repeat (first | refine blk_drewN ?_ _ | refine blk_drew ?_ | refine blk_alloc ?_ _)); exact BK285.out) NB285_0.out (by simp)); have n1_ := Aside0.mk (KeepBut.trans (by repeat (first | (with_reducible first | exact HK.out | apply KeepBut.set_ | apply keep_drewN | apply keep_drew | apply keep_alloc | refine keep_far ?_ GW285.out _) | exact HK.out)) hk (.inl rfl)); have n2_ := Aside0.mk (hb); have n3_ := Aside0.mk (hi); clear BK285; clear HK; clear HB; clear HI0; have BK285 := n0_; have HK := n1_; have HB := n2_; have HI0 := n3_; clear n0_ n1_ n2_ n3_; (try clear hb); (try clear hb2); (try clear hk); (try clear hi)) | ((with_reducible refine gate_callee (f := 58) rfl ?_); refine goesL_ (some 9) rfl rfl Try.func58 (by kernel_rfl) rfl #[.pointer (some ⟨g, 0, none⟩), .int .i64 7] rfl (by (try simp only [List.map_toArray, List.map_cons, List.map_nil]); first | done | rfl | (simp only [List.length_drop, List.length_take]; rfl)) ?_; (with_reducible refine (spec_l20Rd_pick.calls k g s0_0 t287 7 t288 t289 w0 _ ?side1 ?side2 A4.out).mono ?_); (case side1 => repeat (first | (with_reducible first | exact HI0.out | apply IsS84.alloc | apply IsS84.drewN | apply IsS84.drew | apply IsS84.set_1 | refine IsS84.far ?_ NB0_285.out _) | exact HI0.out)); (case side2 => repeat (first | (with_reducible first | exact HB.out | apply below_alloc | apply pw_below_drewN | apply below_drew1 | refine below_set ?_ (IsS84.ge HI0.out) | refine below_set ?_ GE285.out) | exact HB.out)); rintro e w12 ⟨rfl, hi, hb, hk⟩; refine ⟨_, rfl, ?_⟩; have n0_ := Aside0.mk (KeepBut.blk hk (g' := gb285) (o := .cells #[.int .i64 0, .int .i64 0] 25 (0, 0)) (by (with_reducible repeat (first | refine blk_drewN ?_ _ | refine blk_drew ?_ | refine blk_alloc ?_ _)); exact BK285.out) NB285_0.out (by simp)); have n1_ := Aside0.mk (KeepBut.trans (by repeat (first | (with_reducible first | exact HK.out | apply KeepBut.set_ | apply keep_drewN | apply keep_drew | apply keep_alloc | refine keep_far ?_ GW285.out _) | exact HK.out)) hk (.inl rfl)); have n2_ := Aside0.mk (hb); have n3_ := Aside0.mk (hi); clear BK285; clear HK; clear HB; clear HI0; have BK285 := n0_; have HK := n1_; have HB := n2_; have HI0 := n3_; clear n0_ n1_ n2_ n3_; (try clear hb); (try clear hb2); (try clear hk); (try clear hi)) | ((with_reducible refine gate_dst (N := 5) rfl ?_); refine box_event ?hg (N := 5) ?hd (cs := #[.int .i64 0, .int .i64 0]) (t := 25) ?hr ?_; (case hd => rfl); (case hg => rfl); (case hr => first | (go_simp; done) | (go_simp; rfl)); intro gb290 hg w13 hbox hb; have n0_ := Aside0.mk (IsS84.below (by repeat (first | (with_reducible first | exact HI0.out | apply IsS84.alloc | apply IsS84.drewN | apply IsS84.drew | apply IsS84.set_1 | refine IsS84.far ?_ NB0_285.out _) | exact HI0.out)) hb); have n1_ := Aside0.mk (blk_below (g := gb285) (o := .cells #[.int .i64 0, .int .i64 0] 25 (0, 0)) (by (with_reducible repeat (first | refine blk_drewN ?_ _ | refine blk_drew ?_ | refine blk_alloc ?_ _)); exact BK285.out) hb); have n2_ := Aside0.mk (KeepBut.trans (by repeat (first | (with_reducible first | exact HK.out | apply KeepBut.set_ | apply keep_drewN | apply keep_drew | apply keep_alloc | refine keep_far ?_ GW285.out _) | exact HK.out)) (KeepBut.of_below hb g none) (.inl rfl)); have n3_ := Aside0.mk (below_step (by repeat (first | (with_reducible first | exact HB.out | apply below_alloc | apply pw_below_drewN | apply below_drew1 | refine below_set ?_ (IsS84.ge HI0.out) | refine below_set ?_ GE285.out) | exact HB.out)) hb); have n4_ := Aside0.mk (hbox); have n5_ := Aside0.mk ((by rw [hg]; exact (keep_size (w := w) (g := g) (row := none) (by repeat (first | (with_reducible first | exact HK.out | apply KeepBut.set_ | apply keep_drewN | apply keep_drew | apply keep_alloc | refine keep_far ?_ GW285.out _) | exact HK.out))) : w.heap.size ≤ gb290)); have n6_ := Aside0.mk ((Nat.le_trans HW0.out (by rw [hg]; exact (keep_size (w := w) (g := g) (row := none) (by repeat (first | (with_reducible first | exact HK.out | apply KeepBut.set_ | apply keep_drewN | apply keep_drew | apply keep_alloc | refine keep_far ?_ GW285.out _) | exact HK.out))) : w.heap.size ≤ gb290) : w0.heap.size ≤ gb290)); have n7_ := Aside0.mk ((by rw [hg]; exact Nat.ne_of_lt (blk_lt (g := gb285) (o := .cells #[.int .i64 0, .int .i64 0] 25 (0, 0)) (by (with_reducible repeat (first | refine blk_drewN ?_ _ | refine blk_drew ?_ | refine blk_alloc ?_ _)); exact BK285.out)) : gb285 ≠ gb290)); have n8_ := Aside0.mk ((by rw [hg]; exact Nat.ne_of_gt (blk_lt (g := gb285) (o := .cells #[.int .i64 0, .int .i64 0] 25 (0, 0)) (by (with_reducible repeat (first | refine blk_drewN ?_ _ | refine blk_drew ?_ | refine blk_alloc ?_ _)); exact BK285.out)) : gb290 ≠ gb285)); have n9_ := Aside0.mk ((by rw [hg]; exact Nat.ne_of_lt (IsS84.lt (show IsS84 w0 _ g s0_0 t289 from by repeat (first | (with_reducible first | exact HI0.out | apply IsS84.alloc | apply IsS84.drewN | apply IsS84.drew | apply IsS84.set_1 | refine IsS84.far ?_ NB0_285.out _) | exact HI0.out))) : g ≠ gb290)); have n10_ := Aside0.mk ((by rw [hg]; exact Nat.ne_of_gt (IsS84.lt (show IsS84 w0 _ g s0_0 t289 from by repeat (first | (with_reducible first | exact HI0.out | apply IsS84.alloc | apply IsS84.drewN | apply IsS84.drew | apply IsS84.set_1 | refine IsS84.far ?_ NB0_285.out _) | exact HI0.out))) : gb290 ≠ g)); clear HI0; clear BK285; clear HK; clear HB; have HI0 := n0_; have BK285 := n1_; have HK := n2_; have HB := n3_; have BK290 := n4_; have GW290 := n5_; have GE290 := n6_; have NB285_290 := n7_; have NB290_285 := n8_; have NB0_290 := n9_; have NB290_0 := n10_; clear n0_ n1_ n2_ n3_ n4_ n5_ n6_ n7_ n8_ n9_ n10_; clear hb hbox hg; have hnb14 := NB290_285.out; have hnc14 := NB285_290.out; have hnb15 := NB290_0.out; have hnc15 := NB0_290.out; have hcz16_0 : w13.cell? ⟨gb290, 0, none⟩ = some (.int .i64 0) := (blk_cell BK290.out 0).trans rfl; have hcz16_1 : w13.cell? ⟨gb290, 1, none⟩ = some (.int .i64 0) := (blk_cell BK290.out 1).trans rfl; have hfz16_0 := blk_frozen BK290.out 0; have hfz16_1 := blk_frozen BK290.out 1) | ((with_reducible refine gate_callee (f := 60) rfl ?_); refine goesL_ (some 13) rfl rfl Try.func60 (by kernel_rfl) rfl #[.pointer (some ⟨g, 0, none⟩), .int .i64 a1] rfl (by (try simp only [List.map_toArray, List.map_cons, List.map_nil]); first | done | rfl | (simp only [List.length_drop, List.length_take]; rfl)) ?_; (with_reducible refine (spec_l20Rd_odd.calls k g s0_0 t289 a1 true t292 w0 _ ?side1 ?side2 A5.out).mono ?_); (case side1 => repeat (first | (with_reducible first | exact HI0.out | apply IsS84.alloc | apply IsS84.drewN | apply IsS84.drew | apply IsS84.set_1 | refine IsS84.far ?_ NB0_285.out _ | refine IsS84.far ?_ NB0_290.out _) | exact HI0.out)); (case side2 => repeat (first | (with_reducible first | exact HB.out | apply below_alloc | apply pw_below_drewN | apply below_drew1 | refine below_set ?_ (IsS84.ge HI0.out) | refine below_set ?_ GE285.out | refine below_set ?_ GE290.out) | exact HB.out)); rintro e w17 ⟨rfl, hi, hb, hk⟩; refine ⟨_, rfl, ?_⟩; have n0_ := Aside0.mk (KeepBut.blk hk (g' := gb285) (o := .cells #[.int .i64 0, .int .i64 0] 25 (0, 0)) (by (with_reducible repeat (first | refine blk_drewN ?_ _ | refine blk_drew ?_ | refine blk_alloc ?_ _)); refine blk_far ?_ NB285_290.out _; (with_reducible repeat (first | refine blk_drewN ?_ _ | refine blk_drew ?_ | refine blk_alloc ?_ _)); refine blk_far ?_ NB285_290.out _; (with_reducible repeat (first | refine blk_drewN ?_ _ | refine blk_drew ?_ | refine blk_alloc ?_ _)); exact BK285.out) NB285_0.out (by simp)); have n1_ := Aside0.mk (KeepBut.blk hk (g' := gb290) (o := .cells #[.int .i64 t286, .int .i64 t288] 25 (0, 0)) (by (with_reducible repeat (first | refine blk_drewN ?_ _ | refine blk_drew ?_ | refine blk_alloc ?_ _)); refine blk_put (cs := #[.int .i64 t286, .int .i64 0]) ?_ 1 _ rfl; (with_reducible repeat (first | refine blk_drewN ?_ _ | refine blk_drew ?_ | refine blk_alloc ?_ _)); refine blk_put (cs := #[.int .i64 0, .int .i64 0]) ?_ 0 _ rfl; (with_reducible repeat (first | refine blk_drewN ?_ _ | refine blk_drew ?_ | refine blk_alloc ?_ _)); exact BK290.out) NB290_0.out (by simp)); have n2_ := Aside0.mk (KeepBut.trans (by repeat (first | (with_reducible first | exact HK.out | apply KeepBut.set_ | apply keep_drewN | apply keep_drew | apply keep_alloc | refine keep_far ?_ GW285.out _ | refine keep_far ?_ GW290.out _) | exact HK.out)) hk (.inl rfl)); have n3_ := Aside0.mk (hb); have n4_ := Aside0.mk (hi); clear BK285; clear BK290; clear HK; clear HB; clear HI0; have BK285 := n0_; have BK290 := n1_; have HK := n2_; have HB := n3_; have HI0 := n4_; clear n0_ n1_ n2_ n3_ n4_; (try clear hb); (try clear hb2); (try clear hk); (try clear hi)) | ((with_reducible refine gate_dst (N := 18) rfl ?_); refine Kd.R_lit k25 _ 25 ?hg (N := 18) ?hd (xs := ([(⟨(-1), 0⟩ : S25), (⟨0, 21⟩ : S25), (⟨21, 0⟩ : S25), (⟨0, (-1)⟩ : S25)] : List (S25))) (inner := [.int .i64 (-1), .int .i64 0, .int .i64 0, .int .i64 21, .int .i64 21, .int .i64 0, .int .i64 0, .int .i64 (-1)]) (ok := fun _ => True) (okp := fun _ => True) ?hr ?hp (fun _ hk => hk) trivial (Below.refl _ _) (Nat.le_refl _) (by simp) ?_; (case hd => rfl); (case hg => rfl); (case hr => first | (go_simp; done) | (go_simp; rfl)); (case hp => exact (Reps.c2 (show Kd.M k25 _ _ _ (⟨(-1), 0⟩ : S25) [.int .i64 (-1), .int .i64 0] from (k25_mkM _ _ _ (⟨(-1), 0⟩ : S25) )) (Reps.c2 (show Kd.M k25 _ _ _ (⟨0, 21⟩ : S25) [.int .i64 0, .int .i64 21] from (k25_mkM _ _ _ (⟨0, 21⟩ : S25) )) (Reps.c2 (show Kd.M k25 _ _ _ (⟨21, 0⟩ : S25) [.int .i64 21, .int .i64 0] from (k25_mkM _ _ _ (⟨21, 0⟩ : S25) )) (Reps.c2 (show Kd.M k25 _ _ _ (⟨0, (-1)⟩ : S25) [.int .i64 0, .int .i64 (-1)] from (k25_mkM _ _ _ (⟨0, (-1)⟩ : S25) )) (Reps.none _ _)))))); intro v294 w18 ho19 hb hg_ hnew_; clear hg_ hnew_; (first | rw [← Ny293.out] at ho19 | (simp only [Int.reduceToNat] at ho19; rw [← Ny293.out] at ho19)); have n0_ := Aside0.mk (Kd.R_lower (Kd.R_newB (Kd.R_newB ho19 (g := gb285) (o := .cells #[.int .i64 0, .int .i64 0] 25 (0, 0)) (by (with_reducible repeat (first | refine blk_drewN ?_ _ | refine blk_drew ?_ | refine blk_alloc ?_ _)); exact BK285.out)) (g := gb290) (o := .cells #[.int .i64 t286, .int .i64 t288] 25 (0, 0)) (by (with_reducible repeat (first | refine blk_drewN ?_ _ | refine blk_drew ?_ | refine blk_alloc ?_ _)); exact BK290.out)) (keep_size (w := w) (g := g) (row := none) (by repeat (first | (with_reducible first | exact HK.out | apply KeepBut.set_ | apply keep_drewN | apply keep_drew | apply keep_alloc | refine keep_far ?_ GW285.out _ | refine keep_far ?_ GW290.out _) | exact HK.out)))); have n1_ := Aside0.mk (IsS84.below (by repeat (first | (with_reducible first | exact HI0.out | apply IsS84.alloc | apply IsS84.drewN | apply IsS84.drew | apply IsS84.set_1 | refine IsS84.far ?_ NB0_285.out _ | refine IsS84.far ?_ NB0_290.out _) | exact HI0.out)) hb); have n2_ := Aside0.mk (blk_below (g := gb285) (o := .cells #[.int .i64 0, .int .i64 0] 25 (0, 0)) (by (with_reducible repeat (first | refine blk_drewN ?_ _ | refine blk_drew ?_ | refine blk_alloc ?_ _)); exact BK285.out) hb); have n3_ := Aside0.mk (blk_below (g := gb290) (o := .cells #[.int .i64 t286, .int .i64 t288] 25 (0, 0)) (by (with_reducible repeat (first | refine blk_drewN ?_ _ | refine blk_drew ?_ | refine blk_alloc ?_ _)); exact BK290.out) hb); have n4_ := Aside0.mk (KeepBut.trans (by repeat (first | (with_reducible first | exact HK.out | apply KeepBut.set_ | apply keep_drewN | apply keep_drew | apply keep_alloc | refine keep_far ?_ GW285.out _ | refine keep_far ?_ GW290.out _) | exact HK.out)) (KeepBut.of_below hb g none) (.inl rfl)); have n5_ := Aside0.mk (below_step (by repeat (first | (with_reducible first | exact HB.out | apply below_alloc | apply pw_below_drewN | apply below_drew1 | refine below_set ?_ (IsS84.ge HI0.out) | refine below_set ?_ GE285.out | refine below_set ?_ GE290.out) | exact HB.out)) hb); clear HI0; clear BK285; clear BK290; clear HK; clear HB; have HO295 := n0_; have HI0 := n1_; have BK285 := n2_; have BK290 := n3_; have HK := n4_; have HB := n5_; clear n0_ n1_ n2_ n3_ n4_ n5_; clear hb ho19) | ((with_reducible refine gate_callee (f := 58) rfl ?_); refine goesL_ (some 20) rfl rfl Try.func58 (by kernel_rfl) rfl #[.pointer (some ⟨g, 0, none⟩), .int .i64 4] rfl (by (try simp only [List.map_toArray, List.map_cons, List.map_nil]); first | done | rfl | (simp only [List.length_drop, List.length_take]; rfl)) ?_; (with_reducible refine (spec_l20Rd_pick.calls k g s0_0 t292 4 t296 t297 w0 _ ?side1 ?side2 A7.out).mono ?_); (case side1 => repeat (first | (with_reducible first | exact HI0.out | apply IsS84.alloc | apply IsS84.drewN | apply IsS84.drew | apply IsS84.set_1 | refine IsS84.far ?_ NB0_285.out _ | refine IsS84.far ?_ NB0_290.out _) | exact HI0.out)); (case side2 => repeat (first | (with_reducible first | exact HB.out | apply below_alloc | apply pw_below_drewN | apply below_drew1 | refine below_set ?_ (IsS84.ge HI0.out) | refine below_set ?_ GE285.out | refine below_set ?_ GE290.out) | exact HB.out)); rintro e w20 ⟨rfl, hi, hb, hk⟩; refine ⟨_, rfl, ?_⟩; have n0_ := Aside0.mk (KeepBut.blk hk (g' := gb285) (o := .cells #[.int .i64 0, .int .i64 0] 25 (0, 0)) (by (with_reducible repeat (first | refine blk_drewN ?_ _ | refine blk_drew ?_ | refine blk_alloc ?_ _)); exact BK285.out) NB285_0.out (by simp)); have n1_ := Aside0.mk (KeepBut.blk hk (g' := gb290) (o := .cells #[.int .i64 t286, .int .i64 t288] 25 (0, 0)) (by (with_reducible repeat (first | refine blk_drewN ?_ _ | refine blk_drew ?_ | refine blk_alloc ?_ _)); exact BK290.out) NB290_0.out (by simp)); have n2_ := Aside0.mk (Kd.R_mono (Kd.R_keep (IsS84.apart (show IsS84 w0 _ g s0_0 t292 from by repeat (first | (with_reducible first | exact HI0.out | apply IsS84.alloc | apply IsS84.drewN | apply IsS84.drew | apply IsS84.set_1 | refine IsS84.far ?_ NB0_285.out _ | refine IsS84.far ?_ NB0_290.out _) | exact HI0.out)) (by (with_reducible repeat (first | apply Kd.R_alloc | apply Kd.R_drewN | apply Kd.R_drew)); exact HO295.out) (by decide)) hk (fun _ h => h.2)) (fun _ h => h.1)); have n3_ := Aside0.mk (KeepBut.trans (by repeat (first | (with_reducible first | exact HK.out | apply KeepBut.set_ | apply keep_drewN | apply keep_drew | apply keep_alloc | refine keep_far ?_ GW285.out _ | refine keep_far ?_ GW290.out _) | exact HK.out)) hk (.inl rfl)); have n4_ := Aside0.mk (hb); have n5_ := Aside0.mk (hi); clear BK285; clear BK290; clear HO295; clear HK; clear HB; clear HI0; have BK285 := n0_; have BK290 := n1_; have HO295 := n2_; have HK := n3_; have HB := n4_; have HI0 := n5_; clear n0_ n1_ n2_ n3_ n4_ n5_; (try clear hb); (try clear hb2); (try clear hk); (try clear hi); obtain ⟨Ao21, co21, eo21⟩ := Kd.R_slice HO295.out; subst eo21; have p298 : 0 ≤ (t296 : Int) := of_decide_eq_true (by first | (with_reducible assumption) | assumption); have q298 : t296 < (y293.length : Int) := of_decide_eq_true (by first | (with_reducible assumption) | assumption); obtain ⟨ad298, e298, hx298_0, hx298_1⟩ := at_T25 (Kd.R_reads' HO295.out).2.2 t296 p298 q298; cases e298; replace p298 := eq_true p298; replace q298 := eq_true q298; have hnb22 := NB285_0.out; have hnc22 := NB0_285.out; have hcz23_0 : w20.cell? ⟨gb285, 0, none⟩ = some (.int .i64 0) := (blk_cell BK285.out 0).trans rfl; have hcz23_1 : w20.cell? ⟨gb285, 1, none⟩ = some (.int .i64 0) := (blk_cell BK285.out 1).trans rfl; have hfz23_0 := blk_frozen BK285.out 0; have hfz23_1 := blk_frozen BK285.out 1))
        refine bodyPost_ret (results_cell_row rfl _ _ gb285 25 #[.int .i64 ((rd_T25 y293 t296).f0), .int .i64 ((rd_T25 y293 t296).f1)] (0, 0) _ rfl (by (with_reducible repeat (first | refine blk_drewN ?_ _ | refine blk_drew ?_ | refine blk_alloc ?_ _)); refine blk_put (cs := #[.int .i64 ((rd_T25 y293 t296).f0), .int .i64 0]) ?_ 1 _ rfl; (with_reducible repeat (first | refine blk_drewN ?_ _ | refine blk_drew ?_ | refine blk_alloc ?_ _)); refine blk_put (cs := #[.int .i64 0, .int .i64 0]) ?_ 0 _ rfl; (with_reducible repeat (first | refine blk_drewN ?_ _ | refine blk_drew ?_ | refine blk_alloc ?_ _)); exact BK285.out) Try.underlying25 rfl (by kernel_rfl)) rfl ?_
        exact ⟨by first | rfl | (simp [errW_none, errW_some] <;> rfl) | (simp [*, errW_none, errW_some] <;> rfl), by repeat (first | (with_reducible first | exact HI0.out | apply IsS84.alloc | apply IsS84.drewN | apply IsS84.drew | apply IsS84.set_1 | refine IsS84.far ?_ NB0_285.out _ | refine IsS84.far ?_ NB0_290.out _) | exact HI0.out), by repeat (first | (with_reducible first | exact HB.out | apply below_alloc | apply pw_below_drewN | apply below_drew1 | refine below_set ?_ (IsS84.ge HI0.out) | refine below_set ?_ GE285.out | refine below_set ?_ GE290.out) | exact HB.out), by repeat (first | (with_reducible first | exact HK.out | apply KeepBut.set_ | apply keep_drewN | apply keep_drew | apply keep_alloc | refine keep_far ?_ GW285.out _ | refine keep_far ?_ GW290.out _) | exact HK.out)⟩
      · rw [if_neg c9] at H
        exact absurd H (by simp)
    · rw [if_neg c8] at H
      exact absurd H (by simp)
  · replace c6 := Bool.eq_false_iff.mpr c6
    subst c6
    have H1 : (some (t286, t288, t292)) = some (r1, r2, r3) := by rw [if_neg (show ¬ (false = true) by decide)] at H; exact H
    clear H
    have H := H1
    clear H1
    simp only [Option.some.injEq, Prod.mk.injEq] at H
    obtain ⟨rfl, rfl, rfl⟩ := H
    go_enter Try.func56, Try.ntmps56
    go_wp2_with (first | ((with_reducible refine gate_dst (N := 4) rfl ?_); refine box_event ?hg (N := 4) ?hd (cs := #[.int .i64 0, .int .i64 0]) (t := 25) ?hr ?_; (case hd => rfl); (case hg => rfl); (case hr => first | (go_simp; done) | (go_simp; rfl)); intro gb285 hg w24 hbox hb; have n0_ := Aside0.mk (IsS84.below (by repeat (first | (with_reducible first | exact HI0.out | apply IsS84.alloc | apply IsS84.drewN | apply IsS84.drew | apply IsS84.set_1) | exact HI0.out)) hb); have n1_ := Aside0.mk (KeepBut.trans (by repeat (first | (with_reducible first | exact HK.out | apply KeepBut.set_ | apply keep_drewN | apply keep_drew | apply keep_alloc) | exact HK.out)) (KeepBut.of_below hb g none) (.inl rfl)); have n2_ := Aside0.mk (below_step (by repeat (first | (with_reducible first | exact HB.out | apply below_alloc | apply pw_below_drewN | apply below_drew1 | refine below_set ?_ (IsS84.ge HI0.out)) | exact HB.out)) hb); have n3_ := Aside0.mk (hbox); have n4_ := Aside0.mk ((by rw [hg]; exact (keep_size (w := w) (g := g) (row := none) (by repeat (first | (with_reducible first | exact HK.out | apply KeepBut.set_ | apply keep_drewN | apply keep_drew | apply keep_alloc) | exact HK.out))) : w.heap.size ≤ gb285)); have n5_ := Aside0.mk ((Nat.le_trans HW0.out (by rw [hg]; exact (keep_size (w := w) (g := g) (row := none) (by repeat (first | (with_reducible first | exact HK.out | apply KeepBut.set_ | apply keep_drewN | apply keep_drew | apply keep_alloc) | exact HK.out))) : w.heap.size ≤ gb285) : w0.heap.size ≤ gb285)); have n6_ := Aside0.mk ((by rw [hg]; exact Nat.ne_of_lt (IsS84.lt (show IsS84 w0 _ g s0_0 s0_1 from by repeat (first | (with_reducible first | exact HI0.out | apply IsS84.alloc | apply IsS84.drewN | apply IsS84.drew | apply IsS84.set_1) | exact HI0.out))) : g ≠ gb285)); have n7_ := Aside0.mk ((by rw [hg]; exact Nat.ne_of_gt (IsS84.lt (show IsS84 w0 _ g s0_0 s0_1 from by repeat (first | (with_reducible first | exact HI0.out | apply IsS84.alloc | apply IsS84.drewN | apply IsS84.drew | apply IsS84.set_1) | exact HI0.out))) : gb285 ≠ g)); clear HI0; clear HK; clear HB; have HI0 := n0_; have HK := n1_; have HB := n2_; have BK285 := n3_; have GW285 := n4_; have GE285 := n5_; have NB0_285 := n6_; have NB285_0 := n7_; clear n0_ n1_ n2_ n3_ n4_ n5_ n6_ n7_; clear hb hbox hg) | ((with_reducible refine gate_callee (f := 58) rfl ?_); refine goesL_ (some 7) rfl rfl Try.func58 (by kernel_rfl) rfl #[.pointer (some ⟨g, 0, none⟩), .int .i64 21] rfl (by (try simp only [List.map_toArray, List.map_cons, List.map_nil]); first | done | rfl | (simp only [List.length_drop, List.length_take]; rfl)) ?_; (with_reducible refine (spec_l20Rd_pick.calls k g s0_0 s0_1 21 t286 t287 w0 _ ?side1 ?side2 A3.out).mono ?_); (case side1 => repeat (first | (with_reducible first | exact HI0.out | apply IsS84.alloc | apply IsS84.drewN | apply IsS84.drew | apply IsS84.set_1 | refine IsS84.far ?_ NB0_285.out _) | exact HI0.out)); (case side2 => repeat (first | (with_reducible first | exact HB.out | apply below_alloc | apply pw_below_drewN | apply below_drew1 | refine below_set ?_ (IsS84.ge HI0.out) | refine below_set ?_ GE285.out) | exact HB.out)); rintro e w25 ⟨rfl, hi, hb, hk⟩; refine ⟨_, rfl, ?_⟩; have n0_ := Aside0.mk (KeepBut.blk hk (g' := gb285) (o := .cells #[.int .i64 0, .int .i64 0] 25 (0, 0)) (by (with_reducible repeat (first | refine blk_drewN ?_ _ | refine blk_drew ?_ | refine blk_alloc ?_ _)); exact BK285.out) NB285_0.out (by simp)); have n1_ := Aside0.mk (KeepBut.trans (by repeat (first | (with_reducible first | exact HK.out | apply KeepBut.set_ | apply keep_drewN | apply keep_drew | apply keep_alloc | refine keep_far ?_ GW285.out _) | exact HK.out)) hk (.inl rfl)); have n2_ := Aside0.mk (hb); have n3_ := Aside0.mk (hi); clear BK285; clear HK; clear HB; clear HI0; have BK285 := n0_; have HK := n1_; have HB := n2_; have HI0 := n3_; clear n0_ n1_ n2_ n3_; (try clear hb); (try clear hb2); (try clear hk); (try clear hi)) | ((with_reducible refine gate_callee (f := 58) rfl ?_); refine goesL_ (some 9) rfl rfl Try.func58 (by kernel_rfl) rfl #[.pointer (some ⟨g, 0, none⟩), .int .i64 7] rfl (by (try simp only [List.map_toArray, List.map_cons, List.map_nil]); first | done | rfl | (simp only [List.length_drop, List.length_take]; rfl)) ?_; (with_reducible refine (spec_l20Rd_pick.calls k g s0_0 t287 7 t288 t289 w0 _ ?side1 ?side2 A4.out).mono ?_); (case side1 => repeat (first | (with_reducible first | exact HI0.out | apply IsS84.alloc | apply IsS84.drewN | apply IsS84.drew | apply IsS84.set_1 | refine IsS84.far ?_ NB0_285.out _) | exact HI0.out)); (case side2 => repeat (first | (with_reducible first | exact HB.out | apply below_alloc | apply pw_below_drewN | apply below_drew1 | refine below_set ?_ (IsS84.ge HI0.out) | refine below_set ?_ GE285.out) | exact HB.out)); rintro e w26 ⟨rfl, hi, hb, hk⟩; refine ⟨_, rfl, ?_⟩; have n0_ := Aside0.mk (KeepBut.blk hk (g' := gb285) (o := .cells #[.int .i64 0, .int .i64 0] 25 (0, 0)) (by (with_reducible repeat (first | refine blk_drewN ?_ _ | refine blk_drew ?_ | refine blk_alloc ?_ _)); exact BK285.out) NB285_0.out (by simp)); have n1_ := Aside0.mk (KeepBut.trans (by repeat (first | (with_reducible first | exact HK.out | apply KeepBut.set_ | apply keep_drewN | apply keep_drew | apply keep_alloc | refine keep_far ?_ GW285.out _) | exact HK.out)) hk (.inl rfl)); have n2_ := Aside0.mk (hb); have n3_ := Aside0.mk (hi); clear BK285; clear HK; clear HB; clear HI0; have BK285 := n0_; have HK := n1_; have HB := n2_; have HI0 := n3_; clear n0_ n1_ n2_ n3_; (try clear hb); (try clear hb2); (try clear hk); (try clear hi)) | ((with_reducible refine gate_dst (N := 5) rfl ?_); refine box_event ?hg (N := 5) ?hd (cs := #[.int .i64 0, .int .i64 0]) (t := 25) ?hr ?_; (case hd => rfl); (case hg => rfl); (case hr => first | (go_simp; done) | (go_simp; rfl)); intro gb290 hg w27 hbox hb; have n0_ := Aside0.mk (IsS84.below (by repeat (first | (with_reducible first | exact HI0.out | apply IsS84.alloc | apply IsS84.drewN | apply IsS84.drew | apply IsS84.set_1 | refine IsS84.far ?_ NB0_285.out _) | exact HI0.out)) hb); have n1_ := Aside0.mk (blk_below (g := gb285) (o := .cells #[.int .i64 0, .int .i64 0] 25 (0, 0)) (by (with_reducible repeat (first | refine blk_drewN ?_ _ | refine blk_drew ?_ | refine blk_alloc ?_ _)); exact BK285.out) hb); have n2_ := Aside0.mk (KeepBut.trans (by repeat (first | (with_reducible first | exact HK.out | apply KeepBut.set_ | apply keep_drewN | apply keep_drew | apply keep_alloc | refine keep_far ?_ GW285.out _) | exact HK.out)) (KeepBut.of_below hb g none) (.inl rfl)); have n3_ := Aside0.mk (below_step (by repeat (first | (with_reducible first | exact HB.out | apply below_alloc | apply pw_below_drewN | apply below_drew1 | refine below_set ?_ (IsS84.ge HI0.out) | refine below_set ?_ GE285.out) | exact HB.out)) hb); have n4_ := Aside0.mk (hbox); have n5_ := Aside0.mk ((by rw [hg]; exact (keep_size (w := w) (g := g) (row := none) (by repeat (first | (with_reducible first | exact HK.out | apply KeepBut.set_ | apply keep_drewN | apply keep_drew | apply keep_alloc | refine keep_far ?_ GW285.out _) | exact HK.out))) : w.heap.size ≤ gb290)); have n6_ := Aside0.mk ((Nat.le_trans HW0.out (by rw [hg]; exact (keep_size (w := w) (g := g) (row := none) (by repeat (first | (with_reducible first | exact HK.out | apply KeepBut.set_ | apply keep_drewN | apply keep_drew | apply keep_alloc | refine keep_far ?_ GW285.out _) | exact HK.out))) : w.heap.size ≤ gb290) : w0.heap.size ≤ gb290)); have n7_ := Aside0.mk ((by rw [hg]; exact Nat.ne_of_lt (blk_lt (g := gb285) (o := .cells #[.int .i64 0, .int .i64 0] 25 (0, 0)) (by (with_reducible repeat (first | refine blk_drewN ?_ _ | refine blk_drew ?_ | refine blk_alloc ?_ _)); exact BK285.out)) : gb285 ≠ gb290)); have n8_ := Aside0.mk ((by rw [hg]; exact Nat.ne_of_gt (blk_lt (g := gb285) (o := .cells #[.int .i64 0, .int .i64 0] 25 (0, 0)) (by (with_reducible repeat (first | refine blk_drewN ?_ _ | refine blk_drew ?_ | refine blk_alloc ?_ _)); exact BK285.out)) : gb290 ≠ gb285)); have n9_ := Aside0.mk ((by rw [hg]; exact Nat.ne_of_lt (IsS84.lt (show IsS84 w0 _ g s0_0 t289 from by repeat (first | (with_reducible first | exact HI0.out | apply IsS84.alloc | apply IsS84.drewN | apply IsS84.drew | apply IsS84.set_1 | refine IsS84.far ?_ NB0_285.out _) | exact HI0.out))) : g ≠ gb290)); have n10_ := Aside0.mk ((by rw [hg]; exact Nat.ne_of_gt (IsS84.lt (show IsS84 w0 _ g s0_0 t289 from by repeat (first | (with_reducible first | exact HI0.out | apply IsS84.alloc | apply IsS84.drewN | apply IsS84.drew | apply IsS84.set_1 | refine IsS84.far ?_ NB0_285.out _) | exact HI0.out))) : gb290 ≠ g)); clear HI0; clear BK285; clear HK; clear HB; have HI0 := n0_; have BK285 := n1_; have HK := n2_; have HB := n3_; have BK290 := n4_; have GW290 := n5_; have GE290 := n6_; have NB285_290 := n7_; have NB290_285 := n8_; have NB0_290 := n9_; have NB290_0 := n10_; clear n0_ n1_ n2_ n3_ n4_ n5_ n6_ n7_ n8_ n9_ n10_; clear hb hbox hg; have hnb28 := NB290_285.out; have hnc28 := NB285_290.out; have hnb29 := NB290_0.out; have hnc29 := NB0_290.out; have hcz30_0 : w27.cell? ⟨gb290, 0, none⟩ = some (.int .i64 0) := (blk_cell BK290.out 0).trans rfl; have hcz30_1 : w27.cell? ⟨gb290, 1, none⟩ = some (.int .i64 0) := (blk_cell BK290.out 1).trans rfl; have hfz30_0 := blk_frozen BK290.out 0; have hfz30_1 := blk_frozen BK290.out 1) | ((with_reducible refine gate_callee (f := 60) rfl ?_); refine goesL_ (some 13) rfl rfl Try.func60 (by kernel_rfl) rfl #[.pointer (some ⟨g, 0, none⟩), .int .i64 a1] rfl (by (try simp only [List.map_toArray, List.map_cons, List.map_nil]); first | done | rfl | (simp only [List.length_drop, List.length_take]; rfl)) ?_; (with_reducible refine (spec_l20Rd_odd.calls k g s0_0 t289 a1 false t292 w0 _ ?side1 ?side2 A5.out).mono ?_); (case side1 => repeat (first | (with_reducible first | exact HI0.out | apply IsS84.alloc | apply IsS84.drewN | apply IsS84.drew | apply IsS84.set_1 | refine IsS84.far ?_ NB0_285.out _ | refine IsS84.far ?_ NB0_290.out _) | exact HI0.out)); (case side2 => repeat (first | (with_reducible first | exact HB.out | apply below_alloc | apply pw_below_drewN | apply below_drew1 | refine below_set ?_ (IsS84.ge HI0.out) | refine below_set ?_ GE285.out | refine below_set ?_ GE290.out) | exact HB.out)); rintro e w31 ⟨rfl, hi, hb, hk⟩; refine ⟨_, rfl, ?_⟩; have n0_ := Aside0.mk (KeepBut.blk hk (g' := gb285) (o := .cells #[.int .i64 0, .int .i64 0] 25 (0, 0)) (by (with_reducible repeat (first | refine blk_drewN ?_ _ | refine blk_drew ?_ | refine blk_alloc ?_ _)); refine blk_far ?_ NB285_290.out _; (with_reducible repeat (first | refine blk_drewN ?_ _ | refine blk_drew ?_ | refine blk_alloc ?_ _)); refine blk_far ?_ NB285_290.out _; (with_reducible repeat (first | refine blk_drewN ?_ _ | refine blk_drew ?_ | refine blk_alloc ?_ _)); exact BK285.out) NB285_0.out (by simp)); have n1_ := Aside0.mk (KeepBut.blk hk (g' := gb290) (o := .cells #[.int .i64 t286, .int .i64 t288] 25 (0, 0)) (by (with_reducible repeat (first | refine blk_drewN ?_ _ | refine blk_drew ?_ | refine blk_alloc ?_ _)); refine blk_put (cs := #[.int .i64 t286, .int .i64 0]) ?_ 1 _ rfl; (with_reducible repeat (first | refine blk_drewN ?_ _ | refine blk_drew ?_ | refine blk_alloc ?_ _)); refine blk_put (cs := #[.int .i64 0, .int .i64 0]) ?_ 0 _ rfl; (with_reducible repeat (first | refine blk_drewN ?_ _ | refine blk_drew ?_ | refine blk_alloc ?_ _)); exact BK290.out) NB290_0.out (by simp)); have n2_ := Aside0.mk (KeepBut.trans (by repeat (first | (with_reducible first | exact HK.out | apply KeepBut.set_ | apply keep_drewN | apply keep_drew | apply keep_alloc | refine keep_far ?_ GW285.out _ | refine keep_far ?_ GW290.out _) | exact HK.out)) hk (.inl rfl)); have n3_ := Aside0.mk (hb); have n4_ := Aside0.mk (hi); clear BK285; clear BK290; clear HK; clear HB; clear HI0; have BK285 := n0_; have BK290 := n1_; have HK := n2_; have HB := n3_; have HI0 := n4_; clear n0_ n1_ n2_ n3_ n4_; (try clear hb); (try clear hb2); (try clear hk); (try clear hi); have hcz32_0 : w31.cell? ⟨gb290, 0, none⟩ = some (.int .i64 t286) := (blk_cell BK290.out 0).trans rfl; have hcz32_1 : w31.cell? ⟨gb290, 1, none⟩ = some (.int .i64 t288) := (blk_cell BK290.out 1).trans rfl; have hfz32_0 := blk_frozen BK290.out 0; have hfz32_1 := blk_frozen BK290.out 1; have hnb33 := NB285_0.out; have hnc33 := NB0_285.out; have hcz34_0 : w31.cell? ⟨gb285, 0, none⟩ = some (.int .i64 0) := (blk_cell BK285.out 0).trans rfl; have hcz34_1 : w31.cell? ⟨gb285, 1, none⟩ = some (.int .i64 0) := (blk_cell BK285.out 1).trans rfl; have hfz34_0 := blk_frozen BK285.out 0; have hfz34_1 := blk_frozen BK285.out 1))
    refine bodyPost_ret (results_cell_row rfl _ _ gb285 25 #[.int .i64 t286, .int .i64 t288] (0, 0) _ rfl (by (with_reducible repeat (first | refine blk_drewN ?_ _ | refine blk_drew ?_ | refine blk_alloc ?_ _)); refine blk_put (cs := #[.int .i64 t286, .int .i64 0]) ?_ 1 _ rfl; (with_reducible repeat (first | refine blk_drewN ?_ _ | refine blk_drew ?_ | refine blk_alloc ?_ _)); refine blk_put (cs := #[.int .i64 0, .int .i64 0]) ?_ 0 _ rfl; (with_reducible repeat (first | refine blk_drewN ?_ _ | refine blk_drew ?_ | refine blk_alloc ?_ _)); exact BK285.out) Try.underlying25 rfl (by kernel_rfl)) rfl ?_
    exact ⟨by first | rfl | (simp [errW_none, errW_some] <;> rfl) | (simp [*, errW_none, errW_some] <;> rfl), by repeat (first | (with_reducible first | exact HI0.out | apply IsS84.alloc | apply IsS84.drewN | apply IsS84.drew | apply IsS84.set_1 | refine IsS84.far ?_ NB0_285.out _ | refine IsS84.far ?_ NB0_290.out _) | exact HI0.out), by repeat (first | (with_reducible first | exact HB.out | apply below_alloc | apply pw_below_drewN | apply below_drew1 | refine below_set ?_ (IsS84.ge HI0.out) | refine below_set ?_ GE285.out | refine below_set ?_ GE290.out) | exact HB.out), by repeat (first | (with_reducible first | exact HK.out | apply KeepBut.set_ | apply keep_drewN | apply keep_drew | apply keep_alloc | refine keep_far ?_ GW285.out _ | refine keep_far ?_ GW290.out _) | exact HK.out)⟩

end Go.Proofs.Ytooabmmnbifclaa.P
-- Laid by a program of this work.
namespace Go.Proofs.Ytooabmmnbifclaa.P
open Go.RowKit Go.Proofs.YtooabmmnbifclaaW.PrintWords Go.Proofs.YtooabmmnbifclaaW.PrintLast Go.Proofs.YtooabmmnbifclaaW.PrintMore
attribute [local go_sem] max2_int min2_int max_two min_two max_three min_three max_four min_four   -- for this text's walks alone
set_option linter.unusedVariables false
set_option linter.unusedSimpArgs false

/-! ### spec_DrawFlowValid: function 37 -/
def spec_DrawFlowValid.f (k : Nat) (l0 : List Int) : Option (Int × Int) := (spec_l20Open.f l0).bind fun bt300 => ((spec_l20Flow.f k bt300.1 bt300.2 2).bind fun bt303 => (some (bt303.1, bt303.2.1)))
theorem spec_DrawFlowValid.mono : ∀ a0 k, LeO (spec_DrawFlowValid.f k a0) (spec_DrawFlowValid.f (k + 1) a0) := by
  intro a0 k
  unfold spec_DrawFlowValid.f
  repeat' first
      | (with_reducible exact spec_l20Flow.mono _ _ _ _)
      | (with_reducible exact LeO.refl _)
      | (with_reducible exact LeO.none _)
      | (with_reducible refine LeO.ite ?_ ?_)
      | (with_reducible refine LeO.bind ?_ (fun _ => ?_))
      | exact spec_l20Flow.mono _ _ _ _
      | exact LeO.none _
      | refine LeO.ite ?_ ?_
      | refine LeO.bind ?_ (fun _ => ?_)
set_option maxHeartbeats 8000000 in
set_option maxRecDepth 100000 in
theorem spec_DrawFlowValid.calls (k : Nat) (A0 : Option Addr) (c0 : Nat) (l0 : List Int) (r1 : Int) (r2 : Int) (w : World) (hr0 : Kd.C (Kd.int .u8) w A0 l0.length l0) (hc0 : l0.length ≤ c0) (h : spec_DrawFlowValid.f k l0 = some (r1, r2)) :
    Calls Try.prog 37 #[.slice A0 l0.length c0] w fun e w' => e = .returned (.agg #[.int .i64 r1, .int .i64 r2]) ∧ Below w.heap.size w w' := by
  have hu25 := Try.underlying25
  have HR0 := Aside0.mk hr0
  have HC0 := Aside0.mk hc0
  clear hr0 hc0
  have HB := Aside0.mk (Below.refl w.heap.size w)
  have H : ((spec_l20Open.f l0).bind fun bt300 => ((spec_l20Flow.f k bt300.1 bt300.2 2).bind fun bt303 => (some (bt303.1, bt303.2.1)))) = some (r1, r2) := h
  clear h
  replace H := Option.bind_eq_some_iff.mp H
  obtain ⟨⟨t300, t301⟩, A20, H⟩ := H
  replace H : ((spec_l20Flow.f k t300 t301 2).bind fun bt303 => (some (bt303.1, bt303.2.1))) = some (r1, r2) := H
  have A2 := Aside0.mk A20
  clear A20
  replace H := Option.bind_eq_some_iff.mp H
  obtain ⟨⟨t303, t304, t305⟩, A30, H⟩ := H
  replace H : (some (t303, t304)) = some (r1, r2) := H
  have A3 := Aside0.mk A30
  clear A30
  simp only [Option.some.injEq, Prod.mk.injEq] at H
  obtain ⟨rfl, rfl⟩ := H
  go_enter Try.func37, Try.ntmps37
  go_wp2_with (first | ((with_reducible refine gate_dst (N := 2) rfl ?_); refine box_event ?hg (N := 2) ?hd (cs := #[.int .i64 0, .int .i64 0]) (t := 25) ?hr ?_; (case hd => rfl); (case hg => rfl); (case hr => first | (go_simp; done) | (go_simp; rfl)); intro gb299 hg w4 hbox hb; have n0_ := Aside0.mk (below_step (by repeat (first | (with_reducible first | exact HB.out | apply below_alloc | apply pw_below_drewN | apply below_drew1) | exact HB.out)) hb); have n1_ := Aside0.mk (hbox); have n2_ := Aside0.mk ((by rw [hg]; exact (below_size (by repeat (first | (with_reducible first | exact HB.out | apply below_alloc | apply pw_below_drewN | apply below_drew1) | exact HB.out))) : w.heap.size ≤ gb299)); have n3_ := Aside0.mk ((by rw [hg]; exact (below_size (by repeat (first | (with_reducible first | exact HB.out | apply below_alloc | apply pw_below_drewN | apply below_drew1) | exact HB.out))) : w.heap.size ≤ gb299)); clear HB; have HB := n0_; have BK299 := n1_; have GW299 := n2_; have GE299 := n3_; clear n0_ n1_ n2_ n3_; clear hb hbox hg) | ((with_reducible refine gate_callee (f := 54) rfl ?_); refine goesL_ (some 4) rfl rfl Try.func54 (by kernel_rfl) rfl #[.slice A0 l0.length c0] rfl (by (try simp only [List.map_toArray, List.map_cons, List.map_nil]); first | done | rfl | (simp only [List.length_drop, List.length_take]; rfl)) ?_; (with_reducible refine (spec_l20Open.calls _ _ l0 t300 t301 w _ ?side1 ?side2 ?side3 A2.out).mono ?_); (case side1 => repeat (first | (with_reducible first | exact HB.out | apply below_alloc | apply pw_below_drewN | apply below_drew1 | refine below_set ?_ GE299.out) | exact HB.out)); (case side2 => exact HR0.out); (case side3 => exact HC0.out); rintro e w5 ⟨g302, rfl, hi, hb, hb2⟩; refine ⟨_, rfl, ?_⟩; have n0_ := Aside0.mk (blk_below (g := gb299) (o := .cells #[.int .i64 0, .int .i64 0] 25 (0, 0)) (by (with_reducible repeat (first | refine blk_drewN ?_ _ | refine blk_drew ?_ | refine blk_alloc ?_ _)); exact BK299.out) hb2); have n1_ := Aside0.mk (hb); have n2_ := Aside0.mk (hi); have n3_ := Aside0.mk (IsS84.ne_blk hi (blk_below (g := gb299) (o := .cells #[.int .i64 0, .int .i64 0] 25 (0, 0)) (by (with_reducible repeat (first | refine blk_drewN ?_ _ | refine blk_drew ?_ | refine blk_alloc ?_ _)); exact BK299.out) hb2) (by decide)); have n4_ := Aside0.mk (Ne.symm (IsS84.ne_blk hi (blk_below (g := gb299) (o := .cells #[.int .i64 0, .int .i64 0] 25 (0, 0)) (by (with_reducible repeat (first | refine blk_drewN ?_ _ | refine blk_drew ?_ | refine blk_alloc ?_ _)); exact BK299.out) hb2) (by decide))); clear BK299; clear HB; have BK299 := n0_; have HB := n1_; have HI302 := n2_; have NB302_299 := n3_; have NB299_302 := n4_; clear n0_ n1_ n2_ n3_ n4_; (try clear hb); (try clear hb2); (try clear hk); (try clear hi)) | ((with_reducible refine gate_callee (f := 56) rfl ?_); refine goesL_ (some 5) rfl rfl Try.func56 (by kernel_rfl) rfl #[.pointer (some ⟨g302, 0, none⟩), .int .i64 2] rfl (by (try simp only [List.map_toArray, List.map_cons, List.map_nil]); first | done | rfl | (simp only [List.length_drop, List.length_take]; rfl)) ?_; (with_reducible refine (spec_l20Flow.calls k g302 t300 t301 2 t303 t304 t305 w _ ?side1 ?side2 A3.out).mono ?_); (case side1 => repeat (first | (with_reducible first | exact HI302.out | apply IsS84.alloc | apply IsS84.drewN | apply IsS84.drew | apply IsS84.set_1 | refine IsS84.far ?_ NB302_299.out _) | exact HI302.out)); (case side2 => repeat (first | (with_reducible first | exact HB.out | apply below_alloc | apply pw_below_drewN | apply below_drew1 | refine below_set ?_ (IsS84.ge HI302.out) | refine below_set ?_ GE299.out) | exact HB.out)); rintro e w6 ⟨rfl, hi, hb, hk⟩; refine ⟨_, rfl, ?_⟩; have n0_ := Aside0.mk (KeepBut.blk hk (g' := gb299) (o := .cells #[.int .i64 0, .int .i64 0] 25 (0, 0)) (by (with_reducible repeat (first | refine blk_drewN ?_ _ | refine blk_drew ?_ | refine blk_alloc ?_ _)); exact BK299.out) NB299_302.out (by simp)); have n1_ := Aside0.mk (hb); have n2_ := Aside0.mk (hi); clear BK299; clear HB; clear HI302; have BK299 := n0_; have HB := n1_; have HI302 := n2_; clear n0_ n1_ n2_; (try clear hb); (try clear hb2); (try clear hk); (try clear hi); have hnb7 := NB299_302.out; have hnc7 := NB302_299.out; have hcz8_0 : w6.cell? ⟨gb299, 0, none⟩ = some (.int .i64 0) := (blk_cell BK299.out 0).trans rfl; have hcz8_1 : w6.cell? ⟨gb299, 1, none⟩ = some (.int .i64 0) := (blk_cell BK299.out 1).trans rfl; have hfz8_0 := blk_frozen BK299.out 0; have hfz8_1 := blk_frozen BK299.out 1))
  refine bodyPost_ret (results_cell_row rfl _ _ gb299 25 #[.int .i64 t303, .int .i64 t304] (0, 0) _ rfl (by (with_reducible repeat (first | refine blk_drewN ?_ _ | refine blk_drew ?_ | refine blk_alloc ?_ _)); refine blk_put (cs := #[.int .i64 t303, .int .i64 0]) ?_ 1 _ rfl; (with_reducible repeat (first | refine blk_drewN ?_ _ | refine blk_drew ?_ | refine blk_alloc ?_ _)); refine blk_put (cs := #[.int .i64 0, .int .i64 0]) ?_ 0 _ rfl; (with_reducible repeat (first | refine blk_drewN ?_ _ | refine blk_drew ?_ | refine blk_alloc ?_ _)); exact BK299.out) Try.underlying25 rfl (by kernel_rfl)) rfl ?_
  exact ⟨by first | rfl | (simp [errW_none, errW_some] <;> rfl) | (simp [*, errW_none, errW_some] <;> rfl), by repeat (first | (with_reducible first | exact HB.out | apply below_alloc | apply pw_below_drewN | apply below_drew1 | refine below_set ?_ (IsS84.ge HI302.out) | refine below_set ?_ GE299.out) | exact HB.out)⟩

end Go.Proofs.Ytooabmmnbifclaa.P
-- Laid by a program of this work.
namespace Go.Proofs.Ytooabmmnbifclaa.P
open Go.RowKit Go.Proofs.YtooabmmnbifclaaW.PrintWords Go.Proofs.YtooabmmnbifclaaW.PrintLast Go.Proofs.YtooabmmnbifclaaW.PrintMore
attribute [local go_sem] max2_int min2_int max_two min_two max_three min_three max_four min_four   -- for this text's walks alone
set_option linter.unusedVariables false
set_option linter.unusedSimpArgs false

/-! ### spec_l20Link: function 57 -/
def spec_l20Link.f (k : Nat) (s0_0 : List Int) (s0_1 : Int) (a1 : Int) : Option (Int × Int × Int) := (spec_l20Rd_pick.f k s0_0 s0_1 9).bind fun bt307 => ((spec_l20Rd_pick.f k s0_0 bt307.2 9).bind fun bt309 => ((spec_l20Rd_odd.f k s0_0 bt309.2 a1).bind fun bt312 => (if bt312.1 = true then ((some (([(⟨0, 0⟩ : S31), (⟨(-1), 1⟩ : S31), (⟨21, 1⟩ : S31), (⟨0, 21⟩ : S31)] : List (S31)) : List (S31))).bind fun y314 => ((spec_l20Rd_pick.f k s0_0 bt312.2 4).bind fun bt317 => (if 0 ≤ bt317.1 then (if bt317.1 < (y314.length : Int) then (some ((rd_T31 y314 bt317.1).f0, (rd_T31 y314 bt317.1).f1, bt317.2)) else (none)) else (none)))) else (some (bt307.1, wrap64 (1 + bt309.1), bt312.2)))))
theorem spec_l20Link.mono : ∀ a0 a1 a2 k, LeO (spec_l20Link.f k a0 a1 a2) (spec_l20Link.f (k + 1) a0 a1 a2) := by
  intro a0 a1 a2 k
  unfold spec_l20Link.f
  repeat' first
      | (with_reducible exact spec_l20Rd_odd.mono _ _ _ _)
      | (with_reducible exact spec_l20Rd_pick.mono _ _ _ _)
      | (with_reducible exact LeO.refl _)
      | (with_reducible exact LeO.none _)
      | (with_reducible refine LeO.ite ?_ ?_)
      | (with_reducible refine LeO.bind ?_ (fun _ => ?_))
      | exact spec_l20Rd_odd.mono _ _ _ _
      | exact spec_l20Rd_pick.mono _ _ _ _
      | exact LeO.none _
      | refine LeO.ite ?_ ?_
      | refine LeO.bind ?_ (fun _ => ?_)
set_option maxHeartbeats 8000000 in
set_option maxRecDepth 100000 in
theorem spec_l20Link.calls (k : Nat) (g : Nat) (s0_0 : List Int) (s0_1 : Int) (a1 : Int) (r1 : Int) (r2 : Int) (r3 : Int) (w0 w : World) (hI : IsS84 w0 w g s0_0 s0_1) (hB : Below w0.heap.size w0 w) (h : spec_l20Link.f k s0_0 s0_1 a1 = some (r1, r2, r3)) :
    Calls Try.prog 57 #[.pointer (some ⟨g, 0, none⟩), .int .i64 a1] w fun e w' => e = .returned (.agg #[.int .i64 r1, .int .i64 r2]) ∧ IsS84 w0 w' g s0_0 r3 ∧ Below w0.heap.size w0 w' ∧ KeepBut w w' g none := by
  have hu31 := Try.underlying31
  have HI0 := Aside0.mk hI
  have HK := Aside0.mk (KeepBut.refl w g none)
  have HL := Aside0.mk hB.size
  clear hI
  have HW0 := Aside0.mk hB.size
  have HB := Aside0.mk hB
  clear hB
  have H : ((spec_l20Rd_pick.f k s0_0 s0_1 9).bind fun bt307 => ((spec_l20Rd_pick.f k s0_0 bt307.2 9).bind fun bt309 => ((spec_l20Rd_odd.f k s0_0 bt309.2 a1).bind fun bt312 => (if bt312.1 = true then ((some (([(⟨0, 0⟩ : S31), (⟨(-1), 1⟩ : S31), (⟨21, 1⟩ : S31), (⟨0, 21⟩ : S31)] : List (S31)) : List (S31))).bind fun y314 => ((spec_l20Rd_pick.f k s0_0 bt312.2 4).bind fun bt317 => (if 0 ≤ bt317.1 then (if bt317.1 < (y314.length : Int) then (some ((rd_T31 y314 bt317.1).f0, (rd_T31 y314 bt317.1).f1, bt317.2)) else (none)) else (none)))) else (some (bt307.1, wrap64 (1 + bt309.1), bt312.2)))))) = some (r1, r2, r3) := h
  clear h
  replace H := Option.bind_eq_some_iff.mp H
  obtain ⟨⟨t307, t308⟩, A30, H⟩ := H
  replace H : ((spec_l20Rd_pick.f k s0_0 t308 9).bind fun bt309 => ((spec_l20Rd_odd.f k s0_0 bt309.2 a1).bind fun bt312 => (if bt312.1 = true then ((some (([(⟨0, 0⟩ : S31), (⟨(-1), 1⟩ : S31), (⟨21, 1⟩ : S31), (⟨0, 21⟩ : S31)] : List (S31)) : List (S31))).bind fun y314 => ((spec_l20Rd_pick.f k s0_0 bt312.2 4).bind fun bt317 => (if 0 ≤ bt317.1 then (if bt317.1 < (y314.length : Int) then (some ((rd_T31 y314 bt317.1).f0, (rd_T31 y314 bt317.1).f1, bt317.2)) else (none)) else (none)))) else (some (t307, wrap64 (1 + bt309.1), bt312.2))))) = some (r1, r2, r3) := H
  have A3 := Aside0.mk A30
  clear A30
  replace H := Option.bind_eq_some_iff.mp H
  obtain ⟨⟨t309, t310⟩, A40, H⟩ := H
  replace H : ((spec_l20Rd_odd.f k s0_0 t310 a1).bind fun bt312 => (if bt312.1 = true then ((some (([(⟨0, 0⟩ : S31), (⟨(-1), 1⟩ : S31), (⟨21, 1⟩ : S31), (⟨0, 21⟩ : S31)] : List (S31)) : List (S31))).bind fun y314 => ((spec_l20Rd_pick.f k s0_0 bt312.2 4).bind fun bt317 => (if 0 ≤ bt317.1 then (if bt317.1 < (y314.length : Int) then (some ((rd_T31 y314 bt317.1).f0, (rd_T31 y314 bt317.1).f1, bt317.2)) else (none)) else (none)))) else (some (t307, wrap64 (1 + t309), bt312.2)))) = some (r1, r2, r3) := H
  have A4 := Aside0.mk A40
  clear A40
  replace H := Option.bind_eq_some_iff.mp H
  obtain ⟨⟨t312, t313⟩, A50, H⟩ := H
  replace H : (if t312 = true then ((some (([(⟨0, 0⟩ : S31), (⟨(-1), 1⟩ : S31), (⟨21, 1⟩ : S31), (⟨0, 21⟩ : S31)] : List (S31)) : List (S31))).bind fun y314 => ((spec_l20Rd_pick.f k s0_0 t313 4).bind fun bt317 => (if 0 ≤ bt317.1 then (if bt317.1 < (y314.length : Int) then (some ((rd_T31 y314 bt317.1).f0, (rd_T31 y314 bt317.1).f1, bt317.2)) else (none)) else (none)))) else (some (t307, wrap64 (1 + t309), t313))) = some (r1, r2, r3) := H
  have A5 := Aside0.mk A50
  clear A50
  by_cases c6 : t312 = true
  · subst c6
    have H1 : ((some (([(⟨0, 0⟩ : S31), (⟨(-1), 1⟩ : S31), (⟨21, 1⟩ : S31), (⟨0, 21⟩ : S31)] : List (S31)) : List (S31))).bind fun y314 => ((spec_l20Rd_pick.f k s0_0 t313 4).bind fun bt317 => (if 0 ≤ bt317.1 then (if bt317.1 < (y314.length : Int) then (some ((rd_T31 y314 bt317.1).f0, (rd_T31 y314 bt317.1).f1, bt317.2)) else (none)) else (none)))) = some (r1, r2, r3) := by rw [if_pos rfl] at H; exact H
    clear H
    have H := H1
    clear H1
    obtain ⟨y314, hy314⟩ : ∃ y_ : List (S31), y_ = (([(⟨0, 0⟩ : S31), (⟨(-1), 1⟩ : S31), (⟨21, 1⟩ : S31), (⟨0, 21⟩ : S31)] : List (S31))) := ⟨_, rfl⟩
    replace H : ((spec_l20Rd_pick.f k s0_0 t313 4).bind fun bt317 => (if 0 ≤ bt317.1 then (if bt317.1 < (y314.length : Int) then (some ((rd_T31 y314 bt317.1).f0, (rd_T31 y314 bt317.1).f1, bt317.2)) else (none)) else (none))) = some (r1, r2, r3) := by first | (rw [hy314]; with_reducible exact H) | (have H2_ := (Option.bind_some _ _).symm.trans H; rw [hy314]; with_reducible exact H2_) | (have H2_ := (Option.bind_some _ _).symm.trans H; with_reducible exact H2_) | with_reducible exact H | (rw [hy314]; exact H) | exact H
    have Ny314 := Aside0.mk hy314
    clear hy314
    replace H := Option.bind_eq_some_iff.mp H
    obtain ⟨⟨t317, t318⟩, A70, H⟩ := H
    replace H : (if 0 ≤ t317 then (if t317 < (y314.length : Int) then (some ((rd_T31 y314 t317).f0, (rd_T31 y314 t317).f1, t318)) else (none)) else (none)) = some (r1, r2, r3) := H
    have A7 := Aside0.mk A70
    clear A70
    by_cases c8 : 0 ≤ t317
    · rw [if_pos c8] at H
      have c8b0 : decide (0 ≤ t317) = true := decide_eq_true c8
      clear c8
      by_cases c9 : t317 < (y314.length : Int)
      · rw [if_pos c9] at H
        have c9b0 : decide (t317 < (y314.length : Int)) = true := decide_eq_true c9
        clear c9
        simp only [Option.some.injEq, Prod.mk.injEq] at H
        obtain ⟨rfl, rfl, rfl⟩ := H
        go_enter Try.func57, Try.ntmps57
        go_wp2_with (first | ((with_reducible refine gate_dst (N := 4) rfl ?_); refine box_event ?hg (N := 4) ?hd (cs := #[.int .i64 0, .int .i64 0]) (t := 31) ?hr ?_; (case hd => rfl); (case hg => rfl); (case hr => first | (go_simp; done) | (go_simp; rfl)); intro gb306 hg w10 hbox hb; have n0_ := Aside0.mk (IsS84.below (by repeat (first | (with_reducible first | exact HI0.out | apply IsS84.alloc | apply IsS84.drewN | apply IsS84.drew | apply IsS84.set_1) | exact HI0.out)) hb); have n1_ := Aside0.mk (KeepBut.trans (by repeat (first | (with_reducible first | exact HK.out | apply KeepBut.set_ | apply keep_drewN | apply keep_drew | apply keep_alloc) | exact HK.out)) (KeepBut.of_below hb g none) (.inl rfl)); have n2_ := Aside0.mk (below_step (by repeat (first | (with_reducible first | exact HB.out | apply below_alloc | apply pw_below_drewN | apply below_drew1 | refine below_set ?_ (IsS84.ge HI0.out)) | exact HB.out)) hb); have n3_ := Aside0.mk (hbox); have n4_ := Aside0.mk ((by rw [hg]; exact (keep_size (w := w) (g := g) (row := none) (by repeat (first | (with_reducible first | exact HK.out | apply KeepBut.set_ | apply keep_drewN | apply keep_drew | apply keep_alloc) | exact HK.out))) : w.heap.size ≤ gb306)); have n5_ := Aside0.mk ((Nat.le_trans HW0.out (by rw [hg]; exact (keep_size (w := w) (g := g) (row := none) (by repeat (first | (with_reducible first | exact HK.out | apply KeepBut.set_ | apply keep_drewN | apply keep_drew | apply keep_alloc) | exact HK.out))) : w.heap.size ≤ gb306) : w0.heap.size ≤ gb306)); have n6_ := Aside0.mk ((by rw [hg]; exact Nat.ne_of_lt (IsS84.lt (show IsS84 w0 _ g s0_0 s0_1 from by repeat (first | (with_reducible first | exact HI0.out | apply IsS84.alloc | apply IsS84.drewN | apply IsS84.drew | apply IsS84.set_1) | exact HI0.out))) : g ≠ gb306)); have n7_ := Aside0.mk ((by rw [hg]; exact Nat.ne_of_gt (IsS84.lt (show IsS84 w0 _ g s0_0 s0_1 from by repeat (first | (with_reducible first | exact HI0.out | apply IsS84.alloc | apply IsS84.drewN | apply IsS84.drew | apply IsS84.set_1) | exact HI0.out))) : gb306 ≠ g)); clear HI0; clear HK; clear HB; have HI0 := n0_; have HK := n1_; have HB := n2_; have BK306 := n3_; have GW306 := n4_; have GE306 := n5_; have NB0_306 := n6_; have NB306_0 := n7_; clear n0_ n1_ n2_ n3_ n4_ n5_ n6_ n7_; clear hb hbox hg) | ((with_reducible refine gate_callee (f := 58) rfl ?_); refine goesL_ (some 7) rfl rfl Try.func58 (by kernel_rfl) rfl #[.pointer (some ⟨g, 0, none⟩), .int .i64 9] rfl (by (try simp only [List.map_toArray, List.map_cons, List.map_nil]); first | done | rfl | (simp only [List.length_drop, List.length_take]; rfl)) ?_; (with_reducible refine (spec_l20Rd_pick.calls k g s0_0 s0_1 9 t307 t308 w0 _ ?side1 ?side2 A3.out).mono ?_); (case side1 => repeat (first | (with_reducible first | exact HI0.out | apply IsS84.alloc | apply IsS84.drewN | apply IsS84.drew | apply IsS84.set_1 | refine IsS84.far ?_ NB0_306.out _) | exact HI0.out)); (case side2 => repeat (first | (with_reducible first | exact HB.out | apply below_alloc | apply pw_below_drewN | apply below_drew1 | refine below_set ?_ (IsS84.ge HI0.out) | refine below_set ?_ GE306.out) | exact HB.out)); rintro e w11 ⟨rfl, hi, hb, hk⟩; refine ⟨_, rfl, ?_⟩; have n0_ := Aside0.mk (KeepBut.blk hk (g' := gb306) (o := .cells #[.int .i64 0, .int .i64 0] 31 (0, 0)) (by (with_reducible repeat (first | refine blk_drewN ?_ _ | refine blk_drew ?_ | refine blk_alloc ?_ _)); exact BK306.out) NB306_0.out (by simp)); have n1_ := Aside0.mk (KeepBut.trans (by repeat (first | (with_reducible first | exact HK.out | apply KeepBut.set_ | apply keep_drewN | apply keep_drew | apply keep_alloc | refine keep_far ?_ GW306.out _) | exact HK.out)) hk (.inl rfl)); have n2_ := Aside0.mk (hb); have n3_ := Aside0.mk (hi); clear BK306; clear HK; clear HB; clear HI0; have BK306 := n0_; have HK := n1_; have HB := n2_; have HI0 := n3_; clear n0_ n1_ n2_ n3_; (try clear hb); (try clear hb2); (try clear hk); (try clear hi)) | ((with_reducible refine gate_callee (f := 58) rfl ?_); refine goesL_ (some 9) rfl rfl Try.func58 (by kernel_rfl) rfl #[.pointer (some ⟨g, 0, none⟩), .int .i64 9] rfl (by (try simp only [List.map_toArray, List.map_cons, List.map_nil]); first | done | rfl | (simp only [List.length_drop, List.length_take]; rfl)) ?_; (with_reducible refine (spec_l20Rd_pick.calls k g s0_0 t308 9 t309 t310 w0 _ ?side1 ?side2 A4.out).mono ?_); (case side1 => repeat (first | (with_reducible first | exact HI0.out | apply IsS84.alloc | apply IsS84.drewN | apply IsS84.drew | apply IsS84.set_1 | refine IsS84.far ?_ NB0_306.out _) | exact HI0.out)); (case side2 => repeat (first | (with_reducible first | exact HB.out | apply below_alloc | apply pw_below_drewN | apply below_drew1 | refine below_set ?_ (IsS84.ge HI0.out) | refine below_set ?_ GE306.out) | exact HB.out)); rintro e w12 ⟨rfl, hi, hb, hk⟩; refine ⟨_, rfl, ?_⟩; have n0_ := Aside0.mk (KeepBut.blk hk (g' := gb306) (o := .cells #[.int .i64 0, .int .i64 0] 31 (0, 0)) (by (with_reducible repeat (first | refine blk_drewN ?_ _ | refine blk_drew ?_ | refine blk_alloc ?_ _)); exact BK306.out) NB306_0.out (by simp)); have n1_ := Aside0.mk (KeepBut.trans (by repeat (first | (with_reducible first | exact HK.out | apply KeepBut.set_ | apply keep_drewN | apply keep_drew | apply keep_alloc | refine keep_far ?_ GW306.out _) | exact HK.out)) hk (.inl rfl)); have n2_ := Aside0.mk (hb); have n3_ := Aside0.mk (hi); clear BK306; clear HK; clear HB; clear HI0; have BK306 := n0_; have HK := n1_; have HB := n2_; have HI0 := n3_; clear n0_ n1_ n2_ n3_; (try clear hb); (try clear hb2); (try clear hk); (try clear hi)) | ((with_reducible refine gate_dst (N := 5) rfl ?_); refine box_event ?hg (N := 5) ?hd (cs := #[.int .i64 0, .int .i64 0]) (t := 31) ?hr ?_; (case hd => rfl); (case hg => rfl); (case hr => first | (go_simp; done) | (go_simp; rfl)); intro gb311 hg w13 hbox hb; have n0_ := Aside0.mk (IsS84.below (by repeat (first | (with_reducible first | exact HI0.out | apply IsS84.alloc | apply IsS84.drewN | apply IsS84.drew | apply IsS84.set_1 | refine IsS84.far ?_ NB0_306.out _) | exact HI0.out)) hb); have n1_ := Aside0.mk (blk_below (g := gb306) (o := .cells #[.int .i64 0, .int .i64 0] 31 (0, 0)) (by (with_reducible repeat (first | refine blk_drewN ?_ _ | refine blk_drew ?_ | refine blk_alloc ?_ _)); exact BK306.out) hb); have n2_ := Aside0.mk (KeepBut.trans (by repeat (first | (with_reducible first | exact HK.out | apply KeepBut.set_ | apply keep_drewN | apply keep_drew | apply keep_alloc | refine keep_far ?_ GW306.out _) | exact HK.out)) (KeepBut.of_below hb g none) (.inl rfl)); have n3_ := Aside0.mk (below_step (by repeat (first | (with_reducible first | exact HB.out | apply below_alloc | apply pw_below_drewN | apply below_drew1 | refine below_set ?_ (IsS84.ge HI0.out) | refine below_set ?_ GE306.out) | exact HB.out)) hb); have n4_ := Aside0.mk (hbox); have n5_ := Aside0.mk ((by rw [hg]; exact (keep_size (w := w) (g := g) (row := none) (by repeat (first | (with_reducible first | exact HK.out | apply KeepBut.set_ | apply keep_drewN | apply keep_drew | apply keep_alloc | refine keep_far ?_ GW306.out _) | exact HK.out))) : w.heap.size ≤ gb311)); have n6_ := Aside0.mk ((Nat.le_trans HW0.out (by rw [hg]; exact (keep_size (w := w) (g := g) (row := none) (by repeat (first | (with_reducible first | exact HK.out | apply KeepBut.set_ | apply keep_drewN | apply keep_drew | apply keep_alloc | refine keep_far ?_ GW306.out _) | exact HK.out))) : w.heap.size ≤ gb311) : w0.heap.size ≤ gb311)); have n7_ := Aside0.mk ((by rw [hg]; exact Nat.ne_of_lt (blk_lt (g := gb306) (o := .cells #[.int .i64 0, .int .i64 0] 31 (0, 0)) (by (with_reducible repeat (first | refine blk_drewN ?_ _ | refine blk_drew ?_ | refine blk_alloc ?_ _)); exact BK306.out)) : gb306 ≠ gb311)); have n8_ := Aside0.mk ((by rw [hg]; exact Nat.ne_of_gt (blk_lt (g := gb306) (o := .cells #[.int .i64 0, .int .i64 0] 31 (0, 0)) (by (with_reducible repeat (first | refine blk_drewN ?_ _ | refine blk_drew ?_ | refine blk_alloc ?_ _)); exact BK306.out)) : gb311 ≠ gb306)); have n9_ := Aside0.mk ((by rw [hg]; exact Nat.ne_of_lt (IsS84.lt (show IsS84 w0 _ g s0_0 t310 from by repeat (first | (with_reducible first | exact HI0.out | apply IsS84.alloc | apply IsS84.drewN | apply IsS84.drew | apply IsS84.set_1 | refine IsS84.far ?_ NB0_306.out _) | exact HI0.out))) : g ≠ gb311)); have n10_ := Aside0.mk ((by rw [hg]; exact Nat.ne_of_gt (IsS84.lt (show IsS84 w0 _ g s0_0 t310 from by repeat (first | (with_reducible first | exact HI0.out | apply IsS84.alloc | apply IsS84.drewN | apply IsS84.drew | apply IsS84.set_1 | refine IsS84.far ?_ NB0_306.out _) | exact HI0.out))) : gb311 ≠ g)); clear HI0; clear BK306; clear HK; clear HB; have HI0 := n0_; have BK306 := n1_; have HK := n2_; have HB := n3_; have BK311 := n4_; have GW311 := n5_; have GE311 := n6_; have NB306_311 := n7_; have NB311_306 := n8_; have NB0_311 := n9_; have NB311_0 := n10_; clear n0_ n1_ n2_ n3_ n4_ n5_ n6_ n7_ n8_ n9_ n10_; clear hb hbox hg; have hnb14 := NB311_306.out; have hnc14 := NB306_311.out; have hnb15 := NB311_0.out; have hnc15 := NB0_311.out; have hcz16_0 : w13.cell? ⟨gb311, 0, none⟩ = some (.int .i64 0) := (blk_cell BK311.out 0).trans rfl; have hcz16_1 : w13.cell? ⟨gb311, 1, none⟩ = some (.int .i64 0) := (blk_cell BK311.out 1).trans rfl; have hfz16_0 := blk_frozen BK311.out 0; have hfz16_1 := blk_frozen BK311.out 1) | ((with_reducible refine gate_callee (f := 60) rfl ?_); refine goesL_ (some 14) rfl rfl Try.func60 (by kernel_rfl) rfl #[.pointer (some ⟨g, 0, none⟩), .int .i64 a1] rfl (by (try simp only [List.map_toArray, List.map_cons, List.map_nil]); first | done | rfl | (simp only [List.length_drop, List.length_take]; rfl)) ?_; (with_reducible refine (spec_l20Rd_odd.calls k g s0_0 t310 a1 true t313 w0 _ ?side1 ?side2 A5.out).mono ?_); (case side1 => repeat (first | (with_reducible first | exact HI0.out | apply IsS84.alloc | apply IsS84.drewN | apply IsS84.drew | apply IsS84.set_1 | refine IsS84.far ?_ NB0_306.out _ | refine IsS84.far ?_ NB0_311.out _) | exact HI0.out)); (case side2 => repeat (first | (with_reducible first | exact HB.out | apply below_alloc | apply pw_below_drewN | apply below_drew1 | refine below_set ?_ (IsS84.ge HI0.out) | refine below_set ?_ GE306.out | refine below_set ?_ GE311.out) | exact HB.out)); rintro e w17 ⟨rfl, hi, hb, hk⟩; refine ⟨_, rfl, ?_⟩; have n0_ := Aside0.mk (KeepBut.blk hk (g' := gb306) (o := .cells #[.int .i64 0, .int .i64 0] 31 (0, 0)) (by (with_reducible repeat (first | refine blk_drewN ?_ _ | refine blk_drew ?_ | refine blk_alloc ?_ _)); refine blk_far ?_ NB306_311.out _; (with_reducible repeat (first | refine blk_drewN ?_ _ | refine blk_drew ?_ | refine blk_alloc ?_ _)); refine blk_far ?_ NB306_311.out _; (with_reducible repeat (first | refine blk_drewN ?_ _ | refine blk_drew ?_ | refine blk_alloc ?_ _)); exact BK306.out) NB306_0.out (by simp)); have n1_ := Aside0.mk (KeepBut.blk hk (g' := gb311) (o := .cells #[.int .i64 t307, .int .i64 (wrap64 (1 + t309))] 31 (0, 0)) (by (with_reducible repeat (first | refine blk_drewN ?_ _ | refine blk_drew ?_ | refine blk_alloc ?_ _)); refine blk_put (cs := #[.int .i64 t307, .int .i64 0]) ?_ 1 _ rfl; (with_reducible repeat (first | refine blk_drewN ?_ _ | refine blk_drew ?_ | refine blk_alloc ?_ _)); refine blk_put (cs := #[.int .i64 0, .int .i64 0]) ?_ 0 _ rfl; (with_reducible repeat (first | refine blk_drewN ?_ _ | refine blk_drew ?_ | refine blk_alloc ?_ _)); exact BK311.out) NB311_0.out (by simp)); have n2_ := Aside0.mk (KeepBut.trans (by repeat (first | (with_reducible first | exact HK.out | apply KeepBut.set_ | apply keep_drewN | apply keep_drew | apply keep_alloc | refine keep_far ?_ GW306.out _ | refine keep_far ?_ GW311.out _) | exact HK.out)) hk (.inl rfl)); have n3_ := Aside0.mk (hb); have n4_ := Aside0.mk (hi); clear BK306; clear BK311; clear HK; clear HB; clear HI0; have BK306 := n0_; have BK311 := n1_; have HK := n2_; have HB := n3_; have HI0 := n4_; clear n0_ n1_ n2_ n3_ n4_; (try clear hb); (try clear hb2); (try clear hk); (try clear hi)) | ((with_reducible refine gate_dst (N := 19) rfl ?_); refine Kd.R_lit k31 _ 31 ?hg (N := 19) ?hd (xs := ([(⟨0, 0⟩ : S31), (⟨(-1), 1⟩ : S31), (⟨21, 1⟩ : S31), (⟨0, 21⟩ : S31)] : List (S31))) (inner := [.int .i64 0, .int .i64 0, .int .i64 (-1), .int .i64 1, .int .i64 21, .int .i64 1, .int .i64 0, .int .i64 21]) (ok := fun _ => True) (okp := fun _ => True) ?hr ?hp (fun _ hk => hk) trivial (Below.refl _ _) (Nat.le_refl _) (by simp) ?_; (case hd => rfl); (case hg => rfl); (case hr => first | (go_simp; done) | (go_simp; rfl)); (case hp => exact (Reps.c2 (show Kd.M k31 _ _ _ (⟨0, 0⟩ : S31) [.int .i64 0, .int .i64 0] from (k31_mkM _ _ _ (⟨0, 0⟩ : S31) )) (Reps.c2 (show Kd.M k31 _ _ _ (⟨(-1), 1⟩ : S31) [.int .i64 (-1), .int .i64 1] from (k31_mkM _ _ _ (⟨(-1), 1⟩ : S31) )) (Reps.c2 (show Kd.M k31 _ _ _ (⟨21, 1⟩ : S31) [.int .i64 21, .int .i64 1] from (k31_mkM _ _ _ (⟨21, 1⟩ : S31) )) (Reps.c2 (show Kd.M k31 _ _ _ (⟨0, 21⟩ : S31) [.int .i64 0, .int .i64 21] from (k31_mkM _ _ _ (⟨0, 21⟩ : S31) )) (Reps.none _ _)))))); intro v315 w18 ho19 hb hg_ hnew_; clear hg_ hnew_; (first | rw [← Ny314.out] at ho19 | (simp only [Int.reduceToNat] at ho19; rw [← Ny314.out] at ho19)); have n0_ := Aside0.mk (Kd.R_lower (Kd.R_newB (Kd.R_newB ho19 (g := gb306) (o := .cells #[.int .i64 0, .int .i64 0] 31 (0, 0)) (by (with_reducible repeat (first | refine blk_drewN ?_ _ | refine blk_drew ?_ | refine blk_alloc ?_ _)); exact BK306.out)) (g := gb311) (o := .cells #[.int .i64 t307, .int .i64 (wrap64 (1 + t309))] 31 (0, 0)) (by (with_reducible repeat (first | refine blk_drewN ?_ _ | refine blk_drew ?_ | refine blk_alloc ?_ _)); exact BK311.out)) (keep_size (w := w) (g := g) (row := none) (by repeat (first | (with_reducible first | exact HK.out | apply KeepBut.set_ | apply keep_drewN | apply keep_drew | apply keep_alloc | refine keep_far ?_ GW306.out _ | refine keep_far ?_ GW311.out _) | exact HK.out)))); have n1_ := Aside0.mk (IsS84.below (by repeat (first | (with_reducible first | exact HI0.out | apply IsS84.alloc | apply IsS84.drewN | apply IsS84.drew | apply IsS84.set_1 | refine IsS84.far ?_ NB0_306.out _ | refine IsS84.far ?_ NB0_311.out _) | exact HI0.out)) hb); have n2_ := Aside0.mk (blk_below (g := gb306) (o := .cells #[.int .i64 0, .int .i64 0] 31 (0, 0)) (by (with_reducible repeat (first | refine blk_drewN ?_ _ | refine blk_drew ?_ | refine blk_alloc ?_ _)); exact BK306.out) hb); have n3_ := Aside0.mk (blk_below (g := gb311) (o := .cells #[.int .i64 t307, .int .i64 (wrap64 (1 + t309))] 31 (0, 0)) (by (with_reducible repeat (first | refine blk_drewN ?_ _ | refine blk_drew ?_ | refine blk_alloc ?_ _)); exact BK311.out) hb); have n4_ := Aside0.mk (KeepBut.trans (by repeat (first | (with_reducible first | exact HK.out | apply KeepBut.set_ | apply keep_drewN | apply keep_drew | apply keep_alloc | refine keep_far ?_ GW306.out _ | refine keep_far ?_ GW311.out _) | exact HK.out)) (KeepBut.of_below hb g none) (.inl rfl)); have n5_ := Aside0.mk (below_step (by repeat (first | (with_reducible first | exact HB.out | apply below_alloc | apply pw_below_drewN | apply below_drew1 | refine below_set ?_ (IsS84.ge HI0.out) | refine below_set ?_ GE306.out | refine below_set ?_ GE311.out) | exact HB.out)) hb); clear HI0; clear BK306; clear BK311; clear HK; clear HB; have HO316 := n0_; have HI0 := n1_; have BK306 := n2_; have BK311 := n3_; have HK := n4_; have HB := n5_; clear n0_ n1_ n2_ n3_ n4_ n5_; clear hb ho19) | ((with_reducible refine gate_callee (f := 58) rfl ?_); refine goesL_ (some 21) rfl rfl Try.func58 (by kernel_rfl) rfl #[.pointer (some ⟨g, 0, none⟩), .int .i64 4] rfl (by (try simp only [List.map_toArray, List.map_cons, List.map_nil]); first | done | rfl | (simp only [List.length_drop, List.length_take]; rfl)) ?_; (with_reducible refine (spec_l20Rd_pick.calls k g s0_0 t313 4 t317 t318 w0 _ ?side1 ?side2 A7.out).mono ?_); (case side1 => repeat (first | (with_reducible first | exact HI0.out | apply IsS84.alloc | apply IsS84.drewN | apply IsS84.drew | apply IsS84.set_1 | refine IsS84.far ?_ NB0_306.out _ | refine IsS84.far ?_ NB0_311.out _) | exact HI0.out)); (case side2 => repeat (first | (with_reducible first | exact HB.out | apply below_alloc | apply pw_below_drewN | apply below_drew1 | refine below_set ?_ (IsS84.ge HI0.out) | refine below_set ?_ GE306.out | refine below_set ?_ GE311.out) | exact HB.out)); rintro e w20 ⟨rfl, hi, hb, hk⟩; refine ⟨_, rfl, ?_⟩; have n0_ := Aside0.mk (KeepBut.blk hk (g' := gb306) (o := .cells #[.int .i64 0, .int .i64 0] 31 (0, 0)) (by (with_reducible repeat (first | refine blk_drewN ?_ _ | refine blk_drew ?_ | refine blk_alloc ?_ _)); exact BK306.out) NB306_0.out (by simp)); have n1_ := Aside0.mk (KeepBut.blk hk (g' := gb311) (o := .cells #[.int .i64 t307, .int .i64 (wrap64 (1 + t309))] 31 (0, 0)) (by (with_reducible repeat (first | refine blk_drewN ?_ _ | refine blk_drew ?_ | refine blk_alloc ?_ _)); exact BK311.out) NB311_0.out (by simp)); have n2_ := Aside0.mk (Kd.R_mono (Kd.R_keep (IsS84.apart (show IsS84 w0 _ g s0_0 t313 from by repeat (first | (with_reducible first | exact HI0.out | apply IsS84.alloc | apply IsS84.drewN | apply IsS84.drew | apply IsS84.set_1 | refine IsS84.far ?_ NB0_306.out _ | refine IsS84.far ?_ NB0_311.out _) | exact HI0.out)) (by (with_reducible repeat (first | apply Kd.R_alloc | apply Kd.R_drewN | apply Kd.R_drew)); exact HO316.out) (by decide)) hk (fun _ h => h.2)) (fun _ h => h.1)); have n3_ := Aside0.mk (KeepBut.trans (by repeat (first | (with_reducible first | exact HK.out | apply KeepBut.set_ | apply keep_drewN | apply keep_drew | apply keep_alloc | refine keep_far ?_ GW306.out _ | refine keep_far ?_ GW311.out _) | exact HK.out)) hk (.inl rfl)); have n4_ := Aside0.mk (hb); have n5_ := Aside0.mk (hi); clear BK306; clear BK311; clear HO316; clear HK; clear HB; clear HI0; have BK306 := n0_; have BK311 := n1_; have HO316 := n2_; have HK := n3_; have HB := n4_; have HI0 := n5_; clear n0_ n1_ n2_ n3_ n4_ n5_; (try clear hb); (try clear hb2); (try clear hk); (try clear hi); obtain ⟨Ao21, co21, eo21⟩ := Kd.R_slice HO316.out; subst eo21; have p319 : 0 ≤ (t317 : Int) := of_decide_eq_true (by first | (with_reducible assumption) | assumption); have q319 : t317 < (y314.length : Int) := of_decide_eq_true (by first | (with_reducible assumption) | assumption); obtain ⟨ad319, e319, hx319_0, hx319_1⟩ := at_T31 (Kd.R_reads' HO316.out).2.2 t317 p319 q319; cases e319; replace p319 := eq_true p319; replace q319 := eq_true q319; have hnb22 := NB306_0.out; have hnc22 := NB0_306.out; have hcz23_0 : w20.cell? ⟨gb306, 0, none⟩ = some (.int .i64 0) := (blk_cell BK306.out 0).trans rfl; have hcz23_1 : w20.cell? ⟨gb306, 1, none⟩ = some (.int .i64 0) := (blk_cell BK306.out 1).trans rfl; have hfz23_0 := blk_frozen BK306.out 0; have hfz23_1 := blk_frozen BK306.out 1))
        refine bodyPost_ret (results_cell_row rfl _ _ gb306 31 #[.int .i64 ((rd_T31 y314 t317).f0), .int .i64 ((rd_T31 y314 t317).f1)] (0, 0) _ rfl (by (with_reducible repeat (first | refine blk_drewN ?_ _ | refine blk_drew ?_ | refine blk_alloc ?_ _)); refine blk_put (cs := #[.int .i64 ((rd_T31 y314 t317).f0), .int .i64 0]) ?_ 1 _ rfl; (with_reducible repeat (first | refine blk_drewN ?_ _ | refine blk_drew ?_ | refine blk_alloc ?_ _)); refine blk_put (cs := #[.int .i64 0, .int .i64 0]) ?_ 0 _ rfl; (with_reducible repeat (first | refine blk_drewN ?_ _ | refine blk_drew ?_ | refine blk_alloc ?_ _)); exact BK306.out) Try.underlying31 rfl (by kernel_rfl)) rfl ?_
        exact ⟨by first | rfl | (simp [errW_none, errW_some] <;> rfl) | (simp [*, errW_none, errW_some] <;> rfl), by repeat (first | (with_reducible first | exact HI0.out | apply IsS84.alloc | apply IsS84.drewN | apply IsS84.drew | apply IsS84.set_1 | refine IsS84.far ?_ NB0_306.out _ | refine IsS84.far ?_ NB0_311.out _) | exact HI0.out), by repeat (first | (with_reducible first | exact HB.out | apply below_alloc | apply pw_below_drewN | apply below_drew1 | refine below_set ?_ (IsS84.ge HI0.out) | refine below_set ?_ GE306.out | refine below_set ?_ GE311.out) | exact HB.out), by repeat (first | (with_reducible first | exact HK.out | apply KeepBut.set_ | apply keep_drewN | apply keep_drew | apply keep_alloc | refine keep_far ?_ GW306.out _ | refine keep_far ?_ GW311.out _) | exact HK.out)⟩
      · rw [if_neg c9] at H
        exact absurd H (by simp)
    · rw [if_neg c8] at H
      exact absurd H (by simp)
  · replace c6 := Bool.eq_false_iff.mpr c6
    subst c6
    have H1 : (some (t307, wrap64 (1 + t309), t313)) = some (r1, r2, r3) := by rw [if_neg (show ¬ (false = true) by decide)] at H; exact H
    clear H
    have H := H1
    clear H1
    simp only [Option.some.injEq, Prod.mk.injEq] at H
    obtain ⟨rfl, rfl, rfl⟩ := H
    go_enter Try.func57, Try.ntmps57
    go_wp2_with (first | ((with_reducible refine gate_dst (N := 4) rfl ?_); refine box_event ?hg (N := 4) ?hd (cs := #[.int .i64 0, .int .i64 0]) (t := 31) ?hr ?_; (case hd => rfl); (case hg => rfl); (case hr => first | (go_simp; done) | (go_simp; rfl)); intro gb306 hg w24 hbox hb; have n0_ := Aside0.mk (IsS84.below (by repeat (first | (with_reducible first | exact HI0.out | apply IsS84.alloc | apply IsS84.drewN | apply IsS84.drew | apply IsS84.set_1) | exact HI0.out)) hb); have n1_ := Aside0.mk (KeepBut.trans (by repeat (first | (with_reducible first | exact HK.out | apply KeepBut.set_ | apply keep_drewN | apply keep_drew | apply keep_alloc) | exact HK.out)) (KeepBut.of_below hb g none) (.inl rfl)); have n2_ := Aside0.mk (below_step (by repeat (first | (with_reducible first | exact HB.out | apply below_alloc | apply pw_below_drewN | apply below_drew1 | refine below_set ?_ (IsS84.ge HI0.out)) | exact HB.out)) hb); have n3_ := Aside0.mk (hbox); have n4_ := Aside0.mk ((by rw [hg]; exact (keep_size (w := w) (g := g) (row := none) (by repeat (first | (with_reducible first | exact HK.out | apply KeepBut.set_ | apply keep_drewN | apply keep_drew | apply keep_alloc) | exact HK.out))) : w.heap.size ≤ gb306)); have n5_ := Aside0.mk ((Nat.le_trans HW0.out (by rw [hg]; exact (keep_size (w := w) (g := g) (row := none) (by repeat (first | (with_reducible first | exact HK.out | apply KeepBut.set_ | apply keep_drewN | apply keep_drew | apply keep_alloc) | exact HK.out))) : w.heap.size ≤ gb306) : w0.heap.size ≤ gb306)); have n6_ := Aside0.mk ((by rw [hg]; exact Nat.ne_of_lt (IsS84.lt (show IsS84 w0 _ g s0_0 s0_1 from by repeat (first | (with_reducible first | exact HI0.out | apply IsS84.alloc | apply IsS84.drewN | apply IsS84.drew | apply IsS84.set_1) | exact HI0.out))) : g ≠ gb306)); have n7_ := Aside0.mk ((by rw [hg]; exact Nat.ne_of_gt (IsS84.lt (show IsS84 w0 _ g s0_0 s0_1 from by repeat (first | (with_reducible first | exact HI0.out | apply IsS84.alloc | apply IsS84.drewN | apply IsS84.drew | apply IsS84.set_1) | exact HI0.out))) : gb306 ≠ g)); clear HI0; clear HK; clear HB; have HI0 := n0_; have HK := n1_; have HB := n2_; have BK306 := n3_; have GW306 := n4_; have GE306 := n5_; have NB0_306 := n6_; have NB306_0 := n7_; clear n0_ n1_ n2_ n3_ n4_ n5_ n6_ n7_; clear hb hbox hg) | ((with_reducible refine gate_callee (f := 58) rfl ?_); refine goesL_ (some 7) rfl rfl Try.func58 (by kernel_rfl) rfl #[.pointer (some ⟨g, 0, none⟩), .int .i64 9] rfl (by (try simp only [List.map_toArray, List.map_cons, List.map_nil]); first | done | rfl | (simp only [List.length_drop, List.length_take]; rfl)) ?_; (with_reducible refine (spec_l20Rd_pick.calls k g s0_0 s0_1 9 t307 t308 w0 _ ?side1 ?side2 A3.out).mono ?_); (case side1 => repeat (first | (with_reducible first | exact HI0.out | apply IsS84.alloc | apply IsS84.drewN | apply IsS84.drew | apply IsS84.set_1 | refine IsS84.far ?_ NB0_306.out _) | exact HI0.out)); (case side2 => repeat (first | (with_reducible first | exact HB.out | apply below_alloc | apply pw_below_drewN | apply below_drew1 | refine below_set ?_ (IsS84.ge HI0.out) | refine below_set ?_ GE306.out) | exact HB.out)); rintro e w25 ⟨rfl, hi, hb, hk⟩; refine ⟨_, rfl, ?_⟩; have n0_ := Aside0.mk (KeepBut.blk hk (g' := gb306) (o := .cells #[.int .i64 0, .int .i64 0] 31 (0, 0)) (by (with_reducible repeat (first | refine blk_drewN ?_ _ | refine blk_drew ?_ | refine blk_alloc ?_ _)); exact BK306.out) NB306_0.out (by simp)); have n1_ := Aside0.mk (KeepBut.trans (by repeat (first | (with_reducible first | exact HK.out | apply KeepBut.set_ | apply keep_drewN | apply keep_drew | apply keep_alloc | refine keep_far ?_ GW306.out _) | exact HK.out)) hk (.inl rfl)); have n2_ := Aside0.mk (hb); have n3_ := Aside0.mk (hi); clear BK306; clear HK; clear HB; clear HI0; have BK306 := n0_; have HK := n1_; have HB := n2_; have HI0 := n3_; clear n0_ n1_ n2_ n3_; (try clear hb); (try clear hb2); (try clear hk); (try clear hi)) | ((with_reducible refine gate_callee (f := 58) rfl ?_); refine goesL_ (some 9) rfl rfl Try.func58 (by kernel_rfl) rfl #[.pointer (some ⟨g, 0, none⟩), .int .i64 9] rfl (by (try simp only [List.map_toArray, List.map_cons, List.map_nil]); first | done | rfl | (simp only [List.length_drop, List.length_take]; rfl)) ?_; (with_reducible refine (spec_l20Rd_pick.calls k g s0_0 t308 9 t309 t310 w0 _ ?side1 ?side2 A4.out).mono ?_); (case side1 => repeat (first | (with_reducible first | exact HI0.out | apply IsS84.alloc | apply IsS84.drewN | apply IsS84.drew | apply IsS84.set_1 | refine IsS84.far ?_ NB0_306.out _) | exact HI0.out)); (case side2 => repeat (first | (with_reducible first | exact HB.out | apply below_alloc | apply pw_below_drewN | apply below_drew1 | refine below_set ?_ (IsS84.ge HI0.out) | refine below_set ?_ GE306.out) | exact HB.out)); rintro e w26 ⟨rfl, hi, hb, hk⟩; refine ⟨_, rfl, ?_⟩; have n0_ := Aside0.mk (KeepBut.blk hk (g' := gb306) (o := .cells #[.int .i64 0, .int .i64 0] 31 (0, 0)) (by (with_reducible repeat (first | refine blk_drewN ?_ _ | refine blk_drew ?_ | refine blk_alloc ?_ _)); exact BK306.out) NB306_0.out (by simp)); have n1_ := Aside0.mk (KeepBut.trans (by repeat (first | (with_reducible first | exact HK.out | apply KeepBut.set_ | apply keep_drewN | apply keep_drew | apply keep_alloc | refine keep_far ?_ GW306.out _) | exact HK.out)) hk (.inl rfl)); have n2_ := Aside0.mk (hb); have n3_ := Aside0.mk (hi); clear BK306; clear HK; clear HB; clear HI0; have BK306 := n0_; have HK := n1_; have HB := n2_; have HI0 := n3_; clear n0_ n1_ n2_ n3_; (try clear hb); (try clear hb2); (try clear hk); (try clear hi)) | ((with_reducible refine gate_dst (N := 5) rfl ?_); refine box_event ?hg (N := 5) ?hd (cs := #[.int .i64 0, .int .i64 0]) (t := 31) ?hr ?_; (case hd => rfl); (case hg => rfl); (case hr => first | (go_simp; done) | (go_simp; rfl)); intro gb311 hg w27 hbox hb; have n0_ := Aside0.mk (IsS84.below (by repeat (first | (with_reducible first | exact HI0.out | apply IsS84.alloc | apply IsS84.drewN | apply IsS84.drew | apply IsS84.set_1 | refine IsS84.far ?_ NB0_306.out _) | exact HI0.out)) hb); have n1_ := Aside0.mk (blk_below (g := gb306) (o := .cells #[.int .i64 0, .int .i64 0] 31 (0, 0)) (by (with_reducible repeat (first | refine blk_drewN ?_ _ | refine blk_drew ?_ | refine blk_alloc ?_ _)); exact BK306.out) hb); have n2_ := Aside0.mk (KeepBut.trans (by repeat (first | (with_reducible first | exact HK.out | apply KeepBut.set_ | apply keep_drewN | apply keep_drew | apply keep_alloc | refine keep_far ?_ GW306.out _) | exact HK.out)) (KeepBut.of_below hb g none) (.inl rfl)); have n3_ := Aside0.mk (below_step (by repeat (first | (with_reducible first | exact HB.out | apply below_alloc | apply pw_below_drewN | apply below_drew1 | refine below_set ?_ (IsS84.ge HI0.out) | refine below_set ?_ GE306.out) | exact HB.out)) hb); have n4_ := Aside0.mk (hbox); have n5_ := Aside0.mk ((by rw [hg]; exact (keep_size (w := w) (g := g) (row := none) (by repeat (first | (with_reducible first | exact HK.out | apply KeepBut.set_ | apply keep_drewN | apply keep_drew | apply keep_alloc | refine keep_far ?_ GW306.out _) | exact HK.out))) : w.heap.size ≤ gb311)); have n6_ := Aside0.mk ((Nat.le_trans HW0.out (by rw [hg]; exact (keep_size (w := w) (g := g) (row := none) (by repeat (first | (with_reducible first | exact HK.out | apply KeepBut.set_ | apply keep_drewN | apply keep_drew | apply keep_alloc | refine keep_far ?_ GW306.out _) | exact HK.out))) : w.heap.size ≤ gb311) : w0.heap.size ≤ gb311)); have n7_ := Aside0.mk ((by rw [hg]; exact Nat.ne_of_lt (blk_lt (g := gb306) (o := .cells #[.int .i64 0, .int .i64 0] 31 (0, 0)) (by (with_reducible repeat (first | refine blk_drewN ?_ _ | refine blk_drew ?_ | refine blk_alloc ?_ _)); exact BK306.out)) : gb306 ≠ gb311)); have n8_ := Aside0.mk ((by rw [hg]; exact Nat.ne_of_gt (blk_lt (g := gb306) (o := .cells #[.int .i64 0, .int .i64 0] 31 (0, 0)) (by (with_reducible repeat (first | refine blk_drewN ?_ _ | refine blk_drew ?_ | refine blk_alloc ?_ _)); exact BK306.out)) : gb311 ≠ gb306)); have n9_ := Aside0.mk ((by rw [hg]; exact Nat.ne_of_lt (IsS84.lt (show IsS84 w0 _ g s0_0 t310 from by repeat (first | (with_reducible first | exact HI0.out | apply IsS84.alloc | apply IsS84.drewN | apply IsS84.drew | apply IsS84.set_1 | refine IsS84.far ?_ NB0_306.out _) | exact HI0.out))) : g ≠ gb311)); have n10_ := Aside0.mk ((by rw [hg]; exact Nat.ne_of_gt (IsS84.lt (show IsS84 w0 _ g s0_0 t310 from by repeat (first | (with_reducible first | exact HI0.out | apply IsS84.alloc | apply IsS84.drewN | apply IsS84.drew | apply IsS84.set_1 | refine IsS84.far ?_ NB0_306.out _) | exact HI0.out))) : gb311 ≠ g)); clear HI0; clear BK306; clear HK; clear HB; have HI0 := n0_; have BK306 := n1_; have HK := n2_; have HB := n3_; have BK311 := n4_; have GW311 := n5_; have GE311 := n6_; have NB306_311 := n7_; have NB311_306 := n8_; have NB0_311 := n9_; have NB311_0 := n10_; clear n0_ n1_ n2_ n3_ n4_ n5_ n6_ n7_ n8_ n9_ n10_; clear hb hbox hg; have hnb28 := NB311_306.out; have hnc28 := NB306_311.out; have hnb29 := NB311_0.out; have hnc29 := NB0_311.out; have hcz30_0 : w27.cell? ⟨gb311, 0, none⟩ = some (.int .i64 0) := (blk_cell BK311.out 0).trans rfl; have hcz30_1 : w27.cell? ⟨gb311, 1, none⟩ = some (.int .i64 0) := (blk_cell BK311.out 1).trans rfl; have hfz30_0 := blk_frozen BK311.out 0; have hfz30_1 := blk_frozen BK311.out 1) | ((with_reducible refine gate_callee (f := 60) rfl ?_); refine goesL_ (some 14) rfl rfl Try.func60 (by kernel_rfl) rfl #[.pointer (some ⟨g, 0, none⟩), .int .i64 a1] rfl (by (try simp only [List.map_toArray, List.map_cons, List.map_nil]); first | done | rfl | (simp only [List.length_drop, List.length_take]; rfl)) ?_; (with_reducible refine (spec_l20Rd_odd.calls k g s0_0 t310 a1 false t313 w0 _ ?side1 ?side2 A5.out).mono ?_); (case side1 => repeat (first | (with_reducible first | exact HI0.out | apply IsS84.alloc | apply IsS84.drewN | apply IsS84.drew | apply IsS84.set_1 | refine IsS84.far ?_ NB0_306.out _ | refine IsS84.far ?_ NB0_311.out _) | exact HI0.out)); (case side2 => repeat (first | (with_reducible first | exact HB.out | apply below_alloc | apply pw_below_drewN | apply below_drew1 | refine below_set ?_ (IsS84.ge HI0.out) | refine below_set ?_ GE306.out | refine below_set ?_ GE311.out) | exact HB.out)); rintro e w31 ⟨rfl, hi, hb, hk⟩; refine ⟨_, rfl, ?_⟩; have n0_ := Aside0.mk (KeepBut.blk hk (g' := gb306) (o := .cells #[.int .i64 0, .int .i64 0] 31 (0, 0)) (by (with_reducible repeat (first | refine blk_drewN ?_ _ | refine blk_drew ?_ | refine blk_alloc ?_ _)); refine blk_far ?_ NB306_311.out _; (with_reducible repeat (first | refine blk_drewN ?_ _ | refine blk_drew ?_ | refine blk_alloc ?_ _)); refine blk_far ?_ NB306_311.out _; (with_reducible repeat (first | refine blk_drewN ?_ _ | refine blk_drew ?_ | refine blk_alloc ?_ _)); exact BK306.out) NB306_0.out (by simp)); have n1_ := Aside0.mk (KeepBut.blk hk (g' := gb311) (o := .cells #[.int .i64 t307, .int .i64 (wrap64 (1 + t309))] 31 (0, 0)) (by (with_reducible repeat (first | refine blk_drewN ?_ _ | refine blk_drew ?_ | refine blk_alloc ?_ _)); refine blk_put (cs := #[.int .i64 t307, .int .i64 0]) ?_ 1 _ rfl; (with_reducible repeat (first | refine blk_drewN ?_ _ | refine blk_drew ?_ | refine blk_alloc ?_ _)); refine blk_put (cs := #[.int .i64 0, .int .i64 0]) ?_ 0 _ rfl; (with_reducible repeat (first | refine blk_drewN ?_ _ | refine blk_drew ?_ | refine blk_alloc ?_ _)); exact BK311.out) NB311_0.out (by simp)); have n2_ := Aside0.mk (KeepBut.trans (by repeat (first | (with_reducible first | exact HK.out | apply KeepBut.set_ | apply keep_drewN | apply keep_drew | apply keep_alloc | refine keep_far ?_ GW306.out _ | refine keep_far ?_ GW311.out _) | exact HK.out)) hk (.inl rfl)); have n3_ := Aside0.mk (hb); have n4_ := Aside0.mk (hi); clear BK306; clear BK311; clear HK; clear HB; clear HI0; have BK306 := n0_; have BK311 := n1_; have HK := n2_; have HB := n3_; have HI0 := n4_; clear n0_ n1_ n2_ n3_ n4_; (try clear hb); (try clear hb2); (try clear hk); (try clear hi); have hcz32_0 : w31.cell? ⟨gb311, 0, none⟩ = some (.int .i64 t307) := (blk_cell BK311.out 0).trans rfl; have hcz32_1 : w31.cell? ⟨gb311, 1, none⟩ = some (.int .i64 (wrap64 (1 + t309))) := (blk_cell BK311.out 1).trans rfl; have hfz32_0 := blk_frozen BK311.out 0; have hfz32_1 := blk_frozen BK311.out 1; have hnb33 := NB306_0.out; have hnc33 := NB0_306.out; have hcz34_0 : w31.cell? ⟨gb306, 0, none⟩ = some (.int .i64 0) := (blk_cell BK306.out 0).trans rfl; have hcz34_1 : w31.cell? ⟨gb306, 1, none⟩ = some (.int .i64 0) := (blk_cell BK306.out 1).trans rfl; have hfz34_0 := blk_frozen BK306.out 0; have hfz34_1 := blk_frozen BK306.out 1))
    refine bodyPost_ret (results_cell_row rfl _ _ gb306 31 #[.int .i64 t307, .int .i64 (wrap64 (1 + t309))] (0, 0) _ rfl (by (with_reducible repeat (first | refine blk_drewN ?_ _ | refine blk_drew ?_ | refine blk_alloc ?_ _)); refine blk_put (cs := #[.int .i64 t307, .int .i64 0]) ?_ 1 _ rfl; (with_reducible repeat (first | refine blk_drewN ?_ _ | refine blk_drew ?_ | refine blk_alloc ?_ _)); refine blk_put (cs := #[.int .i64 0, .int .i64 0]) ?_ 0 _ rfl; (with_reducible repeat (first | refine blk_drewN ?_ _ | refine blk_drew ?_ | refine blk_alloc ?_ _)); exact BK306.out) Try.underlying31 rfl (by kernel_rfl)) rfl ?_
    exact ⟨by first | rfl | (simp [errW_none, errW_some] <;> rfl) | (simp [*, errW_none, errW_some] <;> rfl), by repeat (first | (with_reducible first | exact HI0.out | apply IsS84.alloc | apply IsS84.drewN | apply IsS84.drew | apply IsS84.set_1 | refine IsS84.far ?_ NB0_306.out _ | refine IsS84.far ?_ NB0_311.out _) | exact HI0.out), by repeat (first | (with_reducible first | exact HB.out | apply below_alloc | apply pw_below_drewN | apply below_drew1 | refine below_set ?_ (IsS84.ge HI0.out) | refine below_set ?_ GE306.out | refine below_set ?_ GE311.out) | exact HB.out), by repeat (first | (with_reducible first | exact HK.out | apply KeepBut.set_ | apply keep_drewN | apply keep_drew | apply keep_alloc | refine keep_far ?_ GW306.out _ | refine keep_far ?_ GW311.out _) | exact HK.out)⟩

end Go.Proofs.Ytooabmmnbifclaa.P
-- Laid by a program of this work.
namespace Go.Proofs.Ytooabmmnbifclaa.P
open Go.RowKit Go.Proofs.YtooabmmnbifclaaW.PrintWords Go.Proofs.YtooabmmnbifclaaW.PrintLast Go.Proofs.YtooabmmnbifclaaW.PrintMore
attribute [local go_sem] max2_int min2_int max_two min_two max_three min_three max_four min_four   -- for this text's walks alone
set_option linter.unusedVariables false
set_option linter.unusedSimpArgs false

/-! ### spec_DrawLinkValid: function 38 -/
def spec_DrawLinkValid.f (k : Nat) (l0 : List Int) : Option (Int × Int) := (spec_l20Open.f l0).bind fun bt321 => ((spec_l20Link.f k bt321.1 bt321.2 2).bind fun bt324 => (some (bt324.1, bt324.2.1)))
theorem spec_DrawLinkValid.mono : ∀ a0 k, LeO (spec_DrawLinkValid.f k a0) (spec_DrawLinkValid.f (k + 1) a0) := by
  intro a0 k
  unfold spec_DrawLinkValid.f
  repeat' first
      | (with_reducible exact spec_l20Link.mono _ _ _ _)
      | (with_reducible exact LeO.refl _)
      | (with_reducible exact LeO.none _)
      | (with_reducible refine LeO.ite ?_ ?_)
      | (with_reducible refine LeO.bind ?_ (fun _ => ?_))
      | exact spec_l20Link.mono _ _ _ _
      | exact LeO.none _
      | refine LeO.ite ?_ ?_
      | refine LeO.bind ?_ (fun _ => ?_)
set_option maxHeartbeats 8000000 in
set_option maxRecDepth 100000 in
theorem spec_DrawLinkValid.calls (k : Nat) (A0 : Option Addr) (c0 : Nat) (l0 : List Int) (r1 : Int) (r2 : Int) (w : World) (hr0 : Kd.C (Kd.int .u8) w A0 l0.length l0) (hc0 : l0.length ≤ c0) (h : spec_DrawLinkValid.f k l0 = some (r1, r2)) :
    Calls Try.prog 38 #[.slice A0 l0.length c0] w fun e w' => e = .returned (.agg #[.int .i64 r1, .int .i64 r2]) ∧ Below w.heap.size w w' := by
  have hu31 := Try.underlying31
  have HR0 := Aside0.mk hr0
  have HC0 := Aside0.mk hc0
  clear hr0 hc0
  have HB := Aside0.mk (Below.refl w.heap.size w)
  have H : ((spec_l20Open.f l0).bind fun bt321 => ((spec_l20Link.f k bt321.1 bt321.2 2).bind fun bt324 => (some (bt324.1, bt324.2.1)))) = some (r1, r2) := h
  clear h
  replace H := Option.bind_eq_some_iff.mp H
  obtain ⟨⟨t321, t322⟩, A20, H⟩ := H
  replace H : ((spec_l20Link.f k t321 t322 2).bind fun bt324 => (some (bt324.1, bt324.2.1))) = some (r1, r2) := H
  have A2 := Aside0.mk A20
  clear A20
  replace H := Option.bind_eq_some_iff.mp H
  obtain ⟨⟨t324, t325, t326⟩, A30, H⟩ := H
  replace H : (some (t324, t325)) = some (r1, r2) := H
  have A3 := Aside0.mk A30
  clear A30
  simp only [Option.some.injEq, Prod.mk.injEq] at H
  obtain ⟨rfl, rfl⟩ := H
  go_enter Try.func38, Try.ntmps38
  go_wp2_with (first | ((with_reducible refine gate_dst (N := 2) rfl ?_); refine box_event ?hg (N := 2) ?hd (cs := #[.int .i64 0, .int .i64 0]) (t := 31) ?hr ?_; (case hd => rfl); (case hg => rfl); (case hr => first | (go_simp; done) | (go_simp; rfl)); intro gb320 hg w4 hbox hb; have n0_ := Aside0.mk (below_step (by repeat (first | (with_reducible first | exact HB.out | apply below_alloc | apply pw_below_drewN | apply below_drew1) | exact HB.out)) hb); have n1_ := Aside0.mk (hbox); have n2_ := Aside0.mk ((by rw [hg]; exact (below_size (by repeat (first | (with_reducible first | exact HB.out | apply below_alloc | apply pw_below_drewN | apply below_drew1) | exact HB.out))) : w.heap.size ≤ gb320)); have n3_ := Aside0.mk ((by rw [hg]; exact (below_size (by repeat (first | (with_reducible first | exact HB.out | apply below_alloc | apply pw_below_drewN | apply below_drew1) | exact HB.out))) : w.heap.size ≤ gb320)); clear HB; have HB := n0_; have BK320 := n1_; have GW320 := n2_; have GE320 := n3_; clear n0_ n1_ n2_ n3_; clear hb hbox hg) | ((with_reducible refine gate_callee (f := 54) rfl ?_); refine goesL_ (some 4) rfl rfl Try.func54 (by kernel_rfl) rfl #[.slice A0 l0.length c0] rfl (by (try simp only [List.map_toArray, List.map_cons, List.map_nil]); first | done | rfl | (simp only [List.length_drop, List.length_take]; rfl)) ?_; (with_reducible refine (spec_l20Open.calls _ _ l0 t321 t322 w _ ?side1 ?side2 ?side3 A2.out).mono ?_); (case side1 => repeat (first | (with_reducible first | exact HB.out | apply below_alloc | apply pw_below_drewN | apply below_drew1 | refine below_set ?_ GE320.out) | exact HB.out)); (case side2 => exact HR0.out); (case side3 => exact HC0.out); rintro e w5 ⟨g323, rfl, hi, hb, hb2⟩; refine ⟨_, rfl, ?_⟩; have n0_ := Aside0.mk (blk_below (g := gb320) (o := .cells #[.int .i64 0, .int .i64 0] 31 (0, 0)) (by (with_reducible repeat (first | refine blk_drewN ?_ _ | refine blk_drew ?_ | refine blk_alloc ?_ _)); exact BK320.out) hb2); have n1_ := Aside0.mk (hb); have n2_ := Aside0.mk (hi); have n3_ := Aside0.mk (IsS84.ne_blk hi (blk_below (g := gb320) (o := .cells #[.int .i64 0, .int .i64 0] 31 (0, 0)) (by (with_reducible repeat (first | refine blk_drewN ?_ _ | refine blk_drew ?_ | refine blk_alloc ?_ _)); exact BK320.out) hb2) (by decide)); have n4_ := Aside0.mk (Ne.symm (IsS84.ne_blk hi (blk_below (g := gb320) (o := .cells #[.int .i64 0, .int .i64 0] 31 (0, 0)) (by (with_reducible repeat (first | refine blk_drewN ?_ _ | refine blk_drew ?_ | refine blk_alloc ?_ _)); exact BK320.out) hb2) (by decide))); clear BK320; clear HB; have BK320 := n0_; have HB := n1_; have HI323 := n2_; have NB323_320 := n3_; have NB320_323 := n4_; clear n0_ n1_ n2_ n3_ n4_; (try clear hb); (try clear hb2); (try clear hk); (try clear hi)) | ((with_reducible refine gate_callee (f := 57) rfl ?_); refine goesL_ (some 5) rfl rfl Try.func57 (by kernel_rfl) rfl #[.pointer (some ⟨g323, 0, none⟩), .int .i64 2] rfl (by (try simp only [List.map_toArray, List.map_cons, List.map_nil]); first | done | rfl | (simp only [List.length_drop, List.length_take]; rfl)) ?_; (with_reducible refine (spec_l20Link.calls k g323 t321 t322 2 t324 t325 t326 w _ ?side1 ?side2 A3.out).mono ?_); (case side1 => repeat (first | (with_reducible first | exact HI323.out | apply IsS84.alloc | apply IsS84.drewN | apply IsS84.drew | apply IsS84.set_1 | refine IsS84.far ?_ NB323_320.out _) | exact HI323.out)); (case side2 => repeat (first | (with_reducible first | exact HB.out | apply below_alloc | apply pw_below_drewN | apply below_drew1 | refine below_set ?_ (IsS84.ge HI323.out) | refine below_set ?_ GE320.out) | exact HB.out)); rintro e w6 ⟨rfl, hi, hb, hk⟩; refine ⟨_, rfl, ?_⟩; have n0_ := Aside0.mk (KeepBut.blk hk (g' := gb320) (o := .cells #[.int .i64 0, .int .i64 0] 31 (0, 0)) (by (with_reducible repeat (first | refine blk_drewN ?_ _ | refine blk_drew ?_ | refine blk_alloc ?_ _)); exact BK320.out) NB320_323.out (by simp)); have n1_ := Aside0.mk (hb); have n2_ := Aside0.mk (hi); clear BK320; clear HB; clear HI323; have BK320 := n0_; have HB := n1_; have HI323 := n2_; clear n0_ n1_ n2_; (try clear hb); (try clear hb2); (try clear hk); (try clear hi); have hnb7 := NB320_323.out; have hnc7 := NB323_320.out; have hcz8_0 : w6.cell? ⟨gb320, 0, none⟩ = some (.int .i64 0) := (blk_cell BK320.out 0).trans rfl; have hcz8_1 : w6.cell? ⟨gb320, 1, none⟩ = some (.int .i64 0) := (blk_cell BK320.out 1).trans rfl; have hfz8_0 := blk_frozen BK320.out 0; have hfz8_1 := blk_frozen BK320.out 1))
  refine bodyPost_ret (results_cell_row rfl _ _ gb320 31 #[.int .i64 t324, .int .i64 t325] (0, 0) _ rfl (by (with_reducible repeat (first | refine blk_drewN ?_ _ | refine blk_drew ?_ | refine blk_alloc ?_ _)); refine blk_put (cs := #[.int .i64 t324, .int .i64 0]) ?_ 1 _ rfl; (with_reducible repeat (first | refine blk_drewN ?_ _ | refine blk_drew ?_ | refine blk_alloc ?_ _)); refine blk_put (cs := #[.int .i64 0, .int .i64 0]) ?_ 0 _ rfl; (with_reducible repeat (first | refine blk_drewN ?_ _ | refine blk_drew ?_ | refine blk_alloc ?_ _)); exact BK320.out) Try.underlying31 rfl (by kernel_rfl)) rfl ?_
  exact ⟨by first | rfl | (simp [errW_none, errW_some] <;> rfl) | (simp [*, errW_none, errW_some] <;> rfl), by repeat (first | (with_reducible first | exact HB.out | apply below_alloc | apply pw_below_drewN | apply below_drew1 | refine below_set ?_ (IsS84.ge HI323.out) | refine below_set ?_ GE320.out) | exact HB.out)⟩

end Go.Proofs.Ytooabmmnbifclaa.P
-- Laid by a program of this work.
namespace Go.Proofs.Ytooabmmnbifclaa.P
open Go.RowKit Go.Proofs.YtooabmmnbifclaaW.PrintWords Go.Proofs.YtooabmmnbifclaaW.PrintLast Go.Proofs.YtooabmmnbifclaaW.PrintMore
attribute [local go_sem] max2_int min2_int max_two min_two max_three min_three max_four min_four   -- for this text's walks alone
set_option linter.unusedVariables false
set_option linter.unusedSimpArgs false

/-! ### laws_FnFlowLink: function 11 -/
mutual
def laws_FnFlowLink.j0 : Nat → List Int → List Int → Bool → Option (Bool)
  | 0, _, _, _ => none
  | k + 1, x0, x1, x14 => if x14 = true then (some true) else ((spec_DrawFlowValid.f k x0).bind fun bt327 => ((spec_DrawLinkValid.f k x1).bind fun bt330 => ((impl_FlowValid.f bt327.1 bt327.2).bind fun t333 => ((spec_FlowValid.f bt327.1 bt327.2).bind fun t334 => (if (t333 != t334) = true then (laws_FnFlowLink.j1 k true bt330.1 bt330.2) else ((impl_LinkValid.f bt330.1 bt330.2).bind fun t335 => ((spec_LinkValid.f bt330.1 bt330.2).bind fun t336 => (laws_FnFlowLink.j1 k (t335 != t336) bt330.1 bt330.2))))))))
def laws_FnFlowLink.j1 : Nat → Bool → Int → Int → Option (Bool)
  | 0, _, _, _ => none
  | k + 1, x30, x333000, x333001 => if x30 = true then (some false) else ((impl_FlowValid.f 0 0).bind fun t337 => (if t337 = true then ((impl_LinkValid.f 0 0).bind fun t338 => (if t338 = true then (some false) else ((impl_LinkValid.f x333000 x333001).bind fun t339 => (if t339 = true then ((impl_LinkValid.f x333000 0).bind fun t340 => (if t340 = true then (some false) else ((laws_alive.f).bind fun t341 => (some t341)))) else ((laws_alive.f).bind fun t342 => (some t342)))))) else (some false)))
end
def laws_FnFlowLink.f (k : Nat) (l0 : List Int) (l1 : List Int) : Option (Bool) := if (l0.length : Int) > 1048576 then (laws_FnFlowLink.j0 k l0 l1 true) else (laws_FnFlowLink.j0 k l0 l1 (decide ((l1.length : Int) > 1048576)))
theorem laws_FnFlowLink.mono_l : ∀ k, (∀ y0 y1 y2, LeO (laws_FnFlowLink.j0 k y0 y1 y2) (laws_FnFlowLink.j0 (k + 1) y0 y1 y2)) ∧ (∀ y0 y1 y2, LeO (laws_FnFlowLink.j1 k y0 y1 y2) (laws_FnFlowLink.j1 (k + 1) y0 y1 y2))
  | 0 => ⟨fun _ _ _ r h => by simp [laws_FnFlowLink.j0] at h, fun _ _ _ r h => by simp [laws_FnFlowLink.j1] at h⟩
  | k + 1 => by
    obtain ⟨ih0, ih1⟩ := laws_FnFlowLink.mono_l k
    refine ⟨?_, ?_⟩
    · intro y0 y1 y2
      unfold laws_FnFlowLink.j0
      repeat' first
      | (with_reducible exact ih0 _ _ _)
      | (with_reducible exact ih1 _ _ _)
      | (with_reducible exact spec_DrawFlowValid.mono _ _)
      | (with_reducible exact spec_DrawLinkValid.mono _ _)
      | (with_reducible exact LeO.refl _)
      | (with_reducible exact LeO.none _)
      | (with_reducible refine LeO.ite ?_ ?_)
      | (with_reducible refine LeO.bind ?_ (fun _ => ?_))
      | exact ih0 _ _ _
      | exact ih1 _ _ _
      | exact spec_DrawFlowValid.mono _ _
      | exact spec_DrawLinkValid.mono _ _
      | exact LeO.none _
      | refine LeO.ite ?_ ?_
      | refine LeO.bind ?_ (fun _ => ?_)
    · intro y0 y1 y2
      unfold laws_FnFlowLink.j1
      repeat' first
      | (with_reducible exact ih0 _ _ _)
      | (with_reducible exact ih1 _ _ _)
      | (with_reducible exact spec_DrawFlowValid.mono _ _)
      | (with_reducible exact spec_DrawLinkValid.mono _ _)
      | (with_reducible exact LeO.refl _)
      | (with_reducible exact LeO.none _)
      | (with_reducible refine LeO.ite ?_ ?_)
      | (with_reducible refine LeO.bind ?_ (fun _ => ?_))
      | exact ih0 _ _ _
      | exact ih1 _ _ _
      | exact spec_DrawFlowValid.mono _ _
      | exact spec_DrawLinkValid.mono _ _
      | exact LeO.none _
      | refine LeO.ite ?_ ?_
      | refine LeO.bind ?_ (fun _ => ?_)
theorem laws_FnFlowLink.mono : ∀ a0 a1 k, LeO (laws_FnFlowLink.f k a0 a1) (laws_FnFlowLink.f (k + 1) a0 a1) := by
  intro a0 a1 k
  obtain ⟨ih0, ih1⟩ := laws_FnFlowLink.mono_l k
  unfold laws_FnFlowLink.f
  repeat' first
      | (with_reducible exact ih0 _ _ _)
      | (with_reducible exact ih1 _ _ _)
      | (with_reducible exact spec_DrawFlowValid.mono _ _)
      | (with_reducible exact spec_DrawLinkValid.mono _ _)
      | (with_reducible exact LeO.refl _)
      | (with_reducible exact LeO.none _)
      | (with_reducible refine LeO.ite ?_ ?_)
      | (with_reducible refine LeO.bind ?_ (fun _ => ?_))
      | exact ih0 _ _ _
      | exact ih1 _ _ _
      | exact spec_DrawFlowValid.mono _ _
      | exact spec_DrawLinkValid.mono _ _
      | exact LeO.none _
      | refine LeO.ite ?_ ?_
      | refine LeO.bind ?_ (fun _ => ?_)
def laws_FnFlowLink.T5 : Bool × List (List Nat × List Nat) := (true, [([], []), ([0], [0]), ([], []), ([2, 1], [2]), ([1, 3], [1, 3]), ([4, 3], [4]), ([5], [5]), ([6, 5, 5], [5, 6]), ([5], [5]), ([8, 7, 5], [5, 8]), ([7, 9, 5], [5, 7, 9]), ([5, 10], [5, 10])])
def laws_FnFlowLink.B5 : List Nat := [0, 1, 0, 7, 15, 31, 63, 127, 63, 511, 1023, 2047]
theorem laws_FnFlowLink.tab5 : rtab .any (opsOf Try.f11 5) = laws_FnFlowLink.T5 := by kernel_rfl
theorem laws_FnFlowLink.bits5 : waitsOk laws_FnFlowLink.T5.2 laws_FnFlowLink.B5 = true := by kernel_rfl
set_option maxHeartbeats 8000000 in
set_option maxRecDepth 100000 in
theorem laws_FnFlowLink.calls (k : Nat) (A0 : Option Addr) (c0 : Nat) (l0 : List Int) (A1 : Option Addr) (c1 : Nat) (l1 : List Int) (r : Bool) (w : World) (hr0 : Kd.C (Kd.int .u8) w A0 l0.length l0) (hc0 : l0.length ≤ c0) (hr1 : Kd.C (Kd.int .u8) w A1 l1.length l1) (hc1 : l1.length ≤ c1) (h : laws_FnFlowLink.f k l0 l1 = some r) :
    Calls Try.prog 11 #[.slice A0 l0.length c0, .slice A1 l1.length c1] w fun e w' => e = .returned (.bool r) ∧ Below w.heap.size w w' := by
  have hu25 := Try.underlying25
  have hu31 := Try.underlying31
  have HR0 := Aside0.mk hr0
  have HC0 := Aside0.mk hc0
  clear hr0 hc0
  have HR1 := Aside0.mk hr1
  have HC1 := Aside0.mk hc1
  clear hr1 hc1
  have HB := Aside0.mk (Below.refl w.heap.size w)
  have H : (if (l0.length : Int) > 1048576 then (laws_FnFlowLink.j0 k l0 l1 true) else (laws_FnFlowLink.j0 k l0 l1 (decide ((l1.length : Int) > 1048576)))) = some r := h
  clear h
  have HC3 := Aside0.mk H
  clear H
  go_enter Try.func11, Try.ntmps11
  go_upto_region 1 with (fail)
  go_cut [14] (fun v14 wc => ∃ (kq : Nat) (x14_2 : Bool), v14 = .bool x14_2 ∧ Aside0 (laws_FnFlowLink.j0 kq l0 l1 x14_2 = some r) ∧ Aside0 (kq ≤ k) ∧ Aside0 (Below w.heap.size w wc))
  case first =>
    have H := HC3.out
    clear HC3
    by_cases c4 : (l0.length : Int) > 1048576
    · rw [if_pos c4] at H
      have c4b0 : decide (1048576 < (l0.length : Int)) = true := decide_eq_true c4
      have c4b1 : decide (1048576 < l0.length) = true := decide_eq_true (by omega)
      clear c4
      (first | rw [c4b0] | (simp only [i64_w, i32_w]; rw [c4b0]) | skip)
      have H' := Aside0.mk H
      clear H
      go_wp2
      go_meet
      case rel => exact ⟨_, (true), (by first | rfl | (simp; done) | (simp [*]; done)), H', ⟨by first | omega | exact Nat.le_refl _⟩, ⟨by repeat (first | (with_reducible first | exact HB.out | apply below_alloc | apply pw_below_drewN | apply below_drew1) | exact HB.out)⟩⟩
    · rw [if_neg c4] at H
      have c4b0 : decide (1048576 < (l0.length : Int)) = false := decide_eq_false c4
      have c4b1 : decide (1048576 < l0.length) = false := decide_eq_false (by omega)
      clear c4
      (first | rw [c4b0] | (simp only [i64_w, i32_w]; rw [c4b0]) | skip)
      have H' := Aside0.mk H
      clear H
      go_wp2
      go_meet
      case rel => exact ⟨_, (decide ((l1.length : Int) > 1048576)), (by first | rfl | (simp; done) | (simp [*]; done)), H', ⟨by first | omega | exact Nat.le_refl _⟩, ⟨by repeat (first | (with_reducible first | exact HB.out | apply below_alloc | apply pw_below_drewN | apply below_drew1) | exact HB.out)⟩⟩
  case rest =>
    clear HC3
    try clear c1
    try clear p2
    try clear c4
    try clear c4b0
    try clear c4b1
    obtain ⟨kq, x14_2, rfl, HA, HJ2, HB⟩ := hcut
    cases kq with
    | zero => exact absurd HA.out (by simp [laws_FnFlowLink.j0])
    | succ kj2 =>
      have H := HA.out
      clear HA
      simp only [laws_FnFlowLink.j0] at H
      by_cases c5 : x14_2 = true
      · subst c5
        have H1 : (some true) = some r := by rw [if_pos rfl] at H; exact H
        clear H
        have H := H1
        clear H1
        obtain rfl := Option.some.inj H
        go_wp2
        go_ret
        exact ⟨by first | rfl | (simp [errW_none, errW_some] <;> rfl) | (simp [*, errW_none, errW_some] <;> rfl), by repeat (first | (with_reducible first | exact HB.out | apply below_alloc | apply pw_below_drewN | apply below_drew1) | exact HB.out)⟩
      · replace c5 := Bool.eq_false_iff.mpr c5
        subst c5
        have H1 : ((spec_DrawFlowValid.f kj2 l0).bind fun bt327 => ((spec_DrawLinkValid.f kj2 l1).bind fun bt330 => ((impl_FlowValid.f bt327.1 bt327.2).bind fun t333 => ((spec_FlowValid.f bt327.1 bt327.2).bind fun t334 => (if (t333 != t334) = true then (laws_FnFlowLink.j1 kj2 true bt330.1 bt330.2) else ((impl_LinkValid.f bt330.1 bt330.2).bind fun t335 => ((spec_LinkValid.f bt330.1 bt330.2).bind fun t336 => (laws_FnFlowLink.j1 kj2 (t335 != t336) bt330.1 bt330.2)))))))) = some r := by rw [if_neg (show ¬ (false = true) by decide)] at H; exact H
        clear H
        have H := H1
        clear H1
        replace H := Option.bind_eq_some_iff.mp H
        obtain ⟨⟨t327, t328⟩, A60, H⟩ := H
        replace H : ((spec_DrawLinkValid.f kj2 l1).bind fun bt330 => ((impl_FlowValid.f t327 t328).bind fun t333 => ((spec_FlowValid.f t327 t328).bind fun t334 => (if (t333 != t334) = true then (laws_FnFlowLink.j1 kj2 true bt330.1 bt330.2) else ((impl_LinkValid.f bt330.1 bt330.2).bind fun t335 => ((spec_LinkValid.f bt330.1 bt330.2).bind fun t336 => (laws_FnFlowLink.j1 kj2 (t335 != t336) bt330.1 bt330.2))))))) = some r := H
        have A6 := Aside0.mk A60
        clear A60
        replace H := Option.bind_eq_some_iff.mp H
        obtain ⟨⟨t330, t331⟩, A70, H⟩ := H
        replace H : ((impl_FlowValid.f t327 t328).bind fun t333 => ((spec_FlowValid.f t327 t328).bind fun t334 => (if (t333 != t334) = true then (laws_FnFlowLink.j1 kj2 true t330 t331) else ((impl_LinkValid.f t330 t331).bind fun t335 => ((spec_LinkValid.f t330 t331).bind fun t336 => (laws_FnFlowLink.j1 kj2 (t335 != t336) t330 t331)))))) = some r := H
        have A7 := Aside0.mk A70
        clear A70
        have HC8 := Aside0.mk H
        clear H
        go_upto_region 5 with (first | ((with_reducible refine gate_callee (f := 37) rfl ?_); refine goesL_ (some 16) rfl rfl Try.func37 (by kernel_rfl) rfl #[.slice A0 l0.length c0] rfl (by (try simp only [List.map_toArray, List.map_cons, List.map_nil]); first | done | rfl | (simp only [List.length_drop, List.length_take]; rfl)) ?_; (with_reducible refine (spec_DrawFlowValid.calls kj2 _ _ l0 t327 t328 _ ?side1 ?side2 A6.out).mono ?_); (case side1 => repeat (first | exact (Kd.C_below HR0.out HB.out) | (with_reducible refine Kd.C_alloc ?_ _) | (with_reducible refine Kd.C_drewN ?_ _) | (with_reducible refine Kd.C_drew ?_))); (case side2 => exact HC0.out); rintro e w9 ⟨rfl, hb⟩; refine ⟨_, rfl, ?_⟩; have n0_ := Aside0.mk (below_step (by repeat (first | (with_reducible first | exact HB.out | apply below_alloc | apply pw_below_drewN | apply below_drew1) | exact HB.out)) hb); clear HB; have HB := n0_; clear n0_; (try clear hb); (try clear hb2); (try clear hk); (try clear hi)) | ((with_reducible refine gate_dst (N := 5) rfl ?_); (try (refine gate_guard (by rfl) ?_; dsimp only)); refine box_event ?hg (N := 5) ?hd (cs := #[.int .i64 0, .int .i64 0]) (t := 25) ?hr ?_; (case hd => rfl); (case hg => rfl); (case hr => first | (go_simp; done) | (go_simp; rfl)); intro gb329 hg w10 hbox hb; have n0_ := Aside0.mk (below_step (by repeat (first | (with_reducible first | exact HB.out | apply below_alloc | apply pw_below_drewN | apply below_drew1) | exact HB.out)) hb); have n1_ := Aside0.mk (hbox); have n2_ := Aside0.mk ((by rw [hg]; exact (below_size (by repeat (first | (with_reducible first | exact HB.out | apply below_alloc | apply pw_below_drewN | apply below_drew1) | exact HB.out))) : w.heap.size ≤ gb329)); have n3_ := Aside0.mk ((by rw [hg]; exact (below_size (by repeat (first | (with_reducible first | exact HB.out | apply below_alloc | apply pw_below_drewN | apply below_drew1) | exact HB.out))) : w.heap.size ≤ gb329)); clear HB; have HB := n0_; have BK329 := n1_; have GW329 := n2_; have GE329 := n3_; clear n0_ n1_ n2_ n3_; clear hb hbox hg; have hcz11_0 : w10.cell? ⟨gb329, 0, none⟩ = some (.int .i64 0) := (blk_cell BK329.out 0).trans rfl; have hcz11_1 : w10.cell? ⟨gb329, 1, none⟩ = some (.int .i64 0) := (blk_cell BK329.out 1).trans rfl; have hfz11_0 := blk_frozen BK329.out 0; have hfz11_1 := blk_frozen BK329.out 1) | ((with_reducible refine gate_callee (f := 38) rfl ?_); refine goesL_ (some 18) rfl rfl Try.func38 (by kernel_rfl) rfl #[.slice A1 l1.length c1] rfl (by (try simp only [List.map_toArray, List.map_cons, List.map_nil]); first | done | rfl | (simp only [List.length_drop, List.length_take]; rfl)) ?_; (with_reducible refine (spec_DrawLinkValid.calls kj2 _ _ l1 t330 t331 _ ?side1 ?side2 A7.out).mono ?_); (case side1 => exact Kd.C_below HR1.out (by repeat (first | (with_reducible first | exact HB.out | apply below_alloc | apply pw_below_drewN | apply below_drew1 | refine below_set ?_ GE329.out) | exact HB.out))); (case side2 => exact HC1.out); rintro e w12 ⟨rfl, hb⟩; refine ⟨_, rfl, ?_⟩; have n0_ := Aside0.mk (blk_below (g := gb329) (o := .cells #[.int .i64 t327, .int .i64 t328] 25 (0, 0)) (by (with_reducible repeat (first | refine blk_drewN ?_ _ | refine blk_drew ?_ | refine blk_alloc ?_ _)); refine blk_put (cs := #[.int .i64 t327, .int .i64 0]) ?_ 1 _ rfl; (with_reducible repeat (first | refine blk_drewN ?_ _ | refine blk_drew ?_ | refine blk_alloc ?_ _)); refine blk_put (cs := #[.int .i64 0, .int .i64 0]) ?_ 0 _ rfl; (with_reducible repeat (first | refine blk_drewN ?_ _ | refine blk_drew ?_ | refine blk_alloc ?_ _)); exact BK329.out) hb); have n1_ := Aside0.mk (below_step (by repeat (first | (with_reducible first | exact HB.out | apply below_alloc | apply pw_below_drewN | apply below_drew1 | refine below_set ?_ GE329.out) | exact HB.out)) hb); clear BK329; clear HB; have BK329 := n0_; have HB := n1_; clear n0_ n1_; (try clear hb); (try clear hb2); (try clear hk); (try clear hi)) | ((with_reducible refine gate_dst (N := 6) rfl ?_); (try (refine gate_guard (by rfl) ?_; dsimp only)); refine box_event ?hg (N := 6) ?hd (cs := #[.int .i64 0, .int .i64 0]) (t := 31) ?hr ?_; (case hd => rfl); (case hg => rfl); (case hr => first | (go_simp; done) | (go_simp; rfl)); intro gb332 hg w13 hbox hb; have n0_ := Aside0.mk (blk_below (g := gb329) (o := .cells #[.int .i64 t327, .int .i64 t328] 25 (0, 0)) (by (with_reducible repeat (first | refine blk_drewN ?_ _ | refine blk_drew ?_ | refine blk_alloc ?_ _)); exact BK329.out) hb); have n1_ := Aside0.mk (below_step (by repeat (first | (with_reducible first | exact HB.out | apply below_alloc | apply pw_below_drewN | apply below_drew1 | refine below_set ?_ GE329.out) | exact HB.out)) hb); have n2_ := Aside0.mk (hbox); have n3_ := Aside0.mk ((by rw [hg]; exact (below_size (by repeat (first | (with_reducible first | exact HB.out | apply below_alloc | apply pw_below_drewN | apply below_drew1 | refine below_set ?_ GE329.out) | exact HB.out))) : w.heap.size ≤ gb332)); have n4_ := Aside0.mk ((by rw [hg]; exact (below_size (by repeat (first | (with_reducible first | exact HB.out | apply below_alloc | apply pw_below_drewN | apply below_drew1 | refine below_set ?_ GE329.out) | exact HB.out))) : w.heap.size ≤ gb332)); have n5_ := Aside0.mk ((by rw [hg]; exact Nat.ne_of_lt (blk_lt (g := gb329) (o := .cells #[.int .i64 t327, .int .i64 t328] 25 (0, 0)) (by (with_reducible repeat (first | refine blk_drewN ?_ _ | refine blk_drew ?_ | refine blk_alloc ?_ _)); exact BK329.out)) : gb329 ≠ gb332)); have n6_ := Aside0.mk ((by rw [hg]; exact Nat.ne_of_gt (blk_lt (g := gb329) (o := .cells #[.int .i64 t327, .int .i64 t328] 25 (0, 0)) (by (with_reducible repeat (first | refine blk_drewN ?_ _ | refine blk_drew ?_ | refine blk_alloc ?_ _)); exact BK329.out)) : gb332 ≠ gb329)); clear BK329; clear HB; have BK329 := n0_; have HB := n1_; have BK332 := n2_; have GW332 := n3_; have GE332 := n4_; have NB329_332 := n5_; have NB332_329 := n6_; clear n0_ n1_ n2_ n3_ n4_ n5_ n6_; clear hb hbox hg; have hnb14 := NB332_329.out; have hnc14 := NB329_332.out; have hcz15_0 : w13.cell? ⟨gb332, 0, none⟩ = some (.int .i64 0) := (blk_cell BK332.out 0).trans rfl; have hcz15_1 : w13.cell? ⟨gb332, 1, none⟩ = some (.int .i64 0) := (blk_cell BK332.out 1).trans rfl; have hfz15_0 := blk_frozen BK332.out 0; have hfz15_1 := blk_frozen BK332.out 1))
        (try simp only [Act.put, List.setIfInBounds_toArray, List.set_cons_zero, List.set_cons_succ])
        go_cut [30] (fun v30 wc => ∃ (kq : Nat) (x30_7 : Bool), v30 = .bool x30_7 ∧ Aside0 (laws_FnFlowLink.j1 kq x30_7 t330 t331 = some r) ∧ Aside0 (kq ≤ kj2) ∧ Aside0 (wc.heap[gb329]? = some (.cells #[.int .i64 t327, .int .i64 t328] 25 (0, 0))) ∧ Aside0 (wc.heap[gb332]? = some (.cells #[.int .i64 t330, .int .i64 t331] 31 (0, 0))) ∧ Aside0 (Below w.heap.size w wc))
        case first =>
          have H := HC8.out
          clear HC8
          replace H := Option.bind_eq_some_iff.mp H
          obtain ⟨t333, A160, H⟩ := H
          replace H : ((spec_FlowValid.f t327 t328).bind fun t334 => (if (t333 != t334) = true then (laws_FnFlowLink.j1 kj2 true t330 t331) else ((impl_LinkValid.f t330 t331).bind fun t335 => ((spec_LinkValid.f t330 t331).bind fun t336 => (laws_FnFlowLink.j1 kj2 (t335 != t336) t330 t331))))) = some r := H
          have A16 := Aside0.mk A160
          clear A160
          replace H := Option.bind_eq_some_iff.mp H
          obtain ⟨t334, A170, H⟩ := H
          replace H : (if (t333 != t334) = true then (laws_FnFlowLink.j1 kj2 true t330 t331) else ((impl_LinkValid.f t330 t331).bind fun t335 => ((spec_LinkValid.f t330 t331).bind fun t336 => (laws_FnFlowLink.j1 kj2 (t335 != t336) t330 t331)))) = some r := H
          have A17 := Aside0.mk A170
          clear A170
          by_cases c18 : (t333 != t334) = true
          · rw [if_pos c18] at H
            have c18b0 : (t333 != t334) = true := c18
            (try (have c18b1 : decide (t333 = t334) = false := by simpa using c18))
            (try (have c18b2 : (t333 == t334) = false := by simpa using c18))
            (try (have c18b3 : ¬ (t333 = t334) := by simpa using c18))
            clear c18
            (first | rw [c18b0] | (simp only [i64_w, i32_w]; rw [c18b0]) | skip)
            have H' := Aside0.mk H
            clear H
            try go_wp2
            have n0_ : Aside0 (((w13.setCell ⟨gb332, 0, none⟩ (.int .i64 t330)).setCell ⟨gb332, 1, none⟩ (.int .i64 t331)).heap[gb329]? = some (.cells #[.int .i64 t327, .int .i64 t328] 25 (0, 0))) := ⟨by (with_reducible repeat (first | refine blk_drewN ?_ _ | refine blk_drew ?_ | refine blk_alloc ?_ _)); refine blk_far ?_ NB329_332.out _; (with_reducible repeat (first | refine blk_drewN ?_ _ | refine blk_drew ?_ | refine blk_alloc ?_ _)); refine blk_far ?_ NB329_332.out _; (with_reducible repeat (first | refine blk_drewN ?_ _ | refine blk_drew ?_ | refine blk_alloc ?_ _)); exact BK329.out⟩
            have n1_ : Aside0 (((w13.setCell ⟨gb332, 0, none⟩ (.int .i64 t330)).setCell ⟨gb332, 1, none⟩ (.int .i64 t331)).heap[gb332]? = some (.cells #[.int .i64 t330, .int .i64 t331] 31 (0, 0))) := ⟨by (with_reducible repeat (first | refine blk_drewN ?_ _ | refine blk_drew ?_ | refine blk_alloc ?_ _)); refine blk_put (cs := #[.int .i64 t330, .int .i64 0]) ?_ 1 _ rfl; (with_reducible repeat (first | refine blk_drewN ?_ _ | refine blk_drew ?_ | refine blk_alloc ?_ _)); refine blk_put (cs := #[.int .i64 0, .int .i64 0]) ?_ 0 _ rfl; (with_reducible repeat (first | refine blk_drewN ?_ _ | refine blk_drew ?_ | refine blk_alloc ?_ _)); exact BK332.out⟩
            have n2_ : Aside0 (Below w.heap.size w ((w13.setCell ⟨gb332, 0, none⟩ (.int .i64 t330)).setCell ⟨gb332, 1, none⟩ (.int .i64 t331))) := ⟨by repeat (first | (with_reducible first | exact HB.out | apply below_alloc | apply pw_below_drewN | apply below_drew1 | refine below_set ?_ GE329.out | refine below_set ?_ GE332.out) | exact HB.out)⟩
            (try clear BK329)
            (try clear BK332)
            (try clear HB)
            generalize ((w13.setCell ⟨gb332, 0, none⟩ (.int .i64 t330)).setCell ⟨gb332, 1, none⟩ (.int .i64 t331)) = w19 at n0_ n1_ n2_ ⊢
            have BK329 := n0_
            have BK332 := n1_
            have HB := n2_
            clear n0_ n1_ n2_
            have n0_ := Aside0.mk (blk_drew BK329.out)
            have n1_ := Aside0.mk (blk_drew BK332.out)
            have n2_ := Aside0.mk (below_drew1 HB.out)
            clear BK329
            clear BK332
            clear HB
            have BK329 := n0_
            have BK332 := n1_
            have HB := n2_
            clear n0_ n1_ n2_
            refine start_ (n := 12) (S := fun w' => w'.cell? ⟨gb329, 0, none⟩ = some (.int .i64 t327) ∧ w'.cell? ⟨gb329, 1, none⟩ = some (.int .i64 t328)) (ds := []) #[false, false, false, false, false, false, false, false, false, false, false, false] (by kernel_rfl) rfl rfl ⟨(blk_cell BK329.out 0).trans rfl, (blk_cell BK329.out 1).trans rfl⟩ (fun hHeld => ?_); refine with_tabW laws_FnFlowLink.tab5 laws_FnFlowLink.bits5 (fun HT_ HW_ => ?_)
            generalize w19.drew = w20 at BK329 BK332 HB hHeld ⊢
            refine take_ (i := 0) (N := some 19) (v := ?_) (a' := ?_) #[true, false, false, false, false, false, false, false, false, false, false, false] rfl rfl (take_ofW HT_.out HW_.out (by kernel_rfl)) (fun _ _ _ h => h) (Or.inl ⟨by rfl, ?_⟩) hHeld ?_ ?_
            rotate_left
            · rintro w' ⟨s0, s1⟩
              go_simp
              with_reducible rfl
            rotate_left
            · simp only [Act.put, List.setIfInBounds_toArray, List.set_cons_zero, List.set_cons_succ, i64_w, i32_w]
              rfl
            refine take_ (i := 2) (N := some 21) (v := ?_) (a' := ?_) #[true, false, true, false, false, false, false, false, false, false, false, false] rfl rfl (take_ofW HT_.out HW_.out (by kernel_rfl)) (fun _ _ _ h => h) (Or.inl ⟨by rfl, ?_⟩) hHeld ?_ ?_
            rotate_left
            · rintro w' ⟨s0, s1⟩
              go_simp
              with_reducible rfl
            rotate_left
            · simp only [Act.put, List.setIfInBounds_toArray, List.set_cons_zero, List.set_cons_succ, i64_w, i32_w]
              rfl
            refine one_ (i := 1) (N := some 20) #[true, true, true, false, false, false, false, false, false, false, false, false] rfl rfl (one_of HT_.out (by kernel_rfl)) (by decide) (fun K hK => ?_)
            refine goes_ Try.func19 (by kernel_rfl) rfl #[.agg #[.int .i64 t327, .int .i64 t328]] (by rfl) rfl rfl (by (try simp only [List.map_toArray, List.map_cons, List.map_nil]); first | done | rfl | (simp only [List.length_drop, List.length_take]; rfl)) ?_
            with_reducible refine (impl_FlowValid.calls t327 t328 t333 _ A16.out).mono ?_
            rintro e w21 ⟨rfl, hb⟩
            refine ⟨_, rfl, ?_⟩
            have n0_ := Aside0.mk (blk_below (g := gb329) (o := .cells #[.int .i64 t327, .int .i64 t328] 25 (0, 0)) (by (with_reducible repeat (first | refine blk_drewN ?_ _ | refine blk_drew ?_ | refine blk_alloc ?_ _)); exact BK329.out) hb)
            have n1_ := Aside0.mk (blk_below (g := gb332) (o := .cells #[.int .i64 t330, .int .i64 t331] 31 (0, 0)) (by (with_reducible repeat (first | refine blk_drewN ?_ _ | refine blk_drew ?_ | refine blk_alloc ?_ _)); exact BK332.out) hb)
            have n2_ := Aside0.mk (below_step (by repeat (first | (with_reducible first | exact HB.out | apply below_alloc | apply pw_below_drewN | apply below_drew1 | refine below_set ?_ GE329.out | refine below_set ?_ GE332.out) | exact HB.out)) hb)
            clear BK329
            clear BK332
            clear HB
            have BK329 := n0_
            have BK332 := n1_
            have HB := n2_
            clear n0_ n1_ n2_
            (try clear hb)
            (try clear hb2)
            (try clear hk)
            (try clear hi)
            refine hK.out _ _ ⟨(blk_cell BK329.out 0).trans rfl, (blk_cell BK329.out 1).trans rfl⟩ (fun hHeld => ?_)
            clear hK K
            refine norm_ (a' := ?_) ?_ ?_
            rotate_left
            · show Act.put _ (some 20) _ = _
              simp only [Act.put, List.setIfInBounds_toArray, List.set_cons_zero, List.set_cons_succ, i64_w, i32_w]
              rfl
            refine one_ (i := 3) (N := some 22) #[true, true, true, true, false, false, false, false, false, false, false, false] rfl rfl (one_of HT_.out (by kernel_rfl)) (by decide) (fun K hK => ?_)
            refine goes_ Try.func17 (by kernel_rfl) rfl #[.agg #[.int .i64 t327, .int .i64 t328]] (by rfl) rfl rfl (by (try simp only [List.map_toArray, List.map_cons, List.map_nil]); first | done | rfl | (simp only [List.length_drop, List.length_take]; rfl)) ?_
            with_reducible refine (spec_FlowValid.calls t327 t328 t334 _ A17.out).mono ?_
            rintro e w22 ⟨rfl, hb⟩
            refine ⟨_, rfl, ?_⟩
            have n0_ := Aside0.mk (blk_below (g := gb329) (o := .cells #[.int .i64 t327, .int .i64 t328] 25 (0, 0)) (by (with_reducible repeat (first | refine blk_drewN ?_ _ | refine blk_drew ?_ | refine blk_alloc ?_ _)); exact BK329.out) hb)
            have n1_ := Aside0.mk (blk_below (g := gb332) (o := .cells #[.int .i64 t330, .int .i64 t331] 31 (0, 0)) (by (with_reducible repeat (first | refine blk_drewN ?_ _ | refine blk_drew ?_ | refine blk_alloc ?_ _)); exact BK332.out) hb)
            have n2_ := Aside0.mk (below_step (by repeat (first | (with_reducible first | exact HB.out | apply below_alloc | apply pw_below_drewN | apply below_drew1 | refine below_set ?_ GE329.out | refine below_set ?_ GE332.out) | exact HB.out)) hb)
            clear BK329
            clear BK332
            clear HB
            have BK329 := n0_
            have BK332 := n1_
            have HB := n2_
            clear n0_ n1_ n2_
            (try clear hb)
            (try clear hb2)
            (try clear hk)
            (try clear hi)
            refine hK.out _ _ ⟨(blk_cell BK329.out 0).trans rfl, (blk_cell BK329.out 1).trans rfl⟩ (fun hHeld => ?_)
            clear hK K
            refine norm_ (a' := ?_) ?_ ?_
            rotate_left
            · show Act.put _ (some 22) _ = _
              simp only [Act.put, List.setIfInBounds_toArray, List.set_cons_zero, List.set_cons_succ, i64_w, i32_w]
              rfl
            refine pure_ (i := 4) (N := some 23) (v := ?_) (a' := ?_) #[true, true, true, true, true, false, false, false, false, false, false, false] rfl rfl (any_of HT_.out (by kernel_rfl)) (fun _ _ _ h => h) (Or.inl ⟨by rfl, ?_⟩) ?_ ?_
            rotate_left
            · intro w'
              go_simp
              with_reducible rfl
            rotate_left
            · simp only [Act.put, List.setIfInBounds_toArray, List.set_cons_zero, List.set_cons_succ, i64_w, i32_w]
              rfl
            refine pure_ (i := 5) (N := some 24) (v := ?_) (a' := ?_) #[true, true, true, true, true, true, false, false, false, false, false, false] rfl rfl (any_of HT_.out (by kernel_rfl)) (fun _ _ _ h => h) (Or.inl ⟨by rfl, ?_⟩) ?_ ?_
            rotate_left
            · intro w'
              go_simp
              with_reducible rfl
            rotate_left
            · simp only [Act.put, List.setIfInBounds_toArray, List.set_cons_zero, List.set_cons_succ, i64_w, i32_w]
              rfl
            refine pure_ (i := 6) (N := some 25) (v := undef) (a' := ?_) #[true, true, true, true, true, true, true, false, false, false, false, false] rfl rfl (any_of HT_.out (by kernel_rfl)) (fun _ _ _ h => h) (Or.inr ⟨by rfl, rfl⟩) ?_ ?_
            rotate_left
            · simp only [Act.put, List.setIfInBounds_toArray, List.set_cons_zero, List.set_cons_succ, i64_w, i32_w]
              rfl
            refine pure_ (i := 7) (N := some 26) (v := undef) (a' := ?_) #[true, true, true, true, true, true, true, true, false, false, false, false] rfl rfl (any_of HT_.out (by kernel_rfl)) (fun _ _ _ h => h) (Or.inr ⟨by rfl, rfl⟩) ?_ ?_
            rotate_left
            · simp only [Act.put, List.setIfInBounds_toArray, List.set_cons_zero, List.set_cons_succ, i64_w, i32_w]
              rfl
            refine pure_ (i := 8) (N := some 27) (v := undef) (a' := ?_) #[true, true, true, true, true, true, true, true, true, false, false, false] rfl rfl (any_of HT_.out (by kernel_rfl)) (fun _ _ _ h => h) (Or.inr ⟨by rfl, rfl⟩) ?_ ?_
            rotate_left
            · simp only [Act.put, List.setIfInBounds_toArray, List.set_cons_zero, List.set_cons_succ, i64_w, i32_w]
              rfl
            refine pure_ (i := 9) (N := some 28) (v := undef) (a' := ?_) #[true, true, true, true, true, true, true, true, true, true, false, false] rfl rfl (any_of HT_.out (by kernel_rfl)) (fun _ _ _ h => h) (Or.inr ⟨by rfl, rfl⟩) ?_ ?_
            rotate_left
            · simp only [Act.put, List.setIfInBounds_toArray, List.set_cons_zero, List.set_cons_succ, i64_w, i32_w]
              rfl
            refine pure_ (i := 10) (N := some 29) (v := undef) (a' := ?_) #[true, true, true, true, true, true, true, true, true, true, true, false] rfl rfl (any_of HT_.out (by kernel_rfl)) (fun _ _ _ h => h) (Or.inr ⟨by rfl, rfl⟩) ?_ ?_
            rotate_left
            · simp only [Act.put, List.setIfInBounds_toArray, List.set_cons_zero, List.set_cons_succ, i64_w, i32_w]
              rfl
            refine pure_ (i := 11) (N := some 30) (v := ?_) (a' := ?_) #[true, true, true, true, true, true, true, true, true, true, true, true] rfl rfl (any_of HT_.out (by kernel_rfl)) (fun _ _ _ h => h) (Or.inl ⟨by rfl, ?_⟩) ?_ ?_
            rotate_left
            · intro w'
              go_simp
              with_reducible rfl
            rotate_left
            · simp only [Act.put, List.setIfInBounds_toArray, List.set_cons_zero, List.set_cons_succ, i64_w, i32_w]
              rfl
            refine done_ (done_of HT_.out (by kernel_rfl)) ?_
            try go_wp2
            go_meet
            case rel => exact ⟨_, (true), (by first | rfl | (simp; done) | (simp [*]; done)), H', ⟨by have := HJ2.out; first | omega | exact Nat.le_refl _⟩, ⟨by (with_reducible repeat (first | refine blk_drewN ?_ _ | refine blk_drew ?_ | refine blk_alloc ?_ _)); exact BK329.out⟩, ⟨by (with_reducible repeat (first | refine blk_drewN ?_ _ | refine blk_drew ?_ | refine blk_alloc ?_ _)); exact BK332.out⟩, ⟨by repeat (first | (with_reducible first | exact HB.out | apply below_alloc | apply pw_below_drewN | apply below_drew1 | refine below_set ?_ GE329.out | refine below_set ?_ GE332.out) | exact HB.out)⟩⟩
          · rw [if_neg c18] at H
            have c18b0 : (t333 != t334) = false := by simpa using c18
            (try (have c18b1 : decide (t333 = t334) = true := by simpa using c18))
            (try (have c18b2 : (t333 == t334) = true := by simpa using c18))
            clear c18
            (first | rw [c18b0] | (simp only [i64_w, i32_w]; rw [c18b0]) | skip)
            replace H := Option.bind_eq_some_iff.mp H
            obtain ⟨t335, A230, H⟩ := H
            replace H : ((spec_LinkValid.f t330 t331).bind fun t336 => (laws_FnFlowLink.j1 kj2 (t335 != t336) t330 t331)) = some r := H
            have A23 := Aside0.mk A230
            clear A230
            replace H := Option.bind_eq_some_iff.mp H
            obtain ⟨t336, A240, H⟩ := H
            replace H : (laws_FnFlowLink.j1 kj2 (t335 != t336) t330 t331) = some r := H
            have A24 := Aside0.mk A240
            clear A240
            have H' := Aside0.mk H
            clear H
            try go_wp2
            have n0_ : Aside0 (((w13.setCell ⟨gb332, 0, none⟩ (.int .i64 t330)).setCell ⟨gb332, 1, none⟩ (.int .i64 t331)).heap[gb329]? = some (.cells #[.int .i64 t327, .int .i64 t328] 25 (0, 0))) := ⟨by (with_reducible repeat (first | refine blk_drewN ?_ _ | refine blk_drew ?_ | refine blk_alloc ?_ _)); refine blk_far ?_ NB329_332.out _; (with_reducible repeat (first | refine blk_drewN ?_ _ | refine blk_drew ?_ | refine blk_alloc ?_ _)); refine blk_far ?_ NB329_332.out _; (with_reducible repeat (first | refine blk_drewN ?_ _ | refine blk_drew ?_ | refine blk_alloc ?_ _)); exact BK329.out⟩
            have n1_ : Aside0 (((w13.setCell ⟨gb332, 0, none⟩ (.int .i64 t330)).setCell ⟨gb332, 1, none⟩ (.int .i64 t331)).heap[gb332]? = some (.cells #[.int .i64 t330, .int .i64 t331] 31 (0, 0))) := ⟨by (with_reducible repeat (first | refine blk_drewN ?_ _ | refine blk_drew ?_ | refine blk_alloc ?_ _)); refine blk_put (cs := #[.int .i64 t330, .int .i64 0]) ?_ 1 _ rfl; (with_reducible repeat (first | refine blk_drewN ?_ _ | refine blk_drew ?_ | refine blk_alloc ?_ _)); refine blk_put (cs := #[.int .i64 0, .int .i64 0]) ?_ 0 _ rfl; (with_reducible repeat (first | refine blk_drewN ?_ _ | refine blk_drew ?_ | refine blk_alloc ?_ _)); exact BK332.out⟩
            have n2_ : Aside0 (Below w.heap.size w ((w13.setCell ⟨gb332, 0, none⟩ (.int .i64 t330)).setCell ⟨gb332, 1, none⟩ (.int .i64 t331))) := ⟨by repeat (first | (with_reducible first | exact HB.out | apply below_alloc | apply pw_below_drewN | apply below_drew1 | refine below_set ?_ GE329.out | refine below_set ?_ GE332.out) | exact HB.out)⟩
            (try clear BK329)
            (try clear BK332)
            (try clear HB)
            generalize ((w13.setCell ⟨gb332, 0, none⟩ (.int .i64 t330)).setCell ⟨gb332, 1, none⟩ (.int .i64 t331)) = w25 at n0_ n1_ n2_ ⊢
            have BK329 := n0_
            have BK332 := n1_
            have HB := n2_
            clear n0_ n1_ n2_
            have n0_ := Aside0.mk (blk_drew BK329.out)
            have n1_ := Aside0.mk (blk_drew BK332.out)
            have n2_ := Aside0.mk (below_drew1 HB.out)
            clear BK329
            clear BK332
            clear HB
            have BK329 := n0_
            have BK332 := n1_
            have HB := n2_
            clear n0_ n1_ n2_
            refine start_ (n := 12) (S := fun w' => w'.cell? ⟨gb329, 0, none⟩ = some (.int .i64 t327) ∧ w'.cell? ⟨gb329, 1, none⟩ = some (.int .i64 t328) ∧ w'.cell? ⟨gb332, 0, none⟩ = some (.int .i64 t330) ∧ w'.cell? ⟨gb332, 1, none⟩ = some (.int .i64 t331)) (ds := []) #[false, false, false, false, false, false, false, false, false, false, false, false] (by kernel_rfl) rfl rfl ⟨(blk_cell BK329.out 0).trans rfl, (blk_cell BK329.out 1).trans rfl, (blk_cell BK332.out 0).trans rfl, (blk_cell BK332.out 1).trans rfl⟩ (fun hHeld => ?_); refine with_tabW laws_FnFlowLink.tab5 laws_FnFlowLink.bits5 (fun HT_ HW_ => ?_)
            generalize w25.drew = w26 at BK329 BK332 HB hHeld ⊢
            refine take_ (i := 0) (N := some 19) (v := ?_) (a' := ?_) #[true, false, false, false, false, false, false, false, false, false, false, false] rfl rfl (take_ofW HT_.out HW_.out (by kernel_rfl)) (fun _ _ _ h => h) (Or.inl ⟨by rfl, ?_⟩) hHeld ?_ ?_
            rotate_left
            · rintro w' ⟨s0, s1, s2, s3⟩
              go_simp
              with_reducible rfl
            rotate_left
            · simp only [Act.put, List.setIfInBounds_toArray, List.set_cons_zero, List.set_cons_succ, i64_w, i32_w]
              rfl
            refine take_ (i := 2) (N := some 21) (v := ?_) (a' := ?_) #[true, false, true, false, false, false, false, false, false, false, false, false] rfl rfl (take_ofW HT_.out HW_.out (by kernel_rfl)) (fun _ _ _ h => h) (Or.inl ⟨by rfl, ?_⟩) hHeld ?_ ?_
            rotate_left
            · rintro w' ⟨s0, s1, s2, s3⟩
              go_simp
              with_reducible rfl
            rotate_left
            · simp only [Act.put, List.setIfInBounds_toArray, List.set_cons_zero, List.set_cons_succ, i64_w, i32_w]
              rfl
            refine one_ (i := 1) (N := some 20) #[true, true, true, false, false, false, false, false, false, false, false, false] rfl rfl (one_of HT_.out (by kernel_rfl)) (by decide) (fun K hK => ?_)
            refine goes_ Try.func19 (by kernel_rfl) rfl #[.agg #[.int .i64 t327, .int .i64 t328]] (by rfl) rfl rfl (by (try simp only [List.map_toArray, List.map_cons, List.map_nil]); first | done | rfl | (simp only [List.length_drop, List.length_take]; rfl)) ?_
            with_reducible refine (impl_FlowValid.calls t327 t328 t333 _ A16.out).mono ?_
            rintro e w27 ⟨rfl, hb⟩
            refine ⟨_, rfl, ?_⟩
            have n0_ := Aside0.mk (blk_below (g := gb329) (o := .cells #[.int .i64 t327, .int .i64 t328] 25 (0, 0)) (by (with_reducible repeat (first | refine blk_drewN ?_ _ | refine blk_drew ?_ | refine blk_alloc ?_ _)); exact BK329.out) hb)
            have n1_ := Aside0.mk (blk_below (g := gb332) (o := .cells #[.int .i64 t330, .int .i64 t331] 31 (0, 0)) (by (with_reducible repeat (first | refine blk_drewN ?_ _ | refine blk_drew ?_ | refine blk_alloc ?_ _)); exact BK332.out) hb)
            have n2_ := Aside0.mk (below_step (by repeat (first | (with_reducible first | exact HB.out | apply below_alloc | apply pw_below_drewN | apply below_drew1 | refine below_set ?_ GE329.out | refine below_set ?_ GE332.out) | exact HB.out)) hb)
            clear BK329
            clear BK332
            clear HB
            have BK329 := n0_
            have BK332 := n1_
            have HB := n2_
            clear n0_ n1_ n2_
            (try clear hb)
            (try clear hb2)
            (try clear hk)
            (try clear hi)
            refine hK.out _ _ ⟨(blk_cell BK329.out 0).trans rfl, (blk_cell BK329.out 1).trans rfl, (blk_cell BK332.out 0).trans rfl, (blk_cell BK332.out 1).trans rfl⟩ (fun hHeld => ?_)
            clear hK K
            refine norm_ (a' := ?_) ?_ ?_
            rotate_left
            · show Act.put _ (some 20) _ = _
              simp only [Act.put, List.setIfInBounds_toArray, List.set_cons_zero, List.set_cons_succ, i64_w, i32_w]
              rfl
            refine one_ (i := 3) (N := some 22) #[true, true, true, true, false, false, false, false, false, false, false, false] rfl rfl (one_of HT_.out (by kernel_rfl)) (by decide) (fun K hK => ?_)
            refine goes_ Try.func17 (by kernel_rfl) rfl #[.agg #[.int .i64 t327, .int .i64 t328]] (by rfl) rfl rfl (by (try simp only [List.map_toArray, List.map_cons, List.map_nil]); first | done | rfl | (simp only [List.length_drop, List.length_take]; rfl)) ?_
            with_reducible refine (spec_FlowValid.calls t327 t328 t334 _ A17.out).mono ?_
            rintro e w28 ⟨rfl, hb⟩
            refine ⟨_, rfl, ?_⟩
            have n0_ := Aside0.mk (blk_below (g := gb329) (o := .cells #[.int .i64 t327, .int .i64 t328] 25 (0, 0)) (by (with_reducible repeat (first | refine blk_drewN ?_ _ | refine blk_drew ?_ | refine blk_alloc ?_ _)); exact BK329.out) hb)
            have n1_ := Aside0.mk (blk_below (g := gb332) (o := .cells #[.int .i64 t330, .int .i64 t331] 31 (0, 0)) (by (with_reducible repeat (first | refine blk_drewN ?_ _ | refine blk_drew ?_ | refine blk_alloc ?_ _)); exact BK332.out) hb)
            have n2_ := Aside0.mk (below_step (by repeat (first | (with_reducible first | exact HB.out | apply below_alloc | apply pw_below_drewN | apply below_drew1 | refine below_set ?_ GE329.out | refine below_set ?_ GE332.out) | exact HB.out)) hb)
            clear BK329
            clear BK332
            clear HB
            have BK329 := n0_
            have BK332 := n1_
            have HB := n2_
            clear n0_ n1_ n2_
            (try clear hb)
            (try clear hb2)
            (try clear hk)
            (try clear hi)
            refine hK.out _ _ ⟨(blk_cell BK329.out 0).trans rfl, (blk_cell BK329.out 1).trans rfl, (blk_cell BK332.out 0).trans rfl, (blk_cell BK332.out 1).trans rfl⟩ (fun hHeld => ?_)
            clear hK K
            refine norm_ (a' := ?_) ?_ ?_
            rotate_left
            · show Act.put _ (some 22) _ = _
              simp only [Act.put, List.setIfInBounds_toArray, List.set_cons_zero, List.set_cons_succ, i64_w, i32_w]
              rfl
            refine pure_ (i := 4) (N := some 23) (v := ?_) (a' := ?_) #[true, true, true, true, true, false, false, false, false, false, false, false] rfl rfl (any_of HT_.out (by kernel_rfl)) (fun _ _ _ h => h) (Or.inl ⟨by rfl, ?_⟩) ?_ ?_
            rotate_left
            · intro w'
              go_simp
              with_reducible rfl
            rotate_left
            · simp only [Act.put, List.setIfInBounds_toArray, List.set_cons_zero, List.set_cons_succ, i64_w, i32_w]
              rfl
            refine pure_ (i := 5) (N := some 24) (v := ?_) (a' := ?_) #[true, true, true, true, true, true, false, false, false, false, false, false] rfl rfl (any_of HT_.out (by kernel_rfl)) (fun _ _ _ h => h) (Or.inl ⟨by rfl, ?_⟩) ?_ ?_
            rotate_left
            · intro w'
              go_simp
              with_reducible rfl
            rotate_left
            · simp only [Act.put, List.setIfInBounds_toArray, List.set_cons_zero, List.set_cons_succ, i64_w, i32_w]
              rfl
            refine take_ (i := 6) (N := some 25) (v := ?_) (a' := ?_) #[true, true, true, true, true, true, true, false, false, false, false, false] rfl rfl (take_ofW HT_.out HW_.out (by kernel_rfl)) (fun _ _ _ h => h) (Or.inl ⟨by rfl, ?_⟩) hHeld ?_ ?_
            rotate_left
            · rintro w' ⟨s0, s1, s2, s3⟩
              go_simp
              with_reducible rfl
            rotate_left
            · simp only [Act.put, List.setIfInBounds_toArray, List.set_cons_zero, List.set_cons_succ, i64_w, i32_w]
              rfl
            refine take_ (i := 8) (N := some 27) (v := ?_) (a' := ?_) #[true, true, true, true, true, true, true, false, true, false, false, false] rfl rfl (take_ofW HT_.out HW_.out (by kernel_rfl)) (fun _ _ _ h => h) (Or.inl ⟨by rfl, ?_⟩) hHeld ?_ ?_
            rotate_left
            · rintro w' ⟨s0, s1, s2, s3⟩
              go_simp
              with_reducible rfl
            rotate_left
            · simp only [Act.put, List.setIfInBounds_toArray, List.set_cons_zero, List.set_cons_succ, i64_w, i32_w]
              rfl
            refine one_ (i := 7) (N := some 26) #[true, true, true, true, true, true, true, true, true, false, false, false] rfl rfl (one_of HT_.out (by kernel_rfl)) (by decide) (fun K hK => ?_)
            refine goes_ Try.func22 (by kernel_rfl) rfl #[.agg #[.int .i64 t330, .int .i64 t331]] (by rfl) rfl rfl (by (try simp only [List.map_toArray, List.map_cons, List.map_nil]); first | done | rfl | (simp only [List.length_drop, List.length_take]; rfl)) ?_
            with_reducible refine (impl_LinkValid.calls t330 t331 t335 _ A23.out).mono ?_
            rintro e w29 ⟨rfl, hb⟩
            refine ⟨_, rfl, ?_⟩
            have n0_ := Aside0.mk (blk_below (g := gb329) (o := .cells #[.int .i64 t327, .int .i64 t328] 25 (0, 0)) (by (with_reducible repeat (first | refine blk_drewN ?_ _ | refine blk_drew ?_ | refine blk_alloc ?_ _)); exact BK329.out) hb)
            have n1_ := Aside0.mk (blk_below (g := gb332) (o := .cells #[.int .i64 t330, .int .i64 t331] 31 (0, 0)) (by (with_reducible repeat (first | refine blk_drewN ?_ _ | refine blk_drew ?_ | refine blk_alloc ?_ _)); exact BK332.out) hb)
            have n2_ := Aside0.mk (below_step (by repeat (first | (with_reducible first | exact HB.out | apply below_alloc | apply pw_below_drewN | apply below_drew1 | refine below_set ?_ GE329.out | refine below_set ?_ GE332.out) | exact HB.out)) hb)
            clear BK329
            clear BK332
            clear HB
            have BK329 := n0_
            have BK332 := n1_
            have HB := n2_
            clear n0_ n1_ n2_
            (try clear hb)
            (try clear hb2)
            (try clear hk)
            (try clear hi)
            refine hK.out _ _ ⟨(blk_cell BK329.out 0).trans rfl, (blk_cell BK329.out 1).trans rfl, (blk_cell BK332.out 0).trans rfl, (blk_cell BK332.out 1).trans rfl⟩ (fun hHeld => ?_)
            clear hK K
            refine norm_ (a' := ?_) ?_ ?_
            rotate_left
            · show Act.put _ (some 26) _ = _
              simp only [Act.put, List.setIfInBounds_toArray, List.set_cons_zero, List.set_cons_succ, i64_w, i32_w]
              rfl
            refine one_ (i := 9) (N := some 28) #[true, true, true, true, true, true, true, true, true, true, false, false] rfl rfl (one_of HT_.out (by kernel_rfl)) (by decide) (fun K hK => ?_)
            refine goes_ Try.func20 (by kernel_rfl) rfl #[.agg #[.int .i64 t330, .int .i64 t331]] (by rfl) rfl rfl (by (try simp only [List.map_toArray, List.map_cons, List.map_nil]); first | done | rfl | (simp only [List.length_drop, List.length_take]; rfl)) ?_
            with_reducible refine (spec_LinkValid.calls t330 t331 t336 _ A24.out).mono ?_
            rintro e w30 ⟨rfl, hb⟩
            refine ⟨_, rfl, ?_⟩
            have n0_ := Aside0.mk (blk_below (g := gb329) (o := .cells #[.int .i64 t327, .int .i64 t328] 25 (0, 0)) (by (with_reducible repeat (first | refine blk_drewN ?_ _ | refine blk_drew ?_ | refine blk_alloc ?_ _)); exact BK329.out) hb)
            have n1_ := Aside0.mk (blk_below (g := gb332) (o := .cells #[.int .i64 t330, .int .i64 t331] 31 (0, 0)) (by (with_reducible repeat (first | refine blk_drewN ?_ _ | refine blk_drew ?_ | refine blk_alloc ?_ _)); exact BK332.out) hb)
            have n2_ := Aside0.mk (below_step (by repeat (first | (with_reducible first | exact HB.out | apply below_alloc | apply pw_below_drewN | apply below_drew1 | refine below_set ?_ GE329.out | refine below_set ?_ GE332.out) | exact HB.out)) hb)
            clear BK329
            clear BK332
            clear HB
            have BK329 := n0_
            have BK332 := n1_
            have HB := n2_
            clear n0_ n1_ n2_
            (try clear hb)
            (try clear hb2)
            (try clear hk)
            (try clear hi)
            refine hK.out _ _ ⟨(blk_cell BK329.out 0).trans rfl, (blk_cell BK329.out 1).trans rfl, (blk_cell BK332.out 0).trans rfl, (blk_cell BK332.out 1).trans rfl⟩ (fun hHeld => ?_)
            clear hK K
            refine norm_ (a' := ?_) ?_ ?_
            rotate_left
            · show Act.put _ (some 28) _ = _
              simp only [Act.put, List.setIfInBounds_toArray, List.set_cons_zero, List.set_cons_succ, i64_w, i32_w]
              rfl
            refine pure_ (i := 10) (N := some 29) (v := ?_) (a' := ?_) #[true, true, true, true, true, true, true, true, true, true, true, false] rfl rfl (any_of HT_.out (by kernel_rfl)) (fun _ _ _ h => h) (Or.inl ⟨by rfl, ?_⟩) ?_ ?_
            rotate_left
            · intro w'
              go_simp
              with_reducible rfl
            rotate_left
            · simp only [Act.put, List.setIfInBounds_toArray, List.set_cons_zero, List.set_cons_succ, i64_w, i32_w]
              rfl
            refine pure_ (i := 11) (N := some 30) (v := ?_) (a' := ?_) #[true, true, true, true, true, true, true, true, true, true, true, true] rfl rfl (any_of HT_.out (by kernel_rfl)) (fun _ _ _ h => h) (Or.inl ⟨by rfl, ?_⟩) ?_ ?_
            rotate_left
            · intro w'
              go_simp
              with_reducible rfl
            rotate_left
            · simp only [Act.put, List.setIfInBounds_toArray, List.set_cons_zero, List.set_cons_succ, i64_w, i32_w]
              rfl
            refine done_ (done_of HT_.out (by kernel_rfl)) ?_
            try go_wp2
            go_meet
            case rel => exact ⟨_, ((t335 != t336)), (by first | rfl | (simp; done) | (simp [*]; done)), H', ⟨by have := HJ2.out; first | omega | exact Nat.le_refl _⟩, ⟨by (with_reducible repeat (first | refine blk_drewN ?_ _ | refine blk_drew ?_ | refine blk_alloc ?_ _)); exact BK329.out⟩, ⟨by (with_reducible repeat (first | refine blk_drewN ?_ _ | refine blk_drew ?_ | refine blk_alloc ?_ _)); exact BK332.out⟩, ⟨by repeat (first | (with_reducible first | exact HB.out | apply below_alloc | apply pw_below_drewN | apply below_drew1 | refine below_set ?_ GE329.out | refine below_set ?_ GE332.out) | exact HB.out)⟩⟩
        case rest =>
          clear HC8
          try clear c1
          try clear c2
          try clear p2
          try clear c3
          try clear c4
          try clear c4b0
          try clear c4b1
          try clear c5
          try clear c11
          try clear c14
          try clear c17
          try clear c18
          try clear c18b0
          try clear c18b1
          try clear c18b2
          try clear c19
          try clear c20
          try clear c22
          try clear hcz11_0
          try clear hcz11_1
          try clear hcz15_0
          try clear hcz15_1
          try clear hfz11_0
          try clear hfz11_1
          try clear hfz15_0
          try clear hfz15_1
          try clear p2
          obtain ⟨kq, x30_7, rfl, HA, HJ7, BK329, BK332, HB⟩ := hcut
          cases kq with
          | zero => exact absurd HA.out (by simp [laws_FnFlowLink.j1])
          | succ kj7 =>
            have H := HA.out
            clear HA
            simp only [laws_FnFlowLink.j1] at H
            by_cases c31 : x30_7 = true
            · subst c31
              have H1 : (some false) = some r := by rw [if_pos rfl] at H; exact H
              clear H
              have H := H1
              clear H1
              obtain rfl := Option.some.inj H
              go_wp2
              go_ret
              exact ⟨by first | rfl | (simp [errW_none, errW_some] <;> rfl) | (simp [*, errW_none, errW_some] <;> rfl), by repeat (first | (with_reducible first | exact HB.out | apply below_alloc | apply pw_below_drewN | apply below_drew1 | refine below_set ?_ GE329.out | refine below_set ?_ GE332.out) | exact HB.out)⟩
            · replace c31 := Bool.eq_false_iff.mpr c31
              subst c31
              have H1 : ((impl_FlowValid.f 0 0).bind fun t337 => (if t337 = true then ((impl_LinkValid.f 0 0).bind fun t338 => (if t338 = true then (some false) else ((impl_LinkValid.f t330 t331).bind fun t339 => (if t339 = true then ((impl_LinkValid.f t330 0).bind fun t340 => (if t340 = true then (some false) else ((laws_alive.f).bind fun t341 => (some t341)))) else ((laws_alive.f).bind fun t342 => (some t342)))))) else (some false))) = some r := by rw [if_neg (show ¬ (false = true) by decide)] at H; exact H
              clear H
              have H := H1
              clear H1
              replace H := Option.bind_eq_some_iff.mp H
              obtain ⟨t337, A320, H⟩ := H
              replace H : (if t337 = true then ((impl_LinkValid.f 0 0).bind fun t338 => (if t338 = true then (some false) else ((impl_LinkValid.f t330 t331).bind fun t339 => (if t339 = true then ((impl_LinkValid.f t330 0).bind fun t340 => (if t340 = true then (some false) else ((laws_alive.f).bind fun t341 => (some t341)))) else ((laws_alive.f).bind fun t342 => (some t342)))))) else (some false)) = some r := H
              have A32 := Aside0.mk A320
              clear A320
              by_cases c33 : t337 = true
              · subst c33
                have H1 : ((impl_LinkValid.f 0 0).bind fun t338 => (if t338 = true then (some false) else ((impl_LinkValid.f t330 t331).bind fun t339 => (if t339 = true then ((impl_LinkValid.f t330 0).bind fun t340 => (if t340 = true then (some false) else ((laws_alive.f).bind fun t341 => (some t341)))) else ((laws_alive.f).bind fun t342 => (some t342)))))) = some r := by rw [if_pos rfl] at H; exact H
                clear H
                have H := H1
                clear H1
                replace H := Option.bind_eq_some_iff.mp H
                obtain ⟨t338, A340, H⟩ := H
                replace H : (if t338 = true then (some false) else ((impl_LinkValid.f t330 t331).bind fun t339 => (if t339 = true then ((impl_LinkValid.f t330 0).bind fun t340 => (if t340 = true then (some false) else ((laws_alive.f).bind fun t341 => (some t341)))) else ((laws_alive.f).bind fun t342 => (some t342))))) = some r := H
                have A34 := Aside0.mk A340
                clear A340
                by_cases c35 : t338 = true
                · subst c35
                  have H1 : (some false) = some r := by rw [if_pos rfl] at H; exact H
                  clear H
                  have H := H1
                  clear H1
                  obtain rfl := Option.some.inj H
                  go_wp2_with (first | ((with_reducible refine gate_callee (f := 19) rfl ?_); refine goesL_ (some 32) rfl rfl Try.func19 (by kernel_rfl) rfl #[.agg #[.int .i64 0, .int .i64 0]] rfl (by (try simp only [List.map_toArray, List.map_cons, List.map_nil]); first | done | rfl | (simp only [List.length_drop, List.length_take]; rfl)) ?_; (with_reducible refine (impl_FlowValid.calls 0 0 true _ A32.out).mono ?_); rintro e w36 ⟨rfl, hb⟩; refine ⟨_, rfl, ?_⟩; have n0_ := Aside0.mk (blk_below (g := gb329) (o := .cells #[.int .i64 t327, .int .i64 t328] 25 (0, 0)) (by (with_reducible repeat (first | refine blk_drewN ?_ _ | refine blk_drew ?_ | refine blk_alloc ?_ _)); exact BK329.out) hb); have n1_ := Aside0.mk (blk_below (g := gb332) (o := .cells #[.int .i64 t330, .int .i64 t331] 31 (0, 0)) (by (with_reducible repeat (first | refine blk_drewN ?_ _ | refine blk_drew ?_ | refine blk_alloc ?_ _)); exact BK332.out) hb); have n2_ := Aside0.mk (below_step (by repeat (first | (with_reducible first | exact HB.out | apply below_alloc | apply pw_below_drewN | apply below_drew1 | refine below_set ?_ GE329.out | refine below_set ?_ GE332.out) | exact HB.out)) hb); clear BK329; clear BK332; clear HB; have BK329 := n0_; have BK332 := n1_; have HB := n2_; clear n0_ n1_ n2_; (try clear hb); (try clear hb2); (try clear hk); (try clear hi)) | (go_at_call 22; (with_reducible refine (impl_LinkValid.calls 0 0 true _ A34.out).mono ?_); rintro e w37 ⟨rfl, hb⟩; have n0_ := Aside0.mk (blk_below (g := gb329) (o := .cells #[.int .i64 t327, .int .i64 t328] 25 (0, 0)) (by (with_reducible repeat (first | refine blk_drewN ?_ _ | refine blk_drew ?_ | refine blk_alloc ?_ _)); exact BK329.out) hb); have n1_ := Aside0.mk (blk_below (g := gb332) (o := .cells #[.int .i64 t330, .int .i64 t331] 31 (0, 0)) (by (with_reducible repeat (first | refine blk_drewN ?_ _ | refine blk_drew ?_ | refine blk_alloc ?_ _)); exact BK332.out) hb); have n2_ := Aside0.mk (below_step (by repeat (first | (with_reducible first | exact HB.out | apply below_alloc | apply pw_below_drewN | apply below_drew1 | refine below_set ?_ GE329.out | refine below_set ?_ GE332.out) | exact HB.out)) hb); clear BK329; clear BK332; clear HB; have BK329 := n0_; have BK332 := n1_; have HB := n2_; clear n0_ n1_ n2_; (try clear hb); (try clear hb2); (try clear hk); (try clear hi)))
                  go_ret
                  exact ⟨by first | rfl | (simp [errW_none, errW_some] <;> rfl) | (simp [*, errW_none, errW_some] <;> rfl), by repeat (first | (with_reducible first | exact HB.out | apply below_alloc | apply pw_below_drewN | apply below_drew1 | refine below_set ?_ GE329.out | refine below_set ?_ GE332.out) | exact HB.out)⟩
                · replace c35 := Bool.eq_false_iff.mpr c35
                  subst c35
                  have H1 : ((impl_LinkValid.f t330 t331).bind fun t339 => (if t339 = true then ((impl_LinkValid.f t330 0).bind fun t340 => (if t340 = true then (some false) else ((laws_alive.f).bind fun t341 => (some t341)))) else ((laws_alive.f).bind fun t342 => (some t342)))) = some r := by rw [if_neg (show ¬ (false = true) by decide)] at H; exact H
                  clear H
                  have H := H1
                  clear H1
                  replace H := Option.bind_eq_some_iff.mp H
                  obtain ⟨t339, A380, H⟩ := H
                  replace H : (if t339 = true then ((impl_LinkValid.f t330 0).bind fun t340 => (if t340 = true then (some false) else ((laws_alive.f).bind fun t341 => (some t341)))) else ((laws_alive.f).bind fun t342 => (some t342))) = some r := H
                  have A38 := Aside0.mk A380
                  clear A380
                  by_cases c39 : t339 = true
                  · subst c39
                    have H1 : ((impl_LinkValid.f t330 0).bind fun t340 => (if t340 = true then (some false) else ((laws_alive.f).bind fun t341 => (some t341)))) = some r := by rw [if_pos rfl] at H; exact H
                    clear H
                    have H := H1
                    clear H1
                    replace H := Option.bind_eq_some_iff.mp H
                    obtain ⟨t340, A400, H⟩ := H
                    replace H : (if t340 = true then (some false) else ((laws_alive.f).bind fun t341 => (some t341))) = some r := H
                    have A40 := Aside0.mk A400
                    clear A400
                    by_cases c41 : t340 = true
                    · subst c41
                      have H1 : (some false) = some r := by rw [if_pos rfl] at H; exact H
                      clear H
                      have H := H1
                      clear H1
                      obtain rfl := Option.some.inj H
                      go_wp2_with (first | ((with_reducible refine gate_callee (f := 19) rfl ?_); refine goesL_ (some 32) rfl rfl Try.func19 (by kernel_rfl) rfl #[.agg #[.int .i64 0, .int .i64 0]] rfl (by (try simp only [List.map_toArray, List.map_cons, List.map_nil]); first | done | rfl | (simp only [List.length_drop, List.length_take]; rfl)) ?_; (with_reducible refine (impl_FlowValid.calls 0 0 true _ A32.out).mono ?_); rintro e w42 ⟨rfl, hb⟩; refine ⟨_, rfl, ?_⟩; have n0_ := Aside0.mk (blk_below (g := gb329) (o := .cells #[.int .i64 t327, .int .i64 t328] 25 (0, 0)) (by (with_reducible repeat (first | refine blk_drewN ?_ _ | refine blk_drew ?_ | refine blk_alloc ?_ _)); exact BK329.out) hb); have n1_ := Aside0.mk (blk_below (g := gb332) (o := .cells #[.int .i64 t330, .int .i64 t331] 31 (0, 0)) (by (with_reducible repeat (first | refine blk_drewN ?_ _ | refine blk_drew ?_ | refine blk_alloc ?_ _)); exact BK332.out) hb); have n2_ := Aside0.mk (below_step (by repeat (first | (with_reducible first | exact HB.out | apply below_alloc | apply pw_below_drewN | apply below_drew1 | refine below_set ?_ GE329.out | refine below_set ?_ GE332.out) | exact HB.out)) hb); clear BK329; clear BK332; clear HB; have BK329 := n0_; have BK332 := n1_; have HB := n2_; clear n0_ n1_ n2_; (try clear hb); (try clear hb2); (try clear hk); (try clear hi)) | (go_at_call 22; (with_reducible refine (impl_LinkValid.calls 0 0 false _ A34.out).mono ?_); rintro e w43 ⟨rfl, hb⟩; have n0_ := Aside0.mk (blk_below (g := gb329) (o := .cells #[.int .i64 t327, .int .i64 t328] 25 (0, 0)) (by (with_reducible repeat (first | refine blk_drewN ?_ _ | refine blk_drew ?_ | refine blk_alloc ?_ _)); exact BK329.out) hb); have n1_ := Aside0.mk (blk_below (g := gb332) (o := .cells #[.int .i64 t330, .int .i64 t331] 31 (0, 0)) (by (with_reducible repeat (first | refine blk_drewN ?_ _ | refine blk_drew ?_ | refine blk_alloc ?_ _)); exact BK332.out) hb); have n2_ := Aside0.mk (below_step (by repeat (first | (with_reducible first | exact HB.out | apply below_alloc | apply pw_below_drewN | apply below_drew1 | refine below_set ?_ GE329.out | refine below_set ?_ GE332.out) | exact HB.out)) hb); clear BK329; clear BK332; clear HB; have BK329 := n0_; have BK332 := n1_; have HB := n2_; clear n0_ n1_ n2_; (try clear hb); (try clear hb2); (try clear hk); (try clear hi); have hnb44 := NB332_329.out; have hnc44 := NB329_332.out; have hcz45_0 : w43.cell? ⟨gb332, 0, none⟩ = some (.int .i64 t330) := (blk_cell BK332.out 0).trans rfl; have hcz45_1 : w43.cell? ⟨gb332, 1, none⟩ = some (.int .i64 t331) := (blk_cell BK332.out 1).trans rfl; have hfz45_0 := blk_frozen BK332.out 0; have hfz45_1 := blk_frozen BK332.out 1) | (go_at_call 22; (with_reducible refine (impl_LinkValid.calls t330 t331 true _ A38.out).mono ?_); rintro e w46 ⟨rfl, hb⟩; have n0_ := Aside0.mk (blk_below (g := gb329) (o := .cells #[.int .i64 t327, .int .i64 t328] 25 (0, 0)) (by (with_reducible repeat (first | refine blk_drewN ?_ _ | refine blk_drew ?_ | refine blk_alloc ?_ _)); exact BK329.out) hb); have n1_ := Aside0.mk (blk_below (g := gb332) (o := .cells #[.int .i64 t330, .int .i64 t331] 31 (0, 0)) (by (with_reducible repeat (first | refine blk_drewN ?_ _ | refine blk_drew ?_ | refine blk_alloc ?_ _)); exact BK332.out) hb); have n2_ := Aside0.mk (below_step (by repeat (first | (with_reducible first | exact HB.out | apply below_alloc | apply pw_below_drewN | apply below_drew1 | refine below_set ?_ GE329.out | refine below_set ?_ GE332.out) | exact HB.out)) hb); clear BK329; clear BK332; clear HB; have BK329 := n0_; have BK332 := n1_; have HB := n2_; clear n0_ n1_ n2_; (try clear hb); (try clear hb2); (try clear hk); (try clear hi); have hcz47_0 : w46.cell? ⟨gb332, 0, none⟩ = some (.int .i64 t330) := (blk_cell BK332.out 0).trans rfl; have hcz47_1 : w46.cell? ⟨gb332, 1, none⟩ = some (.int .i64 t331) := (blk_cell BK332.out 1).trans rfl; have hfz47_0 := blk_frozen BK332.out 0; have hfz47_1 := blk_frozen BK332.out 1) | (go_at_call 22; (with_reducible refine (impl_LinkValid.calls t330 0 true _ A40.out).mono ?_); rintro e w48 ⟨rfl, hb⟩; have n0_ := Aside0.mk (blk_below (g := gb329) (o := .cells #[.int .i64 t327, .int .i64 t328] 25 (0, 0)) (by (with_reducible repeat (first | refine blk_drewN ?_ _ | refine blk_drew ?_ | refine blk_alloc ?_ _)); exact BK329.out) hb); have n1_ := Aside0.mk (blk_below (g := gb332) (o := .cells #[.int .i64 t330, .int .i64 t331] 31 (0, 0)) (by (with_reducible repeat (first | refine blk_drewN ?_ _ | refine blk_drew ?_ | refine blk_alloc ?_ _)); exact BK332.out) hb); have n2_ := Aside0.mk (below_step (by repeat (first | (with_reducible first | exact HB.out | apply below_alloc | apply pw_below_drewN | apply below_drew1 | refine below_set ?_ GE329.out | refine below_set ?_ GE332.out) | exact HB.out)) hb); clear BK329; clear BK332; clear HB; have BK329 := n0_; have BK332 := n1_; have HB := n2_; clear n0_ n1_ n2_; (try clear hb); (try clear hb2); (try clear hk); (try clear hi)))
                      go_ret
                      exact ⟨by first | rfl | (simp [errW_none, errW_some] <;> rfl) | (simp [*, errW_none, errW_some] <;> rfl), by repeat (first | (with_reducible first | exact HB.out | apply below_alloc | apply pw_below_drewN | apply below_drew1 | refine below_set ?_ GE329.out | refine below_set ?_ GE332.out) | exact HB.out)⟩
                    · replace c41 := Bool.eq_false_iff.mpr c41
                      subst c41
                      have H1 : ((laws_alive.f).bind fun t341 => (some t341)) = some r := by rw [if_neg (show ¬ (false = true) by decide)] at H; exact H
                      clear H
                      have H := H1
                      clear H1
                      replace H := Option.bind_eq_some_iff.mp H
                      obtain ⟨t341, A490, H⟩ := H
                      replace H : (some t341) = some r := H
                      have A49 := Aside0.mk A490
                      clear A490
                      obtain rfl := Option.some.inj H
                      go_wp2_with (first | ((with_reducible refine gate_callee (f := 19) rfl ?_); refine goesL_ (some 32) rfl rfl Try.func19 (by kernel_rfl) rfl #[.agg #[.int .i64 0, .int .i64 0]] rfl (by (try simp only [List.map_toArray, List.map_cons, List.map_nil]); first | done | rfl | (simp only [List.length_drop, List.length_take]; rfl)) ?_; (with_reducible refine (impl_FlowValid.calls 0 0 true _ A32.out).mono ?_); rintro e w50 ⟨rfl, hb⟩; refine ⟨_, rfl, ?_⟩; have n0_ := Aside0.mk (blk_below (g := gb329) (o := .cells #[.int .i64 t327, .int .i64 t328] 25 (0, 0)) (by (with_reducible repeat (first | refine blk_drewN ?_ _ | refine blk_drew ?_ | refine blk_alloc ?_ _)); exact BK329.out) hb); have n1_ := Aside0.mk (blk_below (g := gb332) (o := .cells #[.int .i64 t330, .int .i64 t331] 31 (0, 0)) (by (with_reducible repeat (first | refine blk_drewN ?_ _ | refine blk_drew ?_ | refine blk_alloc ?_ _)); exact BK332.out) hb); have n2_ := Aside0.mk (below_step (by repeat (first | (with_reducible first | exact HB.out | apply below_alloc | apply pw_below_drewN | apply below_drew1 | refine below_set ?_ GE329.out | refine below_set ?_ GE332.out) | exact HB.out)) hb); clear BK329; clear BK332; clear HB; have BK329 := n0_; have BK332 := n1_; have HB := n2_; clear n0_ n1_ n2_; (try clear hb); (try clear hb2); (try clear hk); (try clear hi)) | (go_at_call 22; (with_reducible refine (impl_LinkValid.calls 0 0 false _ A34.out).mono ?_); rintro e w51 ⟨rfl, hb⟩; have n0_ := Aside0.mk (blk_below (g := gb329) (o := .cells #[.int .i64 t327, .int .i64 t328] 25 (0, 0)) (by (with_reducible repeat (first | refine blk_drewN ?_ _ | refine blk_drew ?_ | refine blk_alloc ?_ _)); exact BK329.out) hb); have n1_ := Aside0.mk (blk_below (g := gb332) (o := .cells #[.int .i64 t330, .int .i64 t331] 31 (0, 0)) (by (with_reducible repeat (first | refine blk_drewN ?_ _ | refine blk_drew ?_ | refine blk_alloc ?_ _)); exact BK332.out) hb); have n2_ := Aside0.mk (below_step (by repeat (first | (with_reducible first | exact HB.out | apply below_alloc | apply pw_below_drewN | apply below_drew1 | refine below_set ?_ GE329.out | refine below_set ?_ GE332.out) | exact HB.out)) hb); clear BK329; clear BK332; clear HB; have BK329 := n0_; have BK332 := n1_; have HB := n2_; clear n0_ n1_ n2_; (try clear hb); (try clear hb2); (try clear hk); (try clear hi); have hnb52 := NB332_329.out; have hnc52 := NB329_332.out; have hcz53_0 : w51.cell? ⟨gb332, 0, none⟩ = some (.int .i64 t330) := (blk_cell BK332.out 0).trans rfl; have hcz53_1 : w51.cell? ⟨gb332, 1, none⟩ = some (.int .i64 t331) := (blk_cell BK332.out 1).trans rfl; have hfz53_0 := blk_frozen BK332.out 0; have hfz53_1 := blk_frozen BK332.out 1) | (go_at_call 22; (with_reducible refine (impl_LinkValid.calls t330 t331 true _ A38.out).mono ?_); rintro e w54 ⟨rfl, hb⟩; have n0_ := Aside0.mk (blk_below (g := gb329) (o := .cells #[.int .i64 t327, .int .i64 t328] 25 (0, 0)) (by (with_reducible repeat (first | refine blk_drewN ?_ _ | refine blk_drew ?_ | refine blk_alloc ?_ _)); exact BK329.out) hb); have n1_ := Aside0.mk (blk_below (g := gb332) (o := .cells #[.int .i64 t330, .int .i64 t331] 31 (0, 0)) (by (with_reducible repeat (first | refine blk_drewN ?_ _ | refine blk_drew ?_ | refine blk_alloc ?_ _)); exact BK332.out) hb); have n2_ := Aside0.mk (below_step (by repeat (first | (with_reducible first | exact HB.out | apply below_alloc | apply pw_below_drewN | apply below_drew1 | refine below_set ?_ GE329.out | refine below_set ?_ GE332.out) | exact HB.out)) hb); clear BK329; clear BK332; clear HB; have BK329 := n0_; have BK332 := n1_; have HB := n2_; clear n0_ n1_ n2_; (try clear hb); (try clear hb2); (try clear hk); (try clear hi); have hcz55_0 : w54.cell? ⟨gb332, 0, none⟩ = some (.int .i64 t330) := (blk_cell BK332.out 0).trans rfl; have hcz55_1 : w54.cell? ⟨gb332, 1, none⟩ = some (.int .i64 t331) := (blk_cell BK332.out 1).trans rfl; have hfz55_0 := blk_frozen BK332.out 0; have hfz55_1 := blk_frozen BK332.out 1) | (go_at_call 22; (with_reducible refine (impl_LinkValid.calls t330 0 false _ A40.out).mono ?_); rintro e w56 ⟨rfl, hb⟩; have n0_ := Aside0.mk (blk_below (g := gb329) (o := .cells #[.int .i64 t327, .int .i64 t328] 25 (0, 0)) (by (with_reducible repeat (first | refine blk_drewN ?_ _ | refine blk_drew ?_ | refine blk_alloc ?_ _)); exact BK329.out) hb); have n1_ := Aside0.mk (blk_below (g := gb332) (o := .cells #[.int .i64 t330, .int .i64 t331] 31 (0, 0)) (by (with_reducible repeat (first | refine blk_drewN ?_ _ | refine blk_drew ?_ | refine blk_alloc ?_ _)); exact BK332.out) hb); have n2_ := Aside0.mk (below_step (by repeat (first | (with_reducible first | exact HB.out | apply below_alloc | apply pw_below_drewN | apply below_drew1 | refine below_set ?_ GE329.out | refine below_set ?_ GE332.out) | exact HB.out)) hb); clear BK329; clear BK332; clear HB; have BK329 := n0_; have BK332 := n1_; have HB := n2_; clear n0_ n1_ n2_; (try clear hb); (try clear hb2); (try clear hk); (try clear hi)) | (go_at_call 36; (with_reducible refine (laws_alive.calls  t341 _ A49.out).mono ?_); rintro e w57 ⟨rfl, hb⟩; have n0_ := Aside0.mk (blk_below (g := gb329) (o := .cells #[.int .i64 t327, .int .i64 t328] 25 (0, 0)) (by (with_reducible repeat (first | refine blk_drewN ?_ _ | refine blk_drew ?_ | refine blk_alloc ?_ _)); exact BK329.out) hb); have n1_ := Aside0.mk (blk_below (g := gb332) (o := .cells #[.int .i64 t330, .int .i64 t331] 31 (0, 0)) (by (with_reducible repeat (first | refine blk_drewN ?_ _ | refine blk_drew ?_ | refine blk_alloc ?_ _)); exact BK332.out) hb); have n2_ := Aside0.mk (below_step (by repeat (first | (with_reducible first | exact HB.out | apply below_alloc | apply pw_below_drewN | apply below_drew1 | refine below_set ?_ GE329.out | refine below_set ?_ GE332.out) | exact HB.out)) hb); clear BK329; clear BK332; clear HB; have BK329 := n0_; have BK332 := n1_; have HB := n2_; clear n0_ n1_ n2_; (try clear hb); (try clear hb2); (try clear hk); (try clear hi)))
                      go_ret
                      exact ⟨by first | rfl | (simp [errW_none, errW_some] <;> rfl) | (simp [*, errW_none, errW_some] <;> rfl), by repeat (first | (with_reducible first | exact HB.out | apply below_alloc | apply pw_below_drewN | apply below_drew1 | refine below_set ?_ GE329.out | refine below_set ?_ GE332.out) | exact HB.out)⟩
                  · replace c39 := Bool.eq_false_iff.mpr c39
                    subst c39
                    have H1 : ((laws_alive.f).bind fun t342 => (some t342)) = some r := by rw [if_neg (show ¬ (false = true) by decide)] at H; exact H
                    clear H
                    have H := H1
                    clear H1
                    replace H := Option.bind_eq_some_iff.mp H
                    obtain ⟨t342, A580, H⟩ := H
                    replace H : (some t342) = some r := H
                    have A58 := Aside0.mk A580
                    clear A580
                    obtain rfl := Option.some.inj H
                    go_wp2_with (first | ((with_reducible refine gate_callee (f := 19) rfl ?_); refine goesL_ (some 32) rfl rfl Try.func19 (by kernel_rfl) rfl #[.agg #[.int .i64 0, .int .i64 0]] rfl (by (try simp only [List.map_toArray, List.map_cons, List.map_nil]); first | done | rfl | (simp only [List.length_drop, List.length_take]; rfl)) ?_; (with_reducible refine (impl_FlowValid.calls 0 0 true _ A32.out).mono ?_); rintro e w59 ⟨rfl, hb⟩; refine ⟨_, rfl, ?_⟩; have n0_ := Aside0.mk (blk_below (g := gb329) (o := .cells #[.int .i64 t327, .int .i64 t328] 25 (0, 0)) (by (with_reducible repeat (first | refine blk_drewN ?_ _ | refine blk_drew ?_ | refine blk_alloc ?_ _)); exact BK329.out) hb); have n1_ := Aside0.mk (blk_below (g := gb332) (o := .cells #[.int .i64 t330, .int .i64 t331] 31 (0, 0)) (by (with_reducible repeat (first | refine blk_drewN ?_ _ | refine blk_drew ?_ | refine blk_alloc ?_ _)); exact BK332.out) hb); have n2_ := Aside0.mk (below_step (by repeat (first | (with_reducible first | exact HB.out | apply below_alloc | apply pw_below_drewN | apply below_drew1 | refine below_set ?_ GE329.out | refine below_set ?_ GE332.out) | exact HB.out)) hb); clear BK329; clear BK332; clear HB; have BK329 := n0_; have BK332 := n1_; have HB := n2_; clear n0_ n1_ n2_; (try clear hb); (try clear hb2); (try clear hk); (try clear hi)) | (go_at_call 22; (with_reducible refine (impl_LinkValid.calls 0 0 false _ A34.out).mono ?_); rintro e w60 ⟨rfl, hb⟩; have n0_ := Aside0.mk (blk_below (g := gb329) (o := .cells #[.int .i64 t327, .int .i64 t328] 25 (0, 0)) (by (with_reducible repeat (first | refine blk_drewN ?_ _ | refine blk_drew ?_ | refine blk_alloc ?_ _)); exact BK329.out) hb); have n1_ := Aside0.mk (blk_below (g := gb332) (o := .cells #[.int .i64 t330, .int .i64 t331] 31 (0, 0)) (by (with_reducible repeat (first | refine blk_drewN ?_ _ | refine blk_drew ?_ | refine blk_alloc ?_ _)); exact BK332.out) hb); have n2_ := Aside0.mk (below_step (by repeat (first | (with_reducible first | exact HB.out | apply below_alloc | apply pw_below_drewN | apply below_drew1 | refine below_set ?_ GE329.out | refine below_set ?_ GE332.out) | exact HB.out)) hb); clear BK329; clear BK332; clear HB; have BK329 := n0_; have BK332 := n1_; have HB := n2_; clear n0_ n1_ n2_; (try clear hb); (try clear hb2); (try clear hk); (try clear hi); have hnb61 := NB332_329.out; have hnc61 := NB329_332.out; have hcz62_0 : w60.cell? ⟨gb332, 0, none⟩ = some (.int .i64 t330) := (blk_cell BK332.out 0).trans rfl; have hcz62_1 : w60.cell? ⟨gb332, 1, none⟩ = some (.int .i64 t331) := (blk_cell BK332.out 1).trans rfl; have hfz62_0 := blk_frozen BK332.out 0; have hfz62_1 := blk_frozen BK332.out 1) | (go_at_call 22; (with_reducible refine (impl_LinkValid.calls t330 t331 false _ A38.out).mono ?_); rintro e w63 ⟨rfl, hb⟩; have n0_ := Aside0.mk (blk_below (g := gb329) (o := .cells #[.int .i64 t327, .int .i64 t328] 25 (0, 0)) (by (with_reducible repeat (first | refine blk_drewN ?_ _ | refine blk_drew ?_ | refine blk_alloc ?_ _)); exact BK329.out) hb); have n1_ := Aside0.mk (blk_below (g := gb332) (o := .cells #[.int .i64 t330, .int .i64 t331] 31 (0, 0)) (by (with_reducible repeat (first | refine blk_drewN ?_ _ | refine blk_drew ?_ | refine blk_alloc ?_ _)); exact BK332.out) hb); have n2_ := Aside0.mk (below_step (by repeat (first | (with_reducible first | exact HB.out | apply below_alloc | apply pw_below_drewN | apply below_drew1 | refine below_set ?_ GE329.out | refine below_set ?_ GE332.out) | exact HB.out)) hb); clear BK329; clear BK332; clear HB; have BK329 := n0_; have BK332 := n1_; have HB := n2_; clear n0_ n1_ n2_; (try clear hb); (try clear hb2); (try clear hk); (try clear hi)) | (go_at_call 36; (with_reducible refine (laws_alive.calls  t342 _ A58.out).mono ?_); rintro e w64 ⟨rfl, hb⟩; have n0_ := Aside0.mk (blk_below (g := gb329) (o := .cells #[.int .i64 t327, .int .i64 t328] 25 (0, 0)) (by (with_reducible repeat (first | refine blk_drewN ?_ _ | refine blk_drew ?_ | refine blk_alloc ?_ _)); exact BK329.out) hb); have n1_ := Aside0.mk (blk_below (g := gb332) (o := .cells #[.int .i64 t330, .int .i64 t331] 31 (0, 0)) (by (with_reducible repeat (first | refine blk_drewN ?_ _ | refine blk_drew ?_ | refine blk_alloc ?_ _)); exact BK332.out) hb); have n2_ := Aside0.mk (below_step (by repeat (first | (with_reducible first | exact HB.out | apply below_alloc | apply pw_below_drewN | apply below_drew1 | refine below_set ?_ GE329.out | refine below_set ?_ GE332.out) | exact HB.out)) hb); clear BK329; clear BK332; clear HB; have BK329 := n0_; have BK332 := n1_; have HB := n2_; clear n0_ n1_ n2_; (try clear hb); (try clear hb2); (try clear hk); (try clear hi)))
                    go_ret
                    exact ⟨by first | rfl | (simp [errW_none, errW_some] <;> rfl) | (simp [*, errW_none, errW_some] <;> rfl), by repeat (first | (with_reducible first | exact HB.out | apply below_alloc | apply pw_below_drewN | apply below_drew1 | refine below_set ?_ GE329.out | refine below_set ?_ GE332.out) | exact HB.out)⟩
              · replace c33 := Bool.eq_false_iff.mpr c33
                subst c33
                have H1 : (some false) = some r := by rw [if_neg (show ¬ (false = true) by decide)] at H; exact H
                clear H
                have H := H1
                clear H1
                obtain rfl := Option.some.inj H
                go_wp2_with (first | ((with_reducible refine gate_callee (f := 19) rfl ?_); refine goesL_ (some 32) rfl rfl Try.func19 (by kernel_rfl) rfl #[.agg #[.int .i64 0, .int .i64 0]] rfl (by (try simp only [List.map_toArray, List.map_cons, List.map_nil]); first | done | rfl | (simp only [List.length_drop, List.length_take]; rfl)) ?_; (with_reducible refine (impl_FlowValid.calls 0 0 false _ A32.out).mono ?_); rintro e w65 ⟨rfl, hb⟩; refine ⟨_, rfl, ?_⟩; have n0_ := Aside0.mk (blk_below (g := gb329) (o := .cells #[.int .i64 t327, .int .i64 t328] 25 (0, 0)) (by (with_reducible repeat (first | refine blk_drewN ?_ _ | refine blk_drew ?_ | refine blk_alloc ?_ _)); exact BK329.out) hb); have n1_ := Aside0.mk (blk_below (g := gb332) (o := .cells #[.int .i64 t330, .int .i64 t331] 31 (0, 0)) (by (with_reducible repeat (first | refine blk_drewN ?_ _ | refine blk_drew ?_ | refine blk_alloc ?_ _)); exact BK332.out) hb); have n2_ := Aside0.mk (below_step (by repeat (first | (with_reducible first | exact HB.out | apply below_alloc | apply pw_below_drewN | apply below_drew1 | refine below_set ?_ GE329.out | refine below_set ?_ GE332.out) | exact HB.out)) hb); clear BK329; clear BK332; clear HB; have BK329 := n0_; have BK332 := n1_; have HB := n2_; clear n0_ n1_ n2_; (try clear hb); (try clear hb2); (try clear hk); (try clear hi)))
                go_ret
                exact ⟨by first | rfl | (simp [errW_none, errW_some] <;> rfl) | (simp [*, errW_none, errW_some] <;> rfl), by repeat (first | (with_reducible first | exact HB.out | apply below_alloc | apply pw_below_drewN | apply below_drew1 | refine below_set ?_ GE329.out | refine below_set ?_ GE332.out) | exact HB.out)⟩

/-- The one pure statement of laws_FnFlowLink. -/
def laws_FnFlowLink.Pure : Prop := ∀ (l0 : List Int) (l1 : List Int), l0.length * 1 ≤ 140737488351232 → (l0.length ≤ maxLen ∧ ∀ y0 ∈ l0, (Lit.int .u8 y0).wf = true) → l1.length * 1 ≤ 140737488351232 → (l1.length ≤ maxLen ∧ ∀ y0 ∈ l1, (Lit.int .u8 y0).wf = true) → ∃ k, laws_FnFlowLink.f k l0 l1 = some true

end Go.Proofs.Ytooabmmnbifclaa.P
/- Small laws that all proofs of this seat use. No condition. -/
namespace Go.Proofs.Ytooabmmnbifclaa.Base
open Go.RowKit Go.Proofs.Ytooabmmnbifclaa.P Go.Proofs.YtooabmmnbifclaaW.PrintWords Go.Proofs.YtooabmmnbifclaaW.PrintLast Go.Proofs.YtooabmmnbifclaaW.PrintMore
theorem w64 {x : Int} (h0 : -9223372036854775808 ≤ x) (h1 : x < 9223372036854775808) : wrap64 x = x := by unfold wrap64; omega
theorem mul_bd {a b A B : Int} (ha : 0 ≤ a) (hA : a ≤ A) (hb : 0 ≤ b) (hB : b ≤ B) : 0 ≤ a * b ∧ a * b ≤ A * B :=
  ⟨Int.mul_nonneg ha hb, Int.mul_le_mul hA hB hb (by omega)⟩
theorem in_f (a b c : Int) : impl_in.f a b c = some (decide (b ≤ a ∧ a ≤ c)) := by
  unfold impl_in.f
  by_cases h : a ≥ b
  · rw [if_pos h]; simp [show b ≤ a from h]
  · rw [if_neg h]; simp [show ¬ b ≤ a from h]
theorem l1In_f (a b c : Int) : spec_l1In.f a b c = some (decide (b ≤ a ∧ a ≤ c)) := by
  unfold spec_l1In.f
  by_cases h : a ≥ b
  · rw [if_pos h]; simp [show b ≤ a from h]
  · rw [if_neg h]; simp [show ¬ b ≤ a from h]
theorem and_two (p q : Prop) [Decidable p] [Decidable q] : (if decide p = true then some (decide q) else some false) = some (decide (p ∧ q)) := by
  by_cases hp : p <;> by_cases hq : q <;> simp [hp, hq]
theorem and_bind {α : Type} (p : Prop) [Decidable p] (x y : Option α) : (some (decide p)).bind (fun t => if t = true then x else y) = if p then x else y := by
  by_cases hp : p <;> simp [hp]
theorem mn_min (a b : Int) : mn a b = min a b := by unfold mn; omega
theorem mx_max (a b : Int) : mx a b = max a b := by unfold mx; omega
theorem tdiv_pos {a b : Int} (h : 0 ≤ a) : Int.tdiv a b = a / b := Int.tdiv_eq_ediv_of_nonneg h
theorem tmod_pos {a b : Int} (h : 0 ≤ a) : Int.tmod a b = a % b := Int.tmod_eq_emod_of_nonneg h
theorem wf64 {x : Int} (h : (Lit.int .i64 x).wf = true) : -9223372036854775808 ≤ x ∧ x < 9223372036854775808 := by
  simp [Lit.wf, IntKind.min, IntKind.max, IntKind.bits, IntKind.signed] at h
  omega
end Go.Proofs.Ytooabmmnbifclaa.Base
/- Runs that end, whatever the number of rounds from some number on; loops over a row. No condition. -/
namespace Go.Proofs.Ytooabmmnbifclaa.Gen
open Go.RowKit Go.Proofs.YtooabmmnbifclaaW.PrintWords Go.Proofs.YtooabmmnbifclaaW.PrintLast

/-- From some number of rounds on the run ends in one answer, and the answer is good. -/
def Tot {α : Type} (g : Nat → Option α) (P : α → Prop) : Prop := ∃ r, Ev g r ∧ P r
theorem Tot.ret {α : Type} {P : α → Prop} (a : α) (h : P a) : Tot (fun _ => some a) P := ⟨a, Ev.now a, h⟩
theorem Tot.of_eq {α : Type} {P : α → Prop} {g : Nat → Option α} {a : α} (e : ∀ k, g k = some a) (h : P a) : Tot g P := ⟨a, ⟨0, fun k _ => e k⟩, h⟩
theorem Tot.mono {α : Type} {P Q : α → Prop} {g : Nat → Option α} (h : Tot g P) (hpq : ∀ a, P a → Q a) : Tot g Q := by
  obtain ⟨r, h1, h2⟩ := h
  exact ⟨r, h1, hpq r h2⟩
theorem Tot.congr {α : Type} {P : α → Prop} {g f : Nat → Option α} (e : ∀ k, g k = f k) (h : Tot f P) : Tot g P := by
  have : g = f := funext e
  rw [this]; exact h
theorem Tot.step {α : Type} {P : α → Prop} {g f : Nat → Option α} (e : ∀ k, g (k + 1) = f k) (h : Tot f P) : Tot g P := by
  obtain ⟨r, h1, h2⟩ := h
  exact ⟨r, Ev.step e h1, h2⟩
theorem Tot.bind {α β : Type} {P : α → Prop} {Q : β → Prop} {g : Nat → Option α} {f : Nat → α → Option β} (h : Tot g P) (hf : ∀ a, P a → Tot (fun k => f k a) Q) : Tot (fun k => (g k).bind (f k)) Q := by
  obtain ⟨r, h1, h2⟩ := h
  obtain ⟨q, h3, h4⟩ := hf r h2
  exact ⟨q, Ev.bind h1 h3, h4⟩
/-- A call without rounds. -/
theorem Tot.bind0 {α β : Type} {Q : β → Prop} {g : Option α} {f : Nat → α → Option β} {a : α} (h : g = some a) (hf : Tot (fun k => f k a) Q) : Tot (fun k => g.bind (f k)) Q := by
  subst h; exact hf
theorem Tot.yes {α : Type} {P : α → Prop} {c : Prop} [Decidable c] {g f : Nat → Option α} (hc : c) (h : Tot g P) : Tot (fun k => if c then g k else f k) P := by
  simp only [if_pos hc]; exact h
theorem Tot.no {α : Type} {P : α → Prop} {c : Prop} [Decidable c] {g f : Nat → Option α} (hc : ¬ c) (h : Tot f P) : Tot (fun k => if c then g k else f k) P := by
  simp only [if_neg hc]; exact h
theorem Tot.ite {α : Type} {P : α → Prop} {c : Prop} [Decidable c] {g f : Nat → Option α} (h1 : c → Tot g P) (h2 : ¬ c → Tot f P) : Tot (fun k => if c then g k else f k) P := by
  by_cases hc : c
  · exact Tot.yes hc (h1 hc)
  · exact Tot.no hc (h2 hc)
theorem Tot.rounds {g : Nat → Option Bool} (h : Tot g (fun r => r = true)) : ∃ k, g k = some true := by
  obtain ⟨r, h1, rfl⟩ := h
  exact h1.rounds
theorem Tot.rounds0 {g : Option Bool} (h : Tot (fun _ => g) (fun r => r = true)) : g = some true := by
  obtain ⟨k, hk⟩ := h.rounds
  exact hk
/-- What a run answers, and how it was found. -/
theorem Tot.val {α : Type} {g : Nat → Option α} {a : α} (h : Ev g a) : Tot g (fun r => r = a) := ⟨a, h, rfl⟩
theorem Tot.ev {α : Type} {g : Nat → Option α} {a : α} (h : Tot g (fun r => r = a)) : Ev g a := by
  obtain ⟨r, h1, rfl⟩ := h
  exact h1
/-- A loop with a counter: 'Inv i s' at the head of round i, n rounds. -/
theorem Tot.loop {σ ρ : Type} {P : ρ → Prop} (F : Nat → Nat → σ → Option ρ) (n : Nat) (Inv : Nat → σ → Prop)
    (hstep : ∀ i s, i < n → Inv i s → (∀ s', Inv (i + 1) s' → Tot (fun k => F k (i + 1) s') P) → Tot (fun k => F k i s) P)
    (hend : ∀ s, Inv n s → Tot (fun k => F k n s) P) : ∀ i s, i ≤ n → Inv i s → Tot (fun k => F k i s) P := by
  have key : ∀ d i s, i + d = n → Inv i s → Tot (fun k => F k i s) P := by
    intro d
    induction d with
    | zero => intro i s hi h; obtain rfl : i = n := by omega
              exact hend s h
    | succ d ih => intro i s hi h; exact hstep i s (by omega) h (fun s' hs' => ih (i + 1) s' (by omega) hs')
  intro i s hi h
  exact key (n - i) i s (by omega) h
/-- A loop with a measure. -/
theorem Tot.meas {σ ρ : Type} {P : ρ → Prop} (F : Nat → σ → Option ρ) (Inv : σ → Prop) (m : σ → Nat)
    (hstep : ∀ s, Inv s → (∀ s', Inv s' → m s' < m s → Tot (fun k => F k s') P) → Tot (fun k => F k s) P) : ∀ s, Inv s → Tot (fun k => F k s) P := by
  have key : ∀ d s, m s < d → Inv s → Tot (fun k => F k s) P := by
    intro d
    induction d with
    | zero => intro s hd; omega
    | succ d ih => intro s hd h; exact hstep s h (fun s' hs' hm => ih s' (by omega) hs')
  intro s h
  exact key (m s + 1) s (by omega) h
theorem rdOf_at {α : Type} (d : α) (xs : List α) (i : Nat) (h : i < xs.length) : rdOf d xs (i : Int) = xs[i] := by
  unfold rdOf
  rw [List.getD_eq_getElem?_getD, Int.toNat_natCast, List.getElem?_eq_getElem h]
  rfl
theorem rd_at (xs : List Int) (i : Nat) (h : i < xs.length) : rd xs (i : Int) = xs[i] := by
  unfold rd
  rw [List.getD_eq_getElem?_getD, Int.toNat_natCast, List.getElem?_eq_getElem h]
  rfl
/-- A row that is filled from the left, element by element. -/
theorem fill_step {β : Type} (acc tgt : List β) (i : Nat) (hl : acc.length = tgt.length) (h : acc.take i = tgt.take i) (hi : i < tgt.length) : (acc.set i tgt[i]).take (i + 1) = tgt.take (i + 1) := by
  rw [List.take_succ_eq_append_getElem (by simpa [hl] using hi), List.take_succ_eq_append_getElem hi]
  rw [List.take_set_of_le (Nat.le_refl i), h]
  simp
/-- A copy: 'out[i] = c(a[i])' from 0 on. -/
theorem Tot.copy {β : Type} (F : Nat → List β → Int → Option (List β)) (tgt : List β) (z : β)
    (hstep : ∀ k acc (i : Nat) (h : i < tgt.length), acc.length = tgt.length → F (k + 1) acc (i : Int) = F k (acc.set i tgt[i]) ((i : Int) + 1))
    (hend : ∀ k acc, acc.length = tgt.length → F (k + 1) acc (tgt.length : Int) = some acc) : Tot (fun k => F k (List.replicate tgt.length z) 0) (fun r => r = tgt) := by
  have key : ∀ d (i : Nat) acc, i + d = tgt.length → acc.length = tgt.length → acc.take i = tgt.take i → Tot (fun k => F k acc (i : Int)) (fun r => r = tgt) := by
    intro d
    induction d with
    | zero =>
      intro i acc hi hl ht
      obtain rfl : i = tgt.length := by omega
      refine Tot.step (f := fun _ => some acc) (fun k => hend k acc hl) (Tot.ret _ ?_)
      rw [List.take_length, ← hl, List.take_length] at ht
      exact ht
    | succ d ih =>
      intro i acc hi hl ht
      have hlt : i < tgt.length := by omega
      refine Tot.step (fun k => hstep k acc i hlt hl) ?_
      have := ih (i + 1) (acc.set i tgt[i]) (by omega) (by simpa using hl) (fill_step acc tgt i hl ht hlt)
      simpa using this
  simpa using key tgt.length 0 (List.replicate tgt.length z) (by omega) (by simp) (by simp)
/-- A walk that only looks. -/
theorem Tot.look {ρ : Type} {r : ρ} (F : Nat → Int → Option ρ) (n : Nat) (hstep : ∀ k (i : Nat), i < n → F (k + 1) (i : Int) = F k ((i : Int) + 1)) (hend : ∀ k, F (k + 1) (n : Int) = some r) : Tot (fun k => F k 0) (fun q => q = r) := by
  have key : ∀ d (i : Nat), i + d = n → Tot (fun k => F k (i : Int)) (fun q => q = r) := by
    intro d
    induction d with
    | zero => intro i hi; obtain rfl : i = n := by omega
              exact Tot.step (f := fun _ => some r) (fun k => hend k) (Tot.ret _ rfl)
    | succ d ih => intro i hi; exact Tot.step (fun k => hstep k i (by omega)) (by simpa using ih (i + 1) (by omega))
  simpa using key n 0 (by omega)
/-- 'append' in a loop, element by element. -/
theorem Tot.collect {β : Type} (F : Nat → List β → Int → Option (List β)) (tgt : List β)
    (hstep : ∀ k (i : Nat) (h : i < tgt.length), F (k + 1) (tgt.take i) (i : Int) = F k (tgt.take i ++ [tgt[i]]) ((i : Int) + 1))
    (hend : ∀ k, F (k + 1) tgt (tgt.length : Int) = some tgt) : Tot (fun k => F k [] 0) (fun r => r = tgt) := by
  have key : ∀ d (i : Nat), i + d = tgt.length → Tot (fun k => F k (tgt.take i) (i : Int)) (fun r => r = tgt) := by
    intro d
    induction d with
    | zero =>
      intro i hi
      obtain rfl : i = tgt.length := by omega
      rw [List.take_length]
      exact Tot.step (f := fun _ => some tgt) (fun k => hend k) (Tot.ret _ rfl)
    | succ d ih =>
      intro i hi
      have hlt : i < tgt.length := by omega
      refine Tot.step (fun k => hstep k i hlt) ?_
      rw [← List.take_succ_eq_append_getElem hlt]
      simpa using ih (i + 1) (by omega)
  simpa using key tgt.length 0 (by omega)
end Go.Proofs.Ytooabmmnbifclaa.Gen
/- The reader of a code: what a pick tells. Conditions: the code's bytes are bytes, at most 2000 of them; the place is small. -/
namespace Go.Proofs.Ytooabmmnbifclaa.Pb
open Go.RowKit Go.Proofs.Ytooabmmnbifclaa.P Go.Proofs.Ytooabmmnbifclaa.Gen Go.Proofs.Ytooabmmnbifclaa.Base Go.Proofs.YtooabmmnbifclaaW.PrintWords Go.Proofs.YtooabmmnbifclaaW.PrintLast

theorem xor_ok (x y : Int) (hx : 0 ≤ x) (hx1 : x < 4611686018427387904) (hy : 0 ≤ y) (hy1 : y < 4611686018427387904) : 0 ≤ Go.bits .xor .i64 x y := by
  obtain ⟨a, rfl⟩ := Int.eq_ofNat_of_zero_le hx
  obtain ⟨b, rfl⟩ := Int.eq_ofNat_of_zero_le hy
  have ha : a < 2 ^ 62 := by have e : (2 : Nat) ^ 62 = 4611686018427387904 := by decide
                             omega
  have hb : b < 2 ^ 62 := by have e : (2 : Nat) ^ 62 = 4611686018427387904 := by decide
                             omega
  have ha' : a % 2 ^ 64 = a := Nat.mod_eq_of_lt (by omega)
  have hb' : b % 2 ^ 64 = b := Nat.mod_eq_of_lt (by omega)
  have hx := Nat.xor_lt_two_pow ha hb
  simp only [Go.bits]
  rw [show IntKind.i64.bits = 64 from rfl]
  rw [BitVec.toNat_xor, BitVec.ofInt_natCast, BitVec.ofInt_natCast, BitVec.toNat_ofNat, BitVec.toNat_ofNat, ha', hb', IntKind.wrap_i64]
  have e : (2 : Nat) ^ 62 = 4611686018427387904 := by decide
  omega
/-- The bytes of a code. -/
def Bytes (s : List Int) : Prop := s.length ≤ 2000 ∧ ∀ x ∈ s, 0 ≤ x ∧ x ≤ 255
theorem Bytes.rd {s : List Int} (h : Bytes s) (i : Int) : 0 ≤ rd s i ∧ rd s i ≤ 255 := by
  unfold Go.Proofs.YtooabmmnbifclaaW.PrintWords.rd
  rw [List.getD_eq_getElem?_getD]
  rcases Nat.lt_or_ge i.toNat s.length with hi | hi
  · rw [List.getElem?_eq_getElem hi]
    exact h.2 _ (List.getElem_mem hi)
  · rw [List.getElem?_eq_none hi]
    simp
theorem u8_wf {x : Int} (h : (Lit.int .u8 x).wf = true) : 0 ≤ x ∧ x ≤ 255 := by
  simp [Lit.wf, IntKind.min, IntKind.max, IntKind.bits, IntKind.signed] at h
  omega
theorem tmod_ok (a n : Int) (ha : 0 ≤ a) (hn : 1 ≤ n) : 0 ≤ Int.tmod a n ∧ Int.tmod a n < n := by
  rw [Int.tmod_eq_emod_of_nonneg ha]
  exact ⟨Int.emod_nonneg _ (by omega), Int.emod_lt_of_pos _ (by omega)⟩
theorem tdiv_ok (a n : Int) (ha : 0 ≤ a) (hn : 1 ≤ n) : 0 ≤ Int.tdiv a n ∧ Int.tdiv a n ≤ a := by
  rw [Int.tdiv_eq_ediv_of_nonneg ha]
  exact ⟨Int.ediv_nonneg ha (by omega), Int.ediv_le_self _ ha⟩
/-- One pick: at every number of rounds but 0. -/
theorem pick_at (k : Nat) (s : List Int) (p n : Int) (hs : Bytes s) (hp : 0 ≤ p) (hp2 : p ≤ 1000000000) :
    ∃ r, spec_l20Rd_pick.f (k + 1) s p n = some (r, p + 1) ∧ 0 ≤ r ∧ (1 ≤ n → r < n) := by
  unfold spec_l20Rd_pick.f
  rw [w64 (x := p + 1) (by omega) (by omega)]
  by_cases hn : n < 1
  · rw [if_pos hn]
    exact ⟨0, by simp [spec_l20Rd_pick.j0], Int.le_refl _, fun h => by omega⟩
  · rw [if_neg hn]
    by_cases h0 : (s.length : Int) = 0
    · refine ⟨0, ?_, Int.le_refl _, fun h => by omega⟩
      simp only [spec_l20Rd_pick.j0]
      rw [if_pos (by simpa using h0)]
    · simp only [spec_l20Rd_pick.j0]
      rw [if_neg (by simpa using h0)]
      have hl := hs.1
      rw [w64 (x := p + 1 - 1) (by omega) (by omega), show p + 1 - 1 = p by omega]
      by_cases h1 : p < (s.length : Int)
      · have hb := hs.rd p
        rw [if_pos h1, if_pos hp, if_neg (by omega), w64 (x := rd s p) (by omega) (by omega)]
        have ht := tmod_ok (rd s p) n hb.1 (by omega)
        exact ⟨_, rfl, ht.1, fun _ => ht.2⟩
      · rw [if_neg h1, if_neg h0]
        have m0 := tmod_ok p (s.length : Int) hp (by omega)
        rw [if_pos m0.1, if_pos m0.2]
        rw [w64 (x := p * 7) (by omega) (by omega), w64 (x := p * 7 + 3) (by omega) (by omega)]
        have m1 := tmod_ok (p * 7 + 3) (s.length : Int) (by omega) (by omega)
        rw [if_pos m1.1, if_pos m1.2, if_neg (by omega)]
        have b0 := hs.rd (Int.tmod p (s.length : Int))
        have b1 := hs.rd (Int.tmod (p * 7 + 3) (s.length : Int))
        have d0 := tdiv_ok p (s.length : Int) hp (by omega)
        generalize rd s (Int.tmod p (s.length : Int)) = x at b0 ⊢
        generalize rd s (Int.tmod (p * 7 + 3) (s.length : Int)) = y at b1 ⊢
        generalize Int.tdiv p (s.length : Int) = q at d0 ⊢
        rw [w64 (x := x) (by omega) (by omega), w64 (x := y) (by omega) (by omega), w64 (x := q) (by omega) (by omega)]
        rw [w64 (x := x * 131) (by omega) (by omega), w64 (x := y * 1117) (by omega) (by omega), w64 (x := p * 29) (by omega) (by omega), w64 (x := q * 53) (by omega) (by omega)]
        rw [w64 (x := x * 131 + y * 1117) (by omega) (by omega), w64 (x := x * 131 + y * 1117 + p * 29) (by omega) (by omega), w64 (x := x * 131 + y * 1117 + p * 29 + q * 53) (by omega) (by omega)]
        have e0 := tdiv_ok (x * 131 + y * 1117 + p * 29 + q * 53) 64 (by omega) (by omega)
        rw [w64 (x := Int.tdiv (x * 131 + y * 1117 + p * 29 + q * 53) 64) (by omega) (by omega)]
        have hx := xor_ok (x * 131 + y * 1117 + p * 29 + q * 53) (Int.tdiv (x * 131 + y * 1117 + p * 29 + q * 53) 64) (by omega) (by omega) e0.1 (by omega)
        have ht := tmod_ok _ n hx (by omega)
        exact ⟨_, rfl, ht.1, fun _ => ht.2⟩
theorem odd_at (k : Nat) (s : List Int) (p n : Int) (hs : Bytes s) (hp : 0 ≤ p) (hp2 : p ≤ 1000000000) :
    ∃ b q, spec_l20Rd_odd.f (k + 1) s p n = some (b, q) ∧ p ≤ q ∧ q ≤ p + 1 := by
  unfold spec_l20Rd_odd.f
  by_cases hn : n > 0
  · rw [if_pos hn]
    obtain ⟨r, hr, _⟩ := pick_at k s p n hs hp hp2
    rw [hr]
    exact ⟨_, _, rfl, by show p ≤ p + 1; omega, Int.le_refl _⟩
  · rw [if_neg hn]
    exact ⟨_, _, rfl, by omega, by omega⟩
theorem open_at (l : List Int) (hl : ∀ x ∈ l, (Lit.int .u8 x).wf = true) : ∃ s, spec_l20Open.f l = some (s, 0) ∧ Bytes s := by
  unfold spec_l20Open.f
  by_cases h : (l.length : Int) > 2000
  · rw [if_pos h, if_pos (by omega)]
    exact ⟨_, rfl, by rw [List.length_take]; omega, fun x hx => u8_wf (hl x (List.mem_of_mem_take hx))⟩
  · rw [if_neg h]
    exact ⟨_, rfl, by omega, fun x hx => u8_wf (hl x hx)⟩
/-- A place of the reader that is small. -/
def At (p q : Int) (c : Int) : Prop := p ≤ q ∧ q ≤ p + c
theorem pick_tot (s : List Int) (p n : Int) (hs : Bytes s) (hp : 0 ≤ p) (hp2 : p ≤ 1000000000) : Tot (fun k => spec_l20Rd_pick.f k s p n) (fun r => r.2 = p + 1 ∧ 0 ≤ r.1 ∧ (1 ≤ n → r.1 < n)) := by
  obtain ⟨r, hr, h0, h1⟩ := pick_at 0 s p n hs hp hp2
  refine ⟨(r, p + 1), ⟨1, fun k hk => ?_⟩, rfl, h0, h1⟩
  obtain ⟨j, rfl⟩ : ∃ j, k = j + 1 := ⟨k - 1, by omega⟩
  obtain ⟨r', hr', h0', h1'⟩ := pick_at j s p n hs hp hp2
  have hm := at_rounds (g := fun k => spec_l20Rd_pick.f k s p n) (fun k => spec_l20Rd_pick.mono _ _ _ k) (show 1 ≤ j + 1 by omega) hr
  exact hm
theorem odd_tot (s : List Int) (p n : Int) (hs : Bytes s) (hp : 0 ≤ p) (hp2 : p ≤ 1000000000) : Tot (fun k => spec_l20Rd_odd.f k s p n) (fun r => p ≤ r.2 ∧ r.2 ≤ p + 1) := by
  unfold spec_l20Rd_odd.f
  refine Tot.ite (fun _ => ?_) (fun _ => Tot.ret _ ⟨Int.le_refl _, by omega⟩)
  refine Tot.bind (pick_tot s p n hs hp hp2) ?_
  rintro ⟨a, q⟩ ⟨rfl, _, _⟩
  exact Tot.ret _ ⟨by show p ≤ p + 1; omega, Int.le_refl _⟩
theorem open_tot {β : Type} {Q : β → Prop} (l : List Int) (hl : ∀ x ∈ l, (Lit.int .u8 x).wf = true) {f : Nat → List Int × Int → Option β} (hf : ∀ s, Bytes s → Tot (fun k => f k (s, 0)) Q) : Tot (fun k => (spec_l20Open.f l).bind (f k)) Q := by
  obtain ⟨s, hs, hb⟩ := open_at l hl
  exact Tot.bind0 hs (hf s hb)
theorem some_bind {α β : Type} {Q : β → Prop} (a : α) {f : Nat → α → Option β} (h : Tot (fun k => f k a) Q) : Tot (fun k => (some a).bind (f k)) Q := h
theorem rd_mem {xs : List Int} {i : Int} (h0 : 0 ≤ i) (h1 : i < (xs.length : Int)) : rd xs i ∈ xs := by
  unfold Go.Proofs.YtooabmmnbifclaaW.PrintWords.rd
  have : i.toNat < xs.length := by omega
  rw [List.getD_eq_getElem?_getD, List.getElem?_eq_getElem this]
  exact List.getElem_mem this
end Go.Proofs.Ytooabmmnbifclaa.Pb
