/- The law FnNonPreemptiveSafe for every input, part 4 of its proof: what the program's functions answer, and the plain law. No condition. -/
import Derived.Test.YtkdfjomhichkoaaMFnNonPreemptiveSafe1
import Derived.Test.YtkdfjomhichkoaaMFnNonPreemptiveSafe2
import Derived.Test.YtkdfjomhichkoaaMFnNonPreemptiveSafe3
namespace Go.Proofs.Ytkdfjomhichkoaa.P
open Go.RowKit Go.Proofs.YtkdfjomhichkoaaW.PrintWords Go.Proofs.YtkdfjomhichkoaaW.PrintLast Go.Proofs.YtkdfjomhichkoaaW.PrintMore
attribute [local go_sem] max2_int min2_int max_two min_two max_three min_three max_four min_four
set_option linter.unusedVariables false
set_option linter.unusedSimpArgs false
def impl_release.f (a0_0 : Int) (a0_1 : Int) (a0_2 : Int) (a0_3 : Int) : Option (Int) := some a0_1
set_option maxHeartbeats 8000000 in
set_option maxRecDepth 100000 in
theorem impl_release.calls (a0_0 : Int) (a0_1 : Int) (a0_2 : Int) (a0_3 : Int) (r : Int) (w : World) (h : impl_release.f a0_0 a0_1 a0_2 a0_3 = some r) :
  Calls Try.prog 94 #[.agg #[.int .i64 a0_0, .int .i64 a0_1, .int .i64 a0_2, .int .i64 a0_3]] w fun e w' => e = .returned (.int .i64 r) ∧ Below w.heap.size w w' := by
 have hu34 := Try.underlying34
 have HB := za.mk (Below.refl w.heap.size w)
 have H : (some a0_1) = some r := h
 clear h
 obtain rfl := Option.some.inj H
 go_enter Try.func94, Try.ntmps94
 go_wp2_with (first | ((with_reducible refine zbj (N := 1) rfl ?_); refine zbr ?hg (N := 1) ?hd (cs := #[.int .i64 a0_0, .int .i64 a0_1, .int .i64 a0_2, .int .i64 a0_3]) (t := 34) ?hr ?_; (case hd => rfl); (case hg => rfl); (case hr => first | (go_simp; done) | (go_simp; rfl)); intro gb294 hg w2 hbox hb; have n0_ := za.mk (zo (Zq1 HB.out) hb); have n1_ := za.mk (hbox); have n2_ := za.mk ((by rw [hg]; exact (zu (Zq1 HB.out)) : w.heap.size ≤ gb294)); have n3_ := za.mk ((by rw [hg]; exact (zu (Zq1 HB.out)) : w.heap.size ≤ gb294)); clear HB; have HB := n0_; have BK294 := n1_; have GW294 := n2_; have GE294 := n3_; clear n0_ n1_ n2_ n3_; clear hb hbox hg; have hcz3_0 : w2.cell? ⟨gb294, 0, none⟩ = some (.int .i64 a0_0) := (zg BK294.out 0).trans rfl; have hcz3_1 : w2.cell? ⟨gb294, 1, none⟩ = some (.int .i64 a0_1) := (zg BK294.out 1).trans rfl; have hcz3_2 : w2.cell? ⟨gb294, 2, none⟩ = some (.int .i64 a0_2) := (zg BK294.out 2).trans rfl; have hcz3_3 : w2.cell? ⟨gb294, 3, none⟩ = some (.int .i64 a0_3) := (zg BK294.out 3).trans rfl; have hfz3_0 := zf BK294.out 0; have hfz3_1 := zf BK294.out 1; have hfz3_2 := zf BK294.out 2; have hfz3_3 := zf BK294.out 3))
 go_ret
 exact ⟨by first | rfl | (simp [zw, zx] <;> rfl) | (simp [*, zw, zx] <;> rfl), Zq3 HB.out GE294.out⟩
def legB (l : List TaskT) (js : List JobT) : Bool := if ordB l js = true then (if spcB l js = true then !(js.any (lateB l)) else false) else false
theorem ordOk_at {l : List TaskT} {js : List JobT} (h : ordB l js = true) (i : Nat) (hi : i < js.length) : inRng l (jrd js i) = true ∧ relOk (jrd js i) = true := by
  unfold ordB at h
  rw [Bool.and_eq_true] at h
  have := allB_true h.1 i hi
  unfold ordOk at this
  rw [Bool.and_eq_true, Bool.and_eq_true, Bool.and_eq_true] at this
  exact ⟨this.1.1.1, this.1.1.2⟩
def zcw.f (l0 : List S88) (l1 : List S34) : Option Bool := (zce.f l0).bind fun t => (if t = true then (if l0.length ≤ 1000000000 ∧ l1.length ≤ 1000000000 then (some (legB l0 l1)) else (none)) else (some false))
set_option maxHeartbeats 16000000 in
set_option maxRecDepth 100000 in
theorem zcw.calls (A0 : Option Addr) (c0 : Nat) (l0 : List S88) (A1 : Option Addr) (c1 : Nat) (l1 : List S34) (r : Bool) (w : World) (hr0 : Kd.C k88 w A0 l0.length l0) (hc0 : l0.length ≤ c0) (hr1 : Kd.C k34 w A1 l1.length l1) (hc1 : l1.length ≤ c1) (h : zcw.f l0 l1 = some r) :
    Calls Try.prog 48 #[.slice A0 l0.length c0, .slice A1 l1.length c1] w fun e w' => e = .returned (.bool r) ∧ Below w.heap.size w w' := by
  unfold zcw.f at h
  have hlen0 : l0.length ≤ 9223372036854775807 := hr0.2.1
  have HR0 := za.mk hr0
  have HC0 := za.mk hc0
  have HR1 := za.mk hr1
  clear hr0 hc0 hr1 hc1
  cases hs : zce.f l0 with
  | none => rw [hs] at h; simp at h
  | some t =>
    rw [hs] at h
    have HS := za.mk hs
    clear hs
    have B0 := za.mk (zbd (Below.refl w.heap.size w) (.cells #[.slice A0 l0.length c0] 23))
    cases t with
    | false =>
      simp at h
      subst h
      go_enter Try.func48, Try.ntmps48
      go_wp2_with (go_at_call 76; refine (zce.calls A0 c0 l0 false _ (Kd.zbq HR0.out B0.out) HC0.out HS.out).mono ?_; rintro e w1 ⟨rfl, hb⟩; have HB := za.mk (zo B0.out hb); clear hb)
      go_ret
      exact ⟨rfl, HB.out⟩
    | true =>
      simp only [Option.bind_some, if_true] at h
      by_cases hl : l0.length ≤ 1000000000 ∧ l1.length ≤ 1000000000
      · rw [if_pos hl] at h
        obtain rfl := Option.some.inj h
        clear h
        obtain ⟨hl0, hl1⟩ := hl
        have cellB : ∀ W, Below (w.alloc (.cells #[.slice A0 l0.length c0] 23)).heap.size (w.alloc (.cells #[.slice A0 l0.length c0] 23)) W → W.cell? ⟨w.heap.size, 0, none⟩ = some (.slice A0 l0.length c0) := fun W hb => (hb.cell (p := ⟨w.heap.size, 0, none⟩) (by simp)).trans (by simp)
        have CB := za.mk cellB
        clear cellB
        have HO := za.mk (fun (W1 : World) (hb1 : Below (w.alloc (.cells #[.slice A0 l0.length c0] 23)).heap.size (w.alloc (.cells #[.slice A0 l0.length c0] 23)) W1) =>
          ordered_calls 92 #[.pointer (some ⟨w.heap.size, 0, none⟩)] (enters_of Try.func92 (by kernel_rfl) rfl) l0 A1 c1 l1 hl1 hl0 W1
            (fun W a hb h0 h1 => (jl1_calls A0 c0 l0 ⟨w.heap.size, 0, none⟩ a h0 h1 W (CB.out W (zcb hb1 hb1.size hb)) (Kd.zbq (Kd.zbq HR0.out B0.out) (zcb hb1 hb1.size hb))).mono fun e w' hh => ⟨hh.1, hh.2.out⟩) (Kd.zbq (Kd.zbq HR1.out B0.out) hb1))
        have HP := za.mk (fun (hord : ordB l0 l1 = true) (W1 : World) (hb1 : Below (w.alloc (.cells #[.slice A0 l0.length c0] 23)).heap.size (w.alloc (.cells #[.slice A0 l0.length c0] 23)) W1) =>
          spaced_calls 94 95 #[.pointer (some ⟨w.heap.size, 0, none⟩)] (enters_of Try.func94 (by kernel_rfl) rfl) (enters_of Try.func95 (by kernel_rfl) rfl) (by decide) l0 A1 c1 l1 hl1
            (fun i hi => by have h1 := (ordOk_at hord i hi).1; unfold inRng at h1; have h1 := of_decide_eq_true h1; omega) (fun i hi => by have h1 := (ordOk_at hord i hi).2; unfold relOk at h1; exact of_decide_eq_true h1) hl0 W1
            (fun W j _ => (impl_release.calls j.f0 j.f1 j.f2 j.f3 _ W rfl).mono fun e w' hh => ⟨hh.1, hh.2⟩)
            (fun W a hb h0 h1 => (jl2_calls A0 c0 l0 ⟨w.heap.size, 0, none⟩ a h0 h1 W (CB.out W (zcb hb1 hb1.size hb)) (Kd.zbq (Kd.zbq HR0.out B0.out) (zcb hb1 hb1.size hb))).mono fun e w' hh => ⟨hh.1, hh.2.out⟩) (Kd.zbq (Kd.zbq HR1.out B0.out) hb1))
        have HL := za.mk (fun (hord : ordB l0 l1 = true) (W1 : World) (hb1 : Below (w.alloc (.cells #[.slice A0 l0.length c0] 23)).heap.size (w.alloc (.cells #[.slice A0 l0.length c0] 23)) W1) =>
          anyJob_calls (lateB l0) 97 #[.pointer (some ⟨w.heap.size, 0, none⟩)] (enters_of Try.func97 (by kernel_rfl) rfl) A1 c1 l1 W1
            (fun W x hx hb => by
              obtain ⟨i, hi, rfl⟩ := List.getElem_of_mem hx
              have h1 := (ordOk_at hord i hi).1
              have e : jrd l1 i = l1[i] := by unfold jrd ze; rw [List.getD_eq_getElem?_getD, Int.toNat_natCast, List.getElem?_eq_getElem hi]; rfl
              rw [e] at h1
              unfold inRng at h1
              have h1 := of_decide_eq_true h1
              exact jl3_calls A0 c0 l0 ⟨w.heap.size, 0, none⟩ l1[i] h1.1 (by omega) W (CB.out W (zcb hb1 hb1.size hb)) (Kd.zbq (Kd.zbq HR0.out B0.out) (zcb hb1 hb1.size hb))) (Kd.zbq (Kd.zbq HR1.out B0.out) hb1))
        unfold legB
        cases ho : ordB l0 l1 with
        | false =>
          rw [ho] at HO
          rw [if_neg (by simp)]
          clear ho HP HL
          go_enter Try.func48, Try.ntmps48
          go_wp2_with (first
            | (go_at_call 76; refine (zce.calls A0 c0 l0 true _ (Kd.zbq HR0.out B0.out) HC0.out HS.out).mono ?_; rintro e w1 ⟨rfl, hb⟩; have HB := za.mk hb; have hcell := CB.out w1 hb; clear hb)
            | (go_at_call 91; refine (HO.out _ HB.out).mono ?_; rintro e w2 ⟨rfl, hb⟩; have HB2 := za.mk (zcb HB.out HB.out.size hb); have hcell2 := CB.out w2 HB2.out; clear hb))
          go_ret
          exact ⟨rfl, zcb B0.out B0.out.size HB2.out⟩
        | true =>
          rw [ho] at HO
          rw [if_pos rfl]
          have HP2 := za.mk (HP.out ho)
          have HL2 := za.mk (HL.out ho)
          clear ho HP HL
          cases hp : spcB l0 l1 with
          | false =>
            rw [hp] at HP2
            rw [if_neg (by simp)]
            clear hp
            go_enter Try.func48, Try.ntmps48
            go_wp2_with (first
              | (go_at_call 76; refine (zce.calls A0 c0 l0 true _ (Kd.zbq HR0.out B0.out) HC0.out HS.out).mono ?_; rintro e w1 ⟨rfl, hb⟩; have HB := za.mk hb; have hcell := CB.out w1 hb; clear hb)
              | (go_at_call 91; refine (HO.out _ HB.out).mono ?_; rintro e w2 ⟨rfl, hb⟩; have HB2 := za.mk (zcb HB.out HB.out.size hb); have hcell2 := CB.out w2 HB2.out; clear hb)
              | (go_at_call 93; refine (HP2.out _ HB2.out).mono ?_; rintro e w3 ⟨rfl, hb⟩; have HB3 := za.mk (zcb HB2.out HB2.out.size hb); have hcell3 := CB.out w3 HB3.out; clear hb))
            go_ret
            exact ⟨rfl, zcb B0.out B0.out.size HB3.out⟩
          | true =>
            rw [hp] at HP2
            rw [if_pos rfl]
            clear hp
            obtain ⟨v, hv⟩ : ∃ v, l1.any (lateB l0) = v := ⟨_, rfl⟩
            rw [hv] at HL2 ⊢
            clear hv
            go_enter Try.func48, Try.ntmps48
            go_wp2_with (first
              | (go_at_call 76; refine (zce.calls A0 c0 l0 true _ (Kd.zbq HR0.out B0.out) HC0.out HS.out).mono ?_; rintro e w1 ⟨rfl, hb⟩; have HB := za.mk hb; have hcell := CB.out w1 hb; clear hb)
              | (go_at_call 91; refine (HO.out _ HB.out).mono ?_; rintro e w2 ⟨rfl, hb⟩; have HB2 := za.mk (zcb HB.out HB.out.size hb); have hcell2 := CB.out w2 HB2.out; clear hb)
              | (go_at_call 93; refine (HP2.out _ HB2.out).mono ?_; rintro e w3 ⟨rfl, hb⟩; have HB3 := za.mk (zcb HB2.out HB2.out.size hb); have hcell3 := CB.out w3 HB3.out; clear hb)
              | (go_at_call 96; refine (HL2.out _ HB3.out).mono ?_; rintro e w4 ⟨rfl, hb⟩; have HB4 := za.mk (zcb HB3.out HB3.out.size hb); clear hb))
            go_ret
            exact ⟨rfl, zcb B0.out B0.out.size HB4.out⟩
      · rw [if_neg hl] at h
        cases h
def zb6.f (l0 : List S88) (l1 : List S34) : Option (List Int × List Int) := (zcw.f l0 l1).bind fun t => (if t = true then (if l1.length ≤ 1000 then (some (simR (npD l1) l1)) else (none)) else (some ([], [])))
set_option maxHeartbeats 8000000 in
set_option maxRecDepth 100000 in
theorem zb6.calls (A0 : Option Addr) (c0 : Nat) (l0 : List S88) (A1 : Option Addr) (c1 : Nat) (l1 : List S34) (r1 : List Int) (r2 : List Int) (w : World) (hr0 : Kd.C k88 w A0 l0.length l0) (hc0 : l0.length ≤ c0) (hr1 : Kd.C k34 w A1 l1.length l1) (hc1 : l1.length ≤ c1) (h : zb6.f l0 l1 = some (r1, r2)) :
    Calls Try.prog 12 #[.slice A0 l0.length c0, .slice A1 l1.length c1] w fun e w' => ∃ v0_ v1_ : Value, e = .returned (.agg #[v0_, v1_]) ∧ Kd.R (Kd.int .i64) 3 w' w.heap.size (fun k_ => some k_ ≠ (v1_ : Value).ownBlock) v0_ r1 ∧ Kd.R (Kd.int .i64) 3 w' w.heap.size (fun k_ => some k_ ≠ (v0_ : Value).ownBlock) v1_ r2 ∧ Below w.heap.size w w' := by
  unfold zb6.f at h
  have HR0 := za.mk hr0
  have HC0 := za.mk hc0
  have HR1 := za.mk hr1
  have HC1 := za.mk hc1
  clear hr0 hc0 hr1 hc1
  cases hs : zcw.f l0 l1 with
  | none => rw [hs] at h; simp at h
  | some t =>
    rw [hs] at h
    have HS := za.mk hs
    clear hs
    have B0 := za.mk (zbd (Below.refl w.heap.size w) (.cells #[.slice none 0 0, .slice none 0 0] 29))
    have K0 := za.mk (blk_new w (.cells #[.slice none 0 0, .slice none 0 0] 29))
    cases t with
    | false =>
      simp at h
      obtain ⟨rfl, rfl⟩ := h
      go_enter Try.func12, Try.ntmps12
      go_wp2_with (go_at_call 48; refine (zcw.calls A0 c0 l0 A1 c1 l1 false _ (Kd.zbq HR0.out B0.out) HC0.out (Kd.zbq HR1.out B0.out) HC1.out HS.out).mono ?_; rintro e w1 ⟨rfl, hb⟩; have BK1 := zbn K0.out hb; have r0 := (zg BK1 0); have r1 := (zg BK1 1); have f0 := zf BK1 0; have f1 := zf BK1 1; have BK := za.mk BK1; have HB := za.mk (zo B0.out hb); clear hb BK1)
      refine bodyPost_ret (results_cell_row rfl _ _ w.heap.size 29 #[.slice none 0 0, .slice none 0 0] (0, 0) _ rfl (by first | exact BK.out | (refine zb2 (cs := #[.slice none 0 0, .slice none 0 0]) ?_ 1 _ rfl; refine zb2 (cs := #[.slice none 0 0, .slice none 0 0]) ?_ 0 _ rfl; exact BK.out)) Try.underlying29 rfl (by kernel_rfl)) rfl ?_
      exact ⟨_, _, rfl, Kd.R_nil _ _ _ _ _, Kd.R_nil _ _ _ _ _, by first | exact HB.out | exact (HB.out.setCell (Nat.le_refl _) _).setCell (Nat.le_refl _) _⟩
    | true =>
      simp only [Option.bind_some, if_true] at h
      by_cases hl : l1.length ≤ 1000
      · rw [if_pos hl] at h
        have h := Option.some.inj h
        have e1 := congrArg Prod.fst h
        have e2 := congrArg Prod.snd h
        simp only at e1 e2
        subst e1 e2
        clear h
        have S0 := za.mk (show w.heap.size < (w.alloc (.cells #[.slice none 0 0, .slice none 0 0] 29)).heap.size by simp)
        have HSM := za.mk (fun (W : World) (hb1 : Below (w.alloc (.cells #[.slice none 0 0, .slice none 0 0] 29)).heap.size (w.alloc (.cells #[.slice none 0 0, .slice none 0 0] 29)) W) => simulate_calls (npD l1) 50 #[] #[] (enters_of Try.func50 (by kernel_rfl) rfl) A1 c1 l1 W (Kd.zbq (Kd.zbq HR1.out B0.out) hb1) hl (npD_rng l1)
          (fun W2 g D cd dn t htl hb hM => np_calls g A1 c1 l1 D cd dn (t : Int) W2 hM))
        go_enter Try.func12, Try.ntmps12
        go_wp2_with (first
          | (go_at_call 48; refine (zcw.calls A0 c0 l0 A1 c1 l1 true _ (Kd.zbq HR0.out B0.out) HC0.out (Kd.zbq HR1.out B0.out) HC1.out HS.out).mono ?_; rintro e w1 ⟨rfl, hb⟩; have HB := za.mk hb; have BK1 := za.mk (zbn K0.out hb); clear hb)
          | (go_at_call 49; refine (HSM.out w1 HB.out).mono ?_; rintro e w2 ⟨v0, v1, rfl, hR0, hR1, hb⟩; obtain ⟨X0, y0, ev⟩ := Kd.zbv hR0; subst ev; obtain ⟨X1, y1, ev⟩ := Kd.zbv hR1; subst ev; have H0 := za.mk hR0; have H1 := za.mk hR1; have S1 := za.mk (Nat.lt_of_lt_of_le S0.out HB.out.size); have HB2 := za.mk (zcb B0.out B0.out.size (zcb HB.out HB.out.size hb)); have BK2 := zbn BK1.out hb; have r0 := (zg BK2 0); have r1 := (zg BK2 1); have f0 := zf BK2 0; have f1 := zf BK2 1; have BK := za.mk BK2; clear hR0 hR1 hb BK2))
        refine bodyPost_ret (results_cell_row rfl _ _ w.heap.size 29 #[.slice X0 (simR (npD l1) l1).1.length y0, .slice X1 (simR (npD l1) l1).2.length y1] (0, 0) _ rfl (by refine zb2 (cs := #[.slice X0 (simR (npD l1) l1).1.length y0, .slice none 0 0]) ?_ 1 _ rfl; refine zb2 (cs := #[.slice none 0 0, .slice none 0 0]) ?_ 0 _ rfl; exact BK.out) Try.underlying29 rfl (by kernel_rfl)) rfl ?_
        exact ⟨_, _, rfl, Kd.zca (Kd.zbb (R_cells2 S1.out H0.out _ _) (fun k hk => hk.2)) (Nat.le_of_lt S1.out), Kd.zca (Kd.zbb (R_cells2 S1.out H1.out _ _) (fun k hk => hk.2)) (Nat.le_of_lt S1.out), (HB2.out.setCell (Nat.le_refl _) _).setCell (Nat.le_refl _) _⟩
      · rw [if_neg hl] at h
        cases h
def zbt.l0 : Nat → List Int → List Int → Int → Option (Bool)
 | 0, _, _, _ => none
 | k + 1, x0, x1, x5 => if x5 < (x0.length : Int) then (if 0 ≤ x5 then (if x5 < (x1.length : Int) then (if (rd x0 x5) = (rd x1 x5) then (zbt.l0 k x0 x1 (wrap64 (x5 + 1))) else (some false)) else (none)) else (none)) else (some true)
def zbt.f (k : Nat) (l0 : List Int) (l1 : List Int) : Option (Bool) := if (l0.length : Int) = (l1.length : Int) then (zbt.l0 k l0 l1 0) else (some false)
set_option maxHeartbeats 8000000 in
set_option maxRecDepth 100000 in
theorem zbt.calls (k : Nat) (A0 : Option Addr) (c0 : Nat) (l0 : List Int) (A1 : Option Addr) (c1 : Nat) (l1 : List Int) (r : Bool) (w : World) (hr0 : Kd.C (Kd.int .i64) w A0 l0.length l0) (hc0 : l0.length ≤ c0) (hr1 : Kd.C (Kd.int .i64) w A1 l1.length l1) (hc1 : l1.length ≤ c1) (h : zbt.f k l0 l1 = some r) :
  Calls Try.prog 55 #[.slice A0 l0.length c0, .slice A1 l1.length c1] w fun e w' => e = .returned (.bool r) ∧ zby w w' := by
 have HR0 := za.mk hr0
 have HC0 := za.mk hc0
 clear hr0 hc0
 have HR1 := za.mk hr1
 have HC1 := za.mk hc1
 clear hr1 hc1
 have H : (if (l0.length : Int) = (l1.length : Int) then (zbt.l0 k l0 l1 0) else (some false)) = some r := h
 clear h
 by_cases c3 : (l0.length : Int) = (l1.length : Int)
 ·rw [if_pos c3] at H
  have c3b0 : ((l0.length : Int) == (l1.length : Int)) = true := beq_iff_eq.mpr c3
  have c3b1 : ((l0.length : Int) != (l1.length : Int)) = false := bne_eq_false_iff_eq.mpr c3
  have c3b2 : (l0.length == l1.length) = true := by first | simpa using c3 | (simp at c3 ⊢; omega)
  clear c3
  have H' := za.mk H
  clear H
  go_enter Try.func55, Try.ntmps55
  go_wp2
  repeat (go_quiet (fail); try go_wp2)
  go_loopg [5] k (fun kq v5 w' => ∃ (x5_1 : Int), v5 = .int .i64 x5_1 ∧ za (zbt.l0 kq l0 l1 x5_1 = some r) ∧ za (kq ≤ k) ∧ zby w w')
  case atStart => exact ⟨(0), Zrs, H', ⟨Nat.le_refl _⟩, by repeat (first | exact zby.refl _ | apply zby.step)⟩
  case round =>
   clear H'
   try clear c1
   try clear p2
   try clear c3
   try clear c3b0
   try clear c3b1
   try clear c3b2
   obtain ⟨x5_1, rfl, HA, HK1, ⟨m1, rfl⟩⟩ := hrel
   cases gk with
   | zero => exact absurd HA.out (by simp [zbt.l0])
   | succ k1 =>
    have H := HA.out
    clear HA
    simp only [zbt.l0] at H
    by_cases c4 : x5_1 < (l0.length : Int)
    ·rw [if_pos c4] at H
     have c4b0 : decide (x5_1 < (l0.length : Int)) = true := decide_eq_true c4
     clear c4
     by_cases c5 : 0 ≤ x5_1
     ·rw [if_pos c5] at H
      have c5b0 : decide (0 ≤ x5_1) = true := decide_eq_true c5
      clear c5
      by_cases c6 : x5_1 < (l1.length : Int)
      ·rw [if_pos c6] at H
       have c6b0 : decide (x5_1 < (l1.length : Int)) = true := decide_eq_true c6
       clear c6
       by_cases c7 : (rd l0 x5_1) = (rd l1 x5_1)
       ·rw [if_pos c7] at H
        have c7b0 : ((rd l0 x5_1) == (rd l1 x5_1)) = true := beq_iff_eq.mpr c7
        have c7b1 : ((rd l0 x5_1) != (rd l1 x5_1)) = false := bne_eq_false_iff_eq.mpr c7
        clear c7
        have H' := za.mk H
        clear H
        have p306 : 0 ≤ (x5_1 : Int) := of_decide_eq_true Zas
        have q306 : x5_1 < (l0.length : Int) := of_decide_eq_true Zas
        obtain ⟨ad306, e306, hx306_0⟩ := Kd.zcf HR0.out x5_1 p306 q306
        cases e306
        replace p306 := eq_true p306
        replace q306 := eq_true q306
        have p307 : 0 ≤ (x5_1 : Int) := of_decide_eq_true Zas
        have q307 : x5_1 < (l1.length : Int) := of_decide_eq_true Zas
        obtain ⟨ad307, e307, hx307_0⟩ := Kd.zcf HR1.out x5_1 p307 q307
        cases e307
        replace p307 := eq_true p307
        replace q307 := eq_true q307
        go_wp2
        repeat (go_quiet (fail); try go_wp2)
        go_roundg k1
        case measure => have := HK1.out; omega
        case rel => exact ⟨(wrap64 (x5_1 + 1)), Zrs, H', ⟨by have := HK1.out; omega⟩, by repeat (first | exact zby.refl _ | apply zby.step)⟩
       ·rw [if_neg c7] at H
        have c7b0 : ((rd l0 x5_1) == (rd l1 x5_1)) = false := beq_eq_false_iff_ne.mpr c7
        have c7b1 : ((rd l0 x5_1) != (rd l1 x5_1)) = true := bne_iff_ne.mpr c7
        obtain rfl := Option.some.inj H
        have p306 : 0 ≤ (x5_1 : Int) := of_decide_eq_true Zas
        have q306 : x5_1 < (l0.length : Int) := of_decide_eq_true Zas
        obtain ⟨ad306, e306, hx306_0⟩ := Kd.zcf HR0.out x5_1 p306 q306
        cases e306
        replace p306 := eq_true p306
        replace q306 := eq_true q306
        have p307 : 0 ≤ (x5_1 : Int) := of_decide_eq_true Zas
        have q307 : x5_1 < (l1.length : Int) := of_decide_eq_true Zas
        obtain ⟨ad307, e307, hx307_0⟩ := Kd.zcf HR1.out x5_1 p307 q307
        cases e307
        replace p307 := eq_true p307
        replace q307 := eq_true q307
        go_wp2
        repeat (go_quiet (fail); try go_wp2)
        go_ret
        exact ⟨by first | rfl | (simp; done) | (simp [*]; done), by repeat (first | exact zby.refl _ | apply zby.step)⟩
      ·rw [if_neg c6] at H
       exact absurd H (by simp)
     ·rw [if_neg c5] at H
      exact absurd H (by simp)
    ·rw [if_neg c4] at H
     have c4b0 : decide (x5_1 < (l0.length : Int)) = false := decide_eq_false c4
     clear c4
     obtain rfl := Option.some.inj H
     go_wp2
     repeat (go_quiet (fail); try go_wp2)
     go_ret
     exact ⟨by first | rfl | (simp; done) | (simp [*]; done), by repeat (first | exact zby.refl _ | apply zby.step)⟩
 ·rw [if_neg c3] at H
  have c3b0 : ((l0.length : Int) == (l1.length : Int)) = false := beq_eq_false_iff_ne.mpr c3
  have c3b1 : ((l0.length : Int) != (l1.length : Int)) = true := bne_iff_ne.mpr c3
  have c3b2 : (l0.length == l1.length) = false := by first | simpa using c3 | (simp at c3 ⊢; omega)
  obtain rfl := Option.some.inj H
  go_enter Try.func55, Try.ntmps55
  go_wp2
  repeat (go_quiet (fail); try go_wp2)
  go_ret
  exact ⟨by first | rfl | (simp; done) | (simp [*]; done), by repeat (first | exact zby.refl _ | apply zby.step)⟩
def zcc.f (k : Nat) (l0_0 : List Int) (l0_1 : List Int) (l1_0 : List Int) (l1_1 : List Int) : Option (Bool) := (zbt.f k l0_0 l1_0).bind fun t310 => (if t310 = true then ((zbt.f k l0_1 l1_1).bind fun t311 => (some t311)) else (some false))
set_option maxHeartbeats 8000000 in
set_option maxRecDepth 100000 in
theorem zcc.calls (k : Nat) (A0_0 : Option Addr) (c0_0 : Nat) (l0_0 : List Int) (A0_1 : Option Addr) (c0_1 : Nat) (l0_1 : List Int) (A1_0 : Option Addr) (c1_0 : Nat) (l1_0 : List Int) (A1_1 : Option Addr) (c1_1 : Nat) (l1_1 : List Int) (r : Bool) (w : World) (hr0_0 : Kd.C (Kd.int .i64) w A0_0 l0_0.length l0_0) (hc0_0 : l0_0.length ≤ c0_0) (hr0_1 : Kd.C (Kd.int .i64) w A0_1 l0_1.length l0_1) (hc0_1 : l0_1.length ≤ c0_1) (hr1_0 : Kd.C (Kd.int .i64) w A1_0 l1_0.length l1_0) (hc1_0 : l1_0.length ≤ c1_0) (hr1_1 : Kd.C (Kd.int .i64) w A1_1 l1_1.length l1_1) (hc1_1 : l1_1.length ≤ c1_1) (h : zcc.f k l0_0 l0_1 l1_0 l1_1 = some r) :
  Calls Try.prog 13 #[.agg #[.slice A0_0 l0_0.length c0_0, .slice A0_1 l0_1.length c0_1], .agg #[.slice A1_0 l1_0.length c1_0, .slice A1_1 l1_1.length c1_1]] w fun e w' => e = .returned (.bool r) ∧ Below w.heap.size w w' := by
 have hu29 := Try.underlying29
 have HR0_0 := za.mk hr0_0
 have HC0_0 := za.mk hc0_0
 clear hr0_0 hc0_0
 have HR0_1 := za.mk hr0_1
 have HC0_1 := za.mk hc0_1
 clear hr0_1 hc0_1
 have HR1_0 := za.mk hr1_0
 have HC1_0 := za.mk hc1_0
 clear hr1_0 hc1_0
 have HR1_1 := za.mk hr1_1
 have HC1_1 := za.mk hc1_1
 clear hr1_1 hc1_1
 have HB := za.mk (Below.refl w.heap.size w)
 have H : ((zbt.f k l0_0 l1_0).bind fun t310 => (if t310 = true then ((zbt.f k l0_1 l1_1).bind fun t311 => (some t311)) else (some false))) = some r := h
 clear h
 replace H := Option.bind_eq_some_iff.mp H
 obtain ⟨t310, A30, H⟩ := H
 replace H : (if t310 = true then ((zbt.f k l0_1 l1_1).bind fun t311 => (some t311)) else (some false)) = some r := H
 have A3 := za.mk A30
 clear A30
 by_cases c4 : t310 = true
 ·subst c4
  have H1 : ((zbt.f k l0_1 l1_1).bind fun t311 => (some t311)) = some r := by rw [if_pos rfl] at H; exact H
  clear H
  have H := H1
  clear H1
  replace H := Option.bind_eq_some_iff.mp H
  obtain ⟨t311, A50, H⟩ := H
  replace H : (some t311) = some r := H
  have A5 := za.mk A50
  clear A50
  obtain rfl := Option.some.inj H
  go_enter Try.func13, Try.ntmps13
  go_wp2_with (first | ((with_reducible refine zbj (N := 2) rfl ?_); refine zbr ?hg (N := 2) ?hd (cs := #[.slice A0_0 l0_0.length c0_0, .slice A0_1 l0_1.length c0_1]) (t := 29) ?hr ?_; (case hd => rfl); (case hg => rfl); (case hr => first | (go_simp; done) | (go_simp; rfl)); intro gb308 hg w6 hbox hb; have n0_ := za.mk (zo (Zq1 HB.out) hb); have n1_ := za.mk (hbox); have n2_ := za.mk ((by rw [hg]; exact (zu (Zq1 HB.out)) : w.heap.size ≤ gb308)); have n3_ := za.mk ((by rw [hg]; exact (zu (Zq1 HB.out)) : w.heap.size ≤ gb308)); clear HB; have HB := n0_; have BK308 := n1_; have GW308 := n2_; have GE308 := n3_; clear n0_ n1_ n2_ n3_; clear hb hbox hg) | ((with_reducible refine zbj (N := 3) rfl ?_); refine zbr ?hg (N := 3) ?hd (cs := #[.slice A1_0 l1_0.length c1_0, .slice A1_1 l1_1.length c1_1]) (t := 29) ?hr ?_; (case hd => rfl); (case hg => rfl); (case hr => first | (go_simp; done) | (go_simp; rfl)); intro gb309 hg w7 hbox hb; have n0_ := za.mk (zbn (g := gb308) (o := .cells #[.slice A0_0 l0_0.length c0_0, .slice A0_1 l0_1.length c0_1] 29 (0, 0)) (Zq2 BK308.out) hb); have n1_ := za.mk (zo (Zq3 HB.out GE308.out) hb); have n2_ := za.mk (hbox); have n3_ := za.mk ((by rw [hg]; exact (zu (Zq3 HB.out GE308.out)) : w.heap.size ≤ gb309)); have n4_ := za.mk ((by rw [hg]; exact (zu (Zq3 HB.out GE308.out)) : w.heap.size ≤ gb309)); have n5_ := za.mk ((by rw [hg]; exact Nat.ne_of_lt (zcz (g := gb308) (o := .cells #[.slice A0_0 l0_0.length c0_0, .slice A0_1 l0_1.length c0_1] 29 (0, 0)) (Zq2 BK308.out)) : gb308 ≠ gb309)); have n6_ := za.mk ((by rw [hg]; exact Nat.ne_of_gt (zcz (g := gb308) (o := .cells #[.slice A0_0 l0_0.length c0_0, .slice A0_1 l0_1.length c0_1] 29 (0, 0)) (Zq2 BK308.out)) : gb309 ≠ gb308)); clear BK308; clear HB; have BK308 := n0_; have HB := n1_; have BK309 := n2_; have GW309 := n3_; have GE309 := n4_; have NB308_309 := n5_; have NB309_308 := n6_; clear n0_ n1_ n2_ n3_ n4_ n5_ n6_; clear hb hbox hg; have hnb8 := NB308_309.out; have hnc8 := NB309_308.out; have hcz9_0 : w7.cell? ⟨gb308, 0, none⟩ = some (.slice A0_0 l0_0.length c0_0) := (zg BK308.out 0).trans rfl; have hcz9_1 : w7.cell? ⟨gb308, 1, none⟩ = some (.slice A0_1 l0_1.length c0_1) := (zg BK308.out 1).trans rfl; have hfz9_0 := zf BK308.out 0; have hfz9_1 := zf BK308.out 1; have hcz10_0 : w7.cell? ⟨gb309, 0, none⟩ = some (.slice A1_0 l1_0.length c1_0) := (zg BK309.out 0).trans rfl; have hcz10_1 : w7.cell? ⟨gb309, 1, none⟩ = some (.slice A1_1 l1_1.length c1_1) := (zg BK309.out 1).trans rfl; have hfz10_0 := zf BK309.out 0; have hfz10_1 := zf BK309.out 1) | ((with_reducible refine zba (f := 55) rfl ?_); refine zbx (some 9) rfl rfl Try.func55 (by kernel_rfl) rfl #[.slice A0_0 l0_0.length c0_0, .slice A1_0 l1_0.length c1_0] rfl Zmt ?_; (with_reducible refine (zbt.calls k _ _ l0_0 _ _ l1_0 true _ ?side1 ?side2 ?side3 ?side4 A3.out).mono ?_); (case side1 => exact Zq15 (Kd.zbq HR0_0.out HB.out)); (case side2 => exact HC0_0.out); (case side3 => exact Zq15 (Kd.zbq HR1_0.out HB.out)); (case side4 => exact HC1_0.out); rintro e w' ⟨rfl, ⟨nd, rfl⟩⟩; refine ⟨_, rfl, ?_⟩) | (go_at_call 55; (with_reducible refine (zbt.calls k _ _ l0_1 _ _ l1_1 t311 _ ?side1 ?side2 ?side3 ?side4 A5.out).mono ?_); (case side1 => repeat (first | exact (Kd.zbq HR0_1.out (Zq9 HB.out GE308.out GE309.out)) | (with_reducible refine Kd.C_alloc ?_ _) | (with_reducible refine Kd.C_drewN ?_ _) | (with_reducible refine Kd.C_drew ?_))); (case side2 => exact HC0_1.out); (case side3 => repeat (first | exact (Kd.zbq HR1_1.out (Zq9 HB.out GE308.out GE309.out)) | (with_reducible refine Kd.C_alloc ?_ _) | (with_reducible refine Kd.C_drewN ?_ _) | (with_reducible refine Kd.C_drew ?_))); (case side4 => exact HC1_1.out); rintro e w' ⟨rfl, ⟨nd, rfl⟩⟩))
  go_ret
  exact ⟨by first | rfl | (simp [zw, zx] <;> rfl) | (simp [*, zw, zx] <;> rfl), Zq9 HB.out GE308.out GE309.out⟩
 ·replace c4 := Bool.eq_false_iff.mpr c4
  subst c4
  have H1 : (some false) = some r := by rw [if_neg (show ¬ (false = true) by decide)] at H; exact H
  clear H
  have H := H1
  clear H1
  obtain rfl := Option.some.inj H
  go_enter Try.func13, Try.ntmps13
  go_wp2_with (first | ((with_reducible refine zbj (N := 2) rfl ?_); refine zbr ?hg (N := 2) ?hd (cs := #[.slice A0_0 l0_0.length c0_0, .slice A0_1 l0_1.length c0_1]) (t := 29) ?hr ?_; (case hd => rfl); (case hg => rfl); (case hr => first | (go_simp; done) | (go_simp; rfl)); intro gb308 hg w11 hbox hb; have n0_ := za.mk (zo (Zq1 HB.out) hb); have n1_ := za.mk (hbox); have n2_ := za.mk ((by rw [hg]; exact (zu (Zq1 HB.out)) : w.heap.size ≤ gb308)); have n3_ := za.mk ((by rw [hg]; exact (zu (Zq1 HB.out)) : w.heap.size ≤ gb308)); clear HB; have HB := n0_; have BK308 := n1_; have GW308 := n2_; have GE308 := n3_; clear n0_ n1_ n2_ n3_; clear hb hbox hg) | ((with_reducible refine zbj (N := 3) rfl ?_); refine zbr ?hg (N := 3) ?hd (cs := #[.slice A1_0 l1_0.length c1_0, .slice A1_1 l1_1.length c1_1]) (t := 29) ?hr ?_; (case hd => rfl); (case hg => rfl); (case hr => first | (go_simp; done) | (go_simp; rfl)); intro gb309 hg w12 hbox hb; have n0_ := za.mk (zbn (g := gb308) (o := .cells #[.slice A0_0 l0_0.length c0_0, .slice A0_1 l0_1.length c0_1] 29 (0, 0)) (Zq2 BK308.out) hb); have n1_ := za.mk (zo (Zq3 HB.out GE308.out) hb); have n2_ := za.mk (hbox); have n3_ := za.mk ((by rw [hg]; exact (zu (Zq3 HB.out GE308.out)) : w.heap.size ≤ gb309)); have n4_ := za.mk ((by rw [hg]; exact (zu (Zq3 HB.out GE308.out)) : w.heap.size ≤ gb309)); have n5_ := za.mk ((by rw [hg]; exact Nat.ne_of_lt (zcz (g := gb308) (o := .cells #[.slice A0_0 l0_0.length c0_0, .slice A0_1 l0_1.length c0_1] 29 (0, 0)) (Zq2 BK308.out)) : gb308 ≠ gb309)); have n6_ := za.mk ((by rw [hg]; exact Nat.ne_of_gt (zcz (g := gb308) (o := .cells #[.slice A0_0 l0_0.length c0_0, .slice A0_1 l0_1.length c0_1] 29 (0, 0)) (Zq2 BK308.out)) : gb309 ≠ gb308)); clear BK308; clear HB; have BK308 := n0_; have HB := n1_; have BK309 := n2_; have GW309 := n3_; have GE309 := n4_; have NB308_309 := n5_; have NB309_308 := n6_; clear n0_ n1_ n2_ n3_ n4_ n5_ n6_; clear hb hbox hg; have hnb13 := NB308_309.out; have hnc13 := NB309_308.out; have hcz14_0 : w12.cell? ⟨gb308, 0, none⟩ = some (.slice A0_0 l0_0.length c0_0) := (zg BK308.out 0).trans rfl; have hcz14_1 : w12.cell? ⟨gb308, 1, none⟩ = some (.slice A0_1 l0_1.length c0_1) := (zg BK308.out 1).trans rfl; have hfz14_0 := zf BK308.out 0; have hfz14_1 := zf BK308.out 1; have hcz15_0 : w12.cell? ⟨gb309, 0, none⟩ = some (.slice A1_0 l1_0.length c1_0) := (zg BK309.out 0).trans rfl; have hcz15_1 : w12.cell? ⟨gb309, 1, none⟩ = some (.slice A1_1 l1_1.length c1_1) := (zg BK309.out 1).trans rfl; have hfz15_0 := zf BK309.out 0; have hfz15_1 := zf BK309.out 1) | ((with_reducible refine zba (f := 55) rfl ?_); refine zbx (some 9) rfl rfl Try.func55 (by kernel_rfl) rfl #[.slice A0_0 l0_0.length c0_0, .slice A1_0 l1_0.length c1_0] rfl Zmt ?_; (with_reducible refine (zbt.calls k _ _ l0_0 _ _ l1_0 false _ ?side1 ?side2 ?side3 ?side4 A3.out).mono ?_); (case side1 => exact Zq15 (Kd.zbq HR0_0.out HB.out)); (case side2 => exact HC0_0.out); (case side3 => exact Zq15 (Kd.zbq HR1_0.out HB.out)); (case side4 => exact HC1_0.out); rintro e w' ⟨rfl, ⟨nd, rfl⟩⟩; refine ⟨_, rfl, ?_⟩))
  go_ret
  exact ⟨by first | rfl | (simp [zw, zx] <;> rfl) | (simp [*, zw, zx] <;> rfl), Zq9 HB.out GE308.out GE309.out⟩
mutual
def zn.j0 : Nat → List (S88) → List (S34) → Bool → Option (Bool)
 | 0, _, _, _ => none
 | k + 1, x0, x1, x16 => if x16 = true then (some false) else (if 0 ≤ (x0.length : Int) then (if ((x0.length : Int) : Int).toNat ≤ 35184372088832 then (zn.l0 k x0 x1 (List.replicate ((x0.length : Int) : Int).toNat 0) 0) else (none)) else (none))
def zn.l0 : Nat → List (S88) → List (S34) → List Int → Int → Option (Bool)
 | 0, _, _, _, _ => none
 | k + 1, x0, x1, x5, x6 => if x6 < (x1.length : Int) then (if 0 ≤ x6 then ((zbs.f ((ze x1 x6).f0) 0 (wrap64 ((x0.length : Int) - 1))).bind fun t318 => (if t318 = true then ((zbs.f ((ze x1 x6).f1) 0 119).bind fun t319 => (zn.j2 k x0 x1 x5 x6 (!t319) ((ze x1 x6).f0) ((ze x1 x6).f1) ((ze x1 x6).f2) ((ze x1 x6).f3))) else (zn.j2 k x0 x1 x5 x6 true ((ze x1 x6).f0) ((ze x1 x6).f1) ((ze x1 x6).f2) ((ze x1 x6).f3)))) else (none)) else (some true)
def zn.j2 : Nat → List (S88) → List (S34) → List Int → Int → Bool → Int → Int → Int → Int → Option (Bool)
 | 0, _, _, _, _, _, _, _, _, _ => none
 | k + 1, x0, x1, x5, x6, x42, x318000, x318001, x318002, x318003 => if x42 = true then (some false) else (if 0 ≤ x318000 then (if x318000 < (x0.length : Int) then (if x318000 < (x5.length : Int) then (if x318001 < (rd x5 x318000) then (zn.j3 k x0 x1 x5 x6 true x318000 x318001 x318002 x318003 ((zl x0 x318000).f0) ((zl x0 x318000).f1) ((zl x0 x318000).f2)) else (if x318002 = (wrap64 (x318001 + ((zl x0 x318000).f1))) then ((zbs.f x318003 1 ((zl x0 x318000).f0)).bind fun t323 => (zn.j3 k x0 x1 x5 x6 (!t323) x318000 x318001 x318002 x318003 ((zl x0 x318000).f0) ((zl x0 x318000).f1) ((zl x0 x318000).f2))) else (zn.j3 k x0 x1 x5 x6 true x318000 x318001 x318002 x318003 ((zl x0 x318000).f0) ((zl x0 x318000).f1) ((zl x0 x318000).f2)))) else (none)) else (none)) else (none))
def zn.j3 : Nat → List (S88) → List (S34) → List Int → Int → Bool → Int → Int → Int → Int → Int → Int → Int → Option (Bool)
 | 0, _, _, _, _, _, _, _, _, _, _, _, _ => none
 | k + 1, x0, x1, x5, x6, x73, x318000, x318001, x318002, x318003, x322000, x322001, x322002 => if x73 = true then (some false) else (if x6 > 0 then (if 0 ≤ (wrap64 (x6 - 1)) then (if (wrap64 (x6 - 1)) < (x1.length : Int) then (if ((ze x1 (wrap64 (x6 - 1))).f1) > x318001 then (some false) else (if ((ze x1 (wrap64 (x6 - 1))).f1) = x318001 then (if ((ze x1 (wrap64 (x6 - 1))).f0) ≥ x318000 then (some false) else (if 0 ≤ x318000 then (if x318000 < (x5.length : Int) then (zn.l0 k x0 x1 (x5.set (x318000 : Int).toNat (wrap64 (x318001 + x322002))) (wrap64 (x6 + 1))) else (none)) else (none))) else (if 0 ≤ x318000 then (if x318000 < (x5.length : Int) then (zn.l0 k x0 x1 (x5.set (x318000 : Int).toNat (wrap64 (x318001 + x322002))) (wrap64 (x6 + 1))) else (none)) else (none)))) else (none)) else (none)) else (if 0 ≤ x318000 then (if x318000 < (x5.length : Int) then (zn.l0 k x0 x1 (x5.set (x318000 : Int).toNat (wrap64 (x318001 + x322002))) (wrap64 (x6 + 1))) else (none)) else (none)))
end
def zn.f (k : Nat) (l0 : List (S88)) (l1 : List (S34)) : Option (Bool) := (zbk.f k l0).bind fun t312 => (if t312 = true then (zn.j0 k l0 l1 (decide ((l1.length : Int) > 60))) else (zn.j0 k l0 l1 true))
set_option maxHeartbeats 8000000 in
set_option maxRecDepth 100000 in
theorem zn.calls (k : Nat) (A0 : Option Addr) (c0 : Nat) (l0 : List (S88)) (A1 : Option Addr) (c1 : Nat) (l1 : List (S34)) (r : Bool) (w : World) (hr0 : Kd.C k88 w A0 l0.length l0) (hc0 : l0.length ≤ c0) (hr1 : Kd.C k34 w A1 l1.length l1) (hc1 : l1.length ≤ c1) (h : zn.f k l0 l1 = some r) :
  Calls Try.prog 56 #[.slice A0 l0.length c0, .slice A1 l1.length c1] w fun e w' => e = .returned (.bool r) ∧ Below w.heap.size w w' := by
 have hu34 := Try.underlying34
 have hu88 := Try.underlying88
 have HR0 := za.mk hr0
 have HC0 := za.mk hc0
 clear hr0 hc0
 have HR1 := za.mk hr1
 have HC1 := za.mk hc1
 clear hr1 hc1
 have HB := za.mk (Below.refl w.heap.size w)
 have H : ((zbk.f k l0).bind fun t312 => (if t312 = true then (zn.j0 k l0 l1 (decide ((l1.length : Int) > 60))) else (zn.j0 k l0 l1 true))) = some r := h
 clear h
 have HC3 := za.mk H
 clear H
 go_enter Try.func56, Try.ntmps56
 go_upto_region 1 with (fail)
 repeat (go_quiet (fail); go_upto_region 1 with (fail))
 go_cut [16] (fun v16 wc => ∃ (kq : Nat) (x16_2 : Bool), v16 = .bool x16_2 ∧ za (zn.j0 kq l0 l1 x16_2 = some r) ∧ za (kq ≤ k) ∧ za (Below w.heap.size w wc))
 case first =>
  have H := HC3.out
  clear HC3
  replace H := Option.bind_eq_some_iff.mp H
  obtain ⟨t312, A40, H⟩ := H
  replace H : (if t312 = true then (zn.j0 k l0 l1 (decide ((l1.length : Int) > 60))) else (zn.j0 k l0 l1 true)) = some r := H
  have A4 := za.mk A40
  clear A40
  by_cases c5 : t312 = true
  ·subst c5
   have H1 : (zn.j0 k l0 l1 (decide ((l1.length : Int) > 60))) = some r := by rw [if_pos rfl] at H; exact H
   clear H
   have H := H1
   clear H1
   have H' := za.mk H
   clear H
   go_wp2_with (first | (go_at_call 46; (with_reducible refine (zbk.calls k _ _ l0 true _ ?side1 ?side2 A4.out).mono ?_); (case side1 => exact Zq15 (Kd.zbq HR0.out HB.out)); (case side2 => exact HC0.out); rintro e w6 ⟨rfl, hb⟩; have n0_ := za.mk (zo (Zq1 HB.out) hb); clear HB; have HB := n0_; clear n0_; (try clear hb); (try clear hb2); (try clear hk); (try clear hi)))
   repeat (go_quiet (first | (go_at_call 46; (with_reducible refine (zbk.calls k _ _ l0 true _ ?side1 ?side2 A4.out).mono ?_); (case side1 => exact Zq15 (Kd.zbq HR0.out HB.out)); (case side2 => exact HC0.out); rintro e w6 ⟨rfl, hb⟩; have n0_ := za.mk (zo (Zq1 HB.out) hb); clear HB; have HB := n0_; clear n0_; (try clear hb); (try clear hb2); (try clear hk); (try clear hi))); try go_wp2_with (first | (go_at_call 46; (with_reducible refine (zbk.calls k _ _ l0 true _ ?side1 ?side2 A4.out).mono ?_); (case side1 => exact Zq15 (Kd.zbq HR0.out HB.out)); (case side2 => exact HC0.out); rintro e w6 ⟨rfl, hb⟩; have n0_ := za.mk (zo (Zq1 HB.out) hb); clear HB; have HB := n0_; clear n0_; (try clear hb); (try clear hb2); (try clear hk); (try clear hi))))
   go_meet
   case rel => exact ⟨_, (decide ((l1.length : Int) > 60)), Zrs, H', ⟨by first | omega | exact Nat.le_refl _⟩, ⟨Zq1 HB.out⟩⟩
  ·replace c5 := Bool.eq_false_iff.mpr c5
   subst c5
   have H1 : (zn.j0 k l0 l1 true) = some r := by rw [if_neg (show ¬ (false = true) by decide)] at H; exact H
   clear H
   have H := H1
   clear H1
   have H' := za.mk H
   clear H
   go_wp2_with (first | (go_at_call 46; (with_reducible refine (zbk.calls k _ _ l0 false _ ?side1 ?side2 A4.out).mono ?_); (case side1 => exact Zq15 (Kd.zbq HR0.out HB.out)); (case side2 => exact HC0.out); rintro e w7 ⟨rfl, hb⟩; have n0_ := za.mk (zo (Zq1 HB.out) hb); clear HB; have HB := n0_; clear n0_; (try clear hb); (try clear hb2); (try clear hk); (try clear hi)))
   repeat (go_quiet (first | (go_at_call 46; (with_reducible refine (zbk.calls k _ _ l0 false _ ?side1 ?side2 A4.out).mono ?_); (case side1 => exact Zq15 (Kd.zbq HR0.out HB.out)); (case side2 => exact HC0.out); rintro e w7 ⟨rfl, hb⟩; have n0_ := za.mk (zo (Zq1 HB.out) hb); clear HB; have HB := n0_; clear n0_; (try clear hb); (try clear hb2); (try clear hk); (try clear hi))); try go_wp2_with (first | (go_at_call 46; (with_reducible refine (zbk.calls k _ _ l0 false _ ?side1 ?side2 A4.out).mono ?_); (case side1 => exact Zq15 (Kd.zbq HR0.out HB.out)); (case side2 => exact HC0.out); rintro e w7 ⟨rfl, hb⟩; have n0_ := za.mk (zo (Zq1 HB.out) hb); clear HB; have HB := n0_; clear n0_; (try clear hb); (try clear hb2); (try clear hk); (try clear hi))))
   go_meet
   case rel => exact ⟨_, (true), Zrs, H', ⟨by first | omega | exact Nat.le_refl _⟩, ⟨Zq1 HB.out⟩⟩
 case rest =>
  clear HC3
  try clear c1
  try clear p2
  try clear c5
  obtain ⟨kq, x16_2, rfl, HA, HJ2, HB⟩ := hcut
  cases kq with
  | zero => exact absurd HA.out (by simp [zn.j0])
  | succ kj2 =>
   have H := HA.out
   clear HA
   simp only [zn.j0] at H
   by_cases c8 : x16_2 = true
   ·subst c8
    have H1 : (some false) = some r := by rw [if_pos rfl] at H; exact H
    clear H
    have H := H1
    clear H1
    obtain rfl := Option.some.inj H
    go_wp2
    repeat (go_quiet (fail); try go_wp2)
    go_ret
    exact ⟨by first | rfl | (simp [zw, zx] <;> rfl) | (simp [*, zw, zx] <;> rfl), Zq1 HB.out⟩
   ·replace c8 := Bool.eq_false_iff.mpr c8
    subst c8
    have H1 : (if 0 ≤ (l0.length : Int) then (if ((l0.length : Int) : Int).toNat ≤ 35184372088832 then (zn.l0 kj2 l0 l1 (List.replicate ((l0.length : Int) : Int).toNat 0) 0) else (none)) else (none)) = some r := by rw [if_neg (show ¬ (false = true) by decide)] at H; exact H
    clear H
    have H := H1
    clear H1
    by_cases c9 : 0 ≤ (l0.length : Int)
    ·rw [if_pos c9] at H
     have c9b0 := eq_true c9
     have c9b1 : decide (0 ≤ (l0.length : Int)) = true := decide_eq_true c9
     clear c9
     by_cases c10 : ((l0.length : Int) : Int).toNat ≤ 35184372088832
     ·rw [if_pos c10] at H
      have c10b0 := eq_true c10
      have c10b1 : decide (((l0.length : Int) : Int).toNat ≤ 35184372088832) = true := decide_eq_true c10
      clear c10
      obtain ⟨y313, hy313⟩ : ∃ y_ : List Int, y_ = (List.replicate ((l0.length : Int) : Int).toNat 0) := ⟨_, rfl⟩
      replace H : (zn.l0 kj2 l0 l1 y313 0) = some r := by first | (rw [hy313]; with_reducible exact H) | (have H2_ := (Option.bind_some _ _).symm.trans H; rw [hy313]; with_reducible exact H2_) | (have H2_ := (Option.bind_some _ _).symm.trans H; with_reducible exact H2_) | with_reducible exact H | (rw [hy313]; exact H) | exact H
      have Ny313 := za.mk hy313
      clear hy313
      have H' := za.mk H
      clear H
      go_wp2_with (first | ((with_reducible refine zbj (N := 19) rfl ?_); (try (refine zcn (by rfl) ?_; dsimp only)); refine Kd.R_make (Kd.int .i64) _ 3 rfl (N := 19) rfl 27 _ _ rfl (l0.length : Int) rfl rfl Try.underlying27 (.int .i64 0) 8 info3 rfl (by decide) (by omega) 0 (ok := fun _ => True) (okp := fun _ => True) rfl (fun _ hk => hk) trivial (of_decide_eq_true Zas) (Nat.le_trans (Nat.mul_le_mul_right _ (of_decide_eq_true Zas : (l0.length : Int).toNat ≤ 35184372088832)) (by omega)) (Below.refl _ _) (Nat.le_refl _) ?_; intro v314 w11 ho12 hb hg_ hnew_; clear hg_ hnew_; (first | rw [← Ny313.out] at ho12 | (simp only [Int.reduceToNat] at ho12; rw [← Ny313.out] at ho12)); have n0_ := za.mk (Kd.zca ho12 (zu (Zq1 HB.out))); have n1_ := za.mk (zo (Zq1 HB.out) hb); clear HB; have HO315 := n0_; have HB := n1_; clear n0_ n1_; clear hb ho12))
      repeat (go_quiet (first | ((with_reducible refine zbj (N := 19) rfl ?_); (try (refine zcn (by rfl) ?_; dsimp only)); refine Kd.R_make (Kd.int .i64) _ 3 rfl (N := 19) rfl 27 _ _ rfl (l0.length : Int) rfl rfl Try.underlying27 (.int .i64 0) 8 info3 rfl (by decide) (by omega) 0 (ok := fun _ => True) (okp := fun _ => True) rfl (fun _ hk => hk) trivial (of_decide_eq_true Zas) (Nat.le_trans (Nat.mul_le_mul_right _ (of_decide_eq_true Zas : (l0.length : Int).toNat ≤ 35184372088832)) (by omega)) (Below.refl _ _) (Nat.le_refl _) ?_; intro v314 w11 ho12 hb hg_ hnew_; clear hg_ hnew_; (first | rw [← Ny313.out] at ho12 | (simp only [Int.reduceToNat] at ho12; rw [← Ny313.out] at ho12)); have n0_ := za.mk (Kd.zca ho12 (zu (Zq1 HB.out))); have n1_ := za.mk (zo (Zq1 HB.out) hb); clear HB; have HO315 := n0_; have HB := n1_; clear n0_ n1_; clear hb ho12)); try go_wp2_with (first | ((with_reducible refine zbj (N := 19) rfl ?_); (try (refine zcn (by rfl) ?_; dsimp only)); refine Kd.R_make (Kd.int .i64) _ 3 rfl (N := 19) rfl 27 _ _ rfl (l0.length : Int) rfl rfl Try.underlying27 (.int .i64 0) 8 info3 rfl (by decide) (by omega) 0 (ok := fun _ => True) (okp := fun _ => True) rfl (fun _ hk => hk) trivial (of_decide_eq_true Zas) (Nat.le_trans (Nat.mul_le_mul_right _ (of_decide_eq_true Zas : (l0.length : Int).toNat ≤ 35184372088832)) (by omega)) (Below.refl _ _) (Nat.le_refl _) ?_; intro v314 w11 ho12 hb hg_ hnew_; clear hg_ hnew_; (first | rw [← Ny313.out] at ho12 | (simp only [Int.reduceToNat] at ho12; rw [← Ny313.out] at ho12)); have n0_ := za.mk (Kd.zca ho12 (zu (Zq1 HB.out))); have n1_ := za.mk (zo (Zq1 HB.out) hb); clear HB; have HO315 := n0_; have HB := n1_; clear n0_ n1_; clear hb ho12)))
      go_loopg [6] kj2 (fun kq v6 w' => ∃ (x5_2 : List Int) (x6_2 : Int), v6 = .int .i64 x6_2 ∧ za (zn.l0 kq l0 l1 x5_2 x6_2 = some r) ∧ za (kq ≤ kj2) ∧ za (Kd.R (Kd.int .i64) 3 w' w.heap.size (fun _ => True) v314 x5_2) ∧ za (Below w.heap.size w w'))
      case atStart => exact ⟨(y313), (0), Zrs, H', ⟨Nat.le_refl _⟩, ⟨Zq11 HO315.out⟩, ⟨Zq1 HB.out⟩⟩
      case round =>
       clear H'
       try clear c1
       try clear p2
       try clear c5
       try clear c8
       try clear c9
       try clear c9b0
       try clear c9b1
       try clear c10
       try clear c10b0
       try clear c10b1
       try clear p2
       obtain ⟨x5_2, x6_2, rfl, HA, HK2, HO_5, HB⟩ := hrel
       cases gk with
       | zero => exact absurd HA.out (by simp [zn.l0])
       | succ k2 =>
        have H := HA.out
        clear HA
        simp only [zn.l0] at H
        by_cases c13 : x6_2 < (l1.length : Int)
        ·rw [if_pos c13] at H
         have c13b0 : decide (x6_2 < (l1.length : Int)) = true := decide_eq_true c13
         clear c13
         by_cases c14 : 0 ≤ x6_2
         ·rw [if_pos c14] at H
          have c14b0 : decide (0 ≤ x6_2) = true := decide_eq_true c14
          clear c14
          have HC15 := za.mk H
          clear H
          have p316 : 0 ≤ (x6_2 : Int) := of_decide_eq_true Zas
          have q316 : x6_2 < (l1.length : Int) := of_decide_eq_true Zas
          obtain ⟨ad316, e316, hx316_0, hx316_1, hx316_2, hx316_3⟩ := zda HR1.out x6_2 p316 q316
          cases e316
          replace hx316_0 := (HB.out.cell (World.block_lt_of_cell? w _ hx316_0)).trans hx316_0
          replace hx316_1 := (HB.out.cell (World.block_lt_of_cell? w _ hx316_1)).trans hx316_1
          replace hx316_2 := (HB.out.cell (World.block_lt_of_cell? w _ hx316_2)).trans hx316_2
          replace hx316_3 := (HB.out.cell (World.block_lt_of_cell? w _ hx316_3)).trans hx316_3
          replace p316 := eq_true p316
          replace q316 := eq_true q316
          go_upto_region 8 with (first | ((with_reducible refine zbj (N := 7) rfl ?_); (try (refine zcn (by rfl) ?_; dsimp only)); refine zbr ?hg (N := 7) ?hd (cs := #[.int .i64 0, .int .i64 0, .int .i64 0, .int .i64 0]) (t := 34) ?hr ?_; (case hd => rfl); (case hg => rfl); (case hr => first | (go_simp; done) | (go_simp; rfl)); intro gb317 hg w16 hbox hb; have n0_ := za.mk (Kd.zcx (Zq11 HO_5.out) hb); have n1_ := za.mk (zo (Zq1 HB.out) hb); have n2_ := za.mk (hbox); have n3_ := za.mk ((by rw [hg]; exact (zu (Zq1 HB.out)) : w.heap.size ≤ gb317)); have n4_ := za.mk ((by rw [hg]; exact (zu (Zq1 HB.out)) : w.heap.size ≤ gb317)); clear HO_5; clear HB; have HO_5 := n0_; have HB := n1_; have BK317 := n2_; have GW317 := n3_; have GE317 := n4_; clear n0_ n1_ n2_ n3_ n4_; clear hb hbox hg; have hcz17_0 : w16.cell? ⟨gb317, 0, none⟩ = some (.int .i64 0) := (zg BK317.out 0).trans rfl; have hcz17_1 : w16.cell? ⟨gb317, 1, none⟩ = some (.int .i64 0) := (zg BK317.out 1).trans rfl; have hcz17_2 : w16.cell? ⟨gb317, 2, none⟩ = some (.int .i64 0) := (zg BK317.out 2).trans rfl; have hcz17_3 : w16.cell? ⟨gb317, 3, none⟩ = some (.int .i64 0) := (zg BK317.out 3).trans rfl; have hfz17_0 := zf BK317.out 0; have hfz17_1 := zf BK317.out 1; have hfz17_2 := zf BK317.out 2; have hfz17_3 := zf BK317.out 3))
          repeat (go_quiet (first | ((with_reducible refine zbj (N := 7) rfl ?_); (try (refine zcn (by rfl) ?_; dsimp only)); refine zbr ?hg (N := 7) ?hd (cs := #[.int .i64 0, .int .i64 0, .int .i64 0, .int .i64 0]) (t := 34) ?hr ?_; (case hd => rfl); (case hg => rfl); (case hr => first | (go_simp; done) | (go_simp; rfl)); intro gb317 hg w16 hbox hb; have n0_ := za.mk (Kd.zcx (Zq11 HO_5.out) hb); have n1_ := za.mk (zo (Zq1 HB.out) hb); have n2_ := za.mk (hbox); have n3_ := za.mk ((by rw [hg]; exact (zu (Zq1 HB.out)) : w.heap.size ≤ gb317)); have n4_ := za.mk ((by rw [hg]; exact (zu (Zq1 HB.out)) : w.heap.size ≤ gb317)); clear HO_5; clear HB; have HO_5 := n0_; have HB := n1_; have BK317 := n2_; have GW317 := n3_; have GE317 := n4_; clear n0_ n1_ n2_ n3_ n4_; clear hb hbox hg; have hcz17_0 : w16.cell? ⟨gb317, 0, none⟩ = some (.int .i64 0) := (zg BK317.out 0).trans rfl; have hcz17_1 : w16.cell? ⟨gb317, 1, none⟩ = some (.int .i64 0) := (zg BK317.out 1).trans rfl; have hcz17_2 : w16.cell? ⟨gb317, 2, none⟩ = some (.int .i64 0) := (zg BK317.out 2).trans rfl; have hcz17_3 : w16.cell? ⟨gb317, 3, none⟩ = some (.int .i64 0) := (zg BK317.out 3).trans rfl; have hfz17_0 := zf BK317.out 0; have hfz17_1 := zf BK317.out 1; have hfz17_2 := zf BK317.out 2; have hfz17_3 := zf BK317.out 3)); go_upto_region 8 with (first | ((with_reducible refine zbj (N := 7) rfl ?_); (try (refine zcn (by rfl) ?_; dsimp only)); refine zbr ?hg (N := 7) ?hd (cs := #[.int .i64 0, .int .i64 0, .int .i64 0, .int .i64 0]) (t := 34) ?hr ?_; (case hd => rfl); (case hg => rfl); (case hr => first | (go_simp; done) | (go_simp; rfl)); intro gb317 hg w16 hbox hb; have n0_ := za.mk (Kd.zcx (Zq11 HO_5.out) hb); have n1_ := za.mk (zo (Zq1 HB.out) hb); have n2_ := za.mk (hbox); have n3_ := za.mk ((by rw [hg]; exact (zu (Zq1 HB.out)) : w.heap.size ≤ gb317)); have n4_ := za.mk ((by rw [hg]; exact (zu (Zq1 HB.out)) : w.heap.size ≤ gb317)); clear HO_5; clear HB; have HO_5 := n0_; have HB := n1_; have BK317 := n2_; have GW317 := n3_; have GE317 := n4_; clear n0_ n1_ n2_ n3_ n4_; clear hb hbox hg; have hcz17_0 : w16.cell? ⟨gb317, 0, none⟩ = some (.int .i64 0) := (zg BK317.out 0).trans rfl; have hcz17_1 : w16.cell? ⟨gb317, 1, none⟩ = some (.int .i64 0) := (zg BK317.out 1).trans rfl; have hcz17_2 : w16.cell? ⟨gb317, 2, none⟩ = some (.int .i64 0) := (zg BK317.out 2).trans rfl; have hcz17_3 : w16.cell? ⟨gb317, 3, none⟩ = some (.int .i64 0) := (zg BK317.out 3).trans rfl; have hfz17_0 := zf BK317.out 0; have hfz17_1 := zf BK317.out 1; have hfz17_2 := zf BK317.out 2; have hfz17_3 := zf BK317.out 3)))
          (try simp only [Act.put, List.setIfInBounds_toArray, List.set_cons_zero, List.set_cons_succ])
          go_cut [42] (fun v42 wc => ∃ (kq : Nat) (x42_14 : Bool), v42 = .bool x42_14 ∧ za (zn.j2 kq l0 l1 x5_2 x6_2 x42_14 ((ze l1 x6_2).f0) ((ze l1 x6_2).f1) ((ze l1 x6_2).f2) ((ze l1 x6_2).f3) = some r) ∧ za (kq ≤ k2) ∧ za (Kd.R (Kd.int .i64) 3 wc w.heap.size (fun _ => True) v314 x5_2) ∧ za (wc.heap[gb317]? = some (.cells #[.int .i64 ((ze l1 x6_2).f0), .int .i64 ((ze l1 x6_2).f1), .int .i64 ((ze l1 x6_2).f2), .int .i64 ((ze l1 x6_2).f3)] 34 (0, 0))) ∧ za (Below w.heap.size w wc))
          case first =>
           have H := HC15.out
           clear HC15
           replace H := Option.bind_eq_some_iff.mp H
           obtain ⟨t318, A180, H⟩ := H
           replace H : (if t318 = true then ((zbs.f ((ze l1 x6_2).f1) 0 119).bind fun t319 => (zn.j2 k2 l0 l1 x5_2 x6_2 (!t319) ((ze l1 x6_2).f0) ((ze l1 x6_2).f1) ((ze l1 x6_2).f2) ((ze l1 x6_2).f3))) else (zn.j2 k2 l0 l1 x5_2 x6_2 true ((ze l1 x6_2).f0) ((ze l1 x6_2).f1) ((ze l1 x6_2).f2) ((ze l1 x6_2).f3))) = some r := H
           have A18 := za.mk A180
           clear A180
           by_cases c19 : t318 = true
           ·subst c19
            have H1 : ((zbs.f ((ze l1 x6_2).f1) 0 119).bind fun t319 => (zn.j2 k2 l0 l1 x5_2 x6_2 (!t319) ((ze l1 x6_2).f0) ((ze l1 x6_2).f1) ((ze l1 x6_2).f2) ((ze l1 x6_2).f3))) = some r := by rw [if_pos rfl] at H; exact H
            clear H
            have H := H1
            clear H1
            replace H := Option.bind_eq_some_iff.mp H
            obtain ⟨t319, A200, H⟩ := H
            replace H : (zn.j2 k2 l0 l1 x5_2 x6_2 (!t319) ((ze l1 x6_2).f0) ((ze l1 x6_2).f1) ((ze l1 x6_2).f2) ((ze l1 x6_2).f3)) = some r := H
            have A20 := za.mk A200
            clear A200
            have H' := za.mk H
            clear H
            have hcz21_0 : w16.cell? ⟨gb317, 0, none⟩ = some (.int .i64 0) := (zg BK317.out 0).trans rfl
            have hcz21_1 : w16.cell? ⟨gb317, 1, none⟩ = some (.int .i64 0) := (zg BK317.out 1).trans rfl
            have hcz21_2 : w16.cell? ⟨gb317, 2, none⟩ = some (.int .i64 0) := (zg BK317.out 2).trans rfl
            have hcz21_3 : w16.cell? ⟨gb317, 3, none⟩ = some (.int .i64 0) := (zg BK317.out 3).trans rfl
            have hfz21_0 := zf BK317.out 0
            have hfz21_1 := zf BK317.out 1
            have hfz21_2 := zf BK317.out 2
            have hfz21_3 := zf BK317.out 3
            go_wp2_with (first | (go_at_call 102; (with_reducible refine (zbs.calls ((ze l1 x6_2).f0) 0 (wrap64 ((l0.length : Int) - 1)) true _ A18.out).mono ?_); rintro e w' ⟨rfl, ⟨nd, rfl⟩⟩; (try first | exact ⟨rfl, _, World.drewN_drewN _ _ _⟩ | exact ⟨rfl, _, Eq.trans (World.drewN_drewN _ _ _) (congrArg (World.drewN _) (Nat.add_assoc _ _ _))⟩)) | (go_at_call 102; (with_reducible refine (zbs.calls ((ze l1 x6_2).f1) 0 119 t319 _ A20.out).mono ?_); rintro e w' ⟨rfl, ⟨nd, rfl⟩⟩; (try first | exact ⟨rfl, _, World.drewN_drewN _ _ _⟩ | exact ⟨rfl, _, Eq.trans (World.drewN_drewN _ _ _) (congrArg (World.drewN _) (Nat.add_assoc _ _ _))⟩)))
            repeat (go_quiet (first | (go_at_call 102; (with_reducible refine (zbs.calls ((ze l1 x6_2).f0) 0 (wrap64 ((l0.length : Int) - 1)) true _ A18.out).mono ?_); rintro e w' ⟨rfl, ⟨nd, rfl⟩⟩; (try first | exact ⟨rfl, _, World.drewN_drewN _ _ _⟩ | exact ⟨rfl, _, Eq.trans (World.drewN_drewN _ _ _) (congrArg (World.drewN _) (Nat.add_assoc _ _ _))⟩)) | (go_at_call 102; (with_reducible refine (zbs.calls ((ze l1 x6_2).f1) 0 119 t319 _ A20.out).mono ?_); rintro e w' ⟨rfl, ⟨nd, rfl⟩⟩; (try first | exact ⟨rfl, _, World.drewN_drewN _ _ _⟩ | exact ⟨rfl, _, Eq.trans (World.drewN_drewN _ _ _) (congrArg (World.drewN _) (Nat.add_assoc _ _ _))⟩))); try go_wp2_with (first | (go_at_call 102; (with_reducible refine (zbs.calls ((ze l1 x6_2).f0) 0 (wrap64 ((l0.length : Int) - 1)) true _ A18.out).mono ?_); rintro e w' ⟨rfl, ⟨nd, rfl⟩⟩; (try first | exact ⟨rfl, _, World.drewN_drewN _ _ _⟩ | exact ⟨rfl, _, Eq.trans (World.drewN_drewN _ _ _) (congrArg (World.drewN _) (Nat.add_assoc _ _ _))⟩)) | (go_at_call 102; (with_reducible refine (zbs.calls ((ze l1 x6_2).f1) 0 119 t319 _ A20.out).mono ?_); rintro e w' ⟨rfl, ⟨nd, rfl⟩⟩; (try first | exact ⟨rfl, _, World.drewN_drewN _ _ _⟩ | exact ⟨rfl, _, Eq.trans (World.drewN_drewN _ _ _) (congrArg (World.drewN _) (Nat.add_assoc _ _ _))⟩))))
            go_meet
            case rel => exact ⟨_, (!t319), Zrs, H', ⟨by have := HJ2.out; have := HK2.out; first | omega | exact Nat.le_refl _⟩, ⟨by (with_reducible repeat (first | apply Kd.zbf | apply Kd.zbe | apply Kd.zbl)); exact Kd.zbb (Kd.zcs (p := ⟨gb317, 3, none⟩) (Kd.zcs (p := ⟨gb317, 2, none⟩) (Kd.zcs (p := ⟨gb317, 1, none⟩) (Kd.zcs (p := ⟨gb317, 0, none⟩) (Kd.zcp HO_5.out BK317.out (by decide)) (fun _ hk => hk.2) (.int .i64 ((ze l1 x6_2).f0))) (fun _ hk => hk.2) (.int .i64 ((ze l1 x6_2).f1))) (fun _ hk => hk.2) (.int .i64 ((ze l1 x6_2).f2))) (fun _ hk => hk.2) (.int .i64 ((ze l1 x6_2).f3))) (fun _ hk => trivial)⟩, ⟨by (with_reducible repeat (first | refine zz ?_ _ | refine z8 ?_ | refine zy ?_ _)); refine zb2 (cs := #[.int .i64 ((ze l1 x6_2).f0), .int .i64 ((ze l1 x6_2).f1), .int .i64 ((ze l1 x6_2).f2), .int .i64 0]) ?_ 3 _ rfl; (with_reducible repeat (first | refine zz ?_ _ | refine z8 ?_ | refine zy ?_ _)); refine zb2 (cs := #[.int .i64 ((ze l1 x6_2).f0), .int .i64 ((ze l1 x6_2).f1), .int .i64 0, .int .i64 0]) ?_ 2 _ rfl; (with_reducible repeat (first | refine zz ?_ _ | refine z8 ?_ | refine zy ?_ _)); refine zb2 (cs := #[.int .i64 ((ze l1 x6_2).f0), .int .i64 0, .int .i64 0, .int .i64 0]) ?_ 1 _ rfl; (with_reducible repeat (first | refine zz ?_ _ | refine z8 ?_ | refine zy ?_ _)); refine zb2 (cs := #[.int .i64 0, .int .i64 0, .int .i64 0, .int .i64 0]) ?_ 0 _ rfl; (with_reducible repeat (first | refine zz ?_ _ | refine z8 ?_ | refine zy ?_ _)); exact BK317.out⟩, ⟨Zq3 HB.out GE317.out⟩⟩
           ·replace c19 := Bool.eq_false_iff.mpr c19
            subst c19
            have H1 : (zn.j2 k2 l0 l1 x5_2 x6_2 true ((ze l1 x6_2).f0) ((ze l1 x6_2).f1) ((ze l1 x6_2).f2) ((ze l1 x6_2).f3)) = some r := by rw [if_neg (show ¬ (false = true) by decide)] at H; exact H
            clear H
            have H := H1
            clear H1
            have H' := za.mk H
            clear H
            have hcz22_0 : w16.cell? ⟨gb317, 0, none⟩ = some (.int .i64 0) := (zg BK317.out 0).trans rfl
            have hcz22_1 : w16.cell? ⟨gb317, 1, none⟩ = some (.int .i64 0) := (zg BK317.out 1).trans rfl
            have hcz22_2 : w16.cell? ⟨gb317, 2, none⟩ = some (.int .i64 0) := (zg BK317.out 2).trans rfl
            have hcz22_3 : w16.cell? ⟨gb317, 3, none⟩ = some (.int .i64 0) := (zg BK317.out 3).trans rfl
            have hfz22_0 := zf BK317.out 0
            have hfz22_1 := zf BK317.out 1
            have hfz22_2 := zf BK317.out 2
            have hfz22_3 := zf BK317.out 3
            go_wp2_with (first | (go_at_call 102; (with_reducible refine (zbs.calls ((ze l1 x6_2).f0) 0 (wrap64 ((l0.length : Int) - 1)) false _ A18.out).mono ?_); rintro e w' ⟨rfl, ⟨nd, rfl⟩⟩; (try first | exact ⟨rfl, _, World.drewN_drewN _ _ _⟩ | exact ⟨rfl, _, Eq.trans (World.drewN_drewN _ _ _) (congrArg (World.drewN _) (Nat.add_assoc _ _ _))⟩)))
            repeat (go_quiet (first | (go_at_call 102; (with_reducible refine (zbs.calls ((ze l1 x6_2).f0) 0 (wrap64 ((l0.length : Int) - 1)) false _ A18.out).mono ?_); rintro e w' ⟨rfl, ⟨nd, rfl⟩⟩; (try first | exact ⟨rfl, _, World.drewN_drewN _ _ _⟩ | exact ⟨rfl, _, Eq.trans (World.drewN_drewN _ _ _) (congrArg (World.drewN _) (Nat.add_assoc _ _ _))⟩))); try go_wp2_with (first | (go_at_call 102; (with_reducible refine (zbs.calls ((ze l1 x6_2).f0) 0 (wrap64 ((l0.length : Int) - 1)) false _ A18.out).mono ?_); rintro e w' ⟨rfl, ⟨nd, rfl⟩⟩; (try first | exact ⟨rfl, _, World.drewN_drewN _ _ _⟩ | exact ⟨rfl, _, Eq.trans (World.drewN_drewN _ _ _) (congrArg (World.drewN _) (Nat.add_assoc _ _ _))⟩))))
            go_meet
            case rel => exact ⟨_, (true), Zrs, H', ⟨by have := HJ2.out; have := HK2.out; first | omega | exact Nat.le_refl _⟩, ⟨by (with_reducible repeat (first | apply Kd.zbf | apply Kd.zbe | apply Kd.zbl)); exact Kd.zbb (Kd.zcs (p := ⟨gb317, 3, none⟩) (Kd.zcs (p := ⟨gb317, 2, none⟩) (Kd.zcs (p := ⟨gb317, 1, none⟩) (Kd.zcs (p := ⟨gb317, 0, none⟩) (Kd.zcp HO_5.out BK317.out (by decide)) (fun _ hk => hk.2) (.int .i64 ((ze l1 x6_2).f0))) (fun _ hk => hk.2) (.int .i64 ((ze l1 x6_2).f1))) (fun _ hk => hk.2) (.int .i64 ((ze l1 x6_2).f2))) (fun _ hk => hk.2) (.int .i64 ((ze l1 x6_2).f3))) (fun _ hk => trivial)⟩, ⟨by (with_reducible repeat (first | refine zz ?_ _ | refine z8 ?_ | refine zy ?_ _)); refine zb2 (cs := #[.int .i64 ((ze l1 x6_2).f0), .int .i64 ((ze l1 x6_2).f1), .int .i64 ((ze l1 x6_2).f2), .int .i64 0]) ?_ 3 _ rfl; (with_reducible repeat (first | refine zz ?_ _ | refine z8 ?_ | refine zy ?_ _)); refine zb2 (cs := #[.int .i64 ((ze l1 x6_2).f0), .int .i64 ((ze l1 x6_2).f1), .int .i64 0, .int .i64 0]) ?_ 2 _ rfl; (with_reducible repeat (first | refine zz ?_ _ | refine z8 ?_ | refine zy ?_ _)); refine zb2 (cs := #[.int .i64 ((ze l1 x6_2).f0), .int .i64 0, .int .i64 0, .int .i64 0]) ?_ 1 _ rfl; (with_reducible repeat (first | refine zz ?_ _ | refine z8 ?_ | refine zy ?_ _)); refine zb2 (cs := #[.int .i64 0, .int .i64 0, .int .i64 0, .int .i64 0]) ?_ 0 _ rfl; (with_reducible repeat (first | refine zz ?_ _ | refine z8 ?_ | refine zy ?_ _)); exact BK317.out⟩, ⟨Zq3 HB.out GE317.out⟩⟩
          case rest =>
           clear HC15
           try clear c1
           try clear p2
           try clear p3
           try clear q3
           try clear hx3
           try clear c5
           try clear p6
           try clear c8
           try clear c9
           try clear c9b0
           try clear c9b1
           try clear c10
           try clear c10b0
           try clear c10b1
           try clear c13
           try clear c13b0
           try clear c14
           try clear c14b0
           try clear c19
           try clear hcz17_0
           try clear hcz17_1
           try clear hcz17_2
           try clear hcz17_3
           try clear hcz21_0
           try clear hcz21_1
           try clear hcz21_2
           try clear hcz21_3
           try clear hcz22_0
           try clear hcz22_1
           try clear hcz22_2
           try clear hcz22_3
           try clear hfz17_0
           try clear hfz17_1
           try clear hfz17_2
           try clear hfz17_3
           try clear hfz21_0
           try clear hfz21_1
           try clear hfz21_2
           try clear hfz21_3
           try clear hfz22_0
           try clear hfz22_1
           try clear hfz22_2
           try clear hfz22_3
           try clear hx316_0
           try clear hx316_1
           try clear hx316_2
           try clear hx316_3
           try clear p2
           try clear p316
           try clear q316
           obtain ⟨kq, x42_14, rfl, HA, HJ14, HO_5, BK317, HB⟩ := hcut
           cases kq with
           | zero => exact absurd HA.out (by simp [zn.j2])
           | succ kj14 =>
            have H := HA.out
            clear HA
            simp only [zn.j2] at H
            by_cases c23 : x42_14 = true
            ·subst c23
             have H1 : (some false) = some r := by rw [if_pos rfl] at H; exact H
             clear H
             have H := H1
             clear H1
             obtain rfl := Option.some.inj H
             go_wp2
             repeat (go_quiet (fail); try go_wp2)
             go_ret
             exact ⟨by first | rfl | (simp [zw, zx] <;> rfl) | (simp [*, zw, zx] <;> rfl), Zq3 HB.out GE317.out⟩
            ·replace c23 := Bool.eq_false_iff.mpr c23
             subst c23
             have H1 : (if 0 ≤ ((ze l1 x6_2).f0) then (if ((ze l1 x6_2).f0) < (l0.length : Int) then (if ((ze l1 x6_2).f0) < (x5_2.length : Int) then (if ((ze l1 x6_2).f1) < (rd x5_2 ((ze l1 x6_2).f0)) then (zn.j3 kj14 l0 l1 x5_2 x6_2 true ((ze l1 x6_2).f0) ((ze l1 x6_2).f1) ((ze l1 x6_2).f2) ((ze l1 x6_2).f3) ((zl l0 ((ze l1 x6_2).f0)).f0) ((zl l0 ((ze l1 x6_2).f0)).f1) ((zl l0 ((ze l1 x6_2).f0)).f2)) else (if ((ze l1 x6_2).f2) = (wrap64 (((ze l1 x6_2).f1) + ((zl l0 ((ze l1 x6_2).f0)).f1))) then ((zbs.f ((ze l1 x6_2).f3) 1 ((zl l0 ((ze l1 x6_2).f0)).f0)).bind fun t323 => (zn.j3 kj14 l0 l1 x5_2 x6_2 (!t323) ((ze l1 x6_2).f0) ((ze l1 x6_2).f1) ((ze l1 x6_2).f2) ((ze l1 x6_2).f3) ((zl l0 ((ze l1 x6_2).f0)).f0) ((zl l0 ((ze l1 x6_2).f0)).f1) ((zl l0 ((ze l1 x6_2).f0)).f2))) else (zn.j3 kj14 l0 l1 x5_2 x6_2 true ((ze l1 x6_2).f0) ((ze l1 x6_2).f1) ((ze l1 x6_2).f2) ((ze l1 x6_2).f3) ((zl l0 ((ze l1 x6_2).f0)).f0) ((zl l0 ((ze l1 x6_2).f0)).f1) ((zl l0 ((ze l1 x6_2).f0)).f2)))) else (none)) else (none)) else (none)) = some r := by rw [if_neg (show ¬ (false = true) by decide)] at H; exact H
             clear H
             have H := H1
             clear H1
             by_cases c24 : 0 ≤ ((ze l1 x6_2).f0)
             ·rw [if_pos c24] at H
              have c24b0 : decide (0 ≤ ((ze l1 x6_2).f0)) = true := decide_eq_true c24
              clear c24
              by_cases c25 : ((ze l1 x6_2).f0) < (l0.length : Int)
              ·rw [if_pos c25] at H
               have c25b0 : decide (((ze l1 x6_2).f0) < (l0.length : Int)) = true := decide_eq_true c25
               clear c25
               have HC26 := za.mk H
               clear H
               have hcz27_0 : wc.cell? ⟨gb317, 0, none⟩ = some (.int .i64 ((ze l1 x6_2).f0)) := (zg BK317.out 0).trans rfl
               have hcz27_1 : wc.cell? ⟨gb317, 1, none⟩ = some (.int .i64 ((ze l1 x6_2).f1)) := (zg BK317.out 1).trans rfl
               have hcz27_2 : wc.cell? ⟨gb317, 2, none⟩ = some (.int .i64 ((ze l1 x6_2).f2)) := (zg BK317.out 2).trans rfl
               have hcz27_3 : wc.cell? ⟨gb317, 3, none⟩ = some (.int .i64 ((ze l1 x6_2).f3)) := (zg BK317.out 3).trans rfl
               have hfz27_0 := zf BK317.out 0
               have hfz27_1 := zf BK317.out 1
               have hfz27_2 := zf BK317.out 2
               have hfz27_3 := zf BK317.out 3
               have p320 : 0 ≤ (((ze l1 x6_2).f0) : Int) := of_decide_eq_true Zas
               have q320 : ((ze l1 x6_2).f0) < (l0.length : Int) := of_decide_eq_true Zas
               obtain ⟨ad320, e320, hx320_0, hx320_1, hx320_2⟩ := zds HR0.out ((ze l1 x6_2).f0) p320 q320
               cases e320
               replace hx320_0 := (HB.out.cell (World.block_lt_of_cell? w _ hx320_0)).trans hx320_0
               replace hx320_1 := (HB.out.cell (World.block_lt_of_cell? w _ hx320_1)).trans hx320_1
               replace hx320_2 := (HB.out.cell (World.block_lt_of_cell? w _ hx320_2)).trans hx320_2
               replace p320 := eq_true p320
               replace q320 := eq_true q320
               go_upto_region 11 with (first | ((with_reducible refine zbj (N := 8) rfl ?_); (try (refine zcn (by rfl) ?_; dsimp only)); refine zbr ?hg (N := 8) ?hd (cs := #[.int .i64 0, .int .i64 0, .int .i64 0]) (t := 88) ?hr ?_; (case hd => rfl); (case hg => rfl); (case hr => first | (go_simp; done) | (go_simp; rfl)); intro gb321 hg w28 hbox hb; have n0_ := za.mk (Kd.zcx (Zq11 HO_5.out) hb); have n1_ := za.mk (zbn (g := gb317) (o := .cells #[.int .i64 ((ze l1 x6_2).f0), .int .i64 ((ze l1 x6_2).f1), .int .i64 ((ze l1 x6_2).f2), .int .i64 ((ze l1 x6_2).f3)] 34 (0, 0)) (Zq2 BK317.out) hb); have n2_ := za.mk (zo (Zq3 HB.out GE317.out) hb); have n3_ := za.mk (hbox); have n4_ := za.mk ((by rw [hg]; exact (zu (Zq3 HB.out GE317.out)) : w.heap.size ≤ gb321)); have n5_ := za.mk ((by rw [hg]; exact (zu (Zq3 HB.out GE317.out)) : w.heap.size ≤ gb321)); have n6_ := za.mk ((by rw [hg]; exact Nat.ne_of_lt (zcz (g := gb317) (o := .cells #[.int .i64 ((ze l1 x6_2).f0), .int .i64 ((ze l1 x6_2).f1), .int .i64 ((ze l1 x6_2).f2), .int .i64 ((ze l1 x6_2).f3)] 34 (0, 0)) (Zq2 BK317.out)) : gb317 ≠ gb321)); have n7_ := za.mk ((by rw [hg]; exact Nat.ne_of_gt (zcz (g := gb317) (o := .cells #[.int .i64 ((ze l1 x6_2).f0), .int .i64 ((ze l1 x6_2).f1), .int .i64 ((ze l1 x6_2).f2), .int .i64 ((ze l1 x6_2).f3)] 34 (0, 0)) (Zq2 BK317.out)) : gb321 ≠ gb317)); clear HO_5; clear BK317; clear HB; have HO_5 := n0_; have BK317 := n1_; have HB := n2_; have BK321 := n3_; have GW321 := n4_; have GE321 := n5_; have NB317_321 := n6_; have NB321_317 := n7_; clear n0_ n1_ n2_ n3_ n4_ n5_ n6_ n7_; clear hb hbox hg; have hnb29 := NB321_317.out; have hnc29 := NB317_321.out; have hcz30_0 : w28.cell? ⟨gb321, 0, none⟩ = some (.int .i64 0) := (zg BK321.out 0).trans rfl; have hcz30_1 : w28.cell? ⟨gb321, 1, none⟩ = some (.int .i64 0) := (zg BK321.out 1).trans rfl; have hcz30_2 : w28.cell? ⟨gb321, 2, none⟩ = some (.int .i64 0) := (zg BK321.out 2).trans rfl; have hfz30_0 := zf BK321.out 0; have hfz30_1 := zf BK321.out 1; have hfz30_2 := zf BK321.out 2))
               repeat (go_quiet (first | ((with_reducible refine zbj (N := 8) rfl ?_); (try (refine zcn (by rfl) ?_; dsimp only)); refine zbr ?hg (N := 8) ?hd (cs := #[.int .i64 0, .int .i64 0, .int .i64 0]) (t := 88) ?hr ?_; (case hd => rfl); (case hg => rfl); (case hr => first | (go_simp; done) | (go_simp; rfl)); intro gb321 hg w28 hbox hb; have n0_ := za.mk (Kd.zcx (Zq11 HO_5.out) hb); have n1_ := za.mk (zbn (g := gb317) (o := .cells #[.int .i64 ((ze l1 x6_2).f0), .int .i64 ((ze l1 x6_2).f1), .int .i64 ((ze l1 x6_2).f2), .int .i64 ((ze l1 x6_2).f3)] 34 (0, 0)) (Zq2 BK317.out) hb); have n2_ := za.mk (zo (Zq3 HB.out GE317.out) hb); have n3_ := za.mk (hbox); have n4_ := za.mk ((by rw [hg]; exact (zu (Zq3 HB.out GE317.out)) : w.heap.size ≤ gb321)); have n5_ := za.mk ((by rw [hg]; exact (zu (Zq3 HB.out GE317.out)) : w.heap.size ≤ gb321)); have n6_ := za.mk ((by rw [hg]; exact Nat.ne_of_lt (zcz (g := gb317) (o := .cells #[.int .i64 ((ze l1 x6_2).f0), .int .i64 ((ze l1 x6_2).f1), .int .i64 ((ze l1 x6_2).f2), .int .i64 ((ze l1 x6_2).f3)] 34 (0, 0)) (Zq2 BK317.out)) : gb317 ≠ gb321)); have n7_ := za.mk ((by rw [hg]; exact Nat.ne_of_gt (zcz (g := gb317) (o := .cells #[.int .i64 ((ze l1 x6_2).f0), .int .i64 ((ze l1 x6_2).f1), .int .i64 ((ze l1 x6_2).f2), .int .i64 ((ze l1 x6_2).f3)] 34 (0, 0)) (Zq2 BK317.out)) : gb321 ≠ gb317)); clear HO_5; clear BK317; clear HB; have HO_5 := n0_; have BK317 := n1_; have HB := n2_; have BK321 := n3_; have GW321 := n4_; have GE321 := n5_; have NB317_321 := n6_; have NB321_317 := n7_; clear n0_ n1_ n2_ n3_ n4_ n5_ n6_ n7_; clear hb hbox hg; have hnb29 := NB321_317.out; have hnc29 := NB317_321.out; have hcz30_0 : w28.cell? ⟨gb321, 0, none⟩ = some (.int .i64 0) := (zg BK321.out 0).trans rfl; have hcz30_1 : w28.cell? ⟨gb321, 1, none⟩ = some (.int .i64 0) := (zg BK321.out 1).trans rfl; have hcz30_2 : w28.cell? ⟨gb321, 2, none⟩ = some (.int .i64 0) := (zg BK321.out 2).trans rfl; have hfz30_0 := zf BK321.out 0; have hfz30_1 := zf BK321.out 1; have hfz30_2 := zf BK321.out 2)); go_upto_region 11 with (first | ((with_reducible refine zbj (N := 8) rfl ?_); (try (refine zcn (by rfl) ?_; dsimp only)); refine zbr ?hg (N := 8) ?hd (cs := #[.int .i64 0, .int .i64 0, .int .i64 0]) (t := 88) ?hr ?_; (case hd => rfl); (case hg => rfl); (case hr => first | (go_simp; done) | (go_simp; rfl)); intro gb321 hg w28 hbox hb; have n0_ := za.mk (Kd.zcx (Zq11 HO_5.out) hb); have n1_ := za.mk (zbn (g := gb317) (o := .cells #[.int .i64 ((ze l1 x6_2).f0), .int .i64 ((ze l1 x6_2).f1), .int .i64 ((ze l1 x6_2).f2), .int .i64 ((ze l1 x6_2).f3)] 34 (0, 0)) (Zq2 BK317.out) hb); have n2_ := za.mk (zo (Zq3 HB.out GE317.out) hb); have n3_ := za.mk (hbox); have n4_ := za.mk ((by rw [hg]; exact (zu (Zq3 HB.out GE317.out)) : w.heap.size ≤ gb321)); have n5_ := za.mk ((by rw [hg]; exact (zu (Zq3 HB.out GE317.out)) : w.heap.size ≤ gb321)); have n6_ := za.mk ((by rw [hg]; exact Nat.ne_of_lt (zcz (g := gb317) (o := .cells #[.int .i64 ((ze l1 x6_2).f0), .int .i64 ((ze l1 x6_2).f1), .int .i64 ((ze l1 x6_2).f2), .int .i64 ((ze l1 x6_2).f3)] 34 (0, 0)) (Zq2 BK317.out)) : gb317 ≠ gb321)); have n7_ := za.mk ((by rw [hg]; exact Nat.ne_of_gt (zcz (g := gb317) (o := .cells #[.int .i64 ((ze l1 x6_2).f0), .int .i64 ((ze l1 x6_2).f1), .int .i64 ((ze l1 x6_2).f2), .int .i64 ((ze l1 x6_2).f3)] 34 (0, 0)) (Zq2 BK317.out)) : gb321 ≠ gb317)); clear HO_5; clear BK317; clear HB; have HO_5 := n0_; have BK317 := n1_; have HB := n2_; have BK321 := n3_; have GW321 := n4_; have GE321 := n5_; have NB317_321 := n6_; have NB321_317 := n7_; clear n0_ n1_ n2_ n3_ n4_ n5_ n6_ n7_; clear hb hbox hg; have hnb29 := NB321_317.out; have hnc29 := NB317_321.out; have hcz30_0 : w28.cell? ⟨gb321, 0, none⟩ = some (.int .i64 0) := (zg BK321.out 0).trans rfl; have hcz30_1 : w28.cell? ⟨gb321, 1, none⟩ = some (.int .i64 0) := (zg BK321.out 1).trans rfl; have hcz30_2 : w28.cell? ⟨gb321, 2, none⟩ = some (.int .i64 0) := (zg BK321.out 2).trans rfl; have hfz30_0 := zf BK321.out 0; have hfz30_1 := zf BK321.out 1; have hfz30_2 := zf BK321.out 2)))
               (try simp only [Act.put, List.setIfInBounds_toArray, List.set_cons_zero, List.set_cons_succ])
               go_cut [73] (fun v73 wc => ∃ (kq : Nat) (x73_25 : Bool), v73 = .bool x73_25 ∧ za (zn.j3 kq l0 l1 x5_2 x6_2 x73_25 ((ze l1 x6_2).f0) ((ze l1 x6_2).f1) ((ze l1 x6_2).f2) ((ze l1 x6_2).f3) ((zl l0 ((ze l1 x6_2).f0)).f0) ((zl l0 ((ze l1 x6_2).f0)).f1) ((zl l0 ((ze l1 x6_2).f0)).f2) = some r) ∧ za (kq ≤ kj14) ∧ za (Kd.R (Kd.int .i64) 3 wc w.heap.size (fun _ => True) v314 x5_2) ∧ za (wc.heap[gb317]? = some (.cells #[.int .i64 ((ze l1 x6_2).f0), .int .i64 ((ze l1 x6_2).f1), .int .i64 ((ze l1 x6_2).f2), .int .i64 ((ze l1 x6_2).f3)] 34 (0, 0))) ∧ za (wc.heap[gb321]? = some (.cells #[.int .i64 ((zl l0 ((ze l1 x6_2).f0)).f0), .int .i64 ((zl l0 ((ze l1 x6_2).f0)).f1), .int .i64 ((zl l0 ((ze l1 x6_2).f0)).f2)] 88 (0, 0))) ∧ za (Below w.heap.size w wc))
               case first =>
                have H := HC26.out
                clear HC26
                by_cases c31 : ((ze l1 x6_2).f0) < (x5_2.length : Int)
                ·rw [if_pos c31] at H
                 have c31b0 : decide (((ze l1 x6_2).f0) < (x5_2.length : Int)) = true := decide_eq_true c31
                 clear c31
                 (first | rw [c31b0] | (simp only [zb3, zb4]; rw [c31b0]) | skip)
                 by_cases c32 : ((ze l1 x6_2).f1) < (rd x5_2 ((ze l1 x6_2).f0))
                 ·rw [if_pos c32] at H
                  have c32b0 : decide (((ze l1 x6_2).f1) < (rd x5_2 ((ze l1 x6_2).f0))) = true := decide_eq_true c32
                  clear c32
                  have H' := za.mk H
                  clear H
                  have hnb33 := NB317_321.out
                  have hnc33 := NB321_317.out
                  have hcz34_0 : w28.cell? ⟨gb317, 0, none⟩ = some (.int .i64 ((ze l1 x6_2).f0)) := (zg BK317.out 0).trans rfl
                  have hcz34_1 : w28.cell? ⟨gb317, 1, none⟩ = some (.int .i64 ((ze l1 x6_2).f1)) := (zg BK317.out 1).trans rfl
                  have hcz34_2 : w28.cell? ⟨gb317, 2, none⟩ = some (.int .i64 ((ze l1 x6_2).f2)) := (zg BK317.out 2).trans rfl
                  have hcz34_3 : w28.cell? ⟨gb317, 3, none⟩ = some (.int .i64 ((ze l1 x6_2).f3)) := (zg BK317.out 3).trans rfl
                  have hfz34_0 := zf BK317.out 0
                  have hfz34_1 := zf BK317.out 1
                  have hfz34_2 := zf BK317.out 2
                  have hfz34_3 := zf BK317.out 3
                  obtain ⟨Ao35, co35, eo35⟩ := Kd.zbv HO_5.out
                  subst eo35
                  have p322 : 0 ≤ (((ze l1 x6_2).f0) : Int) := of_decide_eq_true Zas
                  have q322 : ((ze l1 x6_2).f0) < (x5_2.length : Int) := of_decide_eq_true Zas
                  obtain ⟨ad322, e322, hx322_0⟩ := Kd.zcf (Kd.zbh HO_5.out).2.2 ((ze l1 x6_2).f0) p322 q322
                  cases e322
                  have hn322_0 : ad322.block ≠ gb321 := Kd.zch (Kd.R_ne HO_5.out BK321.out (by decide))
                  have hn322_1 : ad322.block ≠ gb321 := Kd.zch (Kd.R_ne HO_5.out BK321.out (by decide))
                  have hn322_2 : ad322.block ≠ gb321 := Kd.zch (Kd.R_ne HO_5.out BK321.out (by decide))
                  replace hx322_0 := (cell_far (p := ⟨gb321, 0, none⟩) (by first | (rw [add_block]; exact hn322_0) | (show (Addr.add _ _).block ≠ _; rw [add_block]; exact hn322_0) | exact hn322_0) (.int .i64 ((zl l0 ((ze l1 x6_2).f0)).f0))).trans hx322_0
                  replace hx322_0 := (cell_far (p := ⟨gb321, 1, none⟩) (by first | (rw [add_block]; exact hn322_1) | (show (Addr.add _ _).block ≠ _; rw [add_block]; exact hn322_1) | exact hn322_1) (.int .i64 ((zl l0 ((ze l1 x6_2).f0)).f1))).trans hx322_0
                  replace hx322_0 := (cell_far (p := ⟨gb321, 2, none⟩) (by first | (rw [add_block]; exact hn322_2) | (show (Addr.add _ _).block ≠ _; rw [add_block]; exact hn322_2) | exact hn322_2) (.int .i64 ((zl l0 ((ze l1 x6_2).f0)).f2))).trans hx322_0
                  (try have hy322_0 := fun (n_ : Nat) => (show (((((w28.drewN n_).setCell ⟨gb321, 0, none⟩ (.int .i64 ((zl l0 ((ze l1 x6_2).f0)).f0))).setCell ⟨gb321, 1, none⟩ (.int .i64 ((zl l0 ((ze l1 x6_2).f0)).f1))).setCell ⟨gb321, 2, none⟩ (.int .i64 ((zl l0 ((ze l1 x6_2).f0)).f2)))).cell? _ = some _ from hx322_0))
                  clear hn322_0
                  clear hn322_1
                  clear hn322_2
                  replace p322 := eq_true p322
                  replace q322 := eq_true q322
                  go_wp2
                  repeat (go_quiet (fail); try go_wp2)
                  go_meet
                  case rel => exact ⟨_, (true), Zrs, H', ⟨by have := HJ2.out; have := HK2.out; have := HJ14.out; first | omega | exact Nat.le_refl _⟩, ⟨by (with_reducible repeat (first | apply Kd.zbf | apply Kd.zbe | apply Kd.zbl)); exact Kd.zbb (Kd.zcs (p := ⟨gb321, 2, none⟩) (Kd.zcs (p := ⟨gb321, 1, none⟩) (Kd.zcs (p := ⟨gb321, 0, none⟩) (Kd.zcp HO_5.out BK321.out (by decide)) (fun _ hk => hk.2) (.int .i64 ((zl l0 ((ze l1 x6_2).f0)).f0))) (fun _ hk => hk.2) (.int .i64 ((zl l0 ((ze l1 x6_2).f0)).f1))) (fun _ hk => hk.2) (.int .i64 ((zl l0 ((ze l1 x6_2).f0)).f2))) (fun _ hk => trivial)⟩, ⟨by (with_reducible repeat (first | refine zz ?_ _ | refine z8 ?_ | refine zy ?_ _)); refine zco ?_ NB317_321.out _; (with_reducible repeat (first | refine zz ?_ _ | refine z8 ?_ | refine zy ?_ _)); refine zco ?_ NB317_321.out _; (with_reducible repeat (first | refine zz ?_ _ | refine z8 ?_ | refine zy ?_ _)); refine zco ?_ NB317_321.out _; (with_reducible repeat (first | refine zz ?_ _ | refine z8 ?_ | refine zy ?_ _)); exact BK317.out⟩, ⟨by (with_reducible repeat (first | refine zz ?_ _ | refine z8 ?_ | refine zy ?_ _)); refine zb2 (cs := #[.int .i64 ((zl l0 ((ze l1 x6_2).f0)).f0), .int .i64 ((zl l0 ((ze l1 x6_2).f0)).f1), .int .i64 0]) ?_ 2 _ rfl; (with_reducible repeat (first | refine zz ?_ _ | refine z8 ?_ | refine zy ?_ _)); refine zb2 (cs := #[.int .i64 ((zl l0 ((ze l1 x6_2).f0)).f0), .int .i64 0, .int .i64 0]) ?_ 1 _ rfl; (with_reducible repeat (first | refine zz ?_ _ | refine z8 ?_ | refine zy ?_ _)); refine zb2 (cs := #[.int .i64 0, .int .i64 0, .int .i64 0]) ?_ 0 _ rfl; (with_reducible repeat (first | refine zz ?_ _ | refine z8 ?_ | refine zy ?_ _)); exact BK321.out⟩, ⟨Zq9 HB.out GE317.out GE321.out⟩⟩
                 ·rw [if_neg c32] at H
                  have c32b0 : decide (((ze l1 x6_2).f1) < (rd x5_2 ((ze l1 x6_2).f0))) = false := decide_eq_false c32
                  clear c32
                  by_cases c36 : ((ze l1 x6_2).f2) = (wrap64 (((ze l1 x6_2).f1) + ((zl l0 ((ze l1 x6_2).f0)).f1)))
                  ·rw [if_pos c36] at H
                   have c36b0 : (((ze l1 x6_2).f2) == (wrap64 (((ze l1 x6_2).f1) + ((zl l0 ((ze l1 x6_2).f0)).f1)))) = true := beq_iff_eq.mpr c36
                   have c36b1 : (((ze l1 x6_2).f2) != (wrap64 (((ze l1 x6_2).f1) + ((zl l0 ((ze l1 x6_2).f0)).f1)))) = false := bne_eq_false_iff_eq.mpr c36
                   clear c36
                   replace H := Option.bind_eq_some_iff.mp H
                   obtain ⟨t323, A370, H⟩ := H
                   replace H : (zn.j3 kj14 l0 l1 x5_2 x6_2 (!t323) ((ze l1 x6_2).f0) ((ze l1 x6_2).f1) ((ze l1 x6_2).f2) ((ze l1 x6_2).f3) ((zl l0 ((ze l1 x6_2).f0)).f0) ((zl l0 ((ze l1 x6_2).f0)).f1) ((zl l0 ((ze l1 x6_2).f0)).f2)) = some r := H
                   have A37 := za.mk A370
                   clear A370
                   have H' := za.mk H
                   clear H
                   have hnb38 := NB317_321.out
                   have hnc38 := NB321_317.out
                   have hcz39_0 : w28.cell? ⟨gb317, 0, none⟩ = some (.int .i64 ((ze l1 x6_2).f0)) := (zg BK317.out 0).trans rfl
                   have hcz39_1 : w28.cell? ⟨gb317, 1, none⟩ = some (.int .i64 ((ze l1 x6_2).f1)) := (zg BK317.out 1).trans rfl
                   have hcz39_2 : w28.cell? ⟨gb317, 2, none⟩ = some (.int .i64 ((ze l1 x6_2).f2)) := (zg BK317.out 2).trans rfl
                   have hcz39_3 : w28.cell? ⟨gb317, 3, none⟩ = some (.int .i64 ((ze l1 x6_2).f3)) := (zg BK317.out 3).trans rfl
                   have hfz39_0 := zf BK317.out 0
                   have hfz39_1 := zf BK317.out 1
                   have hfz39_2 := zf BK317.out 2
                   have hfz39_3 := zf BK317.out 3
                   obtain ⟨Ao40, co40, eo40⟩ := Kd.zbv HO_5.out
                   subst eo40
                   have p322 : 0 ≤ (((ze l1 x6_2).f0) : Int) := of_decide_eq_true Zas
                   have q322 : ((ze l1 x6_2).f0) < (x5_2.length : Int) := of_decide_eq_true Zas
                   obtain ⟨ad322, e322, hx322_0⟩ := Kd.zcf (Kd.zbh HO_5.out).2.2 ((ze l1 x6_2).f0) p322 q322
                   cases e322
                   have hn322_0 : ad322.block ≠ gb321 := Kd.zch (Kd.R_ne HO_5.out BK321.out (by decide))
                   have hn322_1 : ad322.block ≠ gb321 := Kd.zch (Kd.R_ne HO_5.out BK321.out (by decide))
                   have hn322_2 : ad322.block ≠ gb321 := Kd.zch (Kd.R_ne HO_5.out BK321.out (by decide))
                   replace hx322_0 := (cell_far (p := ⟨gb321, 0, none⟩) (by first | (rw [add_block]; exact hn322_0) | (show (Addr.add _ _).block ≠ _; rw [add_block]; exact hn322_0) | exact hn322_0) (.int .i64 ((zl l0 ((ze l1 x6_2).f0)).f0))).trans hx322_0
                   replace hx322_0 := (cell_far (p := ⟨gb321, 1, none⟩) (by first | (rw [add_block]; exact hn322_1) | (show (Addr.add _ _).block ≠ _; rw [add_block]; exact hn322_1) | exact hn322_1) (.int .i64 ((zl l0 ((ze l1 x6_2).f0)).f1))).trans hx322_0
                   replace hx322_0 := (cell_far (p := ⟨gb321, 2, none⟩) (by first | (rw [add_block]; exact hn322_2) | (show (Addr.add _ _).block ≠ _; rw [add_block]; exact hn322_2) | exact hn322_2) (.int .i64 ((zl l0 ((ze l1 x6_2).f0)).f2))).trans hx322_0
                   (try have hy322_0 := fun (n_ : Nat) => (show (((((w28.drewN n_).setCell ⟨gb321, 0, none⟩ (.int .i64 ((zl l0 ((ze l1 x6_2).f0)).f0))).setCell ⟨gb321, 1, none⟩ (.int .i64 ((zl l0 ((ze l1 x6_2).f0)).f1))).setCell ⟨gb321, 2, none⟩ (.int .i64 ((zl l0 ((ze l1 x6_2).f0)).f2)))).cell? _ = some _ from hx322_0))
                   clear hn322_0
                   clear hn322_1
                   clear hn322_2
                   replace p322 := eq_true p322
                   replace q322 := eq_true q322
                   have hcz41_0 : w28.cell? ⟨gb321, 0, none⟩ = some (.int .i64 0) := (zg BK321.out 0).trans rfl
                   have hcz41_1 : w28.cell? ⟨gb321, 1, none⟩ = some (.int .i64 0) := (zg BK321.out 1).trans rfl
                   have hcz41_2 : w28.cell? ⟨gb321, 2, none⟩ = some (.int .i64 0) := (zg BK321.out 2).trans rfl
                   have hfz41_0 := zf BK321.out 0
                   have hfz41_1 := zf BK321.out 1
                   have hfz41_2 := zf BK321.out 2
                   go_wp2_with (first | (go_at_call 102; (with_reducible refine (zbs.calls ((ze l1 x6_2).f3) 1 ((zl l0 ((ze l1 x6_2).f0)).f0) t323 _ A37.out).mono ?_); rintro e w' ⟨rfl, ⟨nd, rfl⟩⟩; (try first | exact ⟨rfl, _, World.drewN_drewN _ _ _⟩ | exact ⟨rfl, _, Eq.trans (World.drewN_drewN _ _ _) (congrArg (World.drewN _) (Nat.add_assoc _ _ _))⟩)))
                   repeat (go_quiet (first | (go_at_call 102; (with_reducible refine (zbs.calls ((ze l1 x6_2).f3) 1 ((zl l0 ((ze l1 x6_2).f0)).f0) t323 _ A37.out).mono ?_); rintro e w' ⟨rfl, ⟨nd, rfl⟩⟩; (try first | exact ⟨rfl, _, World.drewN_drewN _ _ _⟩ | exact ⟨rfl, _, Eq.trans (World.drewN_drewN _ _ _) (congrArg (World.drewN _) (Nat.add_assoc _ _ _))⟩))); try go_wp2_with (first | (go_at_call 102; (with_reducible refine (zbs.calls ((ze l1 x6_2).f3) 1 ((zl l0 ((ze l1 x6_2).f0)).f0) t323 _ A37.out).mono ?_); rintro e w' ⟨rfl, ⟨nd, rfl⟩⟩; (try first | exact ⟨rfl, _, World.drewN_drewN _ _ _⟩ | exact ⟨rfl, _, Eq.trans (World.drewN_drewN _ _ _) (congrArg (World.drewN _) (Nat.add_assoc _ _ _))⟩))))
                   go_meet
                   case rel => exact ⟨_, (!t323), Zrs, H', ⟨by have := HJ2.out; have := HK2.out; have := HJ14.out; first | omega | exact Nat.le_refl _⟩, ⟨by (with_reducible repeat (first | apply Kd.zbf | apply Kd.zbe | apply Kd.zbl)); exact Kd.zbb (Kd.zcs (p := ⟨gb321, 2, none⟩) (Kd.zcs (p := ⟨gb321, 1, none⟩) (Kd.zcs (p := ⟨gb321, 0, none⟩) (Kd.zcp HO_5.out BK321.out (by decide)) (fun _ hk => hk.2) (.int .i64 ((zl l0 ((ze l1 x6_2).f0)).f0))) (fun _ hk => hk.2) (.int .i64 ((zl l0 ((ze l1 x6_2).f0)).f1))) (fun _ hk => hk.2) (.int .i64 ((zl l0 ((ze l1 x6_2).f0)).f2))) (fun _ hk => trivial)⟩, ⟨by (with_reducible repeat (first | refine zz ?_ _ | refine z8 ?_ | refine zy ?_ _)); refine zco ?_ NB317_321.out _; (with_reducible repeat (first | refine zz ?_ _ | refine z8 ?_ | refine zy ?_ _)); refine zco ?_ NB317_321.out _; (with_reducible repeat (first | refine zz ?_ _ | refine z8 ?_ | refine zy ?_ _)); refine zco ?_ NB317_321.out _; (with_reducible repeat (first | refine zz ?_ _ | refine z8 ?_ | refine zy ?_ _)); exact BK317.out⟩, ⟨by (with_reducible repeat (first | refine zz ?_ _ | refine z8 ?_ | refine zy ?_ _)); refine zb2 (cs := #[.int .i64 ((zl l0 ((ze l1 x6_2).f0)).f0), .int .i64 ((zl l0 ((ze l1 x6_2).f0)).f1), .int .i64 0]) ?_ 2 _ rfl; (with_reducible repeat (first | refine zz ?_ _ | refine z8 ?_ | refine zy ?_ _)); refine zb2 (cs := #[.int .i64 ((zl l0 ((ze l1 x6_2).f0)).f0), .int .i64 0, .int .i64 0]) ?_ 1 _ rfl; (with_reducible repeat (first | refine zz ?_ _ | refine z8 ?_ | refine zy ?_ _)); refine zb2 (cs := #[.int .i64 0, .int .i64 0, .int .i64 0]) ?_ 0 _ rfl; (with_reducible repeat (first | refine zz ?_ _ | refine z8 ?_ | refine zy ?_ _)); exact BK321.out⟩, ⟨Zq9 HB.out GE317.out GE321.out⟩⟩
                  ·rw [if_neg c36] at H
                   have c36b0 : (((ze l1 x6_2).f2) == (wrap64 (((ze l1 x6_2).f1) + ((zl l0 ((ze l1 x6_2).f0)).f1)))) = false := beq_eq_false_iff_ne.mpr c36
                   have c36b1 : (((ze l1 x6_2).f2) != (wrap64 (((ze l1 x6_2).f1) + ((zl l0 ((ze l1 x6_2).f0)).f1)))) = true := bne_iff_ne.mpr c36
                   have H' := za.mk H
                   clear H
                   have hnb42 := NB317_321.out
                   have hnc42 := NB321_317.out
                   have hcz43_0 : w28.cell? ⟨gb317, 0, none⟩ = some (.int .i64 ((ze l1 x6_2).f0)) := (zg BK317.out 0).trans rfl
                   have hcz43_1 : w28.cell? ⟨gb317, 1, none⟩ = some (.int .i64 ((ze l1 x6_2).f1)) := (zg BK317.out 1).trans rfl
                   have hcz43_2 : w28.cell? ⟨gb317, 2, none⟩ = some (.int .i64 ((ze l1 x6_2).f2)) := (zg BK317.out 2).trans rfl
                   have hcz43_3 : w28.cell? ⟨gb317, 3, none⟩ = some (.int .i64 ((ze l1 x6_2).f3)) := (zg BK317.out 3).trans rfl
                   have hfz43_0 := zf BK317.out 0
                   have hfz43_1 := zf BK317.out 1
                   have hfz43_2 := zf BK317.out 2
                   have hfz43_3 := zf BK317.out 3
                   obtain ⟨Ao44, co44, eo44⟩ := Kd.zbv HO_5.out
                   subst eo44
                   have p322 : 0 ≤ (((ze l1 x6_2).f0) : Int) := of_decide_eq_true Zas
                   have q322 : ((ze l1 x6_2).f0) < (x5_2.length : Int) := of_decide_eq_true Zas
                   obtain ⟨ad322, e322, hx322_0⟩ := Kd.zcf (Kd.zbh HO_5.out).2.2 ((ze l1 x6_2).f0) p322 q322
                   cases e322
                   have hn322_0 : ad322.block ≠ gb321 := Kd.zch (Kd.R_ne HO_5.out BK321.out (by decide))
                   have hn322_1 : ad322.block ≠ gb321 := Kd.zch (Kd.R_ne HO_5.out BK321.out (by decide))
                   have hn322_2 : ad322.block ≠ gb321 := Kd.zch (Kd.R_ne HO_5.out BK321.out (by decide))
                   replace hx322_0 := (cell_far (p := ⟨gb321, 0, none⟩) (by first | (rw [add_block]; exact hn322_0) | (show (Addr.add _ _).block ≠ _; rw [add_block]; exact hn322_0) | exact hn322_0) (.int .i64 ((zl l0 ((ze l1 x6_2).f0)).f0))).trans hx322_0
                   replace hx322_0 := (cell_far (p := ⟨gb321, 1, none⟩) (by first | (rw [add_block]; exact hn322_1) | (show (Addr.add _ _).block ≠ _; rw [add_block]; exact hn322_1) | exact hn322_1) (.int .i64 ((zl l0 ((ze l1 x6_2).f0)).f1))).trans hx322_0
                   replace hx322_0 := (cell_far (p := ⟨gb321, 2, none⟩) (by first | (rw [add_block]; exact hn322_2) | (show (Addr.add _ _).block ≠ _; rw [add_block]; exact hn322_2) | exact hn322_2) (.int .i64 ((zl l0 ((ze l1 x6_2).f0)).f2))).trans hx322_0
                   (try have hy322_0 := fun (n_ : Nat) => (show (((((w28.drewN n_).setCell ⟨gb321, 0, none⟩ (.int .i64 ((zl l0 ((ze l1 x6_2).f0)).f0))).setCell ⟨gb321, 1, none⟩ (.int .i64 ((zl l0 ((ze l1 x6_2).f0)).f1))).setCell ⟨gb321, 2, none⟩ (.int .i64 ((zl l0 ((ze l1 x6_2).f0)).f2)))).cell? _ = some _ from hx322_0))
                   clear hn322_0
                   clear hn322_1
                   clear hn322_2
                   replace p322 := eq_true p322
                   replace q322 := eq_true q322
                   have hcz45_0 : w28.cell? ⟨gb321, 0, none⟩ = some (.int .i64 0) := (zg BK321.out 0).trans rfl
                   have hcz45_1 : w28.cell? ⟨gb321, 1, none⟩ = some (.int .i64 0) := (zg BK321.out 1).trans rfl
                   have hcz45_2 : w28.cell? ⟨gb321, 2, none⟩ = some (.int .i64 0) := (zg BK321.out 2).trans rfl
                   have hfz45_0 := zf BK321.out 0
                   have hfz45_1 := zf BK321.out 1
                   have hfz45_2 := zf BK321.out 2
                   go_wp2
                   repeat (go_quiet (fail); try go_wp2)
                   go_meet
                   case rel => exact ⟨_, (true), Zrs, H', ⟨by have := HJ2.out; have := HK2.out; have := HJ14.out; first | omega | exact Nat.le_refl _⟩, ⟨by (with_reducible repeat (first | apply Kd.zbf | apply Kd.zbe | apply Kd.zbl)); exact Kd.zbb (Kd.zcs (p := ⟨gb321, 2, none⟩) (Kd.zcs (p := ⟨gb321, 1, none⟩) (Kd.zcs (p := ⟨gb321, 0, none⟩) (Kd.zcp HO_5.out BK321.out (by decide)) (fun _ hk => hk.2) (.int .i64 ((zl l0 ((ze l1 x6_2).f0)).f0))) (fun _ hk => hk.2) (.int .i64 ((zl l0 ((ze l1 x6_2).f0)).f1))) (fun _ hk => hk.2) (.int .i64 ((zl l0 ((ze l1 x6_2).f0)).f2))) (fun _ hk => trivial)⟩, ⟨by (with_reducible repeat (first | refine zz ?_ _ | refine z8 ?_ | refine zy ?_ _)); refine zco ?_ NB317_321.out _; (with_reducible repeat (first | refine zz ?_ _ | refine z8 ?_ | refine zy ?_ _)); refine zco ?_ NB317_321.out _; (with_reducible repeat (first | refine zz ?_ _ | refine z8 ?_ | refine zy ?_ _)); refine zco ?_ NB317_321.out _; (with_reducible repeat (first | refine zz ?_ _ | refine z8 ?_ | refine zy ?_ _)); exact BK317.out⟩, ⟨by (with_reducible repeat (first | refine zz ?_ _ | refine z8 ?_ | refine zy ?_ _)); refine zb2 (cs := #[.int .i64 ((zl l0 ((ze l1 x6_2).f0)).f0), .int .i64 ((zl l0 ((ze l1 x6_2).f0)).f1), .int .i64 0]) ?_ 2 _ rfl; (with_reducible repeat (first | refine zz ?_ _ | refine z8 ?_ | refine zy ?_ _)); refine zb2 (cs := #[.int .i64 ((zl l0 ((ze l1 x6_2).f0)).f0), .int .i64 0, .int .i64 0]) ?_ 1 _ rfl; (with_reducible repeat (first | refine zz ?_ _ | refine z8 ?_ | refine zy ?_ _)); refine zb2 (cs := #[.int .i64 0, .int .i64 0, .int .i64 0]) ?_ 0 _ rfl; (with_reducible repeat (first | refine zz ?_ _ | refine z8 ?_ | refine zy ?_ _)); exact BK321.out⟩, ⟨Zq9 HB.out GE317.out GE321.out⟩⟩
                ·rw [if_neg c31] at H
                 exact absurd H (by simp)
               case rest =>
                clear HC26
                try clear c1
                try clear c2
                try clear p2
                try clear c3
                try clear p3
                try clear q3
                try clear hx3
                try clear c4
                try clear c5
                try clear p6
                try clear c8
                try clear c9
                try clear c9b0
                try clear c9b1
                try clear c10
                try clear c10b0
                try clear c10b1
                try clear c13
                try clear c13b0
                try clear c14
                try clear c14b0
                try clear c19
                try clear c23
                try clear c24
                try clear c24b0
                try clear c25
                try clear c25b0
                try clear c29
                try clear c31
                try clear c31b0
                try clear p31
                try clear q31
                try clear hx31
                try clear c32
                try clear c32b0
                try clear p32
                try clear q32
                try clear hx32
                try clear c33
                try clear c36
                try clear c36b0
                try clear c36b1
                try clear c38
                try clear c42
                try clear hcz17_0
                try clear hcz17_1
                try clear hcz17_2
                try clear hcz17_3
                try clear hcz21_0
                try clear hcz21_1
                try clear hcz21_2
                try clear hcz21_3
                try clear hcz22_0
                try clear hcz22_1
                try clear hcz22_2
                try clear hcz22_3
                try clear hcz27_0
                try clear hcz27_1
                try clear hcz27_2
                try clear hcz27_3
                try clear hcz30_0
                try clear hcz30_1
                try clear hcz30_2
                try clear hcz34_0
                try clear hcz34_1
                try clear hcz34_2
                try clear hcz34_3
                try clear hcz39_0
                try clear hcz39_1
                try clear hcz39_2
                try clear hcz39_3
                try clear hcz41_0
                try clear hcz41_1
                try clear hcz41_2
                try clear hcz43_0
                try clear hcz43_1
                try clear hcz43_2
                try clear hcz43_3
                try clear hcz45_0
                try clear hcz45_1
                try clear hcz45_2
                try clear hfz17_0
                try clear hfz17_1
                try clear hfz17_2
                try clear hfz17_3
                try clear hfz21_0
                try clear hfz21_1
                try clear hfz21_2
                try clear hfz21_3
                try clear hfz22_0
                try clear hfz22_1
                try clear hfz22_2
                try clear hfz22_3
                try clear hfz27_0
                try clear hfz27_1
                try clear hfz27_2
                try clear hfz27_3
                try clear hfz30_0
                try clear hfz30_1
                try clear hfz30_2
                try clear hfz34_0
                try clear hfz34_1
                try clear hfz34_2
                try clear hfz34_3
                try clear hfz39_0
                try clear hfz39_1
                try clear hfz39_2
                try clear hfz39_3
                try clear hfz41_0
                try clear hfz41_1
                try clear hfz41_2
                try clear hfz43_0
                try clear hfz43_1
                try clear hfz43_2
                try clear hfz43_3
                try clear hfz45_0
                try clear hfz45_1
                try clear hfz45_2
                try clear hx316_0
                try clear hx316_1
                try clear hx316_2
                try clear hx316_3
                try clear hx320_0
                try clear hx320_1
                try clear hx320_2
                try clear hx322_0
                try clear p2
                try clear p3
                try clear p316
                try clear p320
                try clear p322
                try clear p6
                try clear q3
                try clear q316
                try clear q320
                try clear q322
                obtain ⟨kq, x73_25, rfl, HA, HJ25, HO_5, BK317, BK321, HB⟩ := hcut
                cases kq with
                | zero => exact absurd HA.out (by simp [zn.j3])
                | succ kj25 =>
                 have H := HA.out
                 clear HA
                 simp only [zn.j3] at H
                 by_cases c46 : x73_25 = true
                 ·subst c46
                  have H1 : (some false) = some r := by rw [if_pos rfl] at H; exact H
                  clear H
                  have H := H1
                  clear H1
                  obtain rfl := Option.some.inj H
                  go_wp2
                  repeat (go_quiet (fail); try go_wp2)
                  go_ret
                  exact ⟨by first | rfl | (simp [zw, zx] <;> rfl) | (simp [*, zw, zx] <;> rfl), Zq9 HB.out GE317.out GE321.out⟩
                 ·replace c46 := Bool.eq_false_iff.mpr c46
                  subst c46
                  have H1 : (if x6_2 > 0 then (if 0 ≤ (wrap64 (x6_2 - 1)) then (if (wrap64 (x6_2 - 1)) < (l1.length : Int) then (if ((ze l1 (wrap64 (x6_2 - 1))).f1) > ((ze l1 x6_2).f1) then (some false) else (if ((ze l1 (wrap64 (x6_2 - 1))).f1) = ((ze l1 x6_2).f1) then (if ((ze l1 (wrap64 (x6_2 - 1))).f0) ≥ ((ze l1 x6_2).f0) then (some false) else (if 0 ≤ ((ze l1 x6_2).f0) then (if ((ze l1 x6_2).f0) < (x5_2.length : Int) then (zn.l0 kj25 l0 l1 (x5_2.set (((ze l1 x6_2).f0) : Int).toNat (wrap64 (((ze l1 x6_2).f1) + ((zl l0 ((ze l1 x6_2).f0)).f2)))) (wrap64 (x6_2 + 1))) else (none)) else (none))) else (if 0 ≤ ((ze l1 x6_2).f0) then (if ((ze l1 x6_2).f0) < (x5_2.length : Int) then (zn.l0 kj25 l0 l1 (x5_2.set (((ze l1 x6_2).f0) : Int).toNat (wrap64 (((ze l1 x6_2).f1) + ((zl l0 ((ze l1 x6_2).f0)).f2)))) (wrap64 (x6_2 + 1))) else (none)) else (none)))) else (none)) else (none)) else (if 0 ≤ ((ze l1 x6_2).f0) then (if ((ze l1 x6_2).f0) < (x5_2.length : Int) then (zn.l0 kj25 l0 l1 (x5_2.set (((ze l1 x6_2).f0) : Int).toNat (wrap64 (((ze l1 x6_2).f1) + ((zl l0 ((ze l1 x6_2).f0)).f2)))) (wrap64 (x6_2 + 1))) else (none)) else (none))) = some r := by rw [if_neg (show ¬ (false = true) by decide)] at H; exact H
                  clear H
                  have H := H1
                  clear H1
                  by_cases c47 : x6_2 > 0
                  ·rw [if_pos c47] at H
                   have c47b0 : decide (0 < x6_2) = true := decide_eq_true c47
                   clear c47
                   obtain ⟨ji48, hji48⟩ : ∃ j_ : Int, (wrap64 (x6_2 - 1)) = j_ := ⟨_, rfl⟩
                   replace H : (if 0 ≤ (ji48) then (if (ji48) < (l1.length : Int) then (if ((ze l1 (ji48)).f1) > ((ze l1 x6_2).f1) then (some false) else (if ((ze l1 (ji48)).f1) = ((ze l1 x6_2).f1) then (if ((ze l1 (ji48)).f0) ≥ ((ze l1 x6_2).f0) then (some false) else (if 0 ≤ ((ze l1 x6_2).f0) then (if ((ze l1 x6_2).f0) < (x5_2.length : Int) then (zn.l0 kj25 l0 l1 (x5_2.set (((ze l1 x6_2).f0) : Int).toNat (wrap64 (((ze l1 x6_2).f1) + ((zl l0 ((ze l1 x6_2).f0)).f2)))) (wrap64 (x6_2 + 1))) else (none)) else (none))) else (if 0 ≤ ((ze l1 x6_2).f0) then (if ((ze l1 x6_2).f0) < (x5_2.length : Int) then (zn.l0 kj25 l0 l1 (x5_2.set (((ze l1 x6_2).f0) : Int).toNat (wrap64 (((ze l1 x6_2).f1) + ((zl l0 ((ze l1 x6_2).f0)).f2)))) (wrap64 (x6_2 + 1))) else (none)) else (none)))) else (none)) else (none)) = some r := by first | (rw [hji48] at H; exact H) | (simp only [hji48] at H ⊢; exact H)
                   have hji48w : (IntKind.i64.wrap (x6_2 - 1)) = ji48 := (zb3 _).trans hji48
                   by_cases c49 : 0 ≤ (ji48)
                   ·rw [if_pos c49] at H
                    have c49b0 : decide (0 ≤ (ji48)) = true := decide_eq_true c49
                    clear c49
                    by_cases c50 : (ji48) < (l1.length : Int)
                    ·rw [if_pos c50] at H
                     have c50b0 : decide ((ji48) < (l1.length : Int)) = true := decide_eq_true c50
                     clear c50
                     by_cases c51 : ((ze l1 (ji48)).f1) > ((ze l1 x6_2).f1)
                     ·rw [if_pos c51] at H
                      have c51b0 : decide (((ze l1 x6_2).f1) < ((ze l1 (ji48)).f1)) = true := decide_eq_true c51
                      clear c51
                      obtain rfl := Option.some.inj H
                      have p324 : 0 ≤ ((ji48) : Int) := of_decide_eq_true Zas
                      have q324 : (ji48) < (l1.length : Int) := of_decide_eq_true Zas
                      obtain ⟨ad324, e324, hx324_0, hx324_1, hx324_2, hx324_3⟩ := zda HR1.out (ji48) p324 q324
                      obtain rfl : ad316 = ad324 := (by injection e324)
                      replace hx324_0 := (HB.out.cell (World.block_lt_of_cell? w _ hx324_0)).trans hx324_0
                      replace hx324_1 := (HB.out.cell (World.block_lt_of_cell? w _ hx324_1)).trans hx324_1
                      replace hx324_2 := (HB.out.cell (World.block_lt_of_cell? w _ hx324_2)).trans hx324_2
                      replace hx324_3 := (HB.out.cell (World.block_lt_of_cell? w _ hx324_3)).trans hx324_3
                      replace p324 := eq_true p324
                      replace q324 := eq_true q324
                      have hnb52 := NB317_321.out
                      have hnc52 := NB321_317.out
                      have hcz53_0 : wc.cell? ⟨gb317, 0, none⟩ = some (.int .i64 ((ze l1 x6_2).f0)) := (zg BK317.out 0).trans rfl
                      have hcz53_1 : wc.cell? ⟨gb317, 1, none⟩ = some (.int .i64 ((ze l1 x6_2).f1)) := (zg BK317.out 1).trans rfl
                      have hcz53_2 : wc.cell? ⟨gb317, 2, none⟩ = some (.int .i64 ((ze l1 x6_2).f2)) := (zg BK317.out 2).trans rfl
                      have hcz53_3 : wc.cell? ⟨gb317, 3, none⟩ = some (.int .i64 ((ze l1 x6_2).f3)) := (zg BK317.out 3).trans rfl
                      have hfz53_0 := zf BK317.out 0
                      have hfz53_1 := zf BK317.out 1
                      have hfz53_2 := zf BK317.out 2
                      have hfz53_3 := zf BK317.out 3
                      go_wp2
                      repeat (go_quiet (fail); try go_wp2)
                      go_ret
                      exact ⟨by first | rfl | (simp [zw, zx] <;> rfl) | (simp only [← hji48]; first | rfl | (simp [zw, zx] <;> rfl)) | (simp [*, zw, zx] <;> rfl), Zq9 HB.out GE317.out GE321.out⟩
                     ·rw [if_neg c51] at H
                      have c51b0 : decide (((ze l1 x6_2).f1) < ((ze l1 (ji48)).f1)) = false := decide_eq_false c51
                      clear c51
                      by_cases c54 : ((ze l1 (ji48)).f1) = ((ze l1 x6_2).f1)
                      ·rw [if_pos c54] at H
                       have c54b0 : (((ze l1 (ji48)).f1) == ((ze l1 x6_2).f1)) = true := beq_iff_eq.mpr c54
                       have c54b1 : (((ze l1 (ji48)).f1) != ((ze l1 x6_2).f1)) = false := bne_eq_false_iff_eq.mpr c54
                       clear c54
                       by_cases c55 : ((ze l1 (ji48)).f0) ≥ ((ze l1 x6_2).f0)
                       ·rw [if_pos c55] at H
                        have c55b0 : decide (((ze l1 x6_2).f0) ≤ ((ze l1 (ji48)).f0)) = true := decide_eq_true c55
                        clear c55
                        obtain rfl := Option.some.inj H
                        have p324 : 0 ≤ ((ji48) : Int) := of_decide_eq_true Zas
                        have q324 : (ji48) < (l1.length : Int) := of_decide_eq_true Zas
                        obtain ⟨ad324, e324, hx324_0, hx324_1, hx324_2, hx324_3⟩ := zda HR1.out (ji48) p324 q324
                        obtain rfl : ad316 = ad324 := (by injection e324)
                        replace hx324_0 := (HB.out.cell (World.block_lt_of_cell? w _ hx324_0)).trans hx324_0
                        replace hx324_1 := (HB.out.cell (World.block_lt_of_cell? w _ hx324_1)).trans hx324_1
                        replace hx324_2 := (HB.out.cell (World.block_lt_of_cell? w _ hx324_2)).trans hx324_2
                        replace hx324_3 := (HB.out.cell (World.block_lt_of_cell? w _ hx324_3)).trans hx324_3
                        replace p324 := eq_true p324
                        replace q324 := eq_true q324
                        have hnb56 := NB317_321.out
                        have hnc56 := NB321_317.out
                        have hcz57_0 : wc.cell? ⟨gb317, 0, none⟩ = some (.int .i64 ((ze l1 x6_2).f0)) := (zg BK317.out 0).trans rfl
                        have hcz57_1 : wc.cell? ⟨gb317, 1, none⟩ = some (.int .i64 ((ze l1 x6_2).f1)) := (zg BK317.out 1).trans rfl
                        have hcz57_2 : wc.cell? ⟨gb317, 2, none⟩ = some (.int .i64 ((ze l1 x6_2).f2)) := (zg BK317.out 2).trans rfl
                        have hcz57_3 : wc.cell? ⟨gb317, 3, none⟩ = some (.int .i64 ((ze l1 x6_2).f3)) := (zg BK317.out 3).trans rfl
                        have hfz57_0 := zf BK317.out 0
                        have hfz57_1 := zf BK317.out 1
                        have hfz57_2 := zf BK317.out 2
                        have hfz57_3 := zf BK317.out 3
                        have p325 : 0 ≤ ((ji48) : Int) := of_decide_eq_true Zas
                        have q325 : (ji48) < (l1.length : Int) := of_decide_eq_true Zas
                        obtain ⟨ad325, e325, hx325_0, hx325_1, hx325_2, hx325_3⟩ := zda HR1.out (ji48) p325 q325
                        obtain rfl : ad316 = ad325 := (by injection e325)
                        replace hx325_0 := (HB.out.cell (World.block_lt_of_cell? w _ hx325_0)).trans hx325_0
                        replace hx325_1 := (HB.out.cell (World.block_lt_of_cell? w _ hx325_1)).trans hx325_1
                        replace hx325_2 := (HB.out.cell (World.block_lt_of_cell? w _ hx325_2)).trans hx325_2
                        replace hx325_3 := (HB.out.cell (World.block_lt_of_cell? w _ hx325_3)).trans hx325_3
                        replace p325 := eq_true p325
                        replace q325 := eq_true q325
                        have p326 : 0 ≤ ((ji48) : Int) := of_decide_eq_true Zas
                        have q326 : (ji48) < (l1.length : Int) := of_decide_eq_true Zas
                        obtain ⟨ad326, e326, hx326_0, hx326_1, hx326_2, hx326_3⟩ := zda HR1.out (ji48) p326 q326
                        obtain rfl : ad316 = ad326 := (by injection e326)
                        replace hx326_0 := (HB.out.cell (World.block_lt_of_cell? w _ hx326_0)).trans hx326_0
                        replace hx326_1 := (HB.out.cell (World.block_lt_of_cell? w _ hx326_1)).trans hx326_1
                        replace hx326_2 := (HB.out.cell (World.block_lt_of_cell? w _ hx326_2)).trans hx326_2
                        replace hx326_3 := (HB.out.cell (World.block_lt_of_cell? w _ hx326_3)).trans hx326_3
                        replace p326 := eq_true p326
                        replace q326 := eq_true q326
                        go_wp2
                        repeat (go_quiet (fail); try go_wp2)
                        go_ret
                        exact ⟨by first | rfl | (simp [zw, zx] <;> rfl) | (simp only [← hji48]; first | rfl | (simp [zw, zx] <;> rfl)) | (simp [*, zw, zx] <;> rfl), Zq9 HB.out GE317.out GE321.out⟩
                       ·rw [if_neg c55] at H
                        have c55b0 : decide (((ze l1 x6_2).f0) ≤ ((ze l1 (ji48)).f0)) = false := decide_eq_false c55
                        clear c55
                        by_cases c58 : 0 ≤ ((ze l1 x6_2).f0)
                        ·rw [if_pos c58] at H
                         have c58b0 : decide (0 ≤ ((ze l1 x6_2).f0)) = true := decide_eq_true c58
                         clear c58
                         by_cases c59 : ((ze l1 x6_2).f0) < (x5_2.length : Int)
                         ·rw [if_pos c59] at H
                          have c59b0 : decide (((ze l1 x6_2).f0) < (x5_2.length : Int)) = true := decide_eq_true c59
                          clear c59
                          obtain ⟨y327, hy327⟩ : ∃ y_ : List Int, y_ = (x5_2.set (((ze l1 x6_2).f0) : Int).toNat (wrap64 (((ze l1 x6_2).f1) + ((zl l0 ((ze l1 x6_2).f0)).f2)))) := ⟨_, rfl⟩
                          replace H : (zn.l0 kj25 l0 l1 y327 (wrap64 (x6_2 + 1))) = some r := by first | (rw [hy327]; with_reducible exact H) | (have H2_ := (Option.bind_some _ _).symm.trans H; rw [hy327]; with_reducible exact H2_) | (have H2_ := (Option.bind_some _ _).symm.trans H; with_reducible exact H2_) | with_reducible exact H | (rw [hy327]; exact H) | exact H
                          have Ny327 := za.mk hy327
                          clear hy327
                          have H' := za.mk H
                          clear H
                          have p324 : 0 ≤ ((ji48) : Int) := of_decide_eq_true Zas
                          have q324 : (ji48) < (l1.length : Int) := of_decide_eq_true Zas
                          obtain ⟨ad324, e324, hx324_0, hx324_1, hx324_2, hx324_3⟩ := zda HR1.out (ji48) p324 q324
                          obtain rfl : ad316 = ad324 := (by injection e324)
                          replace hx324_0 := (HB.out.cell (World.block_lt_of_cell? w _ hx324_0)).trans hx324_0
                          replace hx324_1 := (HB.out.cell (World.block_lt_of_cell? w _ hx324_1)).trans hx324_1
                          replace hx324_2 := (HB.out.cell (World.block_lt_of_cell? w _ hx324_2)).trans hx324_2
                          replace hx324_3 := (HB.out.cell (World.block_lt_of_cell? w _ hx324_3)).trans hx324_3
                          replace p324 := eq_true p324
                          replace q324 := eq_true q324
                          have hnb61 := NB317_321.out
                          have hnc61 := NB321_317.out
                          have hcz62_0 : wc.cell? ⟨gb317, 0, none⟩ = some (.int .i64 ((ze l1 x6_2).f0)) := (zg BK317.out 0).trans rfl
                          have hcz62_1 : wc.cell? ⟨gb317, 1, none⟩ = some (.int .i64 ((ze l1 x6_2).f1)) := (zg BK317.out 1).trans rfl
                          have hcz62_2 : wc.cell? ⟨gb317, 2, none⟩ = some (.int .i64 ((ze l1 x6_2).f2)) := (zg BK317.out 2).trans rfl
                          have hcz62_3 : wc.cell? ⟨gb317, 3, none⟩ = some (.int .i64 ((ze l1 x6_2).f3)) := (zg BK317.out 3).trans rfl
                          have hfz62_0 := zf BK317.out 0
                          have hfz62_1 := zf BK317.out 1
                          have hfz62_2 := zf BK317.out 2
                          have hfz62_3 := zf BK317.out 3
                          have p325 : 0 ≤ ((ji48) : Int) := of_decide_eq_true Zas
                          have q325 : (ji48) < (l1.length : Int) := of_decide_eq_true Zas
                          obtain ⟨ad325, e325, hx325_0, hx325_1, hx325_2, hx325_3⟩ := zda HR1.out (ji48) p325 q325
                          obtain rfl : ad316 = ad325 := (by injection e325)
                          replace hx325_0 := (HB.out.cell (World.block_lt_of_cell? w _ hx325_0)).trans hx325_0
                          replace hx325_1 := (HB.out.cell (World.block_lt_of_cell? w _ hx325_1)).trans hx325_1
                          replace hx325_2 := (HB.out.cell (World.block_lt_of_cell? w _ hx325_2)).trans hx325_2
                          replace hx325_3 := (HB.out.cell (World.block_lt_of_cell? w _ hx325_3)).trans hx325_3
                          replace p325 := eq_true p325
                          replace q325 := eq_true q325
                          have p326 : 0 ≤ ((ji48) : Int) := of_decide_eq_true Zas
                          have q326 : (ji48) < (l1.length : Int) := of_decide_eq_true Zas
                          obtain ⟨ad326, e326, hx326_0, hx326_1, hx326_2, hx326_3⟩ := zda HR1.out (ji48) p326 q326
                          obtain rfl : ad316 = ad326 := (by injection e326)
                          replace hx326_0 := (HB.out.cell (World.block_lt_of_cell? w _ hx326_0)).trans hx326_0
                          replace hx326_1 := (HB.out.cell (World.block_lt_of_cell? w _ hx326_1)).trans hx326_1
                          replace hx326_2 := (HB.out.cell (World.block_lt_of_cell? w _ hx326_2)).trans hx326_2
                          replace hx326_3 := (HB.out.cell (World.block_lt_of_cell? w _ hx326_3)).trans hx326_3
                          replace p326 := eq_true p326
                          replace q326 := eq_true q326
                          have hcz63_0 : wc.cell? ⟨gb321, 0, none⟩ = some (.int .i64 ((zl l0 ((ze l1 x6_2).f0)).f0)) := (zg BK321.out 0).trans rfl
                          have hcz63_1 : wc.cell? ⟨gb321, 1, none⟩ = some (.int .i64 ((zl l0 ((ze l1 x6_2).f0)).f1)) := (zg BK321.out 1).trans rfl
                          have hcz63_2 : wc.cell? ⟨gb321, 2, none⟩ = some (.int .i64 ((zl l0 ((ze l1 x6_2).f0)).f2)) := (zg BK321.out 2).trans rfl
                          have hfz63_0 := zf BK321.out 0
                          have hfz63_1 := zf BK321.out 1
                          have hfz63_2 := zf BK321.out 2
                          have p60 : 0 ≤ (((ze l1 x6_2).f0) : Int) := of_decide_eq_true Zas
                          have q60 : (((ze l1 x6_2).f0) : Int) < ((x5_2.length : Int) : Int) := of_decide_eq_true Zas
                          obtain ⟨go60, co60, eo60, gb60, gl60, cl60, HG60⟩ := Kd.R_form HO_5.out (by omega)
                          (first | cases eo60 | (injection eo60 with ea_ en_ ec_; (first | subst ea_ | (injection ea_ with ea_; subst ea_)); subst ec_; clear en_))
                          have GB60 := za.mk gb60
                          have GG60 := za.mk HG60
                          clear gb60 gl60 HG60
                          obtain ⟨hx60_0, hf60_0⟩ := Kd.zdi 0 HO_5.out (((ze l1 x6_2).f0) : Int) p60 q60
                          replace p60 := eq_true p60
                          replace q60 := eq_true q60
                          have HP64 := Kd.zde HO_5.out (((ze l1 x6_2).f0) : Int) (wrap64 (((ze l1 x6_2).f1) + ((zl l0 ((ze l1 x6_2).f0)).f2)))
                          go_wp2_with (first | ((with_reducible refine zcg (t := 3) (p := 117) rfl ?_); (try (rw [zdq wc]; generalize hq_ : World.drewN wc _ = wc; have n0_ := za.mk (Kd.R_at hq_ HO_5.out); have n1_ := za.mk (blk_at hq_ BK317.out); have n2_ := za.mk (blk_at hq_ BK321.out); have n3_ := za.mk (below_at hq_ HB.out); clear hq_ HO_5 BK317 BK321 HB; have HO_5 := n0_; have BK317 := n1_; have BK321 := n2_; have HB := n3_; clear n0_ n1_ n2_ n3_; (try (have HP64 := Kd.zde HO_5.out (((ze l1 x6_2).f0) : Int) (wrap64 (((ze l1 x6_2).f1) + ((zl l0 ((ze l1 x6_2).f0)).f2))))))); refine zb8 (t := 3) (p := 117) (v := ?vo_w65) (w1 := (wc.setCell ⟨go60, (((ze l1 x6_2).f0) : Int).toNat, none⟩ (.int .i64 (wrap64 (((ze l1 x6_2).f1) + ((zl l0 ((ze l1 x6_2).f0)).f2)))))) ?hg ?ho ?hn ?hr ?_; (case ho => rfl); (case hg => rfl); (case hn => rfl); (case hr => first | (go_simp; done) | (go_simp; rfl)); intro w65 hw; have hg : wc.grownBy w65 (some go60) := (by rw [hw]; exact HP64.2); have hp_ : Kd.R (Kd.int .i64) 3 w65 w.heap.size (fun _ => True) (.slice (some ⟨go60, 0, none⟩) x5_2.length co60) y327 := (by rw [hw, Ny327.out]; exact HP64.1); clear HP64; have n0_ := za.mk (hp_); have n1_ := za.mk (zbz (g := gb317) (o := .cells #[.int .i64 ((ze l1 x6_2).f0), .int .i64 ((ze l1 x6_2).f1), .int .i64 ((ze l1 x6_2).f2), .int .i64 ((ze l1 x6_2).f3)] 34 (0, 0)) (Zq2 BK317.out) hg (Kd.R_ne HO_5.out BK317.out (by decide))); have n2_ := za.mk (zbz (g := gb321) (o := .cells #[.int .i64 ((zl l0 ((ze l1 x6_2).f0)).f0), .int .i64 ((zl l0 ((ze l1 x6_2).f0)).f1), .int .i64 ((zl l0 ((ze l1 x6_2).f0)).f2)] 88 (0, 0)) (Zq2 BK321.out) hg (Kd.R_ne HO_5.out BK321.out (by decide))); have n3_ := za.mk ((by rw [hw]; exact zbw (HB.out) GB60.out : Below w.heap.size w w65)); clear HO_5; clear BK317; clear BK321; clear HB; have HO_5 := n0_; have BK317 := n1_; have BK321 := n2_; have HB := n3_; clear n0_ n1_ n2_ n3_; clear hg hw hp_))
                          repeat (go_quiet (first | ((with_reducible refine zcg (t := 3) (p := 117) rfl ?_); (try (rw [zdq wc]; generalize hq_ : World.drewN wc _ = wc; have n0_ := za.mk (Kd.R_at hq_ HO_5.out); have n1_ := za.mk (blk_at hq_ BK317.out); have n2_ := za.mk (blk_at hq_ BK321.out); have n3_ := za.mk (below_at hq_ HB.out); clear hq_ HO_5 BK317 BK321 HB; have HO_5 := n0_; have BK317 := n1_; have BK321 := n2_; have HB := n3_; clear n0_ n1_ n2_ n3_; (try (have HP64 := Kd.zde HO_5.out (((ze l1 x6_2).f0) : Int) (wrap64 (((ze l1 x6_2).f1) + ((zl l0 ((ze l1 x6_2).f0)).f2))))))); refine zb8 (t := 3) (p := 117) (v := ?vo_w65) (w1 := (wc.setCell ⟨go60, (((ze l1 x6_2).f0) : Int).toNat, none⟩ (.int .i64 (wrap64 (((ze l1 x6_2).f1) + ((zl l0 ((ze l1 x6_2).f0)).f2)))))) ?hg ?ho ?hn ?hr ?_; (case ho => rfl); (case hg => rfl); (case hn => rfl); (case hr => first | (go_simp; done) | (go_simp; rfl)); intro w65 hw; have hg : wc.grownBy w65 (some go60) := (by rw [hw]; exact HP64.2); have hp_ : Kd.R (Kd.int .i64) 3 w65 w.heap.size (fun _ => True) (.slice (some ⟨go60, 0, none⟩) x5_2.length co60) y327 := (by rw [hw, Ny327.out]; exact HP64.1); clear HP64; have n0_ := za.mk (hp_); have n1_ := za.mk (zbz (g := gb317) (o := .cells #[.int .i64 ((ze l1 x6_2).f0), .int .i64 ((ze l1 x6_2).f1), .int .i64 ((ze l1 x6_2).f2), .int .i64 ((ze l1 x6_2).f3)] 34 (0, 0)) (Zq2 BK317.out) hg (Kd.R_ne HO_5.out BK317.out (by decide))); have n2_ := za.mk (zbz (g := gb321) (o := .cells #[.int .i64 ((zl l0 ((ze l1 x6_2).f0)).f0), .int .i64 ((zl l0 ((ze l1 x6_2).f0)).f1), .int .i64 ((zl l0 ((ze l1 x6_2).f0)).f2)] 88 (0, 0)) (Zq2 BK321.out) hg (Kd.R_ne HO_5.out BK321.out (by decide))); have n3_ := za.mk ((by rw [hw]; exact zbw (HB.out) GB60.out : Below w.heap.size w w65)); clear HO_5; clear BK317; clear BK321; clear HB; have HO_5 := n0_; have BK317 := n1_; have BK321 := n2_; have HB := n3_; clear n0_ n1_ n2_ n3_; clear hg hw hp_)); try go_wp2_with (first | ((with_reducible refine zcg (t := 3) (p := 117) rfl ?_); (try (rw [zdq wc]; generalize hq_ : World.drewN wc _ = wc; have n0_ := za.mk (Kd.R_at hq_ HO_5.out); have n1_ := za.mk (blk_at hq_ BK317.out); have n2_ := za.mk (blk_at hq_ BK321.out); have n3_ := za.mk (below_at hq_ HB.out); clear hq_ HO_5 BK317 BK321 HB; have HO_5 := n0_; have BK317 := n1_; have BK321 := n2_; have HB := n3_; clear n0_ n1_ n2_ n3_; (try (have HP64 := Kd.zde HO_5.out (((ze l1 x6_2).f0) : Int) (wrap64 (((ze l1 x6_2).f1) + ((zl l0 ((ze l1 x6_2).f0)).f2))))))); refine zb8 (t := 3) (p := 117) (v := ?vo_w65) (w1 := (wc.setCell ⟨go60, (((ze l1 x6_2).f0) : Int).toNat, none⟩ (.int .i64 (wrap64 (((ze l1 x6_2).f1) + ((zl l0 ((ze l1 x6_2).f0)).f2)))))) ?hg ?ho ?hn ?hr ?_; (case ho => rfl); (case hg => rfl); (case hn => rfl); (case hr => first | (go_simp; done) | (go_simp; rfl)); intro w65 hw; have hg : wc.grownBy w65 (some go60) := (by rw [hw]; exact HP64.2); have hp_ : Kd.R (Kd.int .i64) 3 w65 w.heap.size (fun _ => True) (.slice (some ⟨go60, 0, none⟩) x5_2.length co60) y327 := (by rw [hw, Ny327.out]; exact HP64.1); clear HP64; have n0_ := za.mk (hp_); have n1_ := za.mk (zbz (g := gb317) (o := .cells #[.int .i64 ((ze l1 x6_2).f0), .int .i64 ((ze l1 x6_2).f1), .int .i64 ((ze l1 x6_2).f2), .int .i64 ((ze l1 x6_2).f3)] 34 (0, 0)) (Zq2 BK317.out) hg (Kd.R_ne HO_5.out BK317.out (by decide))); have n2_ := za.mk (zbz (g := gb321) (o := .cells #[.int .i64 ((zl l0 ((ze l1 x6_2).f0)).f0), .int .i64 ((zl l0 ((ze l1 x6_2).f0)).f1), .int .i64 ((zl l0 ((ze l1 x6_2).f0)).f2)] 88 (0, 0)) (Zq2 BK321.out) hg (Kd.R_ne HO_5.out BK321.out (by decide))); have n3_ := za.mk ((by rw [hw]; exact zbw (HB.out) GB60.out : Below w.heap.size w w65)); clear HO_5; clear BK317; clear BK321; clear HB; have HO_5 := n0_; have BK317 := n1_; have BK321 := n2_; have HB := n3_; clear n0_ n1_ n2_ n3_; clear hg hw hp_)))
                          go_roundg kj25
                          case measure => have := HJ2.out; have := HK2.out; have := HJ14.out; have := HJ25.out; omega
                          case rel => exact ⟨(y327), (wrap64 (x6_2 + 1)), Zrs, H', ⟨by have := HJ2.out; have := HK2.out; have := HJ14.out; have := HJ25.out; omega⟩, ⟨by first | ((with_reducible repeat (first | apply Kd.zbf | apply Kd.zbe | apply Kd.zbl)); exact HO_5.out) | (rw [Ny327.out]; exact (Kd.zde (Kd.zbe HO_5.out _) _ _).1) | (rw [Ny327.out]; exact (Kd.zde HO_5.out _ _).1)⟩, ⟨by first | exact zbw (zbc HB.out _) GB60.out | exact zbw HB.out GB60.out | (repeat (first | (with_reducible first | exact HB.out | apply zbd | apply zbc | apply zb0 | refine zbw ?_ GE317.out | refine zbw ?_ GE321.out) | exact HB.out))⟩⟩
                         ·rw [if_neg c59] at H
                          exact absurd H (by simp)
                        ·rw [if_neg c58] at H
                         exact absurd H (by simp)
                      ·rw [if_neg c54] at H
                       have c54b0 : (((ze l1 (ji48)).f1) == ((ze l1 x6_2).f1)) = false := beq_eq_false_iff_ne.mpr c54
                       have c54b1 : (((ze l1 (ji48)).f1) != ((ze l1 x6_2).f1)) = true := bne_iff_ne.mpr c54
                       by_cases c66 : 0 ≤ ((ze l1 x6_2).f0)
                       ·rw [if_pos c66] at H
                        have c66b0 : decide (0 ≤ ((ze l1 x6_2).f0)) = true := decide_eq_true c66
                        clear c66
                        by_cases c67 : ((ze l1 x6_2).f0) < (x5_2.length : Int)
                        ·rw [if_pos c67] at H
                         have c67b0 : decide (((ze l1 x6_2).f0) < (x5_2.length : Int)) = true := decide_eq_true c67
                         clear c67
                         obtain ⟨y328, hy328⟩ : ∃ y_ : List Int, y_ = (x5_2.set (((ze l1 x6_2).f0) : Int).toNat (wrap64 (((ze l1 x6_2).f1) + ((zl l0 ((ze l1 x6_2).f0)).f2)))) := ⟨_, rfl⟩
                         replace H : (zn.l0 kj25 l0 l1 y328 (wrap64 (x6_2 + 1))) = some r := by first | (rw [hy328]; with_reducible exact H) | (have H2_ := (Option.bind_some _ _).symm.trans H; rw [hy328]; with_reducible exact H2_) | (have H2_ := (Option.bind_some _ _).symm.trans H; with_reducible exact H2_) | with_reducible exact H | (rw [hy328]; exact H) | exact H
                         have Ny328 := za.mk hy328
                         clear hy328
                         have H' := za.mk H
                         clear H
                         have p324 : 0 ≤ ((ji48) : Int) := of_decide_eq_true Zas
                         have q324 : (ji48) < (l1.length : Int) := of_decide_eq_true Zas
                         obtain ⟨ad324, e324, hx324_0, hx324_1, hx324_2, hx324_3⟩ := zda HR1.out (ji48) p324 q324
                         obtain rfl : ad316 = ad324 := (by injection e324)
                         replace hx324_0 := (HB.out.cell (World.block_lt_of_cell? w _ hx324_0)).trans hx324_0
                         replace hx324_1 := (HB.out.cell (World.block_lt_of_cell? w _ hx324_1)).trans hx324_1
                         replace hx324_2 := (HB.out.cell (World.block_lt_of_cell? w _ hx324_2)).trans hx324_2
                         replace hx324_3 := (HB.out.cell (World.block_lt_of_cell? w _ hx324_3)).trans hx324_3
                         replace p324 := eq_true p324
                         replace q324 := eq_true q324
                         have hnb69 := NB317_321.out
                         have hnc69 := NB321_317.out
                         have hcz70_0 : wc.cell? ⟨gb317, 0, none⟩ = some (.int .i64 ((ze l1 x6_2).f0)) := (zg BK317.out 0).trans rfl
                         have hcz70_1 : wc.cell? ⟨gb317, 1, none⟩ = some (.int .i64 ((ze l1 x6_2).f1)) := (zg BK317.out 1).trans rfl
                         have hcz70_2 : wc.cell? ⟨gb317, 2, none⟩ = some (.int .i64 ((ze l1 x6_2).f2)) := (zg BK317.out 2).trans rfl
                         have hcz70_3 : wc.cell? ⟨gb317, 3, none⟩ = some (.int .i64 ((ze l1 x6_2).f3)) := (zg BK317.out 3).trans rfl
                         have hfz70_0 := zf BK317.out 0
                         have hfz70_1 := zf BK317.out 1
                         have hfz70_2 := zf BK317.out 2
                         have hfz70_3 := zf BK317.out 3
                         have p325 : 0 ≤ ((ji48) : Int) := of_decide_eq_true Zas
                         have q325 : (ji48) < (l1.length : Int) := of_decide_eq_true Zas
                         obtain ⟨ad325, e325, hx325_0, hx325_1, hx325_2, hx325_3⟩ := zda HR1.out (ji48) p325 q325
                         obtain rfl : ad316 = ad325 := (by injection e325)
                         replace hx325_0 := (HB.out.cell (World.block_lt_of_cell? w _ hx325_0)).trans hx325_0
                         replace hx325_1 := (HB.out.cell (World.block_lt_of_cell? w _ hx325_1)).trans hx325_1
                         replace hx325_2 := (HB.out.cell (World.block_lt_of_cell? w _ hx325_2)).trans hx325_2
                         replace hx325_3 := (HB.out.cell (World.block_lt_of_cell? w _ hx325_3)).trans hx325_3
                         replace p325 := eq_true p325
                         replace q325 := eq_true q325
                         have hcz71_0 : wc.cell? ⟨gb321, 0, none⟩ = some (.int .i64 ((zl l0 ((ze l1 x6_2).f0)).f0)) := (zg BK321.out 0).trans rfl
                         have hcz71_1 : wc.cell? ⟨gb321, 1, none⟩ = some (.int .i64 ((zl l0 ((ze l1 x6_2).f0)).f1)) := (zg BK321.out 1).trans rfl
                         have hcz71_2 : wc.cell? ⟨gb321, 2, none⟩ = some (.int .i64 ((zl l0 ((ze l1 x6_2).f0)).f2)) := (zg BK321.out 2).trans rfl
                         have hfz71_0 := zf BK321.out 0
                         have hfz71_1 := zf BK321.out 1
                         have hfz71_2 := zf BK321.out 2
                         have p68 : 0 ≤ (((ze l1 x6_2).f0) : Int) := of_decide_eq_true Zas
                         have q68 : (((ze l1 x6_2).f0) : Int) < ((x5_2.length : Int) : Int) := of_decide_eq_true Zas
                         obtain ⟨go68, co68, eo68, gb68, gl68, cl68, HG68⟩ := Kd.R_form HO_5.out (by omega)
                         (first | cases eo68 | (injection eo68 with ea_ en_ ec_; (first | subst ea_ | (injection ea_ with ea_; subst ea_)); subst ec_; clear en_))
                         have GB68 := za.mk gb68
                         have GG68 := za.mk HG68
                         clear gb68 gl68 HG68
                         obtain ⟨hx68_0, hf68_0⟩ := Kd.zdi 0 HO_5.out (((ze l1 x6_2).f0) : Int) p68 q68
                         replace p68 := eq_true p68
                         replace q68 := eq_true q68
                         have HP72 := Kd.zde HO_5.out (((ze l1 x6_2).f0) : Int) (wrap64 (((ze l1 x6_2).f1) + ((zl l0 ((ze l1 x6_2).f0)).f2)))
                         go_wp2_with (first | ((with_reducible refine zcg (t := 3) (p := 117) rfl ?_); (try (rw [zdq wc]; generalize hq_ : World.drewN wc _ = wc; have n0_ := za.mk (Kd.R_at hq_ HO_5.out); have n1_ := za.mk (blk_at hq_ BK317.out); have n2_ := za.mk (blk_at hq_ BK321.out); have n3_ := za.mk (below_at hq_ HB.out); clear hq_ HO_5 BK317 BK321 HB; have HO_5 := n0_; have BK317 := n1_; have BK321 := n2_; have HB := n3_; clear n0_ n1_ n2_ n3_; (try (have HP72 := Kd.zde HO_5.out (((ze l1 x6_2).f0) : Int) (wrap64 (((ze l1 x6_2).f1) + ((zl l0 ((ze l1 x6_2).f0)).f2))))))); refine zb8 (t := 3) (p := 117) (v := ?vo_w73) (w1 := (wc.setCell ⟨go68, (((ze l1 x6_2).f0) : Int).toNat, none⟩ (.int .i64 (wrap64 (((ze l1 x6_2).f1) + ((zl l0 ((ze l1 x6_2).f0)).f2)))))) ?hg ?ho ?hn ?hr ?_; (case ho => rfl); (case hg => rfl); (case hn => rfl); (case hr => first | (go_simp; done) | (go_simp; rfl)); intro w73 hw; have hg : wc.grownBy w73 (some go68) := (by rw [hw]; exact HP72.2); have hp_ : Kd.R (Kd.int .i64) 3 w73 w.heap.size (fun _ => True) (.slice (some ⟨go68, 0, none⟩) x5_2.length co68) y328 := (by rw [hw, Ny328.out]; exact HP72.1); clear HP72; have n0_ := za.mk (hp_); have n1_ := za.mk (zbz (g := gb317) (o := .cells #[.int .i64 ((ze l1 x6_2).f0), .int .i64 ((ze l1 x6_2).f1), .int .i64 ((ze l1 x6_2).f2), .int .i64 ((ze l1 x6_2).f3)] 34 (0, 0)) (Zq2 BK317.out) hg (Kd.R_ne HO_5.out BK317.out (by decide))); have n2_ := za.mk (zbz (g := gb321) (o := .cells #[.int .i64 ((zl l0 ((ze l1 x6_2).f0)).f0), .int .i64 ((zl l0 ((ze l1 x6_2).f0)).f1), .int .i64 ((zl l0 ((ze l1 x6_2).f0)).f2)] 88 (0, 0)) (Zq2 BK321.out) hg (Kd.R_ne HO_5.out BK321.out (by decide))); have n3_ := za.mk ((by rw [hw]; exact zbw (HB.out) GB68.out : Below w.heap.size w w73)); clear HO_5; clear BK317; clear BK321; clear HB; have HO_5 := n0_; have BK317 := n1_; have BK321 := n2_; have HB := n3_; clear n0_ n1_ n2_ n3_; clear hg hw hp_))
                         repeat (go_quiet (first | ((with_reducible refine zcg (t := 3) (p := 117) rfl ?_); (try (rw [zdq wc]; generalize hq_ : World.drewN wc _ = wc; have n0_ := za.mk (Kd.R_at hq_ HO_5.out); have n1_ := za.mk (blk_at hq_ BK317.out); have n2_ := za.mk (blk_at hq_ BK321.out); have n3_ := za.mk (below_at hq_ HB.out); clear hq_ HO_5 BK317 BK321 HB; have HO_5 := n0_; have BK317 := n1_; have BK321 := n2_; have HB := n3_; clear n0_ n1_ n2_ n3_; (try (have HP72 := Kd.zde HO_5.out (((ze l1 x6_2).f0) : Int) (wrap64 (((ze l1 x6_2).f1) + ((zl l0 ((ze l1 x6_2).f0)).f2))))))); refine zb8 (t := 3) (p := 117) (v := ?vo_w73) (w1 := (wc.setCell ⟨go68, (((ze l1 x6_2).f0) : Int).toNat, none⟩ (.int .i64 (wrap64 (((ze l1 x6_2).f1) + ((zl l0 ((ze l1 x6_2).f0)).f2)))))) ?hg ?ho ?hn ?hr ?_; (case ho => rfl); (case hg => rfl); (case hn => rfl); (case hr => first | (go_simp; done) | (go_simp; rfl)); intro w73 hw; have hg : wc.grownBy w73 (some go68) := (by rw [hw]; exact HP72.2); have hp_ : Kd.R (Kd.int .i64) 3 w73 w.heap.size (fun _ => True) (.slice (some ⟨go68, 0, none⟩) x5_2.length co68) y328 := (by rw [hw, Ny328.out]; exact HP72.1); clear HP72; have n0_ := za.mk (hp_); have n1_ := za.mk (zbz (g := gb317) (o := .cells #[.int .i64 ((ze l1 x6_2).f0), .int .i64 ((ze l1 x6_2).f1), .int .i64 ((ze l1 x6_2).f2), .int .i64 ((ze l1 x6_2).f3)] 34 (0, 0)) (Zq2 BK317.out) hg (Kd.R_ne HO_5.out BK317.out (by decide))); have n2_ := za.mk (zbz (g := gb321) (o := .cells #[.int .i64 ((zl l0 ((ze l1 x6_2).f0)).f0), .int .i64 ((zl l0 ((ze l1 x6_2).f0)).f1), .int .i64 ((zl l0 ((ze l1 x6_2).f0)).f2)] 88 (0, 0)) (Zq2 BK321.out) hg (Kd.R_ne HO_5.out BK321.out (by decide))); have n3_ := za.mk ((by rw [hw]; exact zbw (HB.out) GB68.out : Below w.heap.size w w73)); clear HO_5; clear BK317; clear BK321; clear HB; have HO_5 := n0_; have BK317 := n1_; have BK321 := n2_; have HB := n3_; clear n0_ n1_ n2_ n3_; clear hg hw hp_)); try go_wp2_with (first | ((with_reducible refine zcg (t := 3) (p := 117) rfl ?_); (try (rw [zdq wc]; generalize hq_ : World.drewN wc _ = wc; have n0_ := za.mk (Kd.R_at hq_ HO_5.out); have n1_ := za.mk (blk_at hq_ BK317.out); have n2_ := za.mk (blk_at hq_ BK321.out); have n3_ := za.mk (below_at hq_ HB.out); clear hq_ HO_5 BK317 BK321 HB; have HO_5 := n0_; have BK317 := n1_; have BK321 := n2_; have HB := n3_; clear n0_ n1_ n2_ n3_; (try (have HP72 := Kd.zde HO_5.out (((ze l1 x6_2).f0) : Int) (wrap64 (((ze l1 x6_2).f1) + ((zl l0 ((ze l1 x6_2).f0)).f2))))))); refine zb8 (t := 3) (p := 117) (v := ?vo_w73) (w1 := (wc.setCell ⟨go68, (((ze l1 x6_2).f0) : Int).toNat, none⟩ (.int .i64 (wrap64 (((ze l1 x6_2).f1) + ((zl l0 ((ze l1 x6_2).f0)).f2)))))) ?hg ?ho ?hn ?hr ?_; (case ho => rfl); (case hg => rfl); (case hn => rfl); (case hr => first | (go_simp; done) | (go_simp; rfl)); intro w73 hw; have hg : wc.grownBy w73 (some go68) := (by rw [hw]; exact HP72.2); have hp_ : Kd.R (Kd.int .i64) 3 w73 w.heap.size (fun _ => True) (.slice (some ⟨go68, 0, none⟩) x5_2.length co68) y328 := (by rw [hw, Ny328.out]; exact HP72.1); clear HP72; have n0_ := za.mk (hp_); have n1_ := za.mk (zbz (g := gb317) (o := .cells #[.int .i64 ((ze l1 x6_2).f0), .int .i64 ((ze l1 x6_2).f1), .int .i64 ((ze l1 x6_2).f2), .int .i64 ((ze l1 x6_2).f3)] 34 (0, 0)) (Zq2 BK317.out) hg (Kd.R_ne HO_5.out BK317.out (by decide))); have n2_ := za.mk (zbz (g := gb321) (o := .cells #[.int .i64 ((zl l0 ((ze l1 x6_2).f0)).f0), .int .i64 ((zl l0 ((ze l1 x6_2).f0)).f1), .int .i64 ((zl l0 ((ze l1 x6_2).f0)).f2)] 88 (0, 0)) (Zq2 BK321.out) hg (Kd.R_ne HO_5.out BK321.out (by decide))); have n3_ := za.mk ((by rw [hw]; exact zbw (HB.out) GB68.out : Below w.heap.size w w73)); clear HO_5; clear BK317; clear BK321; clear HB; have HO_5 := n0_; have BK317 := n1_; have BK321 := n2_; have HB := n3_; clear n0_ n1_ n2_ n3_; clear hg hw hp_)))
                         go_roundg kj25
                         case measure => have := HJ2.out; have := HK2.out; have := HJ14.out; have := HJ25.out; omega
                         case rel => exact ⟨(y328), (wrap64 (x6_2 + 1)), Zrs, H', ⟨by have := HJ2.out; have := HK2.out; have := HJ14.out; have := HJ25.out; omega⟩, ⟨by first | ((with_reducible repeat (first | apply Kd.zbf | apply Kd.zbe | apply Kd.zbl)); exact HO_5.out) | (rw [Ny328.out]; exact (Kd.zde (Kd.zbe HO_5.out _) _ _).1) | (rw [Ny328.out]; exact (Kd.zde HO_5.out _ _).1)⟩, ⟨by first | exact zbw (zbc HB.out _) GB68.out | exact zbw HB.out GB68.out | (repeat (first | (with_reducible first | exact HB.out | apply zbd | apply zbc | apply zb0 | refine zbw ?_ GE317.out | refine zbw ?_ GE321.out) | exact HB.out))⟩⟩
                        ·rw [if_neg c67] at H
                         exact absurd H (by simp)
                       ·rw [if_neg c66] at H
                        exact absurd H (by simp)
                    ·rw [if_neg c50] at H
                     exact absurd H (by simp)
                   ·rw [if_neg c49] at H
                    exact absurd H (by simp)
                  ·rw [if_neg c47] at H
                   have c47b0 : decide (0 < x6_2) = false := decide_eq_false c47
                   clear c47
                   by_cases c74 : 0 ≤ ((ze l1 x6_2).f0)
                   ·rw [if_pos c74] at H
                    have c74b0 : decide (0 ≤ ((ze l1 x6_2).f0)) = true := decide_eq_true c74
                    clear c74
                    by_cases c75 : ((ze l1 x6_2).f0) < (x5_2.length : Int)
                    ·rw [if_pos c75] at H
                     have c75b0 : decide (((ze l1 x6_2).f0) < (x5_2.length : Int)) = true := decide_eq_true c75
                     clear c75
                     obtain ⟨y329, hy329⟩ : ∃ y_ : List Int, y_ = (x5_2.set (((ze l1 x6_2).f0) : Int).toNat (wrap64 (((ze l1 x6_2).f1) + ((zl l0 ((ze l1 x6_2).f0)).f2)))) := ⟨_, rfl⟩
                     replace H : (zn.l0 kj25 l0 l1 y329 (wrap64 (x6_2 + 1))) = some r := by first | (rw [hy329]; with_reducible exact H) | (have H2_ := (Option.bind_some _ _).symm.trans H; rw [hy329]; with_reducible exact H2_) | (have H2_ := (Option.bind_some _ _).symm.trans H; with_reducible exact H2_) | with_reducible exact H | (rw [hy329]; exact H) | exact H
                     have Ny329 := za.mk hy329
                     clear hy329
                     have H' := za.mk H
                     clear H
                     have hnb77 := NB317_321.out
                     have hnc77 := NB321_317.out
                     have hcz78_0 : wc.cell? ⟨gb317, 0, none⟩ = some (.int .i64 ((ze l1 x6_2).f0)) := (zg BK317.out 0).trans rfl
                     have hcz78_1 : wc.cell? ⟨gb317, 1, none⟩ = some (.int .i64 ((ze l1 x6_2).f1)) := (zg BK317.out 1).trans rfl
                     have hcz78_2 : wc.cell? ⟨gb317, 2, none⟩ = some (.int .i64 ((ze l1 x6_2).f2)) := (zg BK317.out 2).trans rfl
                     have hcz78_3 : wc.cell? ⟨gb317, 3, none⟩ = some (.int .i64 ((ze l1 x6_2).f3)) := (zg BK317.out 3).trans rfl
                     have hfz78_0 := zf BK317.out 0
                     have hfz78_1 := zf BK317.out 1
                     have hfz78_2 := zf BK317.out 2
                     have hfz78_3 := zf BK317.out 3
                     have hcz79_0 : wc.cell? ⟨gb321, 0, none⟩ = some (.int .i64 ((zl l0 ((ze l1 x6_2).f0)).f0)) := (zg BK321.out 0).trans rfl
                     have hcz79_1 : wc.cell? ⟨gb321, 1, none⟩ = some (.int .i64 ((zl l0 ((ze l1 x6_2).f0)).f1)) := (zg BK321.out 1).trans rfl
                     have hcz79_2 : wc.cell? ⟨gb321, 2, none⟩ = some (.int .i64 ((zl l0 ((ze l1 x6_2).f0)).f2)) := (zg BK321.out 2).trans rfl
                     have hfz79_0 := zf BK321.out 0
                     have hfz79_1 := zf BK321.out 1
                     have hfz79_2 := zf BK321.out 2
                     have p76 : 0 ≤ (((ze l1 x6_2).f0) : Int) := of_decide_eq_true Zas
                     have q76 : (((ze l1 x6_2).f0) : Int) < ((x5_2.length : Int) : Int) := of_decide_eq_true Zas
                     obtain ⟨go76, co76, eo76, gb76, gl76, cl76, HG76⟩ := Kd.R_form HO_5.out (by omega)
                     (first | cases eo76 | (injection eo76 with ea_ en_ ec_; (first | subst ea_ | (injection ea_ with ea_; subst ea_)); subst ec_; clear en_))
                     have GB76 := za.mk gb76
                     have GG76 := za.mk HG76
                     clear gb76 gl76 HG76
                     obtain ⟨hx76_0, hf76_0⟩ := Kd.zdi 0 HO_5.out (((ze l1 x6_2).f0) : Int) p76 q76
                     replace p76 := eq_true p76
                     replace q76 := eq_true q76
                     have HP80 := Kd.zde HO_5.out (((ze l1 x6_2).f0) : Int) (wrap64 (((ze l1 x6_2).f1) + ((zl l0 ((ze l1 x6_2).f0)).f2)))
                     go_wp2_with (first | ((with_reducible refine zcg (t := 3) (p := 117) rfl ?_); (try (rw [zdq wc]; generalize hq_ : World.drewN wc _ = wc; have n0_ := za.mk (Kd.R_at hq_ HO_5.out); have n1_ := za.mk (blk_at hq_ BK317.out); have n2_ := za.mk (blk_at hq_ BK321.out); have n3_ := za.mk (below_at hq_ HB.out); clear hq_ HO_5 BK317 BK321 HB; have HO_5 := n0_; have BK317 := n1_; have BK321 := n2_; have HB := n3_; clear n0_ n1_ n2_ n3_; (try (have HP80 := Kd.zde HO_5.out (((ze l1 x6_2).f0) : Int) (wrap64 (((ze l1 x6_2).f1) + ((zl l0 ((ze l1 x6_2).f0)).f2))))))); refine zb8 (t := 3) (p := 117) (v := ?vo_w81) (w1 := (wc.setCell ⟨go76, (((ze l1 x6_2).f0) : Int).toNat, none⟩ (.int .i64 (wrap64 (((ze l1 x6_2).f1) + ((zl l0 ((ze l1 x6_2).f0)).f2)))))) ?hg ?ho ?hn ?hr ?_; (case ho => rfl); (case hg => rfl); (case hn => rfl); (case hr => first | (go_simp; done) | (go_simp; rfl)); intro w81 hw; have hg : wc.grownBy w81 (some go76) := (by rw [hw]; exact HP80.2); have hp_ : Kd.R (Kd.int .i64) 3 w81 w.heap.size (fun _ => True) (.slice (some ⟨go76, 0, none⟩) x5_2.length co76) y329 := (by rw [hw, Ny329.out]; exact HP80.1); clear HP80; have n0_ := za.mk (hp_); have n1_ := za.mk (zbz (g := gb317) (o := .cells #[.int .i64 ((ze l1 x6_2).f0), .int .i64 ((ze l1 x6_2).f1), .int .i64 ((ze l1 x6_2).f2), .int .i64 ((ze l1 x6_2).f3)] 34 (0, 0)) (Zq2 BK317.out) hg (Kd.R_ne HO_5.out BK317.out (by decide))); have n2_ := za.mk (zbz (g := gb321) (o := .cells #[.int .i64 ((zl l0 ((ze l1 x6_2).f0)).f0), .int .i64 ((zl l0 ((ze l1 x6_2).f0)).f1), .int .i64 ((zl l0 ((ze l1 x6_2).f0)).f2)] 88 (0, 0)) (Zq2 BK321.out) hg (Kd.R_ne HO_5.out BK321.out (by decide))); have n3_ := za.mk ((by rw [hw]; exact zbw (HB.out) GB76.out : Below w.heap.size w w81)); clear HO_5; clear BK317; clear BK321; clear HB; have HO_5 := n0_; have BK317 := n1_; have BK321 := n2_; have HB := n3_; clear n0_ n1_ n2_ n3_; clear hg hw hp_))
                     repeat (go_quiet (first | ((with_reducible refine zcg (t := 3) (p := 117) rfl ?_); (try (rw [zdq wc]; generalize hq_ : World.drewN wc _ = wc; have n0_ := za.mk (Kd.R_at hq_ HO_5.out); have n1_ := za.mk (blk_at hq_ BK317.out); have n2_ := za.mk (blk_at hq_ BK321.out); have n3_ := za.mk (below_at hq_ HB.out); clear hq_ HO_5 BK317 BK321 HB; have HO_5 := n0_; have BK317 := n1_; have BK321 := n2_; have HB := n3_; clear n0_ n1_ n2_ n3_; (try (have HP80 := Kd.zde HO_5.out (((ze l1 x6_2).f0) : Int) (wrap64 (((ze l1 x6_2).f1) + ((zl l0 ((ze l1 x6_2).f0)).f2))))))); refine zb8 (t := 3) (p := 117) (v := ?vo_w81) (w1 := (wc.setCell ⟨go76, (((ze l1 x6_2).f0) : Int).toNat, none⟩ (.int .i64 (wrap64 (((ze l1 x6_2).f1) + ((zl l0 ((ze l1 x6_2).f0)).f2)))))) ?hg ?ho ?hn ?hr ?_; (case ho => rfl); (case hg => rfl); (case hn => rfl); (case hr => first | (go_simp; done) | (go_simp; rfl)); intro w81 hw; have hg : wc.grownBy w81 (some go76) := (by rw [hw]; exact HP80.2); have hp_ : Kd.R (Kd.int .i64) 3 w81 w.heap.size (fun _ => True) (.slice (some ⟨go76, 0, none⟩) x5_2.length co76) y329 := (by rw [hw, Ny329.out]; exact HP80.1); clear HP80; have n0_ := za.mk (hp_); have n1_ := za.mk (zbz (g := gb317) (o := .cells #[.int .i64 ((ze l1 x6_2).f0), .int .i64 ((ze l1 x6_2).f1), .int .i64 ((ze l1 x6_2).f2), .int .i64 ((ze l1 x6_2).f3)] 34 (0, 0)) (Zq2 BK317.out) hg (Kd.R_ne HO_5.out BK317.out (by decide))); have n2_ := za.mk (zbz (g := gb321) (o := .cells #[.int .i64 ((zl l0 ((ze l1 x6_2).f0)).f0), .int .i64 ((zl l0 ((ze l1 x6_2).f0)).f1), .int .i64 ((zl l0 ((ze l1 x6_2).f0)).f2)] 88 (0, 0)) (Zq2 BK321.out) hg (Kd.R_ne HO_5.out BK321.out (by decide))); have n3_ := za.mk ((by rw [hw]; exact zbw (HB.out) GB76.out : Below w.heap.size w w81)); clear HO_5; clear BK317; clear BK321; clear HB; have HO_5 := n0_; have BK317 := n1_; have BK321 := n2_; have HB := n3_; clear n0_ n1_ n2_ n3_; clear hg hw hp_)); try go_wp2_with (first | ((with_reducible refine zcg (t := 3) (p := 117) rfl ?_); (try (rw [zdq wc]; generalize hq_ : World.drewN wc _ = wc; have n0_ := za.mk (Kd.R_at hq_ HO_5.out); have n1_ := za.mk (blk_at hq_ BK317.out); have n2_ := za.mk (blk_at hq_ BK321.out); have n3_ := za.mk (below_at hq_ HB.out); clear hq_ HO_5 BK317 BK321 HB; have HO_5 := n0_; have BK317 := n1_; have BK321 := n2_; have HB := n3_; clear n0_ n1_ n2_ n3_; (try (have HP80 := Kd.zde HO_5.out (((ze l1 x6_2).f0) : Int) (wrap64 (((ze l1 x6_2).f1) + ((zl l0 ((ze l1 x6_2).f0)).f2))))))); refine zb8 (t := 3) (p := 117) (v := ?vo_w81) (w1 := (wc.setCell ⟨go76, (((ze l1 x6_2).f0) : Int).toNat, none⟩ (.int .i64 (wrap64 (((ze l1 x6_2).f1) + ((zl l0 ((ze l1 x6_2).f0)).f2)))))) ?hg ?ho ?hn ?hr ?_; (case ho => rfl); (case hg => rfl); (case hn => rfl); (case hr => first | (go_simp; done) | (go_simp; rfl)); intro w81 hw; have hg : wc.grownBy w81 (some go76) := (by rw [hw]; exact HP80.2); have hp_ : Kd.R (Kd.int .i64) 3 w81 w.heap.size (fun _ => True) (.slice (some ⟨go76, 0, none⟩) x5_2.length co76) y329 := (by rw [hw, Ny329.out]; exact HP80.1); clear HP80; have n0_ := za.mk (hp_); have n1_ := za.mk (zbz (g := gb317) (o := .cells #[.int .i64 ((ze l1 x6_2).f0), .int .i64 ((ze l1 x6_2).f1), .int .i64 ((ze l1 x6_2).f2), .int .i64 ((ze l1 x6_2).f3)] 34 (0, 0)) (Zq2 BK317.out) hg (Kd.R_ne HO_5.out BK317.out (by decide))); have n2_ := za.mk (zbz (g := gb321) (o := .cells #[.int .i64 ((zl l0 ((ze l1 x6_2).f0)).f0), .int .i64 ((zl l0 ((ze l1 x6_2).f0)).f1), .int .i64 ((zl l0 ((ze l1 x6_2).f0)).f2)] 88 (0, 0)) (Zq2 BK321.out) hg (Kd.R_ne HO_5.out BK321.out (by decide))); have n3_ := za.mk ((by rw [hw]; exact zbw (HB.out) GB76.out : Below w.heap.size w w81)); clear HO_5; clear BK317; clear BK321; clear HB; have HO_5 := n0_; have BK317 := n1_; have BK321 := n2_; have HB := n3_; clear n0_ n1_ n2_ n3_; clear hg hw hp_)))
                     go_roundg kj25
                     case measure => have := HJ2.out; have := HK2.out; have := HJ14.out; have := HJ25.out; omega
                     case rel => exact ⟨(y329), (wrap64 (x6_2 + 1)), Zrs, H', ⟨by have := HJ2.out; have := HK2.out; have := HJ14.out; have := HJ25.out; omega⟩, ⟨by first | ((with_reducible repeat (first | apply Kd.zbf | apply Kd.zbe | apply Kd.zbl)); exact HO_5.out) | (rw [Ny329.out]; exact (Kd.zde (Kd.zbe HO_5.out _) _ _).1) | (rw [Ny329.out]; exact (Kd.zde HO_5.out _ _).1)⟩, ⟨by first | exact zbw (zbc HB.out _) GB76.out | exact zbw HB.out GB76.out | (repeat (first | (with_reducible first | exact HB.out | apply zbd | apply zbc | apply zb0 | refine zbw ?_ GE317.out | refine zbw ?_ GE321.out) | exact HB.out))⟩⟩
                    ·rw [if_neg c75] at H
                     exact absurd H (by simp)
                   ·rw [if_neg c74] at H
                    exact absurd H (by simp)
              ·rw [if_neg c25] at H
               exact absurd H (by simp)
             ·rw [if_neg c24] at H
              exact absurd H (by simp)
         ·rw [if_neg c14] at H
          exact absurd H (by simp)
        ·rw [if_neg c13] at H
         have c13b0 : decide (x6_2 < (l1.length : Int)) = false := decide_eq_false c13
         clear c13
         obtain rfl := Option.some.inj H
         go_wp2
         repeat (go_quiet (fail); try go_wp2)
         go_ret
         exact ⟨by first | rfl | (simp [zw, zx] <;> rfl) | (simp [*, zw, zx] <;> rfl), Zq1 HB.out⟩
     ·rw [if_neg c10] at H
      exact absurd H (by simp)
    ·rw [if_neg c9] at H
     exact absurd H (by simp)
def zbo.l0 : Nat → List (S34) → List Int → Int → Option (List Int)
 | 0, _, _, _ => none
 | k + 1, x0, x3, x4 => if x4 < (x0.length : Int) then (if 0 ≤ x4 then (if x3.length < 17592186044416 then (zbo.l0 k x0 (x3 ++ [(ze x0 x4).f2]) (wrap64 (x4 + 1))) else (none)) else (none)) else (some x3)
def zbo.f (k : Nat) (l0 : List (S34)) : Option (List Int) := zbo.l0 k l0 (([] : List Int)) 0
set_option maxHeartbeats 8000000 in
set_option maxRecDepth 100000 in
theorem zbo.calls (k : Nat) (A0 : Option Addr) (c0 : Nat) (l0 : List (S34)) (r : List Int) (w : World) (hr0 : Kd.C k34 w A0 l0.length l0) (hc0 : l0.length ≤ c0) (h : zbo.f k l0 = some r) :
  Calls Try.prog 57 #[.slice A0 l0.length c0] w fun e w' => ∃ v0_ : Value, e = .returned (v0_) ∧ Kd.R (Kd.int .i64) 3 w' w.heap.size (fun _ => True) v0_ r ∧ Below w.heap.size w w' := by
 have HR0 := za.mk hr0
 have HC0 := za.mk hc0
 clear hr0 hc0
 have HB := za.mk (Below.refl w.heap.size w)
 have H : (zbo.l0 k l0 (([] : List Int)) 0) = some r := h
 clear h
 obtain ⟨y330, hy330⟩ : ∃ y_ : List Int, y_ = (([] : List Int)) := ⟨_, rfl⟩
 replace H : (zbo.l0 k l0 y330 0) = some r := by first | (rw [hy330]; with_reducible exact H) | (have H2_ := (Option.bind_some _ _).symm.trans H; rw [hy330]; with_reducible exact H2_) | (have H2_ := (Option.bind_some _ _).symm.trans H; with_reducible exact H2_) | with_reducible exact H | (rw [hy330]; exact H) | exact H
 have Ny330 := za.mk hy330
 clear hy330
 have H' := za.mk H
 clear H
 go_enter Try.func57, Try.ntmps57
 go_wp2_with (first | ((with_reducible refine zbj (N := 5) rfl ?_); refine Kd.R_lit (Kd.int .i64) _ 3 ?hg (N := 5) ?hd (xs := ([] : List Int)) (inner := []) (ok := fun _ => True) (okp := fun _ => True) ?hr ?hp (fun _ hk => hk) trivial (Below.refl _ _) (Nat.le_refl _) (by simp) ?_; (case hd => rfl); (case hg => rfl); (case hr => first | (go_simp; done) | (go_simp; rfl)); (case hp => exact (Reps.none _ _)); intro v331 w2 ho3 hb hg_ hnew_; clear hg_ hnew_; (first | rw [← Ny330.out] at ho3 | (simp only [Int.reduceToNat] at ho3; rw [← Ny330.out] at ho3)); have n0_ := za.mk (Kd.zca ho3 (zu (Zq1 HB.out))); have n1_ := za.mk (zo (Zq1 HB.out) hb); clear HB; have HO332 := n0_; have HB := n1_; clear n0_ n1_; clear hb ho3))
 go_loopg [3, 4] k (fun kq v3 v4 w' => ∃ (x3_1 : List Int) (x4_1 : Int), v4 = .int .i64 x4_1 ∧ za (zbo.l0 kq l0 x3_1 x4_1 = some r) ∧ za (kq ≤ k) ∧ za (Kd.R (Kd.int .i64) 3 w' w.heap.size (fun _ => True) v3 x3_1) ∧ za (Below w.heap.size w w'))
 case atStart => exact ⟨(y330), (0), Zrs, H', ⟨Nat.le_refl _⟩, ⟨Zq11 HO332.out⟩, ⟨Zq1 HB.out⟩⟩
 case round =>
  clear H'
  try clear p2
  obtain ⟨x3_1, x4_1, rfl, HA, HK1, HO_3, HB⟩ := hrel
  cases gk with
  | zero => exact absurd HA.out (by simp [zbo.l0])
  | succ k1 =>
   have H := HA.out
   clear HA
   simp only [zbo.l0] at H
   by_cases c4 : x4_1 < (l0.length : Int)
   ·rw [if_pos c4] at H
    have c4b0 : decide (x4_1 < (l0.length : Int)) = true := decide_eq_true c4
    clear c4
    by_cases c5 : 0 ≤ x4_1
    ·rw [if_pos c5] at H
     have c5b0 : decide (0 ≤ x4_1) = true := decide_eq_true c5
     clear c5
     by_cases c6 : x3_1.length < 17592186044416
     ·rw [if_pos c6] at H
      have LMc6 := za.mk c6
      clear c6
      obtain ⟨y334, hy334⟩ : ∃ y_ : List Int, y_ = (x3_1 ++ [(ze l0 x4_1).f2]) := ⟨_, rfl⟩
      replace H : (zbo.l0 k1 l0 y334 (wrap64 (x4_1 + 1))) = some r := by first | (rw [hy334]; with_reducible exact H) | (have H2_ := (Option.bind_some _ _).symm.trans H; rw [hy334]; with_reducible exact H2_) | (have H2_ := (Option.bind_some _ _).symm.trans H; with_reducible exact H2_) | with_reducible exact H | (rw [hy334]; exact H) | exact H
      have Ny334 := za.mk hy334
      clear hy334
      have H' := za.mk H
      clear H
      have p333 : 0 ≤ (x4_1 : Int) := of_decide_eq_true Zas
      have q333 : x4_1 < (l0.length : Int) := of_decide_eq_true Zas
      obtain ⟨ad333, e333, hx333_0, hx333_1, hx333_2, hx333_3⟩ := zda HR0.out x4_1 p333 q333
      cases e333
      replace hx333_0 := (HB.out.cell (World.block_lt_of_cell? w _ hx333_0)).trans hx333_0
      replace hx333_1 := (HB.out.cell (World.block_lt_of_cell? w _ hx333_1)).trans hx333_1
      replace hx333_2 := (HB.out.cell (World.block_lt_of_cell? w _ hx333_2)).trans hx333_2
      replace hx333_3 := (HB.out.cell (World.block_lt_of_cell? w _ hx333_3)).trans hx333_3
      replace p333 := eq_true p333
      replace q333 := eq_true q333
      go_wp2_with (first | ((with_reducible refine zcd (b := .append) (xs := #[.tmp 12, .tmp 18]) rfl ?_); at_builtin; refine Kd.zdc (Kd.int .i64) (w0 := w) w.heap.size rfl (.tmp 12) (.tmp 18) 27 3 (.int .i64 0) 8 rfl Try.underlying27 info3 rfl (by decide) (by omega) u3 x3_1 ((ze l0 x4_1).f2) [.int .i64 ((ze l0 x4_1).f2)] (fun _ => True) (fun _ => False) rfl rfl ?aP (fun _ hk => hk.elim) ?aF ?aO ?aB ?aS ?aL ?_; (case aP => exact rfl); (case aB => exact (Zq1 HB.out)); (case aF => exact (fun _ _ => trivial)); (case aO => exact (Zq11 HO_3.out)); (case aS => exact (zu (Zq1 HB.out))); (case aL => have := LMc6.out; omega); intro v335 w7 ho hb hg hat; rw [← Ny334.out] at ho; have n0_ := za.mk (hb); have n1_ := za.mk (ho); clear HB; clear HO_3; have HB := n0_; have HO336 := n1_; clear n0_ n1_; clear ho hb hg hat))
      go_roundg k1
      case measure => have := HK1.out; omega
      case rel => exact ⟨(y334), (wrap64 (x4_1 + 1)), Zrs, H', ⟨by have := HK1.out; omega⟩, ⟨Zq11 HO336.out⟩, ⟨Zq1 HB.out⟩⟩
     ·rw [if_neg c6] at H
      exact absurd H (by simp)
    ·rw [if_neg c5] at H
     exact absurd H (by simp)
   ·rw [if_neg c4] at H
    have c4b0 : decide (x4_1 < (l0.length : Int)) = false := decide_eq_false c4
    clear c4
    obtain rfl := Option.some.inj H
    go_wp2
    go_ret
    exact ⟨_, by first | rfl | (simp [zw, zx] <;> rfl) | (simp [*, zw, zx] <;> rfl), Zq11 HO_3.out, Zq1 HB.out⟩
def zb9.l0 : Nat → List (S34) → List Int → List Int → Int → Int → Int → Option (Int)
 | 0, _, _, _, _, _, _ => none
 | k + 1, x0, x1, x2, x3, x9, x10 => if x10 < (x0.length : Int) then (if 0 ≤ x10 then (if ((ze x0 x10).f1) ≤ x3 then (if x10 < (x1.length : Int) then (if (rd x1 x10) > 0 then (if x9 < 0 then (zb9.l0 k x0 x1 x2 x3 x10 (wrap64 (x10 + 1))) else (if x10 < (x2.length : Int) then (if 0 ≤ x9 then (if x9 < (x2.length : Int) then (if (rd x2 x10) < (rd x2 x9) then (zb9.l0 k x0 x1 x2 x3 x10 (wrap64 (x10 + 1))) else (zb9.l0 k x0 x1 x2 x3 x9 (wrap64 (x10 + 1)))) else (none)) else (none)) else (none))) else (zb9.l0 k x0 x1 x2 x3 x9 (wrap64 (x10 + 1)))) else (none)) else (zb9.l0 k x0 x1 x2 x3 x9 (wrap64 (x10 + 1)))) else (none)) else (some x9)
def zb9.f (k : Nat) (l0 : List (S34)) (l1 : List Int) (l2 : List Int) (a3 : Int) : Option (Int) := zb9.l0 k l0 l1 l2 a3 (-1) 0
set_option maxHeartbeats 8000000 in
set_option maxRecDepth 100000 in
theorem zb9.calls (k : Nat) (A0 : Option Addr) (c0 : Nat) (l0 : List (S34)) (A1 : Option Addr) (c1 : Nat) (l1 : List Int) (A2 : Option Addr) (c2 : Nat) (l2 : List Int) (a3 : Int) (r : Int) (w : World) (hr0 : Kd.C k34 w A0 l0.length l0) (hc0 : l0.length ≤ c0) (hr1 : Kd.C (Kd.int .i64) w A1 l1.length l1) (hc1 : l1.length ≤ c1) (hr2 : Kd.C (Kd.int .i64) w A2 l2.length l2) (hc2 : l2.length ≤ c2) (h : zb9.f k l0 l1 l2 a3 = some r) :
  Calls Try.prog 58 #[.slice A0 l0.length c0, .slice A1 l1.length c1, .slice A2 l2.length c2, .int .i64 a3] w fun e w' => e = .returned (.int .i64 r) ∧ zby w w' := by
 have HR0 := za.mk hr0
 have HC0 := za.mk hc0
 clear hr0 hc0
 have HR1 := za.mk hr1
 have HC1 := za.mk hc1
 clear hr1 hc1
 have HR2 := za.mk hr2
 have HC2 := za.mk hc2
 clear hr2 hc2
 have H : (zb9.l0 k l0 l1 l2 a3 (-1) 0) = some r := h
 clear h
 have H' := za.mk H
 clear H
 go_enter Try.func58, Try.ntmps58
 go_wp2
 repeat (go_quiet (fail); try go_wp2)
 go_loopg [9, 10] k (fun kq v9 v10 w' => ∃ (x9_1 : Int) (x10_1 : Int), v9 = .int .i64 x9_1 ∧ v10 = .int .i64 x10_1 ∧ za (zb9.l0 kq l0 l1 l2 a3 x9_1 x10_1 = some r) ∧ za (kq ≤ k) ∧ zby w w')
 case atStart => exact ⟨((-1)), (0), Zrs, Zrs, H', ⟨Nat.le_refl _⟩, by repeat (first | exact zby.refl _ | apply zby.step)⟩
 case round =>
  clear H'
  try clear c1
  try clear c2
  try clear p2
  obtain ⟨x9_1, x10_1, rfl, rfl, HA, HK1, ⟨m1, rfl⟩⟩ := hrel
  cases gk with
  | zero => exact absurd HA.out (by simp [zb9.l0])
  | succ k1 =>
   have H := HA.out
   clear HA
   simp only [zb9.l0] at H
   by_cases c5 : x10_1 < (l0.length : Int)
   ·rw [if_pos c5] at H
    have c5b0 : decide (x10_1 < (l0.length : Int)) = true := decide_eq_true c5
    clear c5
    by_cases c6 : 0 ≤ x10_1
    ·rw [if_pos c6] at H
     have c6b0 : decide (0 ≤ x10_1) = true := decide_eq_true c6
     clear c6
     by_cases c7 : ((ze l0 x10_1).f1) ≤ a3
     ·rw [if_pos c7] at H
      have c7b0 : decide (((ze l0 x10_1).f1) ≤ a3) = true := decide_eq_true c7
      clear c7
      by_cases c8 : x10_1 < (l1.length : Int)
      ·rw [if_pos c8] at H
       have c8b0 : decide (x10_1 < (l1.length : Int)) = true := decide_eq_true c8
       clear c8
       by_cases c9 : (rd l1 x10_1) > 0
       ·rw [if_pos c9] at H
        have c9b0 : decide (0 < (rd l1 x10_1)) = true := decide_eq_true c9
        clear c9
        by_cases c10 : x9_1 < 0
        ·rw [if_pos c10] at H
         have c10b0 : decide (x9_1 < 0) = true := decide_eq_true c10
         clear c10
         have H' := za.mk H
         clear H
         have p337 : 0 ≤ (x10_1 : Int) := of_decide_eq_true Zas
         have q337 : x10_1 < (l0.length : Int) := of_decide_eq_true Zas
         obtain ⟨ad337, e337, hx337_0, hx337_1, hx337_2, hx337_3⟩ := zda HR0.out x10_1 p337 q337
         cases e337
         replace p337 := eq_true p337
         replace q337 := eq_true q337
         have p338 : 0 ≤ (x10_1 : Int) := of_decide_eq_true Zas
         have q338 : x10_1 < (l1.length : Int) := of_decide_eq_true Zas
         obtain ⟨ad338, e338, hx338_0⟩ := Kd.zcf HR1.out x10_1 p338 q338
         cases e338
         replace p338 := eq_true p338
         replace q338 := eq_true q338
         go_wp2
         repeat (go_quiet (fail); try go_wp2)
         go_roundg k1
         case measure => have := HK1.out; omega
         case rel => exact ⟨(x10_1), (wrap64 (x10_1 + 1)), Zrs, Zrs, H', ⟨by have := HK1.out; omega⟩, by repeat (first | exact zby.refl _ | apply zby.step)⟩
        ·rw [if_neg c10] at H
         have c10b0 : decide (x9_1 < 0) = false := decide_eq_false c10
         clear c10
         by_cases c11 : x10_1 < (l2.length : Int)
         ·rw [if_pos c11] at H
          have c11b0 : decide (x10_1 < (l2.length : Int)) = true := decide_eq_true c11
          clear c11
          by_cases c12 : 0 ≤ x9_1
          ·rw [if_pos c12] at H
           have c12b0 : decide (0 ≤ x9_1) = true := decide_eq_true c12
           clear c12
           by_cases c13 : x9_1 < (l2.length : Int)
           ·rw [if_pos c13] at H
            have c13b0 : decide (x9_1 < (l2.length : Int)) = true := decide_eq_true c13
            clear c13
            by_cases c14 : (rd l2 x10_1) < (rd l2 x9_1)
            ·rw [if_pos c14] at H
             have c14b0 : decide ((rd l2 x10_1) < (rd l2 x9_1)) = true := decide_eq_true c14
             clear c14
             have H' := za.mk H
             clear H
             have p337 : 0 ≤ (x10_1 : Int) := of_decide_eq_true Zas
             have q337 : x10_1 < (l0.length : Int) := of_decide_eq_true Zas
             obtain ⟨ad337, e337, hx337_0, hx337_1, hx337_2, hx337_3⟩ := zda HR0.out x10_1 p337 q337
             cases e337
             replace p337 := eq_true p337
             replace q337 := eq_true q337
             have p338 : 0 ≤ (x10_1 : Int) := of_decide_eq_true Zas
             have q338 : x10_1 < (l1.length : Int) := of_decide_eq_true Zas
             obtain ⟨ad338, e338, hx338_0⟩ := Kd.zcf HR1.out x10_1 p338 q338
             cases e338
             replace p338 := eq_true p338
             replace q338 := eq_true q338
             have p339 : 0 ≤ (x10_1 : Int) := of_decide_eq_true Zas
             have q339 : x10_1 < (l2.length : Int) := of_decide_eq_true Zas
             obtain ⟨ad339, e339, hx339_0⟩ := Kd.zcf HR2.out x10_1 p339 q339
             cases e339
             replace p339 := eq_true p339
             replace q339 := eq_true q339
             have p340 : 0 ≤ (x9_1 : Int) := of_decide_eq_true Zas
             have q340 : x9_1 < (l2.length : Int) := of_decide_eq_true Zas
             obtain ⟨ad340, e340, hx340_0⟩ := Kd.zcf HR2.out x9_1 p340 q340
             obtain rfl : ad339 = ad340 := (by injection e340)
             replace p340 := eq_true p340
             replace q340 := eq_true q340
             go_wp2
             repeat (go_quiet (fail); try go_wp2)
             go_roundg k1
             case measure => have := HK1.out; omega
             case rel => exact ⟨(x10_1), (wrap64 (x10_1 + 1)), Zrs, Zrs, H', ⟨by have := HK1.out; omega⟩, by repeat (first | exact zby.refl _ | apply zby.step)⟩
            ·rw [if_neg c14] at H
             have c14b0 : decide ((rd l2 x10_1) < (rd l2 x9_1)) = false := decide_eq_false c14
             clear c14
             have H' := za.mk H
             clear H
             have p337 : 0 ≤ (x10_1 : Int) := of_decide_eq_true Zas
             have q337 : x10_1 < (l0.length : Int) := of_decide_eq_true Zas
             obtain ⟨ad337, e337, hx337_0, hx337_1, hx337_2, hx337_3⟩ := zda HR0.out x10_1 p337 q337
             cases e337
             replace p337 := eq_true p337
             replace q337 := eq_true q337
             have p338 : 0 ≤ (x10_1 : Int) := of_decide_eq_true Zas
             have q338 : x10_1 < (l1.length : Int) := of_decide_eq_true Zas
             obtain ⟨ad338, e338, hx338_0⟩ := Kd.zcf HR1.out x10_1 p338 q338
             cases e338
             replace p338 := eq_true p338
             replace q338 := eq_true q338
             have p339 : 0 ≤ (x10_1 : Int) := of_decide_eq_true Zas
             have q339 : x10_1 < (l2.length : Int) := of_decide_eq_true Zas
             obtain ⟨ad339, e339, hx339_0⟩ := Kd.zcf HR2.out x10_1 p339 q339
             cases e339
             replace p339 := eq_true p339
             replace q339 := eq_true q339
             have p340 : 0 ≤ (x9_1 : Int) := of_decide_eq_true Zas
             have q340 : x9_1 < (l2.length : Int) := of_decide_eq_true Zas
             obtain ⟨ad340, e340, hx340_0⟩ := Kd.zcf HR2.out x9_1 p340 q340
             obtain rfl : ad339 = ad340 := (by injection e340)
             replace p340 := eq_true p340
             replace q340 := eq_true q340
             go_wp2
             repeat (go_quiet (fail); try go_wp2)
             go_roundg k1
             case measure => have := HK1.out; omega
             case rel => exact ⟨(x9_1), (wrap64 (x10_1 + 1)), Zrs, Zrs, H', ⟨by have := HK1.out; omega⟩, by repeat (first | exact zby.refl _ | apply zby.step)⟩
           ·rw [if_neg c13] at H
            exact absurd H (by simp)
          ·rw [if_neg c12] at H
           exact absurd H (by simp)
         ·rw [if_neg c11] at H
          exact absurd H (by simp)
       ·rw [if_neg c9] at H
        have c9b0 : decide (0 < (rd l1 x10_1)) = false := decide_eq_false c9
        clear c9
        have H' := za.mk H
        clear H
        have p337 : 0 ≤ (x10_1 : Int) := of_decide_eq_true Zas
        have q337 : x10_1 < (l0.length : Int) := of_decide_eq_true Zas
        obtain ⟨ad337, e337, hx337_0, hx337_1, hx337_2, hx337_3⟩ := zda HR0.out x10_1 p337 q337
        cases e337
        replace p337 := eq_true p337
        replace q337 := eq_true q337
        have p338 : 0 ≤ (x10_1 : Int) := of_decide_eq_true Zas
        have q338 : x10_1 < (l1.length : Int) := of_decide_eq_true Zas
        obtain ⟨ad338, e338, hx338_0⟩ := Kd.zcf HR1.out x10_1 p338 q338
        cases e338
        replace p338 := eq_true p338
        replace q338 := eq_true q338
        go_wp2
        repeat (go_quiet (fail); try go_wp2)
        go_roundg k1
        case measure => have := HK1.out; omega
        case rel => exact ⟨(x9_1), (wrap64 (x10_1 + 1)), Zrs, Zrs, H', ⟨by have := HK1.out; omega⟩, by repeat (first | exact zby.refl _ | apply zby.step)⟩
      ·rw [if_neg c8] at H
       exact absurd H (by simp)
     ·rw [if_neg c7] at H
      have c7b0 : decide (((ze l0 x10_1).f1) ≤ a3) = false := decide_eq_false c7
      clear c7
      have H' := za.mk H
      clear H
      have p337 : 0 ≤ (x10_1 : Int) := of_decide_eq_true Zas
      have q337 : x10_1 < (l0.length : Int) := of_decide_eq_true Zas
      obtain ⟨ad337, e337, hx337_0, hx337_1, hx337_2, hx337_3⟩ := zda HR0.out x10_1 p337 q337
      cases e337
      replace p337 := eq_true p337
      replace q337 := eq_true q337
      go_wp2
      repeat (go_quiet (fail); try go_wp2)
      go_roundg k1
      case measure => have := HK1.out; omega
      case rel => exact ⟨(x9_1), (wrap64 (x10_1 + 1)), Zrs, Zrs, H', ⟨by have := HK1.out; omega⟩, by repeat (first | exact zby.refl _ | apply zby.step)⟩
    ·rw [if_neg c6] at H
     exact absurd H (by simp)
   ·rw [if_neg c5] at H
    have c5b0 : decide (x10_1 < (l0.length : Int)) = false := decide_eq_false c5
    clear c5
    obtain rfl := Option.some.inj H
    go_wp2
    repeat (go_quiet (fail); try go_wp2)
    go_ret
    exact ⟨by first | rfl | (simp; done) | (simp [*]; done), by repeat (first | exact zby.refl _ | apply zby.step)⟩
mutual
def zm.l0 : Nat → List (S34) → List Int → List Int → Int → List Int → Option (List Int × List Int)
 | 0, _, _, _, _, _ => none
 | k + 1, x1, x6, x7, x8, x344001 => if x8 < (x1.length : Int) then (if 0 ≤ x8 then (if x6.length < 17592186044416 then (if x344001.length < 17592186044416 then (zm.l0 k x1 (x6 ++ [(ze x1 x8).f3]) x7 (wrap64 (x8 + 1)) (x344001 ++ [(-1)])) else (none)) else (none)) else (none)) else (zm.l1 k x1 x6 x7 (-1) 0 ([] : List Int) x344001)
def zm.l1 : Nat → List (S34) → List Int → List Int → Int → Int → List Int → List Int → Option (List Int × List Int)
 | 0, _, _, _, _, _, _, _ => none
 | k + 1, x1, x6, x7, x9, x10, x344000, x344001 => if x10 < 120 then (if x9 < 0 then ((zb9.f k x1 x6 x7 x10).bind fun t357 => (zm.j2 k x1 x6 x7 t357 x10 x344000 x344001)) else (zm.j2 k x1 x6 x7 x9 x10 x344000 x344001)) else (some (x344000, x344001))
def zm.j2 : Nat → List (S34) → List Int → List Int → Int → Int → List Int → List Int → Option (List Int × List Int)
 | 0, _, _, _, _, _, _, _ => none
 | k + 1, x1, x6, x7, x9, x10, x344000, x344001 => if x344000.length < 17592186044416 then ((some (x344000 ++ [x9] : List Int)).bind fun y358 => (if x9 ≥ 0 then (if 0 ≤ x9 then (if x9 < (x6.length : Int) then ((some (x6.set (x9 : Int).toNat (wrap64 ((rd x6 x9) - 1)) : List Int)).bind fun y362 => (if (rd y362 x9) = 0 then (if x9 < (x344001.length : Int) then (zm.l1 k x1 y362 x7 (-1) (wrap64 (x10 + 1)) y358 (x344001.set (x9 : Int).toNat (wrap64 (x10 + 1)))) else (none)) else (zm.l1 k x1 y362 x7 x9 (wrap64 (x10 + 1)) y358 x344001))) else (none)) else (none)) else (zm.l1 k x1 x6 x7 x9 (wrap64 (x10 + 1)) y358 x344001))) else (none)
end
def zm.f (k : Nat) (l0 : List (S88)) (l1 : List (S34)) : Option (List Int × List Int) := (zn.f k l0 l1).bind fun t342 => (if t342 = true then ((zbo.f k l1).bind fun t347 => (zm.l0 k l1 (([] : List Int)) t347 0 ([] : List Int))) else (some (([] : List Int), ([] : List Int))))
set_option maxHeartbeats 8000000 in
set_option maxRecDepth 100000 in
theorem zm.calls (k : Nat) (A0 : Option Addr) (c0 : Nat) (l0 : List (S88)) (A1 : Option Addr) (c1 : Nat) (l1 : List (S34)) (r1 : List Int) (r2 : List Int) (w : World) (hr0 : Kd.C k88 w A0 l0.length l0) (hc0 : l0.length ≤ c0) (hr1 : Kd.C k34 w A1 l1.length l1) (hc1 : l1.length ≤ c1) (h : zm.f k l0 l1 = some (r1, r2)) :
  Calls Try.prog 14 #[.slice A0 l0.length c0, .slice A1 l1.length c1] w fun e w' => ∃ v0_ v1_ : Value, e = .returned (.agg #[v0_, v1_]) ∧ Kd.R (Kd.int .i64) 3 w' w.heap.size (fun k_ => some k_ ≠ (v1_ : Value).ownBlock) v0_ r1 ∧ Kd.R (Kd.int .i64) 3 w' w.heap.size (fun k_ => some k_ ≠ (v0_ : Value).ownBlock) v1_ r2 ∧ Below w.heap.size w w' := by
 have hu29 := Try.underlying29
 have HR0 := za.mk hr0
 have HC0 := za.mk hc0
 clear hr0 hc0
 have HR1 := za.mk hr1
 have HC1 := za.mk hc1
 clear hr1 hc1
 have HB := za.mk (Below.refl w.heap.size w)
 have H : ((zn.f k l0 l1).bind fun t342 => (if t342 = true then ((zbo.f k l1).bind fun t347 => (zm.l0 k l1 (([] : List Int)) t347 0 ([] : List Int))) else (some (([] : List Int), ([] : List Int))))) = some (r1, r2) := h
 clear h
 replace H := Option.bind_eq_some_iff.mp H
 obtain ⟨t342, A30, H⟩ := H
 replace H : (if t342 = true then ((zbo.f k l1).bind fun t347 => (zm.l0 k l1 (([] : List Int)) t347 0 ([] : List Int))) else (some (([] : List Int), ([] : List Int)))) = some (r1, r2) := H
 have A3 := za.mk A30
 clear A30
 by_cases c4 : t342 = true
 ·subst c4
  have H1 : ((zbo.f k l1).bind fun t347 => (zm.l0 k l1 (([] : List Int)) t347 0 ([] : List Int))) = some (r1, r2) := by rw [if_pos rfl] at H; exact H
  clear H
  have H := H1
  clear H1
  obtain ⟨y344, hy344⟩ : ∃ y_ : List Int, y_ = (([] : List Int)) := ⟨_, rfl⟩
  replace H : ((zbo.f k l1).bind fun t347 => (zm.l0 k l1 y344 t347 0 ([] : List Int))) = some (r1, r2) := by first | (rw [hy344]; with_reducible exact H) | (have H2_ := (Option.bind_some _ _).symm.trans H; rw [hy344]; with_reducible exact H2_) | (have H2_ := (Option.bind_some _ _).symm.trans H; with_reducible exact H2_) | with_reducible exact H | (rw [hy344]; exact H) | exact H
  have Ny344 := za.mk hy344
  clear hy344
  replace H := Option.bind_eq_some_iff.mp H
  obtain ⟨t347, A50, H⟩ := H
  replace H : (zm.l0 k l1 y344 t347 0 ([] : List Int)) = some (r1, r2) := H
  have A5 := za.mk A50
  clear A50
  have H' := za.mk H
  clear H
  go_enter Try.func14, Try.ntmps14
  go_wp2_with (first | ((with_reducible refine zbj (N := 4) rfl ?_); refine zbr ?hg (N := 4) ?hd (cs := #[.slice none 0 0, .slice none 0 0]) (t := 29) ?hr ?_; (case hd => rfl); (case hg => rfl); (case hr => first | (go_simp; done) | (go_simp; rfl)); intro gb341 hg w6 hbox hb; have n0_ := za.mk (zo (Zq1 HB.out) hb); have n1_ := za.mk (hbox); have n2_ := za.mk ((by rw [hg]; exact (zu (Zq1 HB.out)) : w.heap.size ≤ gb341)); have n3_ := za.mk ((by rw [hg]; exact (zu (Zq1 HB.out)) : w.heap.size ≤ gb341)); clear HB; have HB := n0_; have BK341 := n1_; have GW341 := n2_; have GE341 := n3_; clear n0_ n1_ n2_ n3_; clear hb hbox hg) | ((with_reducible refine zba (f := 56) rfl ?_); refine zbx (some 13) rfl rfl Try.func56 (by kernel_rfl) rfl #[.slice A0 l0.length c0, .slice A1 l1.length c1] rfl Zmt ?_; (with_reducible refine (zn.calls k _ _ l0 _ _ l1 true _ ?side1 ?side2 ?side3 ?side4 A3.out).mono ?_); (case side1 => exact Zq15 (Kd.zbq HR0.out HB.out)); (case side2 => exact HC0.out); (case side3 => exact Zq15 (Kd.zbq HR1.out HB.out)); (case side4 => exact HC1.out); rintro e w7 ⟨rfl, hb⟩; refine ⟨_, rfl, ?_⟩; have n0_ := za.mk (zbn (g := gb341) (o := .cells #[.slice none 0 0, .slice none 0 0] 29 (0, 0)) (Zq2 BK341.out) hb); have n1_ := za.mk (zo (Zq3 HB.out GE341.out) hb); clear BK341; clear HB; have BK341 := n0_; have HB := n1_; clear n0_ n1_; (try clear hb); (try clear hb2); (try clear hk); (try clear hi)) | ((with_reducible refine zbj (N := 5) rfl ?_); refine zbr ?hg (N := 5) ?hd (cs := #[.slice none 0 0, .slice none 0 0]) (t := 29) ?hr ?_; (case hd => rfl); (case hg => rfl); (case hr => first | (go_simp; done) | (go_simp; rfl)); intro gb343 hg w8 hbox hb; have n0_ := za.mk (zbn (g := gb341) (o := .cells #[.slice none 0 0, .slice none 0 0] 29 (0, 0)) (Zq2 BK341.out) hb); have n1_ := za.mk (zo (Zq3 HB.out GE341.out) hb); have n2_ := za.mk (hbox); have n3_ := za.mk ((by rw [hg]; exact (zu (Zq3 HB.out GE341.out)) : w.heap.size ≤ gb343)); have n4_ := za.mk ((by rw [hg]; exact (zu (Zq3 HB.out GE341.out)) : w.heap.size ≤ gb343)); have n5_ := za.mk ((by rw [hg]; exact Nat.ne_of_lt (zcz (g := gb341) (o := .cells #[.slice none 0 0, .slice none 0 0] 29 (0, 0)) (Zq2 BK341.out)) : gb341 ≠ gb343)); have n6_ := za.mk ((by rw [hg]; exact Nat.ne_of_gt (zcz (g := gb341) (o := .cells #[.slice none 0 0, .slice none 0 0] 29 (0, 0)) (Zq2 BK341.out)) : gb343 ≠ gb341)); clear BK341; clear HB; have BK341 := n0_; have HB := n1_; have BK343 := n2_; have GW343 := n3_; have GE343 := n4_; have NB341_343 := n5_; have NB343_341 := n6_; clear n0_ n1_ n2_ n3_ n4_ n5_ n6_; clear hb hbox hg; have hnb9 := NB343_341.out; have hnc9 := NB341_343.out; have hcz10_0 : w8.cell? ⟨gb343, 0, none⟩ = some (.slice none 0 0) := (zg BK343.out 0).trans rfl; have hcz10_1 : w8.cell? ⟨gb343, 1, none⟩ = some (.slice none 0 0) := (zg BK343.out 1).trans rfl; have hfz10_0 := zf BK343.out 0; have hfz10_1 := zf BK343.out 1) | ((with_reducible refine zbj (N := 17) rfl ?_); refine Kd.R_lit (Kd.int .i64) _ 3 ?hg (N := 17) ?hd (xs := ([] : List Int)) (inner := []) (ok := fun _ => True) (okp := fun _ => True) ?hr ?hp (fun _ hk => hk) trivial (Below.refl _ _) (Nat.le_refl _) (by simp) ?_; (case hd => rfl); (case hg => rfl); (case hr => first | (go_simp; done) | (go_simp; rfl)); (case hp => exact (Reps.none _ _)); intro v345 w11 ho12 hb hg_ hnew_; clear hg_ hnew_; (first | rw [← Ny344.out] at ho12 | (simp only [Int.reduceToNat] at ho12; rw [← Ny344.out] at ho12)); have n0_ := za.mk (Kd.zca ho12 (zu (Zq9 HB.out GE341.out GE343.out))); have n1_ := za.mk (zbn (g := gb341) (o := .cells #[.slice none 0 0, .slice none 0 0] 29 (0, 0)) (by (with_reducible repeat (first | refine zz ?_ _ | refine z8 ?_ | refine zy ?_ _)); refine zco ?_ NB341_343.out _; (with_reducible repeat (first | refine zz ?_ _ | refine z8 ?_ | refine zy ?_ _)); refine zco ?_ NB341_343.out _; (with_reducible repeat (first | refine zz ?_ _ | refine z8 ?_ | refine zy ?_ _)); exact BK341.out) hb); have n2_ := za.mk (zbn (g := gb343) (o := .cells #[.slice none 0 0, .slice none 0 0] 29 (0, 0)) (by (with_reducible repeat (first | refine zz ?_ _ | refine z8 ?_ | refine zy ?_ _)); refine zb2 (cs := #[.slice none 0 0, .slice none 0 0]) ?_ 1 _ rfl; (with_reducible repeat (first | refine zz ?_ _ | refine z8 ?_ | refine zy ?_ _)); refine zb2 (cs := #[.slice none 0 0, .slice none 0 0]) ?_ 0 _ rfl; (with_reducible repeat (first | refine zz ?_ _ | refine z8 ?_ | refine zy ?_ _)); exact BK343.out) hb); have n3_ := za.mk (zo (Zq9 HB.out GE341.out GE343.out) hb); clear BK341; clear BK343; clear HB; have HO346 := n0_; have BK341 := n1_; have BK343 := n2_; have HB := n3_; clear n0_ n1_ n2_ n3_; clear hb ho12) | ((with_reducible refine zba (f := 57) rfl ?_); refine zbx (some 19) rfl rfl Try.func57 (by kernel_rfl) rfl #[.slice A1 l1.length c1] rfl Zmt ?_; (with_reducible refine (zbo.calls k _ _ l1 t347 _ ?side1 ?side2 A5.out).mono ?_); (case side1 => exact Zq15 (Kd.zbq HR1.out HB.out)); (case side2 => exact HC1.out); rintro e w13 ⟨v348, rfl, ho0, hb⟩; refine ⟨_, rfl, ?_⟩; have n0_ := za.mk (Kd.zcr (Zq11 HO346.out) (Kd.zc0 ho0) hb); have n1_ := za.mk (Kd.zca (Kd.zdj ho0 (Kd.R_lt (Zq11 HO346.out))) (zu (Zq9 HB.out GE341.out GE343.out))); have n2_ := za.mk (zbn (g := gb341) (o := .cells #[.slice none 0 0, .slice none 0 0] 29 (0, 0)) (Zq2 BK341.out) hb); have n3_ := za.mk (zbn (g := gb343) (o := .cells #[.slice none 0 0, .slice none 0 0] 29 (0, 0)) (Zq2 BK343.out) hb); have n4_ := za.mk (zo (Zq9 HB.out GE341.out GE343.out) hb); clear HO346; clear BK341; clear BK343; clear HB; have HO346 := n0_; have HO349 := n1_; have BK341 := n2_; have BK343 := n3_; have HB := n4_; clear n0_ n1_ n2_ n3_ n4_; (try clear hb); (try clear hb2); (try clear hk); (try clear hi); (try clear ho0)))
  go_loopg [6, 8] k (fun kq v6 v8 w' => ∃ (x6_1 : List Int) (x8_1 : Int) (x344001_1 : List Int) (u344001 : Value), v8 = .int .i64 x8_1 ∧ za (zm.l0 kq l1 x6_1 t347 x8_1 x344001_1 = some (r1, r2)) ∧ za (kq ≤ k) ∧ za (Kd.R (Kd.int .i64) 3 w' w.heap.size (fun k_ => some k_ ≠ (v348 : Value).ownBlock ∧ some k_ ≠ (u344001 : Value).ownBlock) v6 x6_1) ∧ za (Kd.R (Kd.int .i64) 3 w' w.heap.size (fun k_ => some k_ ≠ (v6 : Value).ownBlock ∧ some k_ ≠ (u344001 : Value).ownBlock) v348 t347) ∧ za (Kd.R (Kd.int .i64) 3 w' w.heap.size (fun k_ => some k_ ≠ (v6 : Value).ownBlock ∧ some k_ ≠ (v348 : Value).ownBlock) u344001 x344001_1) ∧ za (w'.heap[gb341]? = some (.cells #[(.slice none 0 0), (.slice none 0 0)] 29 (0, 0))) ∧ za (w'.heap[gb343]? = some (.cells #[(.slice none 0 0), u344001] 29 (0, 0))) ∧ za (Below w.heap.size w w'))
  case atStart => exact ⟨(y344), (0), (([] : List Int)), (.slice none 0 0), Zrs, H', ⟨Nat.le_refl _⟩, ⟨by (with_reducible repeat (first | apply Kd.zbf | apply Kd.zbe | apply Kd.zbl)); exact Kd.zbb HO346.out (fun _ hk => ⟨hk.2, (by simp [Value.ownBlock])⟩)⟩, ⟨by (with_reducible repeat (first | apply Kd.zbf | apply Kd.zbe | apply Kd.zbl)); exact Kd.zbb HO349.out (fun _ hk => ⟨hk.2, (by simp [Value.ownBlock])⟩)⟩, ⟨by first | exact Kd.R_nil _ _ _ _ _ | exact Kd.N_nil _ _ _ _ _ | exact Kd.V_nil _ _ _ _ _ | exact Kd.Q_nil _ _ _ _ _ | exact Kd.S_nil _ _ _ _ _⟩, ⟨Zq2 BK341.out⟩, ⟨Zq2 BK343.out⟩, ⟨Zq9 HB.out GE341.out GE343.out⟩⟩
  case round =>
   clear H'
   try clear c1
   try clear p2
   try clear c4
   try clear c5
   try clear c9
   try clear hcz10_0
   try clear hcz10_1
   try clear hfz10_0
   try clear hfz10_1
   obtain ⟨x6_1, x8_1, x344001_1, u344001, rfl, HA, HK1, HO_6, HO_7, HO_344001, BK341, BK343, HB⟩ := hrel
   cases gk with
   | zero => exact absurd HA.out (by simp [zm.l0])
   | succ k1 =>
    have H := HA.out
    clear HA
    simp only [zm.l0] at H
    by_cases c14 : x8_1 < (l1.length : Int)
    ·rw [if_pos c14] at H
     have c14b0 : decide (x8_1 < (l1.length : Int)) = true := decide_eq_true c14
     clear c14
     by_cases c15 : 0 ≤ x8_1
     ·rw [if_pos c15] at H
      have c15b0 : decide (0 ≤ x8_1) = true := decide_eq_true c15
      clear c15
      by_cases c16 : x6_1.length < 17592186044416
      ·rw [if_pos c16] at H
       have LMc16 := za.mk c16
       clear c16
       obtain ⟨y351, hy351⟩ : ∃ y_ : List Int, y_ = (x6_1 ++ [(ze l1 x8_1).f3]) := ⟨_, rfl⟩
       replace H : (if x344001_1.length < 17592186044416 then (zm.l0 k1 l1 y351 t347 (wrap64 (x8_1 + 1)) (x344001_1 ++ [(-1)])) else (none)) = some (r1, r2) := by first | (rw [hy351]; with_reducible exact H) | (have H2_ := (Option.bind_some _ _).symm.trans H; rw [hy351]; with_reducible exact H2_) | (have H2_ := (Option.bind_some _ _).symm.trans H; with_reducible exact H2_) | with_reducible exact H | (rw [hy351]; exact H) | exact H
       have Ny351 := za.mk hy351
       clear hy351
       by_cases c17 : x344001_1.length < 17592186044416
       ·rw [if_pos c17] at H
        have LMc17 := za.mk c17
        clear c17
        obtain ⟨y354, hy354⟩ : ∃ y_ : List Int, y_ = (x344001_1 ++ [(-1)]) := ⟨_, rfl⟩
        replace H : (zm.l0 k1 l1 y351 t347 (wrap64 (x8_1 + 1)) y354) = some (r1, r2) := by first | (rw [hy354]; with_reducible exact H) | (have H2_ := (Option.bind_some _ _).symm.trans H; rw [hy354]; with_reducible exact H2_) | (have H2_ := (Option.bind_some _ _).symm.trans H; with_reducible exact H2_) | with_reducible exact H | (rw [hy354]; exact H) | exact H
        have Ny354 := za.mk hy354
        clear hy354
        have H' := za.mk H
        clear H
        have p350 : 0 ≤ (x8_1 : Int) := of_decide_eq_true Zas
        have q350 : x8_1 < (l1.length : Int) := of_decide_eq_true Zas
        obtain ⟨ad350, e350, hx350_0, hx350_1, hx350_2, hx350_3⟩ := zda HR1.out x8_1 p350 q350
        cases e350
        replace hx350_0 := (HB.out.cell (World.block_lt_of_cell? w _ hx350_0)).trans hx350_0
        replace hx350_1 := (HB.out.cell (World.block_lt_of_cell? w _ hx350_1)).trans hx350_1
        replace hx350_2 := (HB.out.cell (World.block_lt_of_cell? w _ hx350_2)).trans hx350_2
        replace hx350_3 := (HB.out.cell (World.block_lt_of_cell? w _ hx350_3)).trans hx350_3
        replace p350 := eq_true p350
        replace q350 := eq_true q350
        go_wp2_with (first | ((with_reducible refine zcd (b := .append) (xs := #[.tmp 26, .tmp 32]) rfl ?_); at_builtin; refine Kd.zdc (Kd.int .i64) (w0 := w) w.heap.size rfl (.tmp 26) (.tmp 32) 27 3 (.int .i64 0) 8 rfl Try.underlying27 info3 rfl (by decide) (by omega) u6 x6_1 ((ze l1 x8_1).f3) [.int .i64 ((ze l1 x8_1).f3)] (fun k_ => some k_ ≠ (v348 : Value).ownBlock ∧ some k_ ≠ (u344001 : Value).ownBlock) (fun _ => False) rfl rfl ?aP (fun _ hk => hk.elim) ?aF ?aO ?aB ?aS ?aL ?_; (case aP => exact rfl); (case aB => exact (Zq9 HB.out GE341.out GE343.out)); (case aF => exact (fun k_ hk => ⟨Kd.fresh' (Kd.R_lt (Zq11 HO_7.out)) k_ hk, Kd.fresh' (Kd.R_lt (Zq11 HO_344001.out)) k_ hk⟩)); (case aO => exact (Zq11 HO_6.out)); (case aS => exact (zu (Zq9 HB.out GE341.out GE343.out))); (case aL => have := LMc16.out; omega); intro v352 w18 ho hb hg hat; rw [← Ny351.out] at ho; have n0_ := za.mk (Kd.zc3 (ok := (fun k_ => some k_ ≠ (u344001 : Value).ownBlock)) (by (with_reducible repeat (first | apply Kd.zbf | apply Kd.zbe | apply Kd.zbl)); exact Kd.zbb HO_7.out (fun _ hk => ⟨hk.2, hk.1⟩)) hg hat); have n1_ := za.mk (Kd.zc3 (ok := (fun k_ => some k_ ≠ (v348 : Value).ownBlock)) (by (with_reducible repeat (first | apply Kd.zbf | apply Kd.zbe | apply Kd.zbl)); exact Kd.zbb HO_344001.out (fun _ hk => ⟨hk.2, hk.1⟩)) hg hat); have n2_ := za.mk (zbz (g := gb341) (o := .cells #[.slice none 0 0, .slice none 0 0] 29 (0, 0)) (Zq2 BK341.out) hg (Kd.R_ne HO_6.out BK341.out (by decide))); have n3_ := za.mk (zbz (g := gb343) (o := .cells #[.slice none 0 0, u344001] 29 (0, 0)) (Zq2 BK343.out) hg (Kd.R_ne HO_6.out BK343.out (by decide))); have n4_ := za.mk (hb); have n5_ := za.mk (ho); clear HO_7; clear HO_344001; clear BK341; clear BK343; clear HB; clear HO_6; have HO_7 := n0_; have HO_344001 := n1_; have BK341 := n2_; have BK343 := n3_; have HB := n4_; have HO353 := n5_; clear n0_ n1_ n2_ n3_ n4_ n5_; clear ho hb hg hat; have hnb19 := NB343_341.out; have hnc19 := NB341_343.out; have hcz20_0 : w18.cell? ⟨gb343, 0, none⟩ = some (.slice none 0 0) := (zg BK343.out 0).trans rfl; have hcz20_1 : w18.cell? ⟨gb343, 1, none⟩ = some (u344001) := (zg BK343.out 1).trans rfl; have hfz20_0 := zf BK343.out 0; have hfz20_1 := zf BK343.out 1) | ((with_reducible refine zcd (b := .append) (xs := #[.tmp 35, .tmp 36]) rfl ?_); at_builtin; refine Kd.zdc (Kd.int .i64) (w0 := w) w.heap.size rfl (.tmp 35) (.tmp 36) 27 3 (.int .i64 0) 8 rfl Try.underlying27 info3 rfl (by decide) (by omega) u344001 x344001_1 (-1) [.int .i64 (-1)] (fun k_ => some k_ ≠ (v348 : Value).ownBlock ∧ some k_ ≠ (v352 : Value).ownBlock) (fun _ => False) rfl rfl ?aP (fun _ hk => hk.elim) ?aF ?aO ?aB ?aS ?aL ?_; (case aP => exact rfl); (case aB => exact (Zq9 HB.out GE341.out GE343.out)); (case aF => exact (fun k_ hk => ⟨Kd.fresh' (Kd.R_lt (Zq11 HO_7.out)) k_ hk, Kd.fresh' (Kd.R_lt (Zq11 HO353.out)) k_ hk⟩)); (case aO => exact (Zq11 HO_344001.out)); (case aS => exact (zu (Zq9 HB.out GE341.out GE343.out))); (case aL => have := LMc17.out; omega); intro v355 w21 ho hb hg hat; rw [← Ny354.out] at ho; have n0_ := za.mk (Kd.zc3 (ok := (fun k_ => some k_ ≠ (v352 : Value).ownBlock)) (by (with_reducible repeat (first | apply Kd.zbf | apply Kd.zbe | apply Kd.zbl)); exact Kd.zbb HO_7.out (fun _ hk => ⟨hk.2, hk.1⟩)) hg hat); have n1_ := za.mk (zbz (g := gb341) (o := .cells #[.slice none 0 0, .slice none 0 0] 29 (0, 0)) (Zq2 BK341.out) hg (Kd.R_ne HO_344001.out BK341.out (by decide))); have n2_ := za.mk (zbz (g := gb343) (o := .cells #[.slice none 0 0, u344001] 29 (0, 0)) (Zq2 BK343.out) hg (Kd.R_ne HO_344001.out BK343.out (by decide))); have n3_ := za.mk (Kd.zc3 (ok := (fun k_ => some k_ ≠ (v348 : Value).ownBlock)) (Zq11 HO353.out) hg hat); have n4_ := za.mk (hb); have n5_ := za.mk (ho); clear HO_7; clear BK341; clear BK343; clear HO353; clear HB; clear HO_344001; have HO_7 := n0_; have BK341 := n1_; have BK343 := n2_; have HO353 := n3_; have HB := n4_; have HO356 := n5_; clear n0_ n1_ n2_ n3_ n4_ n5_; clear ho hb hg hat; obtain ⟨Ao22, co22, eo22⟩ := Kd.zbv HO356.out; subst eo22; have hcz23_0 : w21.cell? ⟨gb343, 0, none⟩ = some (.slice none 0 0) := (zg BK343.out 0).trans rfl; have hcz23_1 : w21.cell? ⟨gb343, 1, none⟩ = some (u344001) := (zg BK343.out 1).trans rfl; have hfz23_0 := zf BK343.out 0; have hfz23_1 := zf BK343.out 1))
        go_roundg k1
        case measure => have := HK1.out; omega
        case rel => exact ⟨(y351), (wrap64 (x8_1 + 1)), (y354), (.slice Ao22 y354.length co22), Zrs, H', ⟨by have := HK1.out; omega⟩, ⟨by (with_reducible repeat (first | apply Kd.zbf | apply Kd.zbe | apply Kd.zbl)); exact Kd.zbb (Kd.zcs (p := ⟨gb343, 1, none⟩) (Kd.zcp HO353.out BK343.out (by decide)) (fun _ hk => hk.2) (.slice Ao22 y354.length co22)) (fun _ hk => ⟨hk.1.1, hk.1.2⟩)⟩, ⟨by (with_reducible repeat (first | apply Kd.zbf | apply Kd.zbe | apply Kd.zbl)); exact Kd.zbb (Kd.zcs (p := ⟨gb343, 1, none⟩) (Kd.zcp HO_7.out BK343.out (by decide)) (fun _ hk => hk.2) (.slice Ao22 y354.length co22)) (fun _ hk => ⟨hk.1.1, hk.1.2⟩)⟩, ⟨by (with_reducible repeat (first | apply Kd.zbf | apply Kd.zbe | apply Kd.zbl)); exact Kd.zbb (Kd.zcs (p := ⟨gb343, 1, none⟩) (Kd.zcp HO356.out BK343.out (by decide)) (fun _ hk => hk.2) (.slice Ao22 y354.length co22)) (fun _ hk => ⟨hk.1.2, hk.1.1⟩)⟩, ⟨by (with_reducible repeat (first | refine zz ?_ _ | refine z8 ?_ | refine zy ?_ _)); refine zco ?_ NB341_343.out _; (with_reducible repeat (first | refine zz ?_ _ | refine z8 ?_ | refine zy ?_ _)); exact BK341.out⟩, ⟨by (with_reducible repeat (first | refine zz ?_ _ | refine z8 ?_ | refine zy ?_ _)); refine zb2 (cs := #[.slice none 0 0, u344001]) ?_ 1 _ rfl; (with_reducible repeat (first | refine zz ?_ _ | refine z8 ?_ | refine zy ?_ _)); exact BK343.out⟩, ⟨Zq9 HB.out GE341.out GE343.out⟩⟩
       ·rw [if_neg c17] at H
        exact absurd H (by simp)
      ·rw [if_neg c16] at H
       exact absurd H (by simp)
     ·rw [if_neg c15] at H
      exact absurd H (by simp)
    ·rw [if_neg c14] at H
     have c14b0 : decide (x8_1 < (l1.length : Int)) = false := decide_eq_false c14
     clear c14
     have H' := za.mk H
     clear H
     go_wp2
     go_loopg [9, 10] k1 (fun kq v9 v10 w' => ∃ (x6_2 : List Int) (x7_2 : List Int) (x9_2 : Int) (x10_2 : Int) (x344000_2 : List Int) (x344001_2 : List Int) (u344000 : Value) (u344001 : Value), v9 = .int .i64 x9_2 ∧ v10 = .int .i64 x10_2 ∧ za (zm.l1 kq l1 x6_2 x7_2 x9_2 x10_2 x344000_2 x344001_2 = some (r1, r2)) ∧ za (kq ≤ k1) ∧ za (Kd.R (Kd.int .i64) 3 w' w.heap.size (fun k_ => some k_ ≠ (v348 : Value).ownBlock ∧ some k_ ≠ (u344000 : Value).ownBlock ∧ some k_ ≠ (u344001 : Value).ownBlock) u6 x6_2) ∧ za (Kd.R (Kd.int .i64) 3 w' w.heap.size (fun k_ => some k_ ≠ (u6 : Value).ownBlock ∧ some k_ ≠ (u344000 : Value).ownBlock ∧ some k_ ≠ (u344001 : Value).ownBlock) v348 x7_2) ∧ za (Kd.R (Kd.int .i64) 3 w' w.heap.size (fun k_ => some k_ ≠ (u6 : Value).ownBlock ∧ some k_ ≠ (v348 : Value).ownBlock ∧ some k_ ≠ (u344001 : Value).ownBlock) u344000 x344000_2) ∧ za (Kd.R (Kd.int .i64) 3 w' w.heap.size (fun k_ => some k_ ≠ (u6 : Value).ownBlock ∧ some k_ ≠ (v348 : Value).ownBlock ∧ some k_ ≠ (u344000 : Value).ownBlock) u344001 x344001_2) ∧ za (w'.heap[gb341]? = some (.cells #[(.slice none 0 0), (.slice none 0 0)] 29 (0, 0))) ∧ za (w'.heap[gb343]? = some (.cells #[u344000, u344001] 29 (0, 0))) ∧ za (Below w.heap.size w w'))
     case atStart => exact ⟨(x6_1), (t347), ((-1)), (0), (([] : List Int)), (x344001_1), (.slice none 0 0), (u344001), Zrs, Zrs, H', ⟨Nat.le_refl _⟩, ⟨by (with_reducible repeat (first | apply Kd.zbf | apply Kd.zbe | apply Kd.zbl)); exact Kd.zbb HO_6.out (fun _ hk => ⟨hk.1, ⟨(by simp [Value.ownBlock]), hk.2⟩⟩)⟩, ⟨by (with_reducible repeat (first | apply Kd.zbf | apply Kd.zbe | apply Kd.zbl)); exact Kd.zbb HO_7.out (fun _ hk => ⟨hk.1, ⟨(by simp [Value.ownBlock]), hk.2⟩⟩)⟩, ⟨by first | exact Kd.R_nil _ _ _ _ _ | exact Kd.N_nil _ _ _ _ _ | exact Kd.V_nil _ _ _ _ _ | exact Kd.Q_nil _ _ _ _ _ | exact Kd.S_nil _ _ _ _ _⟩, ⟨by (with_reducible repeat (first | apply Kd.zbf | apply Kd.zbe | apply Kd.zbl)); exact Kd.zbb HO_344001.out (fun _ hk => ⟨hk.1, ⟨hk.2, (by simp [Value.ownBlock])⟩⟩)⟩, ⟨Zq2 BK341.out⟩, ⟨Zq2 BK343.out⟩, ⟨Zq9 HB.out GE341.out GE343.out⟩⟩
     case round =>
      clear H'
      try clear c1
      try clear p2
      try clear p3
      try clear q3
      try clear hx3
      try clear c4
      try clear c5
      try clear p6
      try clear c9
      try clear c14
      try clear c14b0
      try clear c15
      try clear c15b0
      try clear c16
      try clear c17
      try clear c19
      try clear hcz10_0
      try clear hcz10_1
      try clear hcz20_0
      try clear hcz20_1
      try clear hcz23_0
      try clear hcz23_1
      try clear hfz10_0
      try clear hfz10_1
      try clear hfz20_0
      try clear hfz20_1
      try clear hfz23_0
      try clear hfz23_1
      try clear hx350_0
      try clear hx350_1
      try clear hx350_2
      try clear hx350_3
      try clear p2
      try clear p350
      try clear q350
      obtain ⟨x6_2, x7_2, x9_2, x10_2, x344000_2, x344001_2, u344000, u344001, rfl, rfl, HA, HK2, HO_6, HO_7, HO_344000, HO_344001, BK341, BK343, HB⟩ := hrel
      cases gk with
      | zero => exact absurd HA.out (by simp [zm.l1])
      | succ k2 =>
       have H := HA.out
       clear HA
       simp only [zm.l1] at H
       by_cases c24 : x10_2 < 120
       ·rw [if_pos c24] at H
        have c24b0 : decide (x10_2 < 120) = true := decide_eq_true c24
        clear c24
        have HC25 := za.mk H
        clear H
        go_upto_if 44 with (fail)
        go_cut [9] (fun v9 wc => ∃ (kq : Nat) (x9_24 : Int), v9 = .int .i64 x9_24 ∧ za (zm.j2 kq l1 x6_2 x7_2 x9_24 x10_2 x344000_2 x344001_2 = some (r1, r2)) ∧ za (kq ≤ k2) ∧ za (Kd.R (Kd.int .i64) 3 wc w.heap.size (fun k_ => some k_ ≠ (v348 : Value).ownBlock ∧ some k_ ≠ (u344000 : Value).ownBlock ∧ some k_ ≠ (u344001 : Value).ownBlock) u6 x6_2) ∧ za (Kd.R (Kd.int .i64) 3 wc w.heap.size (fun k_ => some k_ ≠ (u6 : Value).ownBlock ∧ some k_ ≠ (u344000 : Value).ownBlock ∧ some k_ ≠ (u344001 : Value).ownBlock) v348 x7_2) ∧ za (Kd.R (Kd.int .i64) 3 wc w.heap.size (fun k_ => some k_ ≠ (u6 : Value).ownBlock ∧ some k_ ≠ (v348 : Value).ownBlock ∧ some k_ ≠ (u344001 : Value).ownBlock) u344000 x344000_2) ∧ za (Kd.R (Kd.int .i64) 3 wc w.heap.size (fun k_ => some k_ ≠ (u6 : Value).ownBlock ∧ some k_ ≠ (v348 : Value).ownBlock ∧ some k_ ≠ (u344000 : Value).ownBlock) u344001 x344001_2) ∧ za (wc.heap[gb341]? = some (.cells #[(.slice none 0 0), (.slice none 0 0)] 29 (0, 0))) ∧ za (wc.heap[gb343]? = some (.cells #[u344000, u344001] 29 (0, 0))) ∧ za (Below w.heap.size w wc))
        case first =>
         have H := HC25.out
         clear HC25
         by_cases c26 : x9_2 < 0
         ·rw [if_pos c26] at H
          have c26b0 : decide (x9_2 < 0) = true := decide_eq_true c26
          clear c26
          (first | rw [c26b0] | (simp only [zb3, zb4]; rw [c26b0]) | skip)
          replace H := Option.bind_eq_some_iff.mp H
          obtain ⟨t357, A270, H⟩ := H
          replace H : (zm.j2 k2 l1 x6_2 x7_2 t357 x10_2 x344000_2 x344001_2) = some (r1, r2) := H
          have A27 := za.mk A270
          clear A270
          have H' := za.mk H
          clear H
          obtain ⟨Ao28, co28, eo28⟩ := Kd.zbv HO_6.out
          subst eo28
          obtain ⟨Ao29, co29, eo29⟩ := Kd.zbv HO_7.out
          subst eo29
          go_wp2_with (first | ((with_reducible refine zba (f := 58) rfl ?_); refine zbx (some 49) rfl rfl Try.func58 (by kernel_rfl) rfl #[.slice A1 l1.length c1, .slice Ao28 x6_2.length co28, .slice Ao29 x7_2.length co29, .int .i64 x10_2] rfl Zmt ?_; (with_reducible refine (zb9.calls k2 _ _ l1 _ _ x6_2 _ _ x7_2 x10_2 t357 _ ?side1 ?side2 ?side3 ?side4 ?side5 ?side6 A27.out).mono ?_); (case side1 => exact Zq15 (Kd.zbq HR1.out HB.out)); (case side2 => exact HC1.out); (case side3 => exact Zq15 ((Kd.zbh HO_6.out).2.2)); (case side4 => exact (Kd.zbh HO_6.out).2.1); (case side5 => exact Zq15 ((Kd.zbh HO_7.out).2.2)); (case side6 => exact (Kd.zbh HO_7.out).2.1); rintro e w' ⟨rfl, ⟨nd, rfl⟩⟩; refine ⟨_, rfl, ?_⟩))
          go_meet
          case rel => exact ⟨_, (t357), Zrs, H', ⟨by have := HK1.out; have := HK2.out; first | omega | exact Nat.le_refl _⟩, ⟨Zq11 HO_6.out⟩, ⟨Zq11 HO_7.out⟩, ⟨Zq11 HO_344000.out⟩, ⟨Zq11 HO_344001.out⟩, ⟨Zq2 BK341.out⟩, ⟨Zq2 BK343.out⟩, ⟨Zq9 HB.out GE341.out GE343.out⟩⟩
         ·rw [if_neg c26] at H
          have c26b0 : decide (x9_2 < 0) = false := decide_eq_false c26
          clear c26
          (first | rw [c26b0] | (simp only [zb3, zb4]; rw [c26b0]) | skip)
          have H' := za.mk H
          clear H
          go_wp2
          go_meet
          case rel => exact ⟨_, (x9_2), Zrs, H', ⟨by have := HK1.out; have := HK2.out; first | omega | exact Nat.le_refl _⟩, ⟨Zq11 HO_6.out⟩, ⟨Zq11 HO_7.out⟩, ⟨Zq11 HO_344000.out⟩, ⟨Zq11 HO_344001.out⟩, ⟨Zq2 BK341.out⟩, ⟨Zq2 BK343.out⟩, ⟨Zq9 HB.out GE341.out GE343.out⟩⟩
        case rest =>
         clear HC25
         try clear c1
         try clear c2
         try clear p2
         try clear p3
         try clear q3
         try clear hx3
         try clear c4
         try clear c5
         try clear p6
         try clear c9
         try clear c14
         try clear c14b0
         try clear c15
         try clear c15b0
         try clear c16
         try clear c17
         try clear c19
         try clear c24
         try clear c24b0
         try clear c26
         try clear c26b0
         try clear hcz10_0
         try clear hcz10_1
         try clear hcz20_0
         try clear hcz20_1
         try clear hcz23_0
         try clear hcz23_1
         try clear hfz10_0
         try clear hfz10_1
         try clear hfz20_0
         try clear hfz20_1
         try clear hfz23_0
         try clear hfz23_1
         try clear hx350_0
         try clear hx350_1
         try clear hx350_2
         try clear hx350_3
         try clear p2
         try clear p3
         try clear p350
         try clear p6
         try clear q3
         try clear q350
         obtain ⟨kq, x9_24, rfl, HA, HJ24, HO_6, HO_7, HO_344000, HO_344001, BK341, BK343, HB⟩ := hcut
         cases kq with
         | zero => exact absurd HA.out (by simp [zm.j2])
         | succ kj24 =>
          have H := HA.out
          clear HA
          simp only [zm.j2] at H
          by_cases c30 : x344000_2.length < 17592186044416
          ·rw [if_pos c30] at H
           have LMc30 := za.mk c30
           clear c30
           obtain ⟨y358, hy358⟩ : ∃ y_ : List Int, y_ = (x344000_2 ++ [x9_24]) := ⟨_, rfl⟩
           replace H : (if x9_24 ≥ 0 then (if 0 ≤ x9_24 then (if x9_24 < (x6_2.length : Int) then ((some (x6_2.set (x9_24 : Int).toNat (wrap64 ((rd x6_2 x9_24) - 1)) : List Int)).bind fun y362 => (if (rd y362 x9_24) = 0 then (if x9_24 < (x344001_2.length : Int) then (zm.l1 kj24 l1 y362 x7_2 (-1) (wrap64 (x10_2 + 1)) y358 (x344001_2.set (x9_24 : Int).toNat (wrap64 (x10_2 + 1)))) else (none)) else (zm.l1 kj24 l1 y362 x7_2 x9_24 (wrap64 (x10_2 + 1)) y358 x344001_2))) else (none)) else (none)) else (zm.l1 kj24 l1 x6_2 x7_2 x9_24 (wrap64 (x10_2 + 1)) y358 x344001_2)) = some (r1, r2) := by first | (rw [hy358]; with_reducible exact H) | (have H2_ := (Option.bind_some _ _).symm.trans H; rw [hy358]; with_reducible exact H2_) | (have H2_ := (Option.bind_some _ _).symm.trans H; with_reducible exact H2_) | with_reducible exact H | (rw [hy358]; exact H) | exact H
           have Ny358 := za.mk hy358
           clear hy358
           by_cases c31 : x9_24 ≥ 0
           ·rw [if_pos c31] at H
            have c31b0 : decide (0 ≤ x9_24) = true := decide_eq_true c31
            clear c31
            by_cases c32 : 0 ≤ x9_24
            ·rw [if_pos c32] at H
             have c32b0 : decide (0 ≤ x9_24) = true := decide_eq_true c32
             clear c32
             by_cases c33 : x9_24 < (x6_2.length : Int)
             ·rw [if_pos c33] at H
              have c33b0 : decide (x9_24 < (x6_2.length : Int)) = true := decide_eq_true c33
              clear c33
              obtain ⟨y362, hy362⟩ : ∃ y_ : List Int, y_ = (x6_2.set (x9_24 : Int).toNat (wrap64 ((rd x6_2 x9_24) - 1))) := ⟨_, rfl⟩
              replace H : (if (rd y362 x9_24) = 0 then (if x9_24 < (x344001_2.length : Int) then (zm.l1 kj24 l1 y362 x7_2 (-1) (wrap64 (x10_2 + 1)) y358 (x344001_2.set (x9_24 : Int).toNat (wrap64 (x10_2 + 1)))) else (none)) else (zm.l1 kj24 l1 y362 x7_2 x9_24 (wrap64 (x10_2 + 1)) y358 x344001_2)) = some (r1, r2) := by first | (rw [hy362]; with_reducible exact H) | (have H2_ := (Option.bind_some _ _).symm.trans H; rw [hy362]; with_reducible exact H2_) | (have H2_ := (Option.bind_some _ _).symm.trans H; with_reducible exact H2_) | with_reducible exact H | (rw [hy362]; exact H) | exact H
              have Ny362 := za.mk hy362
              clear hy362
              by_cases c35 : (rd y362 x9_24) = 0
              ·rw [if_pos c35] at H
               have c35b0 : ((rd y362 x9_24) == 0) = true := beq_iff_eq.mpr c35
               have c35b1 : ((rd y362 x9_24) != 0) = false := bne_eq_false_iff_eq.mpr c35
               clear c35
               by_cases c36 : x9_24 < (x344001_2.length : Int)
               ·rw [if_pos c36] at H
                have c36b0 : decide (x9_24 < (x344001_2.length : Int)) = true := decide_eq_true c36
                clear c36
                obtain ⟨y364, hy364⟩ : ∃ y_ : List Int, y_ = (x344001_2.set (x9_24 : Int).toNat (wrap64 (x10_2 + 1))) := ⟨_, rfl⟩
                replace H : (zm.l1 kj24 l1 y362 x7_2 (-1) (wrap64 (x10_2 + 1)) y358 y364) = some (r1, r2) := by first | (rw [hy364]; with_reducible exact H) | (have H2_ := (Option.bind_some _ _).symm.trans H; rw [hy364]; with_reducible exact H2_) | (have H2_ := (Option.bind_some _ _).symm.trans H; with_reducible exact H2_) | with_reducible exact H | (rw [hy364]; exact H) | exact H
                have Ny364 := za.mk hy364
                clear hy364
                have H' := za.mk H
                clear H
                have hnb38 := NB343_341.out
                have hnc38 := NB341_343.out
                have hcz39_0 : wc.cell? ⟨gb343, 0, none⟩ = some (u344000) := (zg BK343.out 0).trans rfl
                have hcz39_1 : wc.cell? ⟨gb343, 1, none⟩ = some (u344001) := (zg BK343.out 1).trans rfl
                have hfz39_0 := zf BK343.out 0
                have hfz39_1 := zf BK343.out 1
                go_wp2_with (first | ((with_reducible refine zcd (b := .append) (xs := #[.tmp 51, .tmp 53]) rfl ?_); at_builtin; refine Kd.zdc (Kd.int .i64) (w0 := w) w.heap.size rfl (.tmp 51) (.tmp 53) 27 3 (.int .i64 0) 8 rfl Try.underlying27 info3 rfl (by decide) (by omega) u344000 x344000_2 x9_24 [.int .i64 x9_24] (fun k_ => some k_ ≠ (u6 : Value).ownBlock ∧ some k_ ≠ (v348 : Value).ownBlock ∧ some k_ ≠ (u344001 : Value).ownBlock) (fun _ => False) rfl rfl ?aP (fun _ hk => hk.elim) ?aF ?aO ?aB ?aS ?aL ?_; (case aP => exact rfl); (case aB => exact (Zq9 HB.out GE341.out GE343.out)); (case aF => exact (fun k_ hk => ⟨Kd.fresh' (Kd.R_lt (Zq11 HO_6.out)) k_ hk, Kd.fresh' (Kd.R_lt (Zq11 HO_7.out)) k_ hk, Kd.fresh' (Kd.R_lt (Zq11 HO_344001.out)) k_ hk⟩)); (case aO => exact (Zq11 HO_344000.out)); (case aS => exact (zu (Zq9 HB.out GE341.out GE343.out))); (case aL => have := LMc30.out; omega); intro v359 w40 ho hb hg hat; rw [← Ny358.out] at ho; have n0_ := za.mk (Kd.zc3 (ok := (fun k_ => some k_ ≠ (v348 : Value).ownBlock ∧ some k_ ≠ (u344001 : Value).ownBlock)) (by (with_reducible repeat (first | apply Kd.zbf | apply Kd.zbe | apply Kd.zbl)); exact Kd.zbb HO_6.out (fun _ hk => ⟨⟨hk.1, hk.2.2⟩, hk.2.1⟩)) hg hat); have n1_ := za.mk (Kd.zc3 (ok := (fun k_ => some k_ ≠ (u6 : Value).ownBlock ∧ some k_ ≠ (u344001 : Value).ownBlock)) (by (with_reducible repeat (first | apply Kd.zbf | apply Kd.zbe | apply Kd.zbl)); exact Kd.zbb HO_7.out (fun _ hk => ⟨⟨hk.1, hk.2.2⟩, hk.2.1⟩)) hg hat); have n2_ := za.mk (Kd.zc3 (ok := (fun k_ => some k_ ≠ (u6 : Value).ownBlock ∧ some k_ ≠ (v348 : Value).ownBlock)) (by (with_reducible repeat (first | apply Kd.zbf | apply Kd.zbe | apply Kd.zbl)); exact Kd.zbb HO_344001.out (fun _ hk => ⟨⟨hk.1, hk.2.1⟩, hk.2.2⟩)) hg hat); have n3_ := za.mk (zbz (g := gb341) (o := .cells #[.slice none 0 0, .slice none 0 0] 29 (0, 0)) (Zq2 BK341.out) hg (Kd.R_ne HO_344000.out BK341.out (by decide))); have n4_ := za.mk (zbz (g := gb343) (o := .cells #[u344000, u344001] 29 (0, 0)) (Zq2 BK343.out) hg (Kd.R_ne HO_344000.out BK343.out (by decide))); have n5_ := za.mk (hb); have n6_ := za.mk (ho); clear HO_6; clear HO_7; clear HO_344001; clear BK341; clear BK343; clear HB; clear HO_344000; have HO_6 := n0_; have HO_7 := n1_; have HO_344001 := n2_; have BK341 := n3_; have BK343 := n4_; have HB := n5_; have HO360 := n6_; clear n0_ n1_ n2_ n3_ n4_ n5_ n6_; clear ho hb hg hat; obtain ⟨Ao41, co41, eo41⟩ := Kd.zbv HO360.out; subst eo41; have hcz42_0 : w40.cell? ⟨gb343, 0, none⟩ = some (u344000) := (zg BK343.out 0).trans rfl; have hcz42_1 : w40.cell? ⟨gb343, 1, none⟩ = some (u344001) := (zg BK343.out 1).trans rfl; have hfz42_0 := zf BK343.out 0; have hfz42_1 := zf BK343.out 1) | ((with_reducible refine zcg (t := 27) (p := 55) rfl ?_); refine zb8 (t := 27) (p := 55) (v := ?vo_w43) (w1 := (w40.setCell ⟨gb343, 0, none⟩ (.slice Ao41 y358.length co41))) ?hg ?ho ?hn ?hr ?_; (case ho => rfl); (case hg => rfl); (case hn => rfl); (case hr => first | (go_simp; done) | (go_simp; rfl)); intro w43 hw; have n0_ : za (Kd.R (Kd.int .i64) 3 w43 w.heap.size (fun k_ => some k_ ≠ (v348 : Value).ownBlock ∧ some k_ ≠ (u344001 : Value).ownBlock ∧ some k_ ≠ (.slice Ao41 y358.length co41 : Value).ownBlock) u6 x6_2) := ⟨(by rw [hw]; exact (by (with_reducible repeat (first | apply Kd.zbf | apply Kd.zbe | apply Kd.zbl)); exact Kd.zbb (Kd.zcs (p := ⟨gb343, 0, none⟩) (Kd.zcp HO_6.out BK343.out (by decide)) (fun _ hk => hk.2) (.slice Ao41 y358.length co41)) (fun _ hk => ⟨hk.1.1.1, ⟨hk.1.1.2, hk.1.2⟩⟩)))⟩; have n1_ : za (Kd.R (Kd.int .i64) 3 w43 w.heap.size (fun k_ => some k_ ≠ (u6 : Value).ownBlock ∧ some k_ ≠ (u344001 : Value).ownBlock ∧ some k_ ≠ (.slice Ao41 y358.length co41 : Value).ownBlock) v348 x7_2) := ⟨(by rw [hw]; exact (by (with_reducible repeat (first | apply Kd.zbf | apply Kd.zbe | apply Kd.zbl)); exact Kd.zbb (Kd.zcs (p := ⟨gb343, 0, none⟩) (Kd.zcp HO_7.out BK343.out (by decide)) (fun _ hk => hk.2) (.slice Ao41 y358.length co41)) (fun _ hk => ⟨hk.1.1.1, ⟨hk.1.1.2, hk.1.2⟩⟩)))⟩; have n2_ : za (Kd.R (Kd.int .i64) 3 w43 w.heap.size (fun k_ => some k_ ≠ (u6 : Value).ownBlock ∧ some k_ ≠ (v348 : Value).ownBlock ∧ some k_ ≠ (.slice Ao41 y358.length co41 : Value).ownBlock) u344001 x344001_2) := ⟨(by rw [hw]; exact (by (with_reducible repeat (first | apply Kd.zbf | apply Kd.zbe | apply Kd.zbl)); exact Kd.zbb (Kd.zcs (p := ⟨gb343, 0, none⟩) (Kd.zcp HO_344001.out BK343.out (by decide)) (fun _ hk => hk.2) (.slice Ao41 y358.length co41)) (fun _ hk => ⟨hk.1.1.1, ⟨hk.1.1.2, hk.1.2⟩⟩)))⟩; have n3_ : za (Kd.R (Kd.int .i64) 3 w43 w.heap.size (fun k_ => some k_ ≠ (u6 : Value).ownBlock ∧ some k_ ≠ (v348 : Value).ownBlock ∧ some k_ ≠ (u344001 : Value).ownBlock) (.slice Ao41 y358.length co41) y358) := ⟨(by rw [hw]; exact (by (with_reducible repeat (first | apply Kd.zbf | apply Kd.zbe | apply Kd.zbl)); exact Kd.zbb (Kd.zcs (p := ⟨gb343, 0, none⟩) (Kd.zcp HO360.out BK343.out (by decide)) (fun _ hk => hk.2) (.slice Ao41 y358.length co41)) (fun _ hk => ⟨hk.1.1, ⟨hk.1.2.1, hk.1.2.2⟩⟩)))⟩; have n4_ : za (w43.heap[gb341]? = some (.cells #[.slice none 0 0, .slice none 0 0] 29 (0, 0))) := ⟨(by rw [hw]; exact (by (with_reducible repeat (first | refine zz ?_ _ | refine z8 ?_ | refine zy ?_ _)); refine zco ?_ NB341_343.out _; (with_reducible repeat (first | refine zz ?_ _ | refine z8 ?_ | refine zy ?_ _)); exact BK341.out))⟩; have n5_ : za (w43.heap[gb343]? = some (.cells #[.slice Ao41 y358.length co41, u344001] 29 (0, 0))) := ⟨(by rw [hw]; exact (by (with_reducible repeat (first | refine zz ?_ _ | refine z8 ?_ | refine zy ?_ _)); refine zb2 (cs := #[u344000, u344001]) ?_ 0 _ rfl; (with_reducible repeat (first | refine zz ?_ _ | refine z8 ?_ | refine zy ?_ _)); exact BK343.out))⟩; have n6_ : za (Below w.heap.size w w43) := ⟨(by rw [hw]; exact (Zq9 HB.out GE341.out GE343.out))⟩; clear hw; clear HO_6; clear HO_7; clear HO_344001; clear HO360; clear BK341; clear BK343; clear HB; have HO_6 := n0_; have HO_7 := n1_; have HO_344001 := n2_; have HO360 := n3_; have BK341 := n4_; have BK343 := n5_; have HB := n6_; clear n0_ n1_ n2_ n3_ n4_ n5_ n6_; obtain ⟨Ao44, co44, eo44⟩ := Kd.zbv HO_6.out; subst eo44; have p361 : 0 ≤ (x9_24 : Int) := of_decide_eq_true Zas; have q361 : x9_24 < (x6_2.length : Int) := of_decide_eq_true Zas; obtain ⟨ad361, e361, hx361_0⟩ := Kd.zcf (Kd.zbh HO_6.out).2.2 x9_24 p361 q361; cases e361; replace p361 := eq_true p361; replace q361 := eq_true q361; have p34 : 0 ≤ (x9_24 : Int) := of_decide_eq_true Zas; have q34 : (x9_24 : Int) < ((x6_2.length : Int) : Int) := of_decide_eq_true Zas; obtain ⟨go34, co34, eo34, gb34, gl34, cl34, HG34⟩ := Kd.R_form HO_6.out (by omega); (first | cases eo34 | (injection eo34 with ea_ en_ ec_; (first | subst ea_ | (injection ea_ with ea_; subst ea_)); subst ec_; clear en_)); have GB34 := za.mk gb34; have GG34 := za.mk HG34; clear gb34 gl34 HG34; (first | simp only [add_plain] at hx361_0 | skip); obtain ⟨hx34_0, hf34_0⟩ := Kd.zdi 0 HO_6.out (x9_24 : Int) p34 q34; replace p34 := eq_true p34; replace q34 := eq_true q34; obtain ⟨hy45_, hz45_⟩ := Kd.zdi 0 HO_6.out (x9_24 : Int) (of_decide_eq_true Zas) (of_decide_eq_true Zas); have HP45 := Kd.zde HO_6.out (x9_24 : Int) (wrap64 ((rd x6_2 x9_24) - 1))) | ((with_reducible refine zcg (t := 3) (p := 65) rfl ?_); refine zb8 (t := 3) (p := 65) (v := ?vo_w46) (w1 := (w43.setCell ⟨go34, (x9_24 : Int).toNat, none⟩ (.int .i64 (wrap64 ((rd x6_2 x9_24) - 1))))) ?hg ?ho ?hn ?hr ?_; (case ho => rfl); (case hg => rfl); (case hn => rfl); (case hr => first | (go_simp; done) | (go_simp; rfl)); intro w46 hw; have hg : w43.grownBy w46 (some go34) := (by rw [hw]; exact HP45.2); have hp_ : Kd.R (Kd.int .i64) 3 w46 w.heap.size (fun k_ => some k_ ≠ (v348 : Value).ownBlock ∧ some k_ ≠ (u344001 : Value).ownBlock ∧ some k_ ≠ (.slice Ao41 y358.length co41 : Value).ownBlock) (.slice (some ⟨go34, 0, none⟩) x6_2.length co44) y362 := (by rw [hw, Ny362.out]; exact HP45.1); clear HP45; have n0_ := za.mk (hp_); have n1_ := za.mk (Kd.zc3 (v := (.slice (some ⟨go34, 0, none⟩) x6_2.length co44)) (v1 := (.slice (some ⟨go34, 0, none⟩) x6_2.length co44)) (ok := (fun k_ => some k_ ≠ (u344001 : Value).ownBlock ∧ some k_ ≠ (.slice Ao41 y358.length co41 : Value).ownBlock)) (by (with_reducible repeat (first | apply Kd.zbf | apply Kd.zbe | apply Kd.zbl)); exact Kd.zbb HO_7.out (fun _ hk => ⟨⟨hk.2.1, hk.2.2⟩, hk.1⟩)) hg (.inl rfl)); have n2_ := za.mk (Kd.zc3 (v := (.slice (some ⟨go34, 0, none⟩) x6_2.length co44)) (v1 := (.slice (some ⟨go34, 0, none⟩) x6_2.length co44)) (ok := (fun k_ => some k_ ≠ (v348 : Value).ownBlock ∧ some k_ ≠ (.slice Ao41 y358.length co41 : Value).ownBlock)) (by (with_reducible repeat (first | apply Kd.zbf | apply Kd.zbe | apply Kd.zbl)); exact Kd.zbb HO_344001.out (fun _ hk => ⟨⟨hk.2.1, hk.2.2⟩, hk.1⟩)) hg (.inl rfl)); have n3_ := za.mk (zbz (g := gb341) (o := .cells #[.slice none 0 0, .slice none 0 0] 29 (0, 0)) (Zq2 BK341.out) hg (Kd.R_ne HO_6.out BK341.out (by decide))); have n4_ := za.mk (zbz (g := gb343) (o := .cells #[.slice Ao41 y358.length co41, u344001] 29 (0, 0)) (Zq2 BK343.out) hg (Kd.R_ne HO_6.out BK343.out (by decide))); have n5_ := za.mk (Kd.zc3 (v := (.slice (some ⟨go34, 0, none⟩) x6_2.length co44)) (v1 := (.slice (some ⟨go34, 0, none⟩) x6_2.length co44)) (ok := (fun k_ => some k_ ≠ (v348 : Value).ownBlock ∧ some k_ ≠ (u344001 : Value).ownBlock)) (by (with_reducible repeat (first | apply Kd.zbf | apply Kd.zbe | apply Kd.zbl)); exact Kd.zbb HO360.out (fun _ hk => ⟨⟨hk.2.1, hk.2.2⟩, hk.1⟩)) hg (.inl rfl)); have n6_ := za.mk ((by rw [hw]; exact zbw (HB.out) GB34.out : Below w.heap.size w w46)); clear HO_6; clear HO_7; clear HO_344001; clear BK341; clear BK343; clear HO360; clear HB; have HO_6 := n0_; have HO_7 := n1_; have HO_344001 := n2_; have BK341 := n3_; have BK343 := n4_; have HO360 := n5_; have HB := n6_; clear n0_ n1_ n2_ n3_ n4_ n5_ n6_; clear hg hw hp_; have p363 : 0 ≤ (x9_24 : Int) := of_decide_eq_true Zas; have q363 : x9_24 < (y362.length : Int) := (by have h_ : (x9_24 : Int) < ((x6_2.length : Int) : Int) := of_decide_eq_true Zas; first | (have e_ := (Kd.zbh HO_6.out).1; omega) | simpa only [Ny362.out, List.length_set] using h_); have ql363 : ((x9_24 : Int) < ((x6_2.length : Int) : Int)) = True := eq_true (of_decide_eq_true Zas); obtain ⟨ad363, e363, hx363_0⟩ := Kd.zcf (Kd.zbh HO_6.out).2.2 x9_24 p363 q363; obtain rfl : (⟨go34, 0, none⟩ : Addr) = ad363 := (by injection e363); (first | simp only [add_plain] at hx363_0 | simp only [add_at] at hx363_0 | simp only [Addr.add, Nat.zero_add] at hx363_0 | skip); replace p363 := eq_true p363; replace q363 := eq_true q363; have hcz47_0 : w46.cell? ⟨gb343, 0, none⟩ = some (.slice Ao41 y358.length co41) := (zg BK343.out 0).trans rfl; have hcz47_1 : w46.cell? ⟨gb343, 1, none⟩ = some (u344001) := (zg BK343.out 1).trans rfl; have hfz47_0 := zf BK343.out 0; have hfz47_1 := zf BK343.out 1; have p37 : 0 ≤ (x9_24 : Int) := of_decide_eq_true Zas; have q37 : (x9_24 : Int) < ((x344001_2.length : Int) : Int) := of_decide_eq_true Zas; obtain ⟨go37, co37, eo37, gb37, gl37, cl37, HG37⟩ := Kd.R_form HO_344001.out (by omega); (first | cases eo37 | (injection eo37 with ea_ en_ ec_; (first | subst ea_ | (injection ea_ with ea_; subst ea_)); subst ec_; clear en_)); have GB37 := za.mk gb37; have GG37 := za.mk HG37; clear gb37 gl37 HG37; obtain ⟨hx37_0, hf37_0⟩ := Kd.zdi 0 HO_344001.out (x9_24 : Int) p37 q37; replace p37 := eq_true p37; replace q37 := eq_true q37; have n_ := za.mk (Kd.zbb (ok' := (fun k_ => some k_ ≠ (.slice (some ⟨go34, 0, none⟩) x6_2.length co44 : Value).ownBlock ∧ some k_ ≠ (v348 : Value).ownBlock ∧ some k_ ≠ (.slice Ao41 y358.length co41 : Value).ownBlock)) HO_344001.out (fun k_ hk => ⟨hk.2, ⟨hk.1.1, hk.1.2⟩⟩)); clear HO_344001; have HO_344001 := n_; clear n_; obtain ⟨hy48_, hz48_⟩ := Kd.zdi 0 HO_344001.out (x9_24 : Int) (of_decide_eq_true Zas) (of_decide_eq_true Zas); have HP48 := Kd.zde HO_344001.out (x9_24 : Int) (wrap64 (x10_2 + 1))) | ((with_reducible refine zcg (t := 3) (p := 76) rfl ?_); refine zb8 (t := 3) (p := 76) (v := ?vo_w49) (w1 := (w46.setCell ⟨go37, (x9_24 : Int).toNat, none⟩ (.int .i64 (wrap64 (x10_2 + 1))))) ?hg ?ho ?hn ?hr ?_; (case ho => rfl); (case hg => rfl); (case hn => rfl); (case hr => first | (go_simp; done) | (go_simp; rfl)); intro w49 hw; have hg : w46.grownBy w49 (some go37) := (by rw [hw]; exact HP48.2); have hp_ : Kd.R (Kd.int .i64) 3 w49 w.heap.size (fun k_ => some k_ ≠ (.slice (some ⟨go34, 0, none⟩) x6_2.length co44 : Value).ownBlock ∧ some k_ ≠ (v348 : Value).ownBlock ∧ some k_ ≠ (.slice Ao41 y358.length co41 : Value).ownBlock) (.slice (some ⟨go37, 0, none⟩) x344001_2.length co37) y364 := (by rw [hw, Ny364.out]; exact HP48.1); clear HP48; have n0_ := za.mk (Kd.zc3 (v := (.slice (some ⟨go37, 0, none⟩) x344001_2.length co37)) (v1 := (.slice (some ⟨go37, 0, none⟩) x344001_2.length co37)) (ok := (fun k_ => some k_ ≠ (v348 : Value).ownBlock ∧ some k_ ≠ (.slice Ao41 y358.length co41 : Value).ownBlock)) (by (with_reducible repeat (first | apply Kd.zbf | apply Kd.zbe | apply Kd.zbl)); exact Kd.zbb HO_6.out (fun _ hk => ⟨⟨hk.1, hk.2.2⟩, hk.2.1⟩)) hg (.inl rfl)); have n1_ := za.mk (Kd.zc3 (v := (.slice (some ⟨go37, 0, none⟩) x344001_2.length co37)) (v1 := (.slice (some ⟨go37, 0, none⟩) x344001_2.length co37)) (ok := (fun k_ => some k_ ≠ (.slice (some ⟨go34, 0, none⟩) x6_2.length co44 : Value).ownBlock ∧ some k_ ≠ (.slice Ao41 y358.length co41 : Value).ownBlock)) (by (with_reducible repeat (first | apply Kd.zbf | apply Kd.zbe | apply Kd.zbl)); exact Kd.zbb HO_7.out (fun _ hk => ⟨⟨hk.2, hk.1.2⟩, hk.1.1⟩)) hg (.inl rfl)); have n2_ := za.mk (hp_); have n3_ := za.mk (zbz (g := gb341) (o := .cells #[.slice none 0 0, .slice none 0 0] 29 (0, 0)) (Zq2 BK341.out) hg (Kd.R_ne HO_344001.out BK341.out (by decide))); have n4_ := za.mk (zbz (g := gb343) (o := .cells #[.slice Ao41 y358.length co41, .slice (some ⟨go37, 0, none⟩) x344001_2.length co37] 29 (0, 0)) (Zq2 BK343.out) hg (Kd.R_ne HO_344001.out BK343.out (by decide))); have n5_ := za.mk (Kd.zc3 (v := (.slice (some ⟨go37, 0, none⟩) x344001_2.length co37)) (v1 := (.slice (some ⟨go37, 0, none⟩) x344001_2.length co37)) (ok := (fun k_ => some k_ ≠ (.slice (some ⟨go34, 0, none⟩) x6_2.length co44 : Value).ownBlock ∧ some k_ ≠ (v348 : Value).ownBlock)) (by (with_reducible repeat (first | apply Kd.zbf | apply Kd.zbe | apply Kd.zbl)); exact Kd.zbb HO360.out (fun _ hk => ⟨⟨hk.2, hk.1.1⟩, hk.1.2⟩)) hg (.inl rfl)); have n6_ := za.mk ((by rw [hw]; exact zbw (HB.out) GB37.out : Below w.heap.size w w49)); clear HO_6; clear HO_7; clear HO_344001; clear BK341; clear BK343; clear HO360; clear HB; have HO_6 := n0_; have HO_7 := n1_; have HO_344001 := n2_; have BK341 := n3_; have BK343 := n4_; have HO360 := n5_; have HB := n6_; clear n0_ n1_ n2_ n3_ n4_ n5_ n6_; clear hg hw hp_))
                go_roundg kj24
                case measure => have := HK1.out; have := HK2.out; have := HJ24.out; omega
                case rel => exact ⟨(y362), (x7_2), ((-1)), (wrap64 (x10_2 + 1)), (y358), (y364), (.slice Ao41 y358.length co41), (.slice (some ⟨go37, 0, none⟩) x344001_2.length co37), Zrs, Zrs, H', ⟨by have := HK1.out; have := HK2.out; have := HJ24.out; omega⟩, ⟨by (with_reducible repeat (first | apply Kd.zbf | apply Kd.zbe | apply Kd.zbl)); exact Kd.zbb HO_6.out (fun _ hk => ⟨hk.1.1, ⟨hk.1.2, hk.2⟩⟩)⟩, ⟨by (with_reducible repeat (first | apply Kd.zbf | apply Kd.zbe | apply Kd.zbl)); exact Kd.zbb HO_7.out (fun _ hk => ⟨hk.1.1, ⟨hk.1.2, hk.2⟩⟩)⟩, ⟨by (with_reducible repeat (first | apply Kd.zbf | apply Kd.zbe | apply Kd.zbl)); exact Kd.zbb HO360.out (fun _ hk => ⟨hk.1.1, ⟨hk.1.2, hk.2⟩⟩)⟩, ⟨Zq11 HO_344001.out⟩, ⟨Zq2 BK341.out⟩, ⟨Zq2 BK343.out⟩, ⟨Zq9 HB.out GE341.out GE343.out⟩⟩
               ·rw [if_neg c36] at H
                exact absurd H (by simp)
              ·rw [if_neg c35] at H
               have c35b0 : ((rd y362 x9_24) == 0) = false := beq_eq_false_iff_ne.mpr c35
               have c35b1 : ((rd y362 x9_24) != 0) = true := bne_iff_ne.mpr c35
               have H' := za.mk H
               clear H
               have hnb50 := NB343_341.out
               have hnc50 := NB341_343.out
               have hcz51_0 : wc.cell? ⟨gb343, 0, none⟩ = some (u344000) := (zg BK343.out 0).trans rfl
               have hcz51_1 : wc.cell? ⟨gb343, 1, none⟩ = some (u344001) := (zg BK343.out 1).trans rfl
               have hfz51_0 := zf BK343.out 0
               have hfz51_1 := zf BK343.out 1
               go_wp2_with (first | ((with_reducible refine zcd (b := .append) (xs := #[.tmp 51, .tmp 53]) rfl ?_); at_builtin; refine Kd.zdc (Kd.int .i64) (w0 := w) w.heap.size rfl (.tmp 51) (.tmp 53) 27 3 (.int .i64 0) 8 rfl Try.underlying27 info3 rfl (by decide) (by omega) u344000 x344000_2 x9_24 [.int .i64 x9_24] (fun k_ => some k_ ≠ (u6 : Value).ownBlock ∧ some k_ ≠ (v348 : Value).ownBlock ∧ some k_ ≠ (u344001 : Value).ownBlock) (fun _ => False) rfl rfl ?aP (fun _ hk => hk.elim) ?aF ?aO ?aB ?aS ?aL ?_; (case aP => exact rfl); (case aB => exact (Zq9 HB.out GE341.out GE343.out)); (case aF => exact (fun k_ hk => ⟨Kd.fresh' (Kd.R_lt (Zq11 HO_6.out)) k_ hk, Kd.fresh' (Kd.R_lt (Zq11 HO_7.out)) k_ hk, Kd.fresh' (Kd.R_lt (Zq11 HO_344001.out)) k_ hk⟩)); (case aO => exact (Zq11 HO_344000.out)); (case aS => exact (zu (Zq9 HB.out GE341.out GE343.out))); (case aL => have := LMc30.out; omega); intro v359 w52 ho hb hg hat; rw [← Ny358.out] at ho; have n0_ := za.mk (Kd.zc3 (ok := (fun k_ => some k_ ≠ (v348 : Value).ownBlock ∧ some k_ ≠ (u344001 : Value).ownBlock)) (by (with_reducible repeat (first | apply Kd.zbf | apply Kd.zbe | apply Kd.zbl)); exact Kd.zbb HO_6.out (fun _ hk => ⟨⟨hk.1, hk.2.2⟩, hk.2.1⟩)) hg hat); have n1_ := za.mk (Kd.zc3 (ok := (fun k_ => some k_ ≠ (u6 : Value).ownBlock ∧ some k_ ≠ (u344001 : Value).ownBlock)) (by (with_reducible repeat (first | apply Kd.zbf | apply Kd.zbe | apply Kd.zbl)); exact Kd.zbb HO_7.out (fun _ hk => ⟨⟨hk.1, hk.2.2⟩, hk.2.1⟩)) hg hat); have n2_ := za.mk (Kd.zc3 (ok := (fun k_ => some k_ ≠ (u6 : Value).ownBlock ∧ some k_ ≠ (v348 : Value).ownBlock)) (by (with_reducible repeat (first | apply Kd.zbf | apply Kd.zbe | apply Kd.zbl)); exact Kd.zbb HO_344001.out (fun _ hk => ⟨⟨hk.1, hk.2.1⟩, hk.2.2⟩)) hg hat); have n3_ := za.mk (zbz (g := gb341) (o := .cells #[.slice none 0 0, .slice none 0 0] 29 (0, 0)) (Zq2 BK341.out) hg (Kd.R_ne HO_344000.out BK341.out (by decide))); have n4_ := za.mk (zbz (g := gb343) (o := .cells #[u344000, u344001] 29 (0, 0)) (Zq2 BK343.out) hg (Kd.R_ne HO_344000.out BK343.out (by decide))); have n5_ := za.mk (hb); have n6_ := za.mk (ho); clear HO_6; clear HO_7; clear HO_344001; clear BK341; clear BK343; clear HB; clear HO_344000; have HO_6 := n0_; have HO_7 := n1_; have HO_344001 := n2_; have BK341 := n3_; have BK343 := n4_; have HB := n5_; have HO360 := n6_; clear n0_ n1_ n2_ n3_ n4_ n5_ n6_; clear ho hb hg hat; obtain ⟨Ao53, co53, eo53⟩ := Kd.zbv HO360.out; subst eo53; have hcz54_0 : w52.cell? ⟨gb343, 0, none⟩ = some (u344000) := (zg BK343.out 0).trans rfl; have hcz54_1 : w52.cell? ⟨gb343, 1, none⟩ = some (u344001) := (zg BK343.out 1).trans rfl; have hfz54_0 := zf BK343.out 0; have hfz54_1 := zf BK343.out 1) | ((with_reducible refine zcg (t := 27) (p := 55) rfl ?_); refine zb8 (t := 27) (p := 55) (v := ?vo_w55) (w1 := (w52.setCell ⟨gb343, 0, none⟩ (.slice Ao53 y358.length co53))) ?hg ?ho ?hn ?hr ?_; (case ho => rfl); (case hg => rfl); (case hn => rfl); (case hr => first | (go_simp; done) | (go_simp; rfl)); intro w55 hw; have n0_ : za (Kd.R (Kd.int .i64) 3 w55 w.heap.size (fun k_ => some k_ ≠ (v348 : Value).ownBlock ∧ some k_ ≠ (u344001 : Value).ownBlock ∧ some k_ ≠ (.slice Ao53 y358.length co53 : Value).ownBlock) u6 x6_2) := ⟨(by rw [hw]; exact (by (with_reducible repeat (first | apply Kd.zbf | apply Kd.zbe | apply Kd.zbl)); exact Kd.zbb (Kd.zcs (p := ⟨gb343, 0, none⟩) (Kd.zcp HO_6.out BK343.out (by decide)) (fun _ hk => hk.2) (.slice Ao53 y358.length co53)) (fun _ hk => ⟨hk.1.1.1, ⟨hk.1.1.2, hk.1.2⟩⟩)))⟩; have n1_ : za (Kd.R (Kd.int .i64) 3 w55 w.heap.size (fun k_ => some k_ ≠ (u6 : Value).ownBlock ∧ some k_ ≠ (u344001 : Value).ownBlock ∧ some k_ ≠ (.slice Ao53 y358.length co53 : Value).ownBlock) v348 x7_2) := ⟨(by rw [hw]; exact (by (with_reducible repeat (first | apply Kd.zbf | apply Kd.zbe | apply Kd.zbl)); exact Kd.zbb (Kd.zcs (p := ⟨gb343, 0, none⟩) (Kd.zcp HO_7.out BK343.out (by decide)) (fun _ hk => hk.2) (.slice Ao53 y358.length co53)) (fun _ hk => ⟨hk.1.1.1, ⟨hk.1.1.2, hk.1.2⟩⟩)))⟩; have n2_ : za (Kd.R (Kd.int .i64) 3 w55 w.heap.size (fun k_ => some k_ ≠ (u6 : Value).ownBlock ∧ some k_ ≠ (v348 : Value).ownBlock ∧ some k_ ≠ (.slice Ao53 y358.length co53 : Value).ownBlock) u344001 x344001_2) := ⟨(by rw [hw]; exact (by (with_reducible repeat (first | apply Kd.zbf | apply Kd.zbe | apply Kd.zbl)); exact Kd.zbb (Kd.zcs (p := ⟨gb343, 0, none⟩) (Kd.zcp HO_344001.out BK343.out (by decide)) (fun _ hk => hk.2) (.slice Ao53 y358.length co53)) (fun _ hk => ⟨hk.1.1.1, ⟨hk.1.1.2, hk.1.2⟩⟩)))⟩; have n3_ : za (Kd.R (Kd.int .i64) 3 w55 w.heap.size (fun k_ => some k_ ≠ (u6 : Value).ownBlock ∧ some k_ ≠ (v348 : Value).ownBlock ∧ some k_ ≠ (u344001 : Value).ownBlock) (.slice Ao53 y358.length co53) y358) := ⟨(by rw [hw]; exact (by (with_reducible repeat (first | apply Kd.zbf | apply Kd.zbe | apply Kd.zbl)); exact Kd.zbb (Kd.zcs (p := ⟨gb343, 0, none⟩) (Kd.zcp HO360.out BK343.out (by decide)) (fun _ hk => hk.2) (.slice Ao53 y358.length co53)) (fun _ hk => ⟨hk.1.1, ⟨hk.1.2.1, hk.1.2.2⟩⟩)))⟩; have n4_ : za (w55.heap[gb341]? = some (.cells #[.slice none 0 0, .slice none 0 0] 29 (0, 0))) := ⟨(by rw [hw]; exact (by (with_reducible repeat (first | refine zz ?_ _ | refine z8 ?_ | refine zy ?_ _)); refine zco ?_ NB341_343.out _; (with_reducible repeat (first | refine zz ?_ _ | refine z8 ?_ | refine zy ?_ _)); exact BK341.out))⟩; have n5_ : za (w55.heap[gb343]? = some (.cells #[.slice Ao53 y358.length co53, u344001] 29 (0, 0))) := ⟨(by rw [hw]; exact (by (with_reducible repeat (first | refine zz ?_ _ | refine z8 ?_ | refine zy ?_ _)); refine zb2 (cs := #[u344000, u344001]) ?_ 0 _ rfl; (with_reducible repeat (first | refine zz ?_ _ | refine z8 ?_ | refine zy ?_ _)); exact BK343.out))⟩; have n6_ : za (Below w.heap.size w w55) := ⟨(by rw [hw]; exact (Zq9 HB.out GE341.out GE343.out))⟩; clear hw; clear HO_6; clear HO_7; clear HO_344001; clear HO360; clear BK341; clear BK343; clear HB; have HO_6 := n0_; have HO_7 := n1_; have HO_344001 := n2_; have HO360 := n3_; have BK341 := n4_; have BK343 := n5_; have HB := n6_; clear n0_ n1_ n2_ n3_ n4_ n5_ n6_; obtain ⟨Ao56, co56, eo56⟩ := Kd.zbv HO_6.out; subst eo56; have p361 : 0 ≤ (x9_24 : Int) := of_decide_eq_true Zas; have q361 : x9_24 < (x6_2.length : Int) := of_decide_eq_true Zas; obtain ⟨ad361, e361, hx361_0⟩ := Kd.zcf (Kd.zbh HO_6.out).2.2 x9_24 p361 q361; cases e361; replace p361 := eq_true p361; replace q361 := eq_true q361; have p34 : 0 ≤ (x9_24 : Int) := of_decide_eq_true Zas; have q34 : (x9_24 : Int) < ((x6_2.length : Int) : Int) := of_decide_eq_true Zas; obtain ⟨go34, co34, eo34, gb34, gl34, cl34, HG34⟩ := Kd.R_form HO_6.out (by omega); (first | cases eo34 | (injection eo34 with ea_ en_ ec_; (first | subst ea_ | (injection ea_ with ea_; subst ea_)); subst ec_; clear en_)); have GB34 := za.mk gb34; have GG34 := za.mk HG34; clear gb34 gl34 HG34; (first | simp only [add_plain] at hx361_0 | skip); obtain ⟨hx34_0, hf34_0⟩ := Kd.zdi 0 HO_6.out (x9_24 : Int) p34 q34; replace p34 := eq_true p34; replace q34 := eq_true q34; obtain ⟨hy57_, hz57_⟩ := Kd.zdi 0 HO_6.out (x9_24 : Int) (of_decide_eq_true Zas) (of_decide_eq_true Zas); have HP57 := Kd.zde HO_6.out (x9_24 : Int) (wrap64 ((rd x6_2 x9_24) - 1))) | ((with_reducible refine zcg (t := 3) (p := 65) rfl ?_); refine zb8 (t := 3) (p := 65) (v := ?vo_w58) (w1 := (w55.setCell ⟨go34, (x9_24 : Int).toNat, none⟩ (.int .i64 (wrap64 ((rd x6_2 x9_24) - 1))))) ?hg ?ho ?hn ?hr ?_; (case ho => rfl); (case hg => rfl); (case hn => rfl); (case hr => first | (go_simp; done) | (go_simp; rfl)); intro w58 hw; have hg : w55.grownBy w58 (some go34) := (by rw [hw]; exact HP57.2); have hp_ : Kd.R (Kd.int .i64) 3 w58 w.heap.size (fun k_ => some k_ ≠ (v348 : Value).ownBlock ∧ some k_ ≠ (u344001 : Value).ownBlock ∧ some k_ ≠ (.slice Ao53 y358.length co53 : Value).ownBlock) (.slice (some ⟨go34, 0, none⟩) x6_2.length co56) y362 := (by rw [hw, Ny362.out]; exact HP57.1); clear HP57; have n0_ := za.mk (hp_); have n1_ := za.mk (Kd.zc3 (v := (.slice (some ⟨go34, 0, none⟩) x6_2.length co56)) (v1 := (.slice (some ⟨go34, 0, none⟩) x6_2.length co56)) (ok := (fun k_ => some k_ ≠ (u344001 : Value).ownBlock ∧ some k_ ≠ (.slice Ao53 y358.length co53 : Value).ownBlock)) (by (with_reducible repeat (first | apply Kd.zbf | apply Kd.zbe | apply Kd.zbl)); exact Kd.zbb HO_7.out (fun _ hk => ⟨⟨hk.2.1, hk.2.2⟩, hk.1⟩)) hg (.inl rfl)); have n2_ := za.mk (Kd.zc3 (v := (.slice (some ⟨go34, 0, none⟩) x6_2.length co56)) (v1 := (.slice (some ⟨go34, 0, none⟩) x6_2.length co56)) (ok := (fun k_ => some k_ ≠ (v348 : Value).ownBlock ∧ some k_ ≠ (.slice Ao53 y358.length co53 : Value).ownBlock)) (by (with_reducible repeat (first | apply Kd.zbf | apply Kd.zbe | apply Kd.zbl)); exact Kd.zbb HO_344001.out (fun _ hk => ⟨⟨hk.2.1, hk.2.2⟩, hk.1⟩)) hg (.inl rfl)); have n3_ := za.mk (zbz (g := gb341) (o := .cells #[.slice none 0 0, .slice none 0 0] 29 (0, 0)) (Zq2 BK341.out) hg (Kd.R_ne HO_6.out BK341.out (by decide))); have n4_ := za.mk (zbz (g := gb343) (o := .cells #[.slice Ao53 y358.length co53, u344001] 29 (0, 0)) (Zq2 BK343.out) hg (Kd.R_ne HO_6.out BK343.out (by decide))); have n5_ := za.mk (Kd.zc3 (v := (.slice (some ⟨go34, 0, none⟩) x6_2.length co56)) (v1 := (.slice (some ⟨go34, 0, none⟩) x6_2.length co56)) (ok := (fun k_ => some k_ ≠ (v348 : Value).ownBlock ∧ some k_ ≠ (u344001 : Value).ownBlock)) (by (with_reducible repeat (first | apply Kd.zbf | apply Kd.zbe | apply Kd.zbl)); exact Kd.zbb HO360.out (fun _ hk => ⟨⟨hk.2.1, hk.2.2⟩, hk.1⟩)) hg (.inl rfl)); have n6_ := za.mk ((by rw [hw]; exact zbw (HB.out) GB34.out : Below w.heap.size w w58)); clear HO_6; clear HO_7; clear HO_344001; clear BK341; clear BK343; clear HO360; clear HB; have HO_6 := n0_; have HO_7 := n1_; have HO_344001 := n2_; have BK341 := n3_; have BK343 := n4_; have HO360 := n5_; have HB := n6_; clear n0_ n1_ n2_ n3_ n4_ n5_ n6_; clear hg hw hp_; have p363 : 0 ≤ (x9_24 : Int) := of_decide_eq_true Zas; have q363 : x9_24 < (y362.length : Int) := (by have h_ : (x9_24 : Int) < ((x6_2.length : Int) : Int) := of_decide_eq_true Zas; first | (have e_ := (Kd.zbh HO_6.out).1; omega) | simpa only [Ny362.out, List.length_set] using h_); have ql363 : ((x9_24 : Int) < ((x6_2.length : Int) : Int)) = True := eq_true (of_decide_eq_true Zas); obtain ⟨ad363, e363, hx363_0⟩ := Kd.zcf (Kd.zbh HO_6.out).2.2 x9_24 p363 q363; obtain rfl : (⟨go34, 0, none⟩ : Addr) = ad363 := (by injection e363); (first | simp only [add_plain] at hx363_0 | simp only [add_at] at hx363_0 | simp only [Addr.add, Nat.zero_add] at hx363_0 | skip); replace p363 := eq_true p363; replace q363 := eq_true q363))
               go_roundg kj24
               case measure => have := HK1.out; have := HK2.out; have := HJ24.out; omega
               case rel => exact ⟨(y362), (x7_2), (x9_24), (wrap64 (x10_2 + 1)), (y358), (x344001_2), (.slice Ao53 y358.length co53), (u344001), Zrs, Zrs, H', ⟨by have := HK1.out; have := HK2.out; have := HJ24.out; omega⟩, ⟨by (with_reducible repeat (first | apply Kd.zbf | apply Kd.zbe | apply Kd.zbl)); exact Kd.zbb HO_6.out (fun _ hk => ⟨hk.1, ⟨hk.2.2, hk.2.1⟩⟩)⟩, ⟨by (with_reducible repeat (first | apply Kd.zbf | apply Kd.zbe | apply Kd.zbl)); exact Kd.zbb HO_7.out (fun _ hk => ⟨hk.2, ⟨hk.1.2, hk.1.1⟩⟩)⟩, ⟨by (with_reducible repeat (first | apply Kd.zbf | apply Kd.zbe | apply Kd.zbl)); exact Kd.zbb HO360.out (fun _ hk => ⟨hk.2, ⟨hk.1.1, hk.1.2⟩⟩)⟩, ⟨by (with_reducible repeat (first | apply Kd.zbf | apply Kd.zbe | apply Kd.zbl)); exact Kd.zbb HO_344001.out (fun _ hk => ⟨hk.2, ⟨hk.1.1, hk.1.2⟩⟩)⟩, ⟨Zq2 BK341.out⟩, ⟨Zq2 BK343.out⟩, ⟨Zq9 HB.out GE341.out GE343.out⟩⟩
             ·rw [if_neg c33] at H
              exact absurd H (by simp)
            ·rw [if_neg c32] at H
             exact absurd H (by simp)
           ·rw [if_neg c31] at H
            have c31b0 : decide (0 ≤ x9_24) = false := decide_eq_false c31
            clear c31
            have H' := za.mk H
            clear H
            have hnb59 := NB343_341.out
            have hnc59 := NB341_343.out
            have hcz60_0 : wc.cell? ⟨gb343, 0, none⟩ = some (u344000) := (zg BK343.out 0).trans rfl
            have hcz60_1 : wc.cell? ⟨gb343, 1, none⟩ = some (u344001) := (zg BK343.out 1).trans rfl
            have hfz60_0 := zf BK343.out 0
            have hfz60_1 := zf BK343.out 1
            go_wp2_with (first | ((with_reducible refine zcd (b := .append) (xs := #[.tmp 51, .tmp 53]) rfl ?_); at_builtin; refine Kd.zdc (Kd.int .i64) (w0 := w) w.heap.size rfl (.tmp 51) (.tmp 53) 27 3 (.int .i64 0) 8 rfl Try.underlying27 info3 rfl (by decide) (by omega) u344000 x344000_2 x9_24 [.int .i64 x9_24] (fun k_ => some k_ ≠ (u6 : Value).ownBlock ∧ some k_ ≠ (v348 : Value).ownBlock ∧ some k_ ≠ (u344001 : Value).ownBlock) (fun _ => False) rfl rfl ?aP (fun _ hk => hk.elim) ?aF ?aO ?aB ?aS ?aL ?_; (case aP => exact rfl); (case aB => exact (Zq9 HB.out GE341.out GE343.out)); (case aF => exact (fun k_ hk => ⟨Kd.fresh' (Kd.R_lt (Zq11 HO_6.out)) k_ hk, Kd.fresh' (Kd.R_lt (Zq11 HO_7.out)) k_ hk, Kd.fresh' (Kd.R_lt (Zq11 HO_344001.out)) k_ hk⟩)); (case aO => exact (Zq11 HO_344000.out)); (case aS => exact (zu (Zq9 HB.out GE341.out GE343.out))); (case aL => have := LMc30.out; omega); intro v359 w61 ho hb hg hat; rw [← Ny358.out] at ho; have n0_ := za.mk (Kd.zc3 (ok := (fun k_ => some k_ ≠ (v348 : Value).ownBlock ∧ some k_ ≠ (u344001 : Value).ownBlock)) (by (with_reducible repeat (first | apply Kd.zbf | apply Kd.zbe | apply Kd.zbl)); exact Kd.zbb HO_6.out (fun _ hk => ⟨⟨hk.1, hk.2.2⟩, hk.2.1⟩)) hg hat); have n1_ := za.mk (Kd.zc3 (ok := (fun k_ => some k_ ≠ (u6 : Value).ownBlock ∧ some k_ ≠ (u344001 : Value).ownBlock)) (by (with_reducible repeat (first | apply Kd.zbf | apply Kd.zbe | apply Kd.zbl)); exact Kd.zbb HO_7.out (fun _ hk => ⟨⟨hk.1, hk.2.2⟩, hk.2.1⟩)) hg hat); have n2_ := za.mk (Kd.zc3 (ok := (fun k_ => some k_ ≠ (u6 : Value).ownBlock ∧ some k_ ≠ (v348 : Value).ownBlock)) (by (with_reducible repeat (first | apply Kd.zbf | apply Kd.zbe | apply Kd.zbl)); exact Kd.zbb HO_344001.out (fun _ hk => ⟨⟨hk.1, hk.2.1⟩, hk.2.2⟩)) hg hat); have n3_ := za.mk (zbz (g := gb341) (o := .cells #[.slice none 0 0, .slice none 0 0] 29 (0, 0)) (Zq2 BK341.out) hg (Kd.R_ne HO_344000.out BK341.out (by decide))); have n4_ := za.mk (zbz (g := gb343) (o := .cells #[u344000, u344001] 29 (0, 0)) (Zq2 BK343.out) hg (Kd.R_ne HO_344000.out BK343.out (by decide))); have n5_ := za.mk (hb); have n6_ := za.mk (ho); clear HO_6; clear HO_7; clear HO_344001; clear BK341; clear BK343; clear HB; clear HO_344000; have HO_6 := n0_; have HO_7 := n1_; have HO_344001 := n2_; have BK341 := n3_; have BK343 := n4_; have HB := n5_; have HO360 := n6_; clear n0_ n1_ n2_ n3_ n4_ n5_ n6_; clear ho hb hg hat; obtain ⟨Ao62, co62, eo62⟩ := Kd.zbv HO360.out; subst eo62; have hcz63_0 : w61.cell? ⟨gb343, 0, none⟩ = some (u344000) := (zg BK343.out 0).trans rfl; have hcz63_1 : w61.cell? ⟨gb343, 1, none⟩ = some (u344001) := (zg BK343.out 1).trans rfl; have hfz63_0 := zf BK343.out 0; have hfz63_1 := zf BK343.out 1))
            go_roundg kj24
            case measure => have := HK1.out; have := HK2.out; have := HJ24.out; omega
            case rel => exact ⟨(x6_2), (x7_2), (x9_24), (wrap64 (x10_2 + 1)), (y358), (x344001_2), (.slice Ao62 y358.length co62), (u344001), Zrs, Zrs, H', ⟨by have := HK1.out; have := HK2.out; have := HJ24.out; omega⟩, ⟨by (with_reducible repeat (first | apply Kd.zbf | apply Kd.zbe | apply Kd.zbl)); exact Kd.zbb (Kd.zcs (p := ⟨gb343, 0, none⟩) (Kd.zcp HO_6.out BK343.out (by decide)) (fun _ hk => hk.2) (.slice Ao62 y358.length co62)) (fun _ hk => ⟨hk.1.1.1, ⟨hk.1.2, hk.1.1.2⟩⟩)⟩, ⟨by (with_reducible repeat (first | apply Kd.zbf | apply Kd.zbe | apply Kd.zbl)); exact Kd.zbb (Kd.zcs (p := ⟨gb343, 0, none⟩) (Kd.zcp HO_7.out BK343.out (by decide)) (fun _ hk => hk.2) (.slice Ao62 y358.length co62)) (fun _ hk => ⟨hk.1.1.1, ⟨hk.1.2, hk.1.1.2⟩⟩)⟩, ⟨by (with_reducible repeat (first | apply Kd.zbf | apply Kd.zbe | apply Kd.zbl)); exact Kd.zbb (Kd.zcs (p := ⟨gb343, 0, none⟩) (Kd.zcp HO360.out BK343.out (by decide)) (fun _ hk => hk.2) (.slice Ao62 y358.length co62)) (fun _ hk => ⟨hk.1.1, ⟨hk.1.2.1, hk.1.2.2⟩⟩)⟩, ⟨by (with_reducible repeat (first | apply Kd.zbf | apply Kd.zbe | apply Kd.zbl)); exact Kd.zbb (Kd.zcs (p := ⟨gb343, 0, none⟩) (Kd.zcp HO_344001.out BK343.out (by decide)) (fun _ hk => hk.2) (.slice Ao62 y358.length co62)) (fun _ hk => ⟨hk.1.1.1, ⟨hk.1.1.2, hk.1.2⟩⟩)⟩, ⟨by (with_reducible repeat (first | refine zz ?_ _ | refine z8 ?_ | refine zy ?_ _)); refine zco ?_ NB341_343.out _; (with_reducible repeat (first | refine zz ?_ _ | refine z8 ?_ | refine zy ?_ _)); exact BK341.out⟩, ⟨by (with_reducible repeat (first | refine zz ?_ _ | refine z8 ?_ | refine zy ?_ _)); refine zb2 (cs := #[u344000, u344001]) ?_ 0 _ rfl; (with_reducible repeat (first | refine zz ?_ _ | refine z8 ?_ | refine zy ?_ _)); exact BK343.out⟩, ⟨Zq9 HB.out GE341.out GE343.out⟩⟩
          ·rw [if_neg c30] at H
           exact absurd H (by simp)
       ·rw [if_neg c24] at H
        have c24b0 : decide (x10_2 < 120) = false := decide_eq_false c24
        clear c24
        simp only [Option.some.injEq, Prod.mk.injEq] at H
        obtain ⟨rfl, rfl⟩ := H
        have hnb64 := NB343_341.out
        have hnc64 := NB341_343.out
        have hcz65_0 : wr.cell? ⟨gb343, 0, none⟩ = some (u344000) := (zg BK343.out 0).trans rfl
        have hcz65_1 : wr.cell? ⟨gb343, 1, none⟩ = some (u344001) := (zg BK343.out 1).trans rfl
        have hfz65_0 := zf BK343.out 0
        have hfz65_1 := zf BK343.out 1
        obtain ⟨Ao66, co66, eo66⟩ := Kd.zbv HO_344000.out
        subst eo66
        have hcz67_0 : wr.cell? ⟨gb341, 0, none⟩ = some (.slice none 0 0) := (zg BK341.out 0).trans rfl
        have hcz67_1 : wr.cell? ⟨gb341, 1, none⟩ = some (.slice none 0 0) := (zg BK341.out 1).trans rfl
        have hfz67_0 := zf BK341.out 0
        have hfz67_1 := zf BK341.out 1
        obtain ⟨Ao68, co68, eo68⟩ := Kd.zbv HO_344001.out
        subst eo68
        go_wp2
        refine bodyPost_ret (results_cell_row rfl _ _ gb341 29 #[.slice Ao66 x344000_2.length co66, .slice Ao68 x344001_2.length co68] (0, 0) _ rfl (by (with_reducible repeat (first | refine zz ?_ _ | refine z8 ?_ | refine zy ?_ _)); refine zb2 (cs := #[.slice Ao66 x344000_2.length co66, .slice none 0 0]) ?_ 1 _ rfl; (with_reducible repeat (first | refine zz ?_ _ | refine z8 ?_ | refine zy ?_ _)); refine zb2 (cs := #[.slice none 0 0, .slice none 0 0]) ?_ 0 _ rfl; (with_reducible repeat (first | refine zz ?_ _ | refine z8 ?_ | refine zy ?_ _)); exact BK341.out) Try.underlying29 rfl (by kernel_rfl)) rfl ?_
        exact ⟨_, _, by first | rfl | (simp [zw, zx] <;> rfl) | (simp [*, zw, zx] <;> rfl), by (with_reducible repeat (first | apply Kd.zbf | apply Kd.zbe | apply Kd.zbl)); exact Kd.zbb (Kd.zcs (p := ⟨gb341, 1, none⟩) (Kd.zcs (p := ⟨gb341, 0, none⟩) (Kd.zcp HO_344000.out BK341.out (by decide)) (fun _ hk => hk.2) (.slice Ao66 x344000_2.length co66)) (fun _ hk => hk.2) (.slice Ao68 x344001_2.length co68)) (fun _ hk => hk.1.2.2), by (with_reducible repeat (first | apply Kd.zbf | apply Kd.zbe | apply Kd.zbl)); exact Kd.zbb (Kd.zcs (p := ⟨gb341, 1, none⟩) (Kd.zcs (p := ⟨gb341, 0, none⟩) (Kd.zcp HO_344001.out BK341.out (by decide)) (fun _ hk => hk.2) (.slice Ao66 x344000_2.length co66)) (fun _ hk => hk.2) (.slice Ao68 x344001_2.length co68)) (fun _ hk => hk.1.2.2), Zq9 HB.out GE341.out GE343.out⟩
 ·replace c4 := Bool.eq_false_iff.mpr c4
  subst c4
  have H1 : (some (([] : List Int), ([] : List Int))) = some (r1, r2) := by rw [if_neg (show ¬ (false = true) by decide)] at H; exact H
  clear H
  have H := H1
  clear H1
  simp only [Option.some.injEq, Prod.mk.injEq] at H
  obtain ⟨rfl, rfl⟩ := H
  go_enter Try.func14, Try.ntmps14
  go_wp2_with (first | ((with_reducible refine zbj (N := 4) rfl ?_); refine zbr ?hg (N := 4) ?hd (cs := #[.slice none 0 0, .slice none 0 0]) (t := 29) ?hr ?_; (case hd => rfl); (case hg => rfl); (case hr => first | (go_simp; done) | (go_simp; rfl)); intro gb341 hg w69 hbox hb; have n0_ := za.mk (zo (Zq1 HB.out) hb); have n1_ := za.mk (hbox); have n2_ := za.mk ((by rw [hg]; exact (zu (Zq1 HB.out)) : w.heap.size ≤ gb341)); have n3_ := za.mk ((by rw [hg]; exact (zu (Zq1 HB.out)) : w.heap.size ≤ gb341)); clear HB; have HB := n0_; have BK341 := n1_; have GW341 := n2_; have GE341 := n3_; clear n0_ n1_ n2_ n3_; clear hb hbox hg) | ((with_reducible refine zba (f := 56) rfl ?_); refine zbx (some 13) rfl rfl Try.func56 (by kernel_rfl) rfl #[.slice A0 l0.length c0, .slice A1 l1.length c1] rfl Zmt ?_; (with_reducible refine (zn.calls k _ _ l0 _ _ l1 false _ ?side1 ?side2 ?side3 ?side4 A3.out).mono ?_); (case side1 => exact Zq15 (Kd.zbq HR0.out HB.out)); (case side2 => exact HC0.out); (case side3 => exact Zq15 (Kd.zbq HR1.out HB.out)); (case side4 => exact HC1.out); rintro e w70 ⟨rfl, hb⟩; refine ⟨_, rfl, ?_⟩; have n0_ := za.mk (zbn (g := gb341) (o := .cells #[.slice none 0 0, .slice none 0 0] 29 (0, 0)) (Zq2 BK341.out) hb); have n1_ := za.mk (zo (Zq3 HB.out GE341.out) hb); clear BK341; clear HB; have BK341 := n0_; have HB := n1_; clear n0_ n1_; (try clear hb); (try clear hb2); (try clear hk); (try clear hi); have hcz71_0 : w70.cell? ⟨gb341, 0, none⟩ = some (.slice none 0 0) := (zg BK341.out 0).trans rfl; have hcz71_1 : w70.cell? ⟨gb341, 1, none⟩ = some (.slice none 0 0) := (zg BK341.out 1).trans rfl; have hfz71_0 := zf BK341.out 0; have hfz71_1 := zf BK341.out 1))
  refine bodyPost_ret (results_cell_row rfl _ _ gb341 29 #[.slice none 0 0, .slice none 0 0] (0, 0) _ rfl (by (with_reducible repeat (first | refine zz ?_ _ | refine z8 ?_ | refine zy ?_ _)); refine zb2 (cs := #[.slice none 0 0, .slice none 0 0]) ?_ 1 _ rfl; (with_reducible repeat (first | refine zz ?_ _ | refine z8 ?_ | refine zy ?_ _)); refine zb2 (cs := #[.slice none 0 0, .slice none 0 0]) ?_ 0 _ rfl; (with_reducible repeat (first | refine zz ?_ _ | refine z8 ?_ | refine zy ?_ _)); exact BK341.out) Try.underlying29 rfl (by kernel_rfl)) rfl ?_
  exact ⟨_, _, by first | rfl | (simp [zw, zx] <;> rfl) | (simp [*, zw, zx] <;> rfl), by first | exact Kd.R_nil _ _ _ _ _ | exact Kd.N_nil _ _ _ _ _ | exact Kd.V_nil _ _ _ _ _ | exact Kd.Q_nil _ _ _ _ _ | exact Kd.S_nil _ _ _ _ _, by first | exact Kd.R_nil _ _ _ _ _ | exact Kd.N_nil _ _ _ _ _ | exact Kd.V_nil _ _ _ _ _ | exact Kd.Q_nil _ _ _ _ _ | exact Kd.S_nil _ _ _ _ _, Zq3 HB.out GE341.out⟩
def laws_alive.f  : Option (Bool) := (zcl.f 1 1 1).bind fun t365 => (some t365)
set_option maxHeartbeats 8000000 in
set_option maxRecDepth 100000 in
theorem laws_alive.calls  (r : Bool) (w : World) (h : laws_alive.f  = some r) :
  Calls Try.prog 15 #[] w fun e w' => e = .returned (.bool r) ∧ Below w.heap.size w w' := by
 have hu88 := Try.underlying88
 have HB := za.mk (Below.refl w.heap.size w)
 have H : ((zcl.f 1 1 1).bind fun t365 => (some t365)) = some r := h
 clear h
 replace H := Option.bind_eq_some_iff.mp H
 obtain ⟨t365, A10, H⟩ := H
 replace H : (some t365) = some r := H
 have A1 := za.mk A10
 clear A10
 obtain rfl := Option.some.inj H
 go_enter Try.func15, Try.ntmps15
 go_wp2_with (first | ((with_reducible refine zba (f := 59) rfl ?_); refine zbx (some 2) rfl rfl Try.func59 (by kernel_rfl) rfl #[.agg #[.int .i64 1, .int .i64 1, .int .i64 1]] rfl Zmt ?_; (with_reducible refine (zcl.calls 1 1 1 t365 _ A1.out).mono ?_); rintro e w2 ⟨rfl, hb⟩; refine ⟨_, rfl, ?_⟩; have n0_ := za.mk (zo (Zq1 HB.out) hb); clear HB; have HB := n0_; clear n0_; (try clear hb); (try clear hb2); (try clear hk); (try clear hi)))
 go_ret
 exact ⟨by first | rfl | (simp [zw, zx] <;> rfl) | (simp [*, zw, zx] <;> rfl), Zq1 HB.out⟩
def zdm.f (a0_0 : Int) (a0_1 : Int) (a0_2 : Int) : Option (Bool) := some (a0_1 != a0_2)
set_option maxHeartbeats 8000000 in
set_option maxRecDepth 100000 in
theorem zdm.calls (a0_0 : Int) (a0_1 : Int) (a0_2 : Int) (r : Bool) (w : World) (h : zdm.f a0_0 a0_1 a0_2 = some r) :
  Calls Try.prog 105 #[.agg #[.int .i64 a0_0, .int .i64 a0_1, .int .i64 a0_2]] w fun e w' => e = .returned (.bool r) ∧ Below w.heap.size w w' := by
 have hu88 := Try.underlying88
 have HB := za.mk (Below.refl w.heap.size w)
 have H : (some (a0_1 != a0_2)) = some r := h
 clear h
 obtain rfl := Option.some.inj H
 go_enter Try.func105, Try.ntmps105
 go_wp2_with (first | ((with_reducible refine zbj (N := 1) rfl ?_); refine zbr ?hg (N := 1) ?hd (cs := #[.int .i64 a0_0, .int .i64 a0_1, .int .i64 a0_2]) (t := 88) ?hr ?_; (case hd => rfl); (case hg => rfl); (case hr => first | (go_simp; done) | (go_simp; rfl)); intro gb558 hg w2 hbox hb; have n0_ := za.mk (zo (Zq1 HB.out) hb); have n1_ := za.mk (hbox); have n2_ := za.mk ((by rw [hg]; exact (zu (Zq1 HB.out)) : w.heap.size ≤ gb558)); have n3_ := za.mk ((by rw [hg]; exact (zu (Zq1 HB.out)) : w.heap.size ≤ gb558)); clear HB; have HB := n0_; have BK558 := n1_; have GW558 := n2_; have GE558 := n3_; clear n0_ n1_ n2_ n3_; clear hb hbox hg; have hcz3_0 : w2.cell? ⟨gb558, 0, none⟩ = some (.int .i64 a0_0) := (zg BK558.out 0).trans rfl; have hcz3_1 : w2.cell? ⟨gb558, 1, none⟩ = some (.int .i64 a0_1) := (zg BK558.out 1).trans rfl; have hcz3_2 : w2.cell? ⟨gb558, 2, none⟩ = some (.int .i64 a0_2) := (zg BK558.out 2).trans rfl; have hfz3_0 := zf BK558.out 0; have hfz3_1 := zf BK558.out 1; have hfz3_2 := zf BK558.out 2))
 go_ret
 exact ⟨by first | rfl | (simp [zw, zx] <;> rfl) | (simp [*, zw, zx] <;> rfl), Zq3 HB.out GE558.out⟩
def zc7.bad (x : S88) : Bool := x.f1 != x.f2
theorem zc7.is (x : S88) : zdm.f x.f0 x.f1 x.f2 = some (zc7.bad x) := by
  unfold zdm.f zc7.bad
  rfl
def zc7.f (l0 : List S88) : Option Bool := some (l0.any zc7.bad)
theorem zc7.calls (A0 : Option Addr) (c0 : Nat) (l0 : List S88) (r : Bool) (w : World) (hr0 : Kd.C k88 w A0 l0.length l0) (hc0 : l0.length ≤ c0) (h : zc7.f l0 = some r) :
    Calls Try.prog 104 #[.slice A0 l0.length c0, .func (.func 105) #[] #[]] w fun e w' => e = .returned (.bool r) ∧ Below w.heap.size w w' := by
  obtain rfl := Option.some.inj h
  exact anyTask_calls zc7.bad 105 #[] (enters_of Try.func105 (by kernel_rfl) rfl) A0 c0 l0 w (fun W' x _ => (zdm.calls x.f0 x.f1 x.f2 _ W' (zc7.is x)).mono fun e w' hh => ⟨hh.1, hh.2⟩) hr0
def zcm.f (l0 : List (S88)) : Option (Bool) := (zce.f l0).bind fun t559 => (if t559 = true then ((zc7.f l0).bind fun t560 => (some (!t560))) else (some false))
set_option maxHeartbeats 8000000 in
set_option maxRecDepth 100000 in
theorem zcm.calls (A0 : Option Addr) (c0 : Nat) (l0 : List (S88)) (r : Bool) (w : World) (hr0 : Kd.C k88 w A0 l0.length l0) (hc0 : l0.length ≤ c0) (h : zcm.f l0 = some r) :
  Calls Try.prog 64 #[.slice A0 l0.length c0] w fun e w' => e = .returned (.bool r) ∧ Below w.heap.size w w' := by
 have HR0 := za.mk hr0
 have HC0 := za.mk hc0
 clear hr0 hc0
 have HB := za.mk (Below.refl w.heap.size w)
 have H : ((zce.f l0).bind fun t559 => (if t559 = true then ((zc7.f l0).bind fun t560 => (some (!t560))) else (some false))) = some r := h
 clear h
 replace H := Option.bind_eq_some_iff.mp H
 obtain ⟨t559, A20, H⟩ := H
 replace H : (if t559 = true then ((zc7.f l0).bind fun t560 => (some (!t560))) else (some false)) = some r := H
 have A2 := za.mk A20
 clear A20
 by_cases c3 : t559 = true
 ·subst c3
  have H1 : ((zc7.f l0).bind fun t560 => (some (!t560))) = some r := by rw [if_pos rfl] at H; exact H
  clear H
  have H := H1
  clear H1
  replace H := Option.bind_eq_some_iff.mp H
  obtain ⟨t560, A40, H⟩ := H
  replace H : (some (!t560)) = some r := H
  have A4 := za.mk A40
  clear A40
  obtain rfl := Option.some.inj H
  go_enter Try.func64, Try.ntmps64
  go_wp2_with (first | ((with_reducible refine zba (f := 76) rfl ?_); refine zbx (some 4) rfl rfl Try.func76 (by kernel_rfl) rfl #[.slice A0 l0.length c0] rfl Zmt ?_; (with_reducible refine (zce.calls _ _ l0 true _ ?side1 ?side2 A2.out).mono ?_); (case side1 => exact Zq15 HR0.out); (case side2 => exact HC0.out); rintro e w5 ⟨rfl, hb⟩; refine ⟨_, rfl, ?_⟩; have n0_ := za.mk (zo (Zq1 HB.out) hb); clear HB; have HB := n0_; clear n0_; (try clear hb); (try clear hb2); (try clear hk); (try clear hi)) | (go_at_call 104; (with_reducible refine (zc7.calls _ _ l0  t560 _ ?side1 ?side2 A4.out).mono ?_); (case side1 => exact Zq15 (Kd.zbq HR0.out HB.out)); (case side2 => exact HC0.out); rintro e w6 ⟨rfl, hb⟩; have n0_ := za.mk (zo (Zq1 HB.out) hb); clear HB; have HB := n0_; clear n0_; (try clear hb); (try clear hb2); (try clear hk); (try clear hi)))
  go_ret
  exact ⟨by first | rfl | (simp [zw, zx] <;> rfl) | (simp [*, zw, zx] <;> rfl), Zq1 HB.out⟩
 ·replace c3 := Bool.eq_false_iff.mpr c3
  subst c3
  have H1 : (some false) = some r := by rw [if_neg (show ¬ (false = true) by decide)] at H; exact H
  clear H
  have H := H1
  clear H1
  obtain rfl := Option.some.inj H
  go_enter Try.func64, Try.ntmps64
  go_wp2_with (first | ((with_reducible refine zba (f := 76) rfl ?_); refine zbx (some 4) rfl rfl Try.func76 (by kernel_rfl) rfl #[.slice A0 l0.length c0] rfl Zmt ?_; (with_reducible refine (zce.calls _ _ l0 false _ ?side1 ?side2 A2.out).mono ?_); (case side1 => exact Zq15 HR0.out); (case side2 => exact HC0.out); rintro e w7 ⟨rfl, hb⟩; refine ⟨_, rfl, ?_⟩; have n0_ := za.mk (zo (Zq1 HB.out) hb); clear HB; have HB := n0_; clear n0_; (try clear hb); (try clear hb2); (try clear hk); (try clear hi)))
  go_ret
  exact ⟨by first | rfl | (simp [zw, zx] <;> rfl) | (simp [*, zw, zx] <;> rfl), Zq1 HB.out⟩
def zc8.l0 : Nat → Int → Int → Option (Int)
 | 0, _, _ => none
 | k + 1, x0, x1 => if x1 = 0 then (some x0) else (zc8.l0 k x1 (Int.tmod x0 x1))
def zc8.f (k : Nat) (a0 : Int) (a1 : Int) : Option (Int) := zc8.l0 k a0 a1
set_option maxHeartbeats 8000000 in
set_option maxRecDepth 100000 in
theorem zc8.calls (k : Nat) (a0 : Int) (a1 : Int) (r : Int) (w : World) (h : zc8.f k a0 a1 = some r) :
  Calls Try.prog 110 #[.int .i64 a0, .int .i64 a1] w fun e w' => e = .returned (.int .i64 r) ∧ zby w w' := by
 have H : (zc8.l0 k a0 a1) = some r := h
 clear h
 have H' := za.mk H
 clear H
 go_enter Try.func110, Try.ntmps110
 go_wp2
 repeat (go_quiet (fail); try go_wp2)
 go_loopg [0, 1] k (fun kq v0 v1 w' => ∃ (x0_1 : Int) (x1_1 : Int), v0 = .int .i64 x0_1 ∧ v1 = .int .i64 x1_1 ∧ za (zc8.l0 kq x0_1 x1_1 = some r) ∧ za (kq ≤ k) ∧ zby w w')
 case atStart => exact ⟨(a0), (a1), Zrs, Zrs, H', ⟨Nat.le_refl _⟩, by repeat (first | exact zby.refl _ | apply zby.step)⟩
 case round =>
  clear H'
  try clear c1
  try clear p2
  obtain ⟨x0_1, x1_1, rfl, rfl, HA, HK1, ⟨m1, rfl⟩⟩ := hrel
  cases gk with
  | zero => exact absurd HA.out (by simp [zc8.l0])
  | succ k1 =>
   have H := HA.out
   clear HA
   simp only [zc8.l0] at H
   by_cases c3 : x1_1 = 0
   ·rw [if_pos c3] at H
    have c3b0 : (x1_1 == 0) = true := beq_iff_eq.mpr c3
    have c3b1 : (x1_1 != 0) = false := bne_eq_false_iff_eq.mpr c3
    clear c3
    obtain rfl := Option.some.inj H
    go_wp2
    repeat (go_quiet (fail); try go_wp2)
    go_ret
    exact ⟨by first | rfl | (simp; done) | (simp [*]; done), by repeat (first | exact zby.refl _ | apply zby.step)⟩
   ·rw [if_neg c3] at H
    have c3b0 : (x1_1 == 0) = false := beq_eq_false_iff_ne.mpr c3
    have c3b1 : (x1_1 != 0) = true := bne_iff_ne.mpr c3
    have H' := za.mk H
    clear H
    go_wp2
    repeat (go_quiet (fail); try go_wp2)
    go_roundg k1
    case measure => have := HK1.out; omega
    case rel => exact ⟨(x1_1), (Int.tmod x0_1 x1_1), Zrs, Zrs, H', ⟨by have := HK1.out; omega⟩, by repeat (first | exact zby.refl _ | apply zby.step)⟩
def impl_lcm.f (k : Nat) (a0 : Int) (a1 : Int) : Option (Int) := (zc8.f k a0 a1).bind fun t561 => (if t561 = 0 then (none) else (some (wrap64 ((wrap64 (Int.tdiv a0 t561)) * a1))))
set_option maxHeartbeats 8000000 in
set_option maxRecDepth 100000 in
theorem impl_lcm.calls (k : Nat) (a0 : Int) (a1 : Int) (r : Int) (w : World) (h : impl_lcm.f k a0 a1 = some r) :
  Calls Try.prog 78 #[.int .i64 a0, .int .i64 a1] w fun e w' => e = .returned (.int .i64 r) ∧ zby w w' := by
 have H : ((zc8.f k a0 a1).bind fun t561 => (if t561 = 0 then (none) else (some (wrap64 ((wrap64 (Int.tdiv a0 t561)) * a1))))) = some r := h
 clear h
 replace H := Option.bind_eq_some_iff.mp H
 obtain ⟨t561, A30, H⟩ := H
 replace H : (if t561 = 0 then (none) else (some (wrap64 ((wrap64 (Int.tdiv a0 t561)) * a1)))) = some r := H
 have A3 := za.mk A30
 clear A30
 by_cases c4 : t561 = 0
 ·rw [if_pos c4] at H
  exact absurd H (by simp)
 ·rw [if_neg c4] at H
  have c4b0 : (t561 == 0) = false := beq_eq_false_iff_ne.mpr c4
  have c4b1 : (t561 != 0) = true := bne_iff_ne.mpr c4
  obtain rfl := Option.some.inj H
  go_enter Try.func78, Try.ntmps78
  go_wp2_with (first | ((with_reducible refine zba (f := 110) rfl ?_); refine zbx (some 8) rfl rfl Try.func110 (by kernel_rfl) rfl #[.int .i64 a0, .int .i64 a1] rfl Zmt ?_; (with_reducible refine (zc8.calls k a0 a1 t561 _ A3.out).mono ?_); rintro e w' ⟨rfl, ⟨nd, rfl⟩⟩; refine ⟨_, rfl, ?_⟩))
  go_ret
  exact ⟨by first | rfl | (simp; done) | (simp [*]; done), by repeat (first | exact zby.refl _ | apply zby.step)⟩
def zb1.l0 : Nat → Int → List (S88) → Int → Int → Option (Int)
 | 0, _, _, _, _ => none
 | k + 1, x3, x6, x7, x8 => if x8 < x7 then (if 0 ≤ x8 then (if x8 < (x6.length : Int) then ((impl_lcm.f k x3 ((zl x6 x8).f2)).bind fun t564 => (zb1.l0 k t564 x6 x7 (wrap64 (x8 + 1)))) else (none)) else (none)) else (some x3)
def zb1.f (k : Nat) (l0 : List (S88)) : Option (Int) := zb1.l0 k 1 l0 (l0.length : Int) 0
set_option maxHeartbeats 8000000 in
set_option maxRecDepth 100000 in
theorem zb1.calls (k : Nat) (A0 : Option Addr) (c0 : Nat) (l0 : List (S88)) (r : Int) (w : World) (hr0 : Kd.C k88 w A0 l0.length l0) (hc0 : l0.length ≤ c0) (h : zb1.f k l0 = some r) :
  Calls Try.prog 66 #[.slice A0 l0.length c0] w fun e w' => e = .returned (.int .i64 r) ∧ Below w.heap.size w w' := by
 have hu88 := Try.underlying88
 have HR0 := za.mk hr0
 have HC0 := za.mk hc0
 clear hr0 hc0
 have HB := za.mk (Below.refl w.heap.size w)
 have H : (zb1.l0 k 1 l0 (l0.length : Int) 0) = some r := h
 clear h
 have H' := za.mk H
 clear H
 go_enter Try.func66, Try.ntmps66
 go_wp2
 go_loopg [3, 8] k (fun kq v3 v8 w' => ∃ (x3_1 : Int) (x8_1 : Int), v3 = .int .i64 x3_1 ∧ v8 = .int .i64 x8_1 ∧ za (zb1.l0 kq x3_1 l0 (l0.length : Int) x8_1 = some r) ∧ za (kq ≤ k) ∧ za (Below w.heap.size w w'))
 case atStart => exact ⟨(1), (0), Zrs, Zrs, H', ⟨Nat.le_refl _⟩, ⟨Zq1 HB.out⟩⟩
 case round =>
  clear H'
  obtain ⟨x3_1, x8_1, rfl, rfl, HA, HK1, HB⟩ := hrel
  cases gk with
  | zero => exact absurd HA.out (by simp [zb1.l0])
  | succ k1 =>
   have H := HA.out
   clear HA
   simp only [zb1.l0] at H
   by_cases c2 : x8_1 < (l0.length : Int)
   ·rw [if_pos c2] at H
    have c2b0 : decide (x8_1 < (l0.length : Int)) = true := decide_eq_true c2
    clear c2
    by_cases c3 : 0 ≤ x8_1
    ·rw [if_pos c3] at H
     have c3b0 : decide (0 ≤ x8_1) = true := decide_eq_true c3
     clear c3
     by_cases c4 : x8_1 < (l0.length : Int)
     ·rw [if_pos c4] at H
      have c4b0 : decide (x8_1 < (l0.length : Int)) = true := decide_eq_true c4
      clear c4
      replace H := Option.bind_eq_some_iff.mp H
      obtain ⟨t564, A50, H⟩ := H
      replace H : (zb1.l0 k1 t564 l0 (l0.length : Int) (wrap64 (x8_1 + 1))) = some r := H
      have A5 := za.mk A50
      clear A50
      have H' := za.mk H
      clear H
      have p562 : 0 ≤ (x8_1 : Int) := of_decide_eq_true Zas
      have q562 : x8_1 < (l0.length : Int) := of_decide_eq_true Zas
      obtain ⟨ad562, e562, hx562_0, hx562_1, hx562_2⟩ := zds HR0.out x8_1 p562 q562
      cases e562
      replace hx562_0 := (HB.out.cell (World.block_lt_of_cell? w _ hx562_0)).trans hx562_0
      replace hx562_1 := (HB.out.cell (World.block_lt_of_cell? w _ hx562_1)).trans hx562_1
      replace hx562_2 := (HB.out.cell (World.block_lt_of_cell? w _ hx562_2)).trans hx562_2
      replace p562 := eq_true p562
      replace q562 := eq_true q562
      go_wp2_with (first | ((with_reducible refine zbj (N := 5) rfl ?_); refine zbr ?hg (N := 5) ?hd (cs := #[.int .i64 0, .int .i64 0, .int .i64 0]) (t := 88) ?hr ?_; (case hd => rfl); (case hg => rfl); (case hr => first | (go_simp; done) | (go_simp; rfl)); intro gb563 hg w6 hbox hb; have n0_ := za.mk (zo (Zq1 HB.out) hb); have n1_ := za.mk (hbox); have n2_ := za.mk ((by rw [hg]; exact (zu (Zq1 HB.out)) : w.heap.size ≤ gb563)); have n3_ := za.mk ((by rw [hg]; exact (zu (Zq1 HB.out)) : w.heap.size ≤ gb563)); clear HB; have HB := n0_; have BK563 := n1_; have GW563 := n2_; have GE563 := n3_; clear n0_ n1_ n2_ n3_; clear hb hbox hg; have hcz7_0 : w6.cell? ⟨gb563, 0, none⟩ = some (.int .i64 0) := (zg BK563.out 0).trans rfl; have hcz7_1 : w6.cell? ⟨gb563, 1, none⟩ = some (.int .i64 0) := (zg BK563.out 1).trans rfl; have hcz7_2 : w6.cell? ⟨gb563, 2, none⟩ = some (.int .i64 0) := (zg BK563.out 2).trans rfl; have hfz7_0 := zf BK563.out 0; have hfz7_1 := zf BK563.out 1; have hfz7_2 := zf BK563.out 2) | ((with_reducible refine zba (f := 78) rfl ?_); refine zbx (some 15) rfl rfl Try.func78 (by kernel_rfl) rfl #[.int .i64 x3_1, .int .i64 ((zl l0 x8_1).f2)] rfl Zmt ?_; (with_reducible refine (impl_lcm.calls k1 x3_1 ((zl l0 x8_1).f2) t564 _ A5.out).mono ?_); rintro e w' ⟨rfl, ⟨nd, rfl⟩⟩; refine ⟨_, rfl, ?_⟩))
      go_roundg k1
      case measure => have := HK1.out; omega
      case rel => exact ⟨(t564), (wrap64 (x8_1 + 1)), Zrs, Zrs, H', ⟨by have := HK1.out; omega⟩, ⟨Zq3 HB.out GE563.out⟩⟩
     ·rw [if_neg c4] at H
      exact absurd H (by simp)
    ·rw [if_neg c3] at H
     exact absurd H (by simp)
   ·rw [if_neg c2] at H
    have c2b0 : decide (x8_1 < (l0.length : Int)) = false := decide_eq_false c2
    clear c2
    obtain rfl := Option.some.inj H
    go_wp2
    go_ret
    exact ⟨by first | rfl | (simp [zw, zx] <;> rfl) | (simp [*, zw, zx] <;> rfl), Zq1 HB.out⟩
def zci.l0 : Nat → Int → Int → List (S88) → Int → Int → Option (Int)
 | 0, _, _, _, _, _ => none
 | k + 1, x3, x4, x9, x10, x11 => if x11 < x10 then (if 0 ≤ x11 then (if x11 < (x9.length : Int) then (if ((zl x9 x11).f2) = 0 then (none) else (zci.l0 k x3 (wrap64 (x4 + (wrap64 ((wrap64 (Int.tdiv x3 ((zl x9 x11).f2))) * ((zl x9 x11).f0))))) x9 x10 (wrap64 (x11 + 1)))) else (none)) else (none)) else (some x4)
def zci.f (k : Nat) (l0 : List (S88)) : Option (Int) := (zb1.f k l0).bind fun t565 => (zci.l0 k t565 0 l0 (l0.length : Int) 0)
set_option maxHeartbeats 8000000 in
set_option maxRecDepth 100000 in
theorem zci.calls (k : Nat) (A0 : Option Addr) (c0 : Nat) (l0 : List (S88)) (r : Int) (w : World) (hr0 : Kd.C k88 w A0 l0.length l0) (hc0 : l0.length ≤ c0) (h : zci.f k l0 = some r) :
  Calls Try.prog 65 #[.slice A0 l0.length c0] w fun e w' => e = .returned (.int .i64 r) ∧ Below w.heap.size w w' := by
 have hu88 := Try.underlying88
 have HR0 := za.mk hr0
 have HC0 := za.mk hc0
 clear hr0 hc0
 have HB := za.mk (Below.refl w.heap.size w)
 have H : ((zb1.f k l0).bind fun t565 => (zci.l0 k t565 0 l0 (l0.length : Int) 0)) = some r := h
 clear h
 replace H := Option.bind_eq_some_iff.mp H
 obtain ⟨t565, A20, H⟩ := H
 replace H : (zci.l0 k t565 0 l0 (l0.length : Int) 0) = some r := H
 have A2 := za.mk A20
 clear A20
 have H' := za.mk H
 clear H
 go_enter Try.func65, Try.ntmps65
 go_wp2_with (first | (go_at_call 66; (with_reducible refine (zb1.calls k _ _ l0 t565 _ ?side1 ?side2 A2.out).mono ?_); (case side1 => exact Zq15 HR0.out); (case side2 => exact HC0.out); rintro e w3 ⟨rfl, hb⟩; have n0_ := za.mk (zo (Zq1 HB.out) hb); clear HB; have HB := n0_; clear n0_; (try clear hb); (try clear hb2); (try clear hk); (try clear hi)))
 repeat (go_quiet (first | (go_at_call 66; (with_reducible refine (zb1.calls k _ _ l0 t565 _ ?side1 ?side2 A2.out).mono ?_); (case side1 => exact Zq15 HR0.out); (case side2 => exact HC0.out); rintro e w3 ⟨rfl, hb⟩; have n0_ := za.mk (zo (Zq1 HB.out) hb); clear HB; have HB := n0_; clear n0_; (try clear hb); (try clear hb2); (try clear hk); (try clear hi))); try go_wp2_with (first | (go_at_call 66; (with_reducible refine (zb1.calls k _ _ l0 t565 _ ?side1 ?side2 A2.out).mono ?_); (case side1 => exact Zq15 HR0.out); (case side2 => exact HC0.out); rintro e w3 ⟨rfl, hb⟩; have n0_ := za.mk (zo (Zq1 HB.out) hb); clear HB; have HB := n0_; clear n0_; (try clear hb); (try clear hb2); (try clear hk); (try clear hi))))
 go_loopg [4, 11] k (fun kq v4 v11 w' => ∃ (x4_1 : Int) (x11_1 : Int), v4 = .int .i64 x4_1 ∧ v11 = .int .i64 x11_1 ∧ za (zci.l0 kq t565 x4_1 l0 (l0.length : Int) x11_1 = some r) ∧ za (kq ≤ k) ∧ za (Below w.heap.size w w'))
 case atStart => exact ⟨(0), (0), Zrs, Zrs, H', ⟨Nat.le_refl _⟩, ⟨Zq1 HB.out⟩⟩
 case round =>
  clear H'
  try clear p2
  obtain ⟨x4_1, x11_1, rfl, rfl, HA, HK1, HB⟩ := hrel
  cases gk with
  | zero => exact absurd HA.out (by simp [zci.l0])
  | succ k1 =>
   have H := HA.out
   clear HA
   simp only [zci.l0] at H
   by_cases c4 : x11_1 < (l0.length : Int)
   ·rw [if_pos c4] at H
    have c4b0 : decide (x11_1 < (l0.length : Int)) = true := decide_eq_true c4
    clear c4
    by_cases c5 : 0 ≤ x11_1
    ·rw [if_pos c5] at H
     have c5b0 : decide (0 ≤ x11_1) = true := decide_eq_true c5
     clear c5
     by_cases c6 : x11_1 < (l0.length : Int)
     ·rw [if_pos c6] at H
      have c6b0 : decide (x11_1 < (l0.length : Int)) = true := decide_eq_true c6
      clear c6
      by_cases c7 : ((zl l0 x11_1).f2) = 0
      ·rw [if_pos c7] at H
       exact absurd H (by simp)
      ·rw [if_neg c7] at H
       have c7b0 : (((zl l0 x11_1).f2) == 0) = false := beq_eq_false_iff_ne.mpr c7
       have c7b1 : (((zl l0 x11_1).f2) != 0) = true := bne_iff_ne.mpr c7
       have H' := za.mk H
       clear H
       have p566 : 0 ≤ (x11_1 : Int) := of_decide_eq_true Zas
       have q566 : x11_1 < (l0.length : Int) := of_decide_eq_true Zas
       obtain ⟨ad566, e566, hx566_0, hx566_1, hx566_2⟩ := zds HR0.out x11_1 p566 q566
       cases e566
       replace hx566_0 := (HB.out.cell (World.block_lt_of_cell? w _ hx566_0)).trans hx566_0
       replace hx566_1 := (HB.out.cell (World.block_lt_of_cell? w _ hx566_1)).trans hx566_1
       replace hx566_2 := (HB.out.cell (World.block_lt_of_cell? w _ hx566_2)).trans hx566_2
       replace p566 := eq_true p566
       replace q566 := eq_true q566
       go_wp2_with (first | ((with_reducible refine zbj (N := 6) rfl ?_); refine zbr ?hg (N := 6) ?hd (cs := #[.int .i64 0, .int .i64 0, .int .i64 0]) (t := 88) ?hr ?_; (case hd => rfl); (case hg => rfl); (case hr => first | (go_simp; done) | (go_simp; rfl)); intro gb567 hg w8 hbox hb; have n0_ := za.mk (zo (Zq1 HB.out) hb); have n1_ := za.mk (hbox); have n2_ := za.mk ((by rw [hg]; exact (zu (Zq1 HB.out)) : w.heap.size ≤ gb567)); have n3_ := za.mk ((by rw [hg]; exact (zu (Zq1 HB.out)) : w.heap.size ≤ gb567)); clear HB; have HB := n0_; have BK567 := n1_; have GW567 := n2_; have GE567 := n3_; clear n0_ n1_ n2_ n3_; clear hb hbox hg; have hcz9_0 : w8.cell? ⟨gb567, 0, none⟩ = some (.int .i64 0) := (zg BK567.out 0).trans rfl; have hcz9_1 : w8.cell? ⟨gb567, 1, none⟩ = some (.int .i64 0) := (zg BK567.out 1).trans rfl; have hcz9_2 : w8.cell? ⟨gb567, 2, none⟩ = some (.int .i64 0) := (zg BK567.out 2).trans rfl; have hfz9_0 := zf BK567.out 0; have hfz9_1 := zf BK567.out 1; have hfz9_2 := zf BK567.out 2))
       repeat (go_quiet (first | ((with_reducible refine zbj (N := 6) rfl ?_); refine zbr ?hg (N := 6) ?hd (cs := #[.int .i64 0, .int .i64 0, .int .i64 0]) (t := 88) ?hr ?_; (case hd => rfl); (case hg => rfl); (case hr => first | (go_simp; done) | (go_simp; rfl)); intro gb567 hg w8 hbox hb; have n0_ := za.mk (zo (Zq1 HB.out) hb); have n1_ := za.mk (hbox); have n2_ := za.mk ((by rw [hg]; exact (zu (Zq1 HB.out)) : w.heap.size ≤ gb567)); have n3_ := za.mk ((by rw [hg]; exact (zu (Zq1 HB.out)) : w.heap.size ≤ gb567)); clear HB; have HB := n0_; have BK567 := n1_; have GW567 := n2_; have GE567 := n3_; clear n0_ n1_ n2_ n3_; clear hb hbox hg; have hcz9_0 : w8.cell? ⟨gb567, 0, none⟩ = some (.int .i64 0) := (zg BK567.out 0).trans rfl; have hcz9_1 : w8.cell? ⟨gb567, 1, none⟩ = some (.int .i64 0) := (zg BK567.out 1).trans rfl; have hcz9_2 : w8.cell? ⟨gb567, 2, none⟩ = some (.int .i64 0) := (zg BK567.out 2).trans rfl; have hfz9_0 := zf BK567.out 0; have hfz9_1 := zf BK567.out 1; have hfz9_2 := zf BK567.out 2)); try go_wp2_with (first | ((with_reducible refine zbj (N := 6) rfl ?_); refine zbr ?hg (N := 6) ?hd (cs := #[.int .i64 0, .int .i64 0, .int .i64 0]) (t := 88) ?hr ?_; (case hd => rfl); (case hg => rfl); (case hr => first | (go_simp; done) | (go_simp; rfl)); intro gb567 hg w8 hbox hb; have n0_ := za.mk (zo (Zq1 HB.out) hb); have n1_ := za.mk (hbox); have n2_ := za.mk ((by rw [hg]; exact (zu (Zq1 HB.out)) : w.heap.size ≤ gb567)); have n3_ := za.mk ((by rw [hg]; exact (zu (Zq1 HB.out)) : w.heap.size ≤ gb567)); clear HB; have HB := n0_; have BK567 := n1_; have GW567 := n2_; have GE567 := n3_; clear n0_ n1_ n2_ n3_; clear hb hbox hg; have hcz9_0 : w8.cell? ⟨gb567, 0, none⟩ = some (.int .i64 0) := (zg BK567.out 0).trans rfl; have hcz9_1 : w8.cell? ⟨gb567, 1, none⟩ = some (.int .i64 0) := (zg BK567.out 1).trans rfl; have hcz9_2 : w8.cell? ⟨gb567, 2, none⟩ = some (.int .i64 0) := (zg BK567.out 2).trans rfl; have hfz9_0 := zf BK567.out 0; have hfz9_1 := zf BK567.out 1; have hfz9_2 := zf BK567.out 2)))
       go_roundg k1
       case measure => have := HK1.out; omega
       case rel => exact ⟨(wrap64 (x4_1 + (wrap64 ((wrap64 (Int.tdiv t565 ((zl l0 x11_1).f2))) * ((zl l0 x11_1).f0))))), (wrap64 (x11_1 + 1)), Zrs, Zrs, H', ⟨by have := HK1.out; omega⟩, ⟨Zq3 HB.out GE567.out⟩⟩
     ·rw [if_neg c6] at H
      exact absurd H (by simp)
    ·rw [if_neg c5] at H
     exact absurd H (by simp)
   ·rw [if_neg c4] at H
    have c4b0 : decide (x11_1 < (l0.length : Int)) = false := decide_eq_false c4
    clear c4
    obtain rfl := Option.some.inj H
    go_wp2
    repeat (go_quiet (fail); try go_wp2)
    go_ret
    exact ⟨by first | rfl | (simp [zw, zx] <;> rfl) | (simp [*, zw, zx] <;> rfl), Zq1 HB.out⟩
end Go.Proofs.Ytkdfjomhichkoaa.P
