/- The law FnRunNonPreemptive for every input, part 5 of its proof: what the program's functions answer, and the plain law. No condition. -/
import Derived.Test.YtkdfjomhichkoaaMFnRunNonPreemptive1
import Derived.Test.YtkdfjomhichkoaaMFnRunNonPreemptive3
import Derived.Test.YtkdfjomhichkoaaMFnRunNonPreemptive4
import Derived.Maps.OwnSet
import Derived.Maps.OwnOps
import Derived.Carry
-- Laid by a program of this work.
namespace Go.Proofs.Ytkdfjomhichkoaa.P
open Go.RowKit Go.Proofs.YtkdfjomhichkoaaW.PrintWords Go.Proofs.YtkdfjomhichkoaaW.PrintLast Go.Proofs.YtkdfjomhichkoaaW.PrintMore
attribute [local go_sem] max2_int min2_int max_two min_two max_three min_three max_four min_four   -- for this text's walks alone
set_option linter.unusedVariables false
set_option linter.unusedSimpArgs false

-- by hand
/-! A simulation, by hand: newMachine, simulate, whatever picks. -/
def stepD (js : List JobT) (now : Int) (p : List Int × List Int) (i : Int) : List Int × List Int :=
  if i < 0 then p else (p.1.set i.toNat (wrap64 (rd p.1 i + 1)), if wrap64 (rd p.1 i + 1) = (jrd js i.toNat).f3 then p.2.set i.toNat (now + 1) else p.2)
def simT (pk : List Int → Int → Int) (js : List JobT) : Nat → List Int × List Int
  | 0 => (List.replicate js.length 0, List.replicate js.length (-1))
  | t + 1 => stepD js (t : Int) (simT pk js t) (pk (simT pk js t).1 (t : Int))
def runT (pk : List Int → Int → Int) (js : List JobT) (t : Nat) : Int := pk (simT pk js t).1 (t : Int)
def runRow (pk : List Int → Int → Int) (js : List JobT) (t : Nat) : List Int := (List.range t).map (runT pk js) ++ List.replicate (120 - t) (-1)
/-- What a simulation answers: what runs in each tick, and when the jobs finish. -/
def simR (pk : List Int → Int → Int) (js : List JobT) : List Int × List Int := ((List.range 120).map (runT pk js), (simT pk js 120).2)
theorem stepD_len (js : List JobT) (now : Int) (p : List Int × List Int) (i : Int) : (stepD js now p i).1.length = p.1.length ∧ (stepD js now p i).2.length = p.2.length := by
  unfold stepD
  split
  · exact ⟨rfl, rfl⟩
  · refine ⟨by simp, ?_⟩
    simp only
    split <;> simp
theorem simT_len (pk : List Int → Int → Int) (js : List JobT) : ∀ t, (simT pk js t).1.length = js.length ∧ (simT pk js t).2.length = js.length
  | 0 => by simp [simT]
  | t + 1 => by
    have h1 := stepD_len js (t : Int) (simT pk js t) (pk (simT pk js t).1 (t : Int))
    have h2 := simT_len pk js t
    rw [simT]; omega
theorem runRow_len (pk : List Int → Int → Int) (js : List JobT) (t : Nat) (h : t ≤ 120) : (runRow pk js t).length = 120 := by simp [runRow]; omega
theorem runRow_set (pk : List Int → Int → Int) (js : List JobT) (t : Nat) (h : t < 120) : (runRow pk js t).set t (runT pk js t) = runRow pk js (t + 1) := by
  unfold runRow
  rw [List.set_append_right _ _ (by simp), List.length_map, List.length_range, Nat.sub_self, show 120 - t = (120 - (t + 1)) + 1 by omega, List.replicate_succ, List.set_cons_zero, List.range_succ, List.map_append, List.append_assoc]
  rfl
theorem simT_idle {pk : List Int → Int → Int} {js : List JobT} {t : Nat} (h : pk (simT pk js t).1 (t : Int) = -1) : simT pk js (t + 1) = simT pk js t := by
  rw [simT, h]
  rfl
theorem simT_runs {pk : List Int → Int → Int} {js : List JobT} {t b : Nat} {x y : Int} (h : pk (simT pk js t).1 (t : Int) = (b : Int)) (hx : rd (simT pk js t).1 (b : Int) = x) (hy : (jrd js b).f3 = y) :
    simT pk js (t + 1) = ((simT pk js t).1.set b (wrap64 (x + 1)), if wrap64 (x + 1) = y then (simT pk js t).2.set b ((t : Int) + 1) else (simT pk js t).2) := by
  rw [simT, h]
  unfold stepD
  rw [if_neg (by omega), hx, Int.toNat_natCast, hy]
/-- The memory of a simulation under way. -/
structure SimW (w : World) (n : Nat) (A : Option Addr) (c g go : Nat) (D R F : Option Addr) (cd cr cf : Nat) (dn rn fn : List Int) (now : Int) (W : World) : Prop where
  jobs : W.cell? ⟨g, 0, none⟩ = some (.slice A n c)
  done : W.cell? ⟨g, 1, none⟩ = some (.slice D n cd)
  time : W.cell? ⟨g, 2, none⟩ = some (.int .i64 now)
  ftime : W.frozen? ⟨g, 2, none⟩ = false
  o0 : W.cell? ⟨go, 0, none⟩ = some (.slice R 120 cr)
  o1 : W.cell? ⟨go, 1, none⟩ = some (.slice F n cf)
  dR : Kd.R (Kd.int .i64) 3 W w.heap.size (fun k => some k = (Value.slice D n cd).ownBlock) (.slice D n cd) dn
  rR : Kd.R (Kd.int .i64) 3 W w.heap.size (fun k => some k = (Value.slice R 120 cr).ownBlock) (.slice R 120 cr) rn
  fR : Kd.R (Kd.int .i64) 3 W w.heap.size (fun k => some k = (Value.slice F n cf).ownBlock) (.slice F n cf) fn
  bel : Below w.heap.size w W
/-- Its blocks are different. -/
structure SimNe (w : World) (n g go : Nat) (D R F : Option Addr) (cd cr cf : Nat) : Prop where
  gn : w.heap.size ≤ g
  gon : w.heap.size ≤ go
  ggo : g ≠ go
  gD : ∀ k, (Value.slice D n cd).ownBlock = some k → k ≠ g ∧ k ≠ go
  gR : ∀ k, (Value.slice R 120 cr).ownBlock = some k → k ≠ g ∧ k ≠ go
  gF : ∀ k, (Value.slice F n cf).ownBlock = some k → k ≠ g ∧ k ≠ go
  DR : ∀ k, (Value.slice D n cd).ownBlock = some k → some k ≠ (Value.slice R 120 cr).ownBlock
  DF : ∀ k, (Value.slice D n cd).ownBlock = some k → some k ≠ (Value.slice F n cf).ownBlock
  RF : ∀ k, (Value.slice R 120 cr).ownBlock = some k → some k ≠ (Value.slice F n cf).ownBlock
section
variable {w W W1 : World} {n : Nat} {A : Option Addr} {c g go : Nat} {D R F : Option Addr} {cd cr cf : Nat} {dn rn fn : List Int} {now : Int}
theorem SimW.below (h : SimW w n A c g go D R F cd cr cf dn rn fn now W) (hb : Below W.heap.size W W1) : SimW w n A c g go D R F cd cr cf dn rn fn now W1 :=
  ⟨(hb.cell (World.block_lt_of_cell? _ _ h.jobs)).trans h.jobs, (hb.cell (World.block_lt_of_cell? _ _ h.done)).trans h.done, (hb.cell (World.block_lt_of_cell? _ _ h.time)).trans h.time,
   (hb.frozen (World.block_lt_of_cell? _ _ h.time)).trans h.ftime, (hb.cell (World.block_lt_of_cell? _ _ h.o0)).trans h.o0, (hb.cell (World.block_lt_of_cell? _ _ h.o1)).trans h.o1,
   Kd.R_below h.dR hb, Kd.R_below h.rR hb, Kd.R_below h.fR hb, below_step h.bel hb⟩
theorem SimW.mach (h : SimW w n A c g go D R F cd cr cf dn rn fn now W) {js : List JobT} (hn : js.length = n) (hr : Kd.C k34 w A js.length js) (hl : dn.length = js.length) : Mach W g A c js D cd dn now := by
  subst hn
  refine ⟨h.jobs, by rw [hl]; exact h.done, h.time, Kd.C_below hr h.bel, (Kd.R_reads' h.dR).2.2, hl⟩
theorem SimW.setTime (h : SimW w n A c g go D R F cd cr cf dn rn fn now W) (ne : SimNe w n g go D R F cd cr cf) (x : Int) : SimW w n A c g go D R F cd cr cf dn rn fn x (W.setCell ⟨g, 2, none⟩ (.int .i64 x)) := by
  refine ⟨?_, ?_, World.cell?_setCell_same _ _ _ h.time, ?_, ?_, ?_, Kd.R_far h.dR (fun k hk => (ne.gD k hk.symm).1) _, Kd.R_far h.rR (fun k hk => (ne.gR k hk.symm).1) _, Kd.R_far h.fR (fun k hk => (ne.gF k hk.symm).1) _, h.bel.setCell ne.gn _⟩
  · rw [World.cell?_setCell_other _ _ _ _ (by simp)]; exact h.jobs
  · rw [World.cell?_setCell_other _ _ _ _ (by simp)]; exact h.done
  · rw [World.frozen?_setCell]; exact h.ftime
  · rw [World.cell?_setCell_far _ _ _ _ ne.ggo]; exact h.o0
  · rw [World.cell?_setCell_far _ _ _ _ ne.ggo]; exact h.o1
theorem SimW.setRun {gr : Nat} (h : SimW w n A c g go D (some ⟨gr, 0, none⟩) F cd cr cf dn rn fn now W) (ne : SimNe w n g go D (some ⟨gr, 0, none⟩) F cd cr cf) (ho : (Value.slice (some ⟨gr, 0, none⟩) 120 cr).ownBlock = some gr) (i : Nat) (x : Int) :
    SimW w n A c g go D (some ⟨gr, 0, none⟩) F cd cr cf dn (rn.set i x) fn now (W.setCell ⟨gr, i, none⟩ (.int .i64 x)) := by
  have hg := ne.gR gr ho
  have h1 := (Kd.R_putg h.rR (i : Int) x).1
  rw [Int.toNat_natCast] at h1
  refine ⟨?_, ?_, ?_, ?_, ?_, ?_, Kd.R_far h.dR (fun k hk e => ne.DR k hk.symm (by rw [ho]; exact congrArg some e)) _, h1, Kd.R_far h.fR (fun k hk e => ne.RF gr ho (by rw [← hk]; exact congrArg some e.symm)) _, h.bel.setCell (Kd.R_base h.rR _ ho) _⟩
  · rw [World.cell?_setCell_far _ _ _ _ hg.1]; exact h.jobs
  · rw [World.cell?_setCell_far _ _ _ _ hg.1]; exact h.done
  · rw [World.cell?_setCell_far _ _ _ _ hg.1]; exact h.time
  · rw [World.frozen?_setCell]; exact h.ftime
  · rw [World.cell?_setCell_far _ _ _ _ hg.2]; exact h.o0
  · rw [World.cell?_setCell_far _ _ _ _ hg.2]; exact h.o1
theorem SimW.setFin {gr : Nat} (h : SimW w n A c g go D R (some ⟨gr, 0, none⟩) cd cr cf dn rn fn now W) (ne : SimNe w n g go D R (some ⟨gr, 0, none⟩) cd cr cf) (ho : (Value.slice (some ⟨gr, 0, none⟩) n cf).ownBlock = some gr) (i : Nat) (x : Int) :
    SimW w n A c g go D R (some ⟨gr, 0, none⟩) cd cr cf dn rn (fn.set i x) now (W.setCell ⟨gr, i, none⟩ (.int .i64 x)) := by
  have hg := ne.gF gr ho
  have h1 := (Kd.R_putg h.fR (i : Int) x).1
  rw [Int.toNat_natCast] at h1
  refine ⟨?_, ?_, ?_, ?_, ?_, ?_, Kd.R_far h.dR (fun k hk e => ne.DF k hk.symm (by rw [ho]; exact congrArg some e)) _, Kd.R_far h.rR (fun k hk e => ne.RF k hk.symm (by rw [ho]; exact congrArg some e)) _, h1, h.bel.setCell (Kd.R_base h.fR _ ho) _⟩
  · rw [World.cell?_setCell_far _ _ _ _ hg.1]; exact h.jobs
  · rw [World.cell?_setCell_far _ _ _ _ hg.1]; exact h.done
  · rw [World.cell?_setCell_far _ _ _ _ hg.1]; exact h.time
  · rw [World.frozen?_setCell]; exact h.ftime
  · rw [World.cell?_setCell_far _ _ _ _ hg.2]; exact h.o0
  · rw [World.cell?_setCell_far _ _ _ _ hg.2]; exact h.o1
theorem SimW.setDone {gr : Nat} (h : SimW w n A c g go (some ⟨gr, 0, none⟩) R F cd cr cf dn rn fn now W) (ne : SimNe w n g go (some ⟨gr, 0, none⟩) R F cd cr cf) (ho : (Value.slice (some ⟨gr, 0, none⟩) n cd).ownBlock = some gr) (i : Nat) (x : Int) :
    SimW w n A c g go (some ⟨gr, 0, none⟩) R F cd cr cf (dn.set i x) rn fn now (W.setCell ⟨gr, i, none⟩ (.int .i64 x)) := by
  have hg := ne.gD gr ho
  have h1 := (Kd.R_putg h.dR (i : Int) x).1
  rw [Int.toNat_natCast] at h1
  refine ⟨?_, ?_, ?_, ?_, ?_, ?_, h1, Kd.R_far h.rR (fun k hk e => ne.DR gr ho (by rw [← hk]; exact congrArg some e.symm)) _, Kd.R_far h.fR (fun k hk e => ne.DF gr ho (by rw [← hk]; exact congrArg some e.symm)) _, h.bel.setCell (Kd.R_base h.dR _ ho) _⟩
  · rw [World.cell?_setCell_far _ _ _ _ hg.1]; exact h.jobs
  · rw [World.cell?_setCell_far _ _ _ _ hg.1]; exact h.done
  · rw [World.cell?_setCell_far _ _ _ _ hg.1]; exact h.time
  · rw [World.frozen?_setCell]; exact h.ftime
  · rw [World.cell?_setCell_far _ _ _ _ hg.2]; exact h.o0
  · rw [World.cell?_setCell_far _ _ _ _ hg.2]; exact h.o1
end
set_option maxHeartbeats 4000000 in
set_option maxRecDepth 100000 in
theorem newMachine_calls (A : Option Addr) (c : Nat) (n : Nat) (hn : n ≤ 1000000) (w : World) :
    Calls Try.prog 98 #[.slice A n c] w fun e w' => ∃ (g : Nat) (D : Option Addr) (cd : Nat), e = .returned (.pointer (some ⟨g, 0, none⟩)) ∧ w.heap.size ≤ g ∧ g < w'.heap.size ∧
      w'.cell? ⟨g, 0, none⟩ = some (.slice A n c) ∧ w'.cell? ⟨g, 1, none⟩ = some (.slice D n cd) ∧ w'.cell? ⟨g, 2, none⟩ = some (.int .i64 0) ∧ w'.frozen? ⟨g, 2, none⟩ = false ∧
      Kd.R (Kd.int .i64) 3 w' w.heap.size (fun k => k ≠ g) (.slice D n cd) (List.replicate n 0) ∧ Below w.heap.size w w' := by
  have hn2 : IntKind.i64.wrap (n : Int) = (n : Int) := by rw [IntKind.wrap_i64]; omega
  go_enter Try.func98, Try.ntmps98
  go_wp2_with (first
    | ((with_reducible refine gate_dst (N := 6) rfl ?_); refine Kd.R_make (Kd.int .i64) _ 3 rfl (N := 6) rfl 27 _ _ rfl (n : Int) rfl rfl Try.underlying27 (.int .i64 0) 8 info3 rfl (by decide) (by omega) 0 (ok := fun _ => True) (okp := fun _ => True) rfl (fun _ hk => hk) trivial (by omega) (by omega) (Below.refl _ _) (Nat.le_refl _) ?_; intro v w4 ho5 hb hg_ hnew_; have HO := Aside0.mk ho5; have HB := Aside0.mk hb; clear hg_ hnew_ ho5 hb; obtain ⟨A2, c2, ev⟩ := Kd.R_slice HO.out; subst ev))
  go_ret
  have hO := HO.out
  rw [List.length_replicate, Int.toNat_natCast] at hO
  refine ⟨_, A2, c2, rfl, HB.out.size, by simp, by simp, ?_, by simp, by simp, Kd.R_mono (Kd.R_alloc (Kd.R_bound hO) _) (fun k hk => by have := hk.2.2.1; omega), below_alloc HB.out _⟩
  simp [Int.toNat_natCast]
theorem none_sl (n : Nat) (hn : n ≤ 1000000) (x : Int) (hx : x = (n : Int)) (w : World) :
    Calls Try.prog 99 #[.int .i64 x] w fun e w' => ∃ (A : Option Addr) (c : Nat), e = .returned (.slice A n c) ∧ Kd.R (Kd.int .i64) 3 w' w.heap.size (fun _ => True) (.slice A n c) (List.replicate n (-1)) ∧ Below w.heap.size w w' := by
  subst hx
  refine (impl_none.calls (n : Int) (List.replicate n (-1)) w (by unfold impl_none.f; rw [if_pos (by omega)]; rfl)).mono ?_
  rintro e w' ⟨v, rfl, hr, hb⟩
  obtain ⟨A, c, ev⟩ := Kd.R_slice hr
  subst ev
  rw [List.length_replicate] at hr ⊢
  exact ⟨A, c, rfl, hr, hb⟩
set_option maxHeartbeats 16000000 in
set_option maxRecDepth 100000 in
/-- simulate, whatever picks: the pick is -1 or a job's number. -/
theorem simulate_calls (pk : List Int → Int → Int) (pn : Nat) (pb pl : Array Value) (ep : ∀ args w, (callFunc pn args).run Try.prog w = .ok (.enter pn args) w)
    (A : Option Addr) (c : Nat) (js : List JobT) (w : World) (hr : Kd.C k34 w A js.length js) (hlen : js.length ≤ 1000)
    (hrng : ∀ dn now, pk dn now = -1 ∨ ∃ b : Nat, b < js.length ∧ pk dn now = (b : Int))
    (hp : ∀ (W : World) (g : Nat) (D : Option Addr) (cd : Nat) (dn : List Int) (t : Nat), t < 120 → Below w.heap.size w W → Mach W g A c js D cd dn (t : Int) → Calls Try.prog pn (pb ++ #[.pointer (some ⟨g, 0, none⟩)] ++ pl) W fun e w' => e = .returned (.int .i64 (pk dn (t : Int))) ∧ Below W.heap.size W w') :
    Calls Try.prog 49 #[.slice A js.length c, .func (.func pn) pb pl] w fun e w' => ∃ v0_ v1_ : Value, e = .returned (.agg #[v0_, v1_]) ∧ Kd.R (Kd.int .i64) 3 w' w.heap.size (fun k_ => some k_ ≠ (v1_ : Value).ownBlock) v0_ (simR pk js).1 ∧ Kd.R (Kd.int .i64) 3 w' w.heap.size (fun k_ => some k_ ≠ (v0_ : Value).ownBlock) v1_ (simR pk js).2 ∧ Below w.heap.size w w' := by
  have HR := Aside0.mk hr
  have HP := Aside0.mk hp
  have HG := Aside0.mk hrng
  clear hr hp hrng
  have tok1 : True := trivial
  go_enter Try.func49, Try.ntmps49
  go_wp2_with (first
    | (go_at_call 98; refine (newMachine_calls A c js.length (by omega) _).mono ?_; rintro e w1 ⟨g, D, cd, rfl, hg0, hg1, hj, hd, ht, hf, hdr, hb⟩; have N1 := Aside0.mk (And.intro hg0 (And.intro hg1 (And.intro hj (And.intro hd (And.intro ht (And.intro hf (And.intro hdr hb))))))); clear hg0 hg1 hj hd ht hf hdr hb)
    | (go_at_call 99; have _t := tok1; refine (none_sl 120 (by omega) _ rfl _).mono ?_; rintro e w2 ⟨R, cr, rfl, hr2, hb2⟩; have N2 := Aside0.mk (And.intro hr2 hb2); clear hr2 hb2 tok1)
    | (go_at_call 99; refine (none_sl js.length (by omega) _ rfl _).mono ?_; rintro e w3 ⟨F, cf, rfl, hr3, hb3⟩; have N3 := Aside0.mk (And.intro hr3 hb3); clear hr3 hb3))
  have hne : SimNe (w.alloc (.cells #[.slice none 0 0, .slice none 0 0] 29)) js.length g w3.heap.size D R F cd cr cf ∧ SimW (w.alloc (.cells #[.slice none 0 0, .slice none 0 0] 29)) js.length A c g w3.heap.size D R F cd cr cf (simT pk js 0).1 (runRow pk js 0) (simT pk js 0).2 ((0 : Nat) : Int) (w3.alloc (.cells #[.slice R 120 cr, .slice F js.length cf] 29)) := by
    obtain ⟨hg0, hg1, hj, hd, ht, hf, hdr, hb⟩ := N1.out
    obtain ⟨hr2, hb2⟩ := N2.out
    obtain ⟨hr3, hb3⟩ := N3.out
    have s1 := hb.size
    have s2 := hb2.size
    have s3 := hb3.size
    have h14 : Below w1.heap.size w1 (w3.alloc (.cells #[.slice R 120 cr, .slice F js.length cf] 29)) := below_alloc (below_step hb2 hb3) _
    have h24 : Below w2.heap.size w2 (w3.alloc (.cells #[.slice R 120 cr, .slice F js.length cf] 29)) := below_alloc hb3 _
    have h34 : Below w3.heap.size w3 (w3.alloc (.cells #[.slice R 120 cr, .slice F js.length cf] 29)) := below_alloc (Below.refl _ _) _
    have dlt := Kd.R_lt hdr
    have rlt := Kd.R_lt hr2
    have rge := Kd.R_base hr2
    have flt := Kd.R_lt hr3
    have fge := Kd.R_base hr3
    have dg := hdr.1
    refine ⟨⟨hg0, by omega, by omega, fun k hk => ⟨dg k hk, by have := dlt k hk; omega⟩, fun k hk => ?_, fun k hk => ?_, fun k hk e => ?_, fun k hk e => ?_, fun k hk e => ?_⟩, ?_⟩
    · have := rlt k hk; have := rge k hk; omega
    · have := flt k hk; have := fge k hk; omega
    · have := dlt k hk; have := rge k e.symm; omega
    · have := dlt k hk; have := fge k e.symm; omega
    · have := rlt k hk; have := fge k e.symm; omega
    · refine ⟨(h14.cell (World.block_lt_of_cell? _ _ hj)).trans hj, (h14.cell (World.block_lt_of_cell? _ _ hd)).trans hd, (h14.cell (World.block_lt_of_cell? _ _ ht)).trans ht, (h14.frozen (World.block_lt_of_cell? _ _ ht)).trans hf, by simp, by simp, Kd.R_below (Kd.R_tight rfl hdr) h14, ?_, Kd.R_below (Kd.R_tight rfl (Kd.R_lower hr3 (by omega))) h34, below_step hb h14⟩
      have h := Kd.R_below (Kd.R_tight rfl (Kd.R_lower hr2 (by omega : (w.alloc (.cells #[.slice none 0 0, .slice none 0 0] 29)).heap.size ≤ w1.heap.size))) h24
      simpa [runRow] using h
  have NE := Aside0.mk hne.1
  have S0 := Aside0.mk hne.2
  have HB0 : Aside0 (Below w.heap.size w (w.alloc (.cells #[.slice none 0 0, .slice none 0 0] 29))) := ⟨below_alloc (Below.refl _ _) _⟩
  clear hne N1 N2 N3
  generalize w3.heap.size = go at NE S0 ⊢
  go_loopg [7] 120 (fun gg _ wr => ∃ t : Nat, t ≤ 120 ∧ 120 - t ≤ gg ∧ Aside0 (SimW (w.alloc (.cells #[.slice none 0 0, .slice none 0 0] 29)) js.length A c g go D R F cd cr cf (simT pk js t).1 (runRow pk js t) (simT pk js t).2 (t : Int) wr))
  case atStart => exact ⟨0, by omega, by omega, S0⟩
  case round =>
    obtain ⟨t, ht, hgg, SI⟩ := hrel
    have tm := SI.out.time
    by_cases hlt : t < 120
    · have hltz : (t : Int) < 120 := by omega
      have hcall := HP.out wr g D cd (simT pk js t).1 t hlt (below_then HB0.out HB0.out.size SI.out.bel) (SI.out.mach rfl (Kd.C_alloc HR.out _) (simT_len pk js t).1)
      have hrl := runRow_len pk js t ht
      obtain ⟨gr, cr', er, _, _, _, _⟩ := Kd.R_form SI.out.rR (by omega)
      injection er with er1 er2 er3
      subst er1
      clear er2 er3
      rcases HG.out (simT pk js t).1 (t : Int) with hi | ⟨b, hb, hi⟩
      · rw [hi] at hcall
        have HI := Aside0.mk hi
        clear hi hrl
        go_wp2_with (go_at_fn pn; refine hcall.mono ?_; rintro e w5 ⟨rfl, hb5⟩; have S5 := Aside0.mk (SI.out.below hb5); have tm5 := S5.out.time; have o05 := S5.out.o0; obtain ⟨cx, fx⟩ := Kd.R_celln 0 S5.out.rR (t : Int) (by omega) hltz; rw [Int.toNat_natCast] at cx fx; clear hb5)
        go_big_region
        have S6 := Aside0.mk ((S5.out.setRun NE.out rfl t (-1)).below (below_drew1 (Below.refl _ _)))
        have tm6 := S6.out.time
        have ft6 := S6.out.ftime
        clear tm5 o05 cx fx hcall S5
        generalize (w5.setCell ⟨gr, t, none⟩ (Value.int .i64 (-1))).drew = w6 at S6 tm6 ft6 ⊢
        go_wp2
        go_roundg (120 - (t + 1))
        case measure => omega
        case rel =>
          refine ⟨t + 1, by omega, by omega, ⟨?_⟩⟩
          have h := S6.out.setTime NE.out ((t : Int) + 1)
          rw [show (-1 : Int) = runT pk js t from HI.out.symm, runRow_set pk js t hlt] at h
          rw [simT_idle HI.out]
          exact h
      · rw [hi] at hcall
        have HI := Aside0.mk hi
        have hl := simT_len pk js t
        obtain ⟨gd, cd', er, _, _, _, _⟩ := Kd.R_form SI.out.dR (by omega)
        injection er with er1 er2 er3
        subst er1
        clear er2 er3
        obtain ⟨gf, cf', er, _, _, _, _⟩ := Kd.R_form SI.out.fR (by omega)
        injection er with er1 er2 er3
        subst er1
        clear er2 er3
        have hbz : (b : Int) < (js.length : Int) := by omega
        obtain ⟨ad, ea, hx0, hx1, hx2, hx3⟩ := at_T34 HR.out (b : Int) (by omega) hbz
        cases ea
        rw [Int.toNat_natCast] at hx3
        obtain ⟨y, hy⟩ : ∃ y, (jrd js b).f3 = y := ⟨_, rfl⟩
        obtain ⟨x, hx⟩ : ∃ x, rd (simT pk js t).1 (b : Int) = x := ⟨_, rfl⟩
        have hx3' := hx3
        rw [show (rd_T34 js (b : Int)).f3 = y from hy] at hx3'
        have HX3 := Aside0.mk hx3'
        have STEP := Aside0.mk (simT_runs hi hx hy)
        have HX := Aside0.mk hx
        have LEN := Aside0.mk hl
        clear hi hrl hl hx0 hx1 hx2 hx3 hx3' hy hx
        go_wp2_with (go_at_fn pn; refine hcall.mono ?_; rintro e w5 ⟨rfl, hb5⟩; have S5 := Aside0.mk (SI.out.below hb5); have tm5 := S5.out.time; have o05 := S5.out.o0; obtain ⟨cx, fx⟩ := Kd.R_celln 0 S5.out.rR (t : Int) (by omega) hltz; rw [Int.toNat_natCast] at cx fx; clear hb5)
        go_big_region
        have S6 := Aside0.mk ((S5.out.setRun NE.out rfl t (b : Int)).below (below_drew1 (Below.refl _ _)))
        have dn6 := S6.out.done
        obtain ⟨cd6, fd6⟩ := Kd.R_celln 0 S6.out.dR (b : Int) (by omega) hbz
        rw [Int.toNat_natCast, show rdOf 0 (simT pk js t).1 (b : Int) = x from HX.out] at cd6
        rw [Int.toNat_natCast] at fd6
        clear tm5 o05 cx fx hcall S5
        generalize (w5.setCell ⟨gr, t, none⟩ (Value.int .i64 (b : Int))).drew = w6 at S6 dn6 cd6 fd6 ⊢
        go_wp2_with fail
        have S7 := Aside0.mk (S6.out.setDone NE.out rfl b (wrap64 (x + 1)))
        have dn7 := S7.out.done
        have tm7 := S7.out.time
        have ft7 := S7.out.ftime
        have o17 := S7.out.o1
        have cd7 := World.cell?_setCell_same w6 ⟨gd, b, none⟩ (Value.int .i64 (wrap64 (x + 1))) cd6
        obtain ⟨cf7, ff7⟩ := Kd.R_celln 0 S7.out.fR (b : Int) (by omega) hbz
        rw [Int.toNat_natCast] at cf7 ff7
        have hx7 := HX3.out
        have hx7 := (HB0.out.cell (World.block_lt_of_cell? _ _ hx7)).trans hx7
        have hx7 := (S7.out.bel.cell (World.block_lt_of_cell? _ _ hx7)).trans hx7
        clear dn6 cd6 fd6 S6
        generalize w6.setCell ⟨gd, b, none⟩ (Value.int .i64 (wrap64 (x + 1))) = w7 at S7 dn7 tm7 ft7 o17 cd7 cf7 ff7 hx7 ⊢
        generalize wrap64 (x + 1) = z at S7 cd7 STEP ⊢
        by_cases hq : z = y
        · subst hq
          rw [if_pos rfl] at STEP
          go_big_region
          go_wp2_with fail
          have S8 := Aside0.mk (S7.out.below (below_drew1 (Below.refl _ _)))
          have tm8 := S8.out.time
          have o18 := S8.out.o1
          have cf8 : w7.drew.cell? ⟨gf, b, none⟩ = _ := cf7
          have ff8 : w7.drew.frozen? ⟨gf, b, none⟩ = false := ff7
          have hw : IntKind.i64.wrap ((t : Int) + 1) = (t : Int) + 1 := by rw [IntKind.wrap_i64]; omega
          clear dn7 tm7 ft7 o17 cd7 cf7 ff7 hx7 S7
          generalize w7.drew = w8 at S8 tm8 o18 cf8 ff8 ⊢
          go_big_region
          have S9 := Aside0.mk ((S8.out.setFin NE.out rfl b ((t : Int) + 1)).below (below_drew1 (Below.refl _ _)))
          have tm9 := S9.out.time
          have ft9 := S9.out.ftime
          clear tm8 o18 cf8 ff8 hw S8
          generalize (w8.setCell ⟨gf, b, none⟩ (Value.int .i64 ((t : Int) + 1))).drew = w9 at S9 tm9 ft9 ⊢
          go_wp2
          go_roundg (120 - (t + 1))
          case measure => omega
          case rel =>
            refine ⟨t + 1, by omega, by omega, ⟨?_⟩⟩
            have h := S9.out.setTime NE.out ((t : Int) + 1)
            rw [show (b : Int) = runT pk js t from HI.out.symm, runRow_set pk js t hlt] at h
            rw [STEP.out]
            exact h
        · have hq2 : (z == y) = false := by simpa using hq
          have hq3 : decide (z = y) = false := by simpa using hq
          rw [if_neg hq] at STEP
          have QN := Aside0.mk hq
          clear hq
          go_big_region
          have S8 := Aside0.mk (S7.out.below (below_drew1 (Below.refl _ _)))
          have tm8 := S8.out.time
          have ft8 := S8.out.ftime
          clear dn7 tm7 ft7 o17 cd7 cf7 ff7 hx7 S7
          generalize w7.drew = w8 at S8 tm8 ft8 ⊢
          go_wp2
          go_roundg (120 - (t + 1))
          case measure => omega
          case rel =>
            refine ⟨t + 1, by omega, by omega, ⟨?_⟩⟩
            have h := S8.out.setTime NE.out ((t : Int) + 1)
            rw [show (b : Int) = runT pk js t from HI.out.symm, runRow_set pk js t hlt] at h
            rw [STEP.out]
            exact h
    · have hltz : ¬ (t : Int) < 120 := by omega
      obtain rfl : t = 120 := by omega
      have o0 := SI.out.o0
      have o1 := SI.out.o1
      have BKr : wr.heap[w.heap.size]? = some (.cells #[.slice none 0 0, .slice none 0 0] 29 (0, 0)) := (SI.out.bel.block w.heap.size (by simp)).trans (blk_new w _)
      have r0 : wr.cell? ⟨w.heap.size, 0, none⟩ = some (.slice none 0 0) := (blk_cell BKr 0).trans rfl
      have r1 : wr.cell? ⟨w.heap.size, 1, none⟩ = some (.slice none 0 0) := (blk_cell BKr 1).trans rfl
      have f0 := blk_frozen BKr 0
      have f1 := blk_frozen BKr 1
      have BK := Aside0.mk BKr
      clear BKr
      go_wp2
      refine bodyPost_ret (results_cell_row rfl _ _ w.heap.size 29 #[.slice R 120 cr, .slice F js.length cf] (0, 0) _ rfl (by refine blk_put (cs := #[.slice R 120 cr, .slice none 0 0]) ?_ 1 _ rfl; refine blk_put (cs := #[.slice none 0 0, .slice none 0 0]) ?_ 0 _ rfl; exact BK.out) Try.underlying29 rfl (by kernel_rfl)) rfl ?_
      have hsz : w.heap.size < (w.alloc (.cells #[.slice none 0 0, .slice none 0 0] 29)).heap.size := by simp
      have mv : ∀ {v : Value} {l : List Int}, Kd.R (Kd.int .i64) 3 wr (w.alloc (.cells #[.slice none 0 0, .slice none 0 0] 29)).heap.size (fun k => some k = v.ownBlock) v l → ∀ x y, Kd.R (Kd.int .i64) 3 ((wr.setCell ⟨w.heap.size, 0, none⟩ x).setCell ⟨w.heap.size, 1, none⟩ y) w.heap.size (fun k => some k = v.ownBlock) v l := fun h x y =>
        Kd.R_lower (Kd.R_far (Kd.R_far h (fun k hk e => by have := Kd.R_base h k hk.symm; simp only at e; omega) x) (fun k hk e => by have := Kd.R_base h k hk.symm; simp only at e; omega) y) (by omega)
      refine ⟨_, _, rfl, ?_, ?_, ?_⟩
      · have h := mv SI.out.rR (.slice R 120 cr) (.slice F js.length cf)
        have e : runRow pk js 120 = (simR pk js).1 := by simp [runRow, simR]
        rw [e] at h
        exact Kd.R_mono h (fun k hk e2 => NE.out.RF k hk.symm e2)
      · exact Kd.R_mono (mv SI.out.fR (.slice R 120 cr) (.slice F js.length cf)) (fun k hk e2 => NE.out.RF k e2.symm hk)
      · exact ((below_then HB0.out HB0.out.size SI.out.bel).setCell (Nat.le_refl _) _).setCell (Nat.le_refl _) _

end Go.Proofs.Ytkdfjomhichkoaa.P
-- Laid by a program of this work.
namespace Go.Proofs.Ytkdfjomhichkoaa.P
open Go.RowKit Go.Proofs.YtkdfjomhichkoaaW.PrintWords Go.Proofs.YtkdfjomhichkoaaW.PrintLast Go.Proofs.YtkdfjomhichkoaaW.PrintMore
attribute [local go_sem] max2_int min2_int max_two min_two max_three min_three max_four min_four   -- for this text's walks alone
set_option linter.unusedVariables false
set_option linter.unusedSimpArgs false

-- by hand
/-! Runs by hand: what the simulations of the program are. -/
theorem R_cells2 {W : World} {b g : Nat} {ok : Nat → Prop} {v : Value} {l : List Int} (hg : g < b) (h : Kd.R (Kd.int .i64) 3 W b ok v l) (x y : Value) : Kd.R (Kd.int .i64) 3 ((W.setCell ⟨g, 0, none⟩ x).setCell ⟨g, 1, none⟩ y) b (fun k => some k = v.ownBlock ∧ ok k) v l :=
  Kd.R_far (Kd.R_far (Kd.R_tight2 rfl h) (fun k hk e => by have := Kd.R_base h k hk.1.symm; simp only at e; omega) x) (fun k hk e => by have := Kd.R_base h k hk.1.symm; simp only at e; omega) y
theorem edfD_rng (js : List JobT) (dn : List Int) (now : Int) : edfD js dn now = -1 ∨ ∃ b : Nat, b < js.length ∧ edfD js dn now = (b : Int) := bestD_rng _ _ _
theorem npD_rng (js : List JobT) (dn : List Int) (now : Int) : npD js dn now = -1 ∨ ∃ b : Nat, b < js.length ∧ npD js dn now = (b : Int) := by
  unfold npD
  split
  · exact bestD_rng _ _ _
  · exact edfD_rng _ _ _
end Go.Proofs.Ytkdfjomhichkoaa.P
-- Laid by a program of this work.
namespace Go.Proofs.Ytkdfjomhichkoaa.P
open Go.RowKit Go.Proofs.YtkdfjomhichkoaaW.PrintWords Go.Proofs.YtkdfjomhichkoaaW.PrintLast Go.Proofs.YtkdfjomhichkoaaW.PrintMore
attribute [local go_sem] max2_int min2_int max_two min_two max_three min_three max_four min_four   -- for this text's walks alone
set_option linter.unusedVariables false
set_option linter.unusedSimpArgs false

/-! ### impl_in: function 103 -/
def impl_in.f (a0 : Int) (a1 : Int) (a2 : Int) : Option (Bool) := if a0 ≥ a1 then (some (decide (a0 ≤ a2))) else (some false)
set_option maxHeartbeats 8000000 in
set_option maxRecDepth 100000 in
theorem impl_in.calls (a0 : Int) (a1 : Int) (a2 : Int) (r : Bool) (w : World) (h : impl_in.f a0 a1 a2 = some r) :
  Calls Try.prog 103 #[.int .i64 a0, .int .i64 a1, .int .i64 a2] w fun e w' => e = .returned (.bool r) ∧ Drawn0 w w' := by
 have H : (if a0 ≥ a1 then (some (decide (a0 ≤ a2))) else (some false)) = some r := h
 clear h
 by_cases c4 : a0 ≥ a1
 ·rw [if_pos c4] at H
  have c4b0 : decide (a1 ≤ a0) = true := decide_eq_true c4
  clear c4
  obtain rfl := Option.some.inj H
  go_enter Try.func103, Try.ntmps103
  go_wp2
  go_ret
  exact ⟨by first | rfl | (simp; done) | (simp [*]; done), by repeat (first | exact Drawn0.refl _ | apply Drawn0.step)⟩
 ·rw [if_neg c4] at H
  have c4b0 : decide (a1 ≤ a0) = false := decide_eq_false c4
  clear c4
  obtain rfl := Option.some.inj H
  go_enter Try.func103, Try.ntmps103
  go_wp2
  go_ret
  exact ⟨by first | rfl | (simp; done) | (simp [*]; done), by repeat (first | exact Drawn0.refl _ | apply Drawn0.step)⟩

end Go.Proofs.Ytkdfjomhichkoaa.P
-- Laid by a program of this work.
namespace Go.Proofs.Ytkdfjomhichkoaa.P
open Go.RowKit Go.Proofs.YtkdfjomhichkoaaW.PrintWords Go.Proofs.YtkdfjomhichkoaaW.PrintLast Go.Proofs.YtkdfjomhichkoaaW.PrintMore
attribute [local go_sem] max2_int min2_int max_two min_two max_three min_three max_four min_four   -- for this text's walks alone
set_option linter.unusedVariables false
set_option linter.unusedSimpArgs false

-- by hand
/-! Legal release patterns, by hand: the order of the jobs. -/
abbrev TaskT := S88
def trd (l : List TaskT) (i : Int) : TaskT := rd_T88 l i
def inRng (l : List TaskT) (j : JobT) : Bool := decide (0 ≤ j.f0 ∧ j.f0 ≤ (l.length : Int) - 1)
def relOk (j : JobT) : Bool := decide (0 ≤ j.f1 ∧ j.f1 ≤ 119)
def exOk (l : List TaskT) (j : JobT) : Bool := decide (1 ≤ j.f3 ∧ j.f3 ≤ (trd l j.f0).f0)
def bhd (p j : JobT) : Bool := decide (p.f1 > j.f1) || (decide (p.f1 = j.f1) && decide (p.f0 ≥ j.f0))
def ordOk (l : List TaskT) (js : List JobT) (i : Nat) : Bool := inRng l (jrd js i) && relOk (jrd js i) && exOk l (jrd js i) && (decide (i = 0) || !(bhd (jrd js (i - 1)) (jrd js i)))
def allB (p : Nat → Bool) : Nat → Bool
  | 0 => true
  | n + 1 => allB p n && p n
theorem allB_false {p : Nat → Bool} {i : Nat} (h : p i = false) : ∀ n, i < n → allB p n = false
  | 0, hn => by omega
  | n + 1, hn => by
    rw [allB]
    by_cases e : i = n
    · subst e; rw [h]; simp
    · rw [allB_false h n (by omega)]; rfl
theorem allB_true {p : Nat → Bool} : ∀ {n : Nat}, allB p n = true → ∀ i, i < n → p i = true
  | 0, _, i, hi => by omega
  | n + 1, h, i, hi => by
    rw [allB, Bool.and_eq_true] at h
    by_cases e : i = n
    · subst e; exact h.2
    · exact allB_true h.1 i (by omega)
def ordB (l : List TaskT) (js : List JobT) : Bool := allB (ordOk l js) js.length && decide ((js.length : Int) ≤ 60)
set_option maxHeartbeats 4000000 in
set_option maxRecDepth 100000 in
theorem jl1_calls (A0 : Option Addr) (c0 : Nat) (l0 : List TaskT) (B : Addr) (a : Int) (h0 : 0 ≤ a) (h1 : a < (l0.length : Int)) (w : World) (hB : w.cell? B = some (.slice A0 l0.length c0)) (hr0 : Kd.C k88 w A0 l0.length l0) :
    Calls Try.prog 92 #[.int .i64 a, .pointer (some B)] w fun e w' => e = .returned (.int .i64 (trd l0 a).f0) ∧ Drawn0 w w' := by
  obtain ⟨ad, ea, hx0, hx1, hx2⟩ := at_T88 hr0 a h0 h1
  cases ea
  unfold trd
  clear hr0 hx1 hx2
  generalize (rd_T88 l0 a).f0 = x at hx0 ⊢
  go_enter Try.func92, Try.ntmps92
  go_wp2
  go_ret
  exact ⟨rfl, Drawn0.refl _⟩
set_option maxHeartbeats 4000000 in
set_option maxRecDepth 100000 in
theorem jl2_calls (A0 : Option Addr) (c0 : Nat) (l0 : List TaskT) (B : Addr) (a : Int) (h0 : 0 ≤ a) (h1 : a < (l0.length : Int)) (w : World) (hB : w.cell? B = some (.slice A0 l0.length c0)) (hr0 : Kd.C k88 w A0 l0.length l0) :
    Calls Try.prog 95 #[.int .i64 a, .pointer (some B)] w fun e w' => e = .returned (.int .i64 (trd l0 a).f2) ∧ Drawn0 w w' := by
  obtain ⟨ad, ea, hx0, hx1, hx2⟩ := at_T88 hr0 a h0 h1
  cases ea
  unfold trd
  clear hr0 hx0 hx1
  generalize (rd_T88 l0 a).f2 = x at hx2 ⊢
  go_enter Try.func95, Try.ntmps95
  go_wp2
  go_ret
  exact ⟨rfl, Drawn0.refl _⟩
def lateB (l : List TaskT) (j : JobT) : Bool := j.f2 != wrap64 (j.f1 + (trd l j.f0).f1)
set_option maxHeartbeats 4000000 in
set_option maxRecDepth 100000 in
theorem jl3_calls (A0 : Option Addr) (c0 : Nat) (l0 : List TaskT) (B : Addr) (j : JobT) (h0 : 0 ≤ j.f0) (h1 : j.f0 < (l0.length : Int)) (w : World) (hB : w.cell? B = some (.slice A0 l0.length c0)) (hr0 : Kd.C k88 w A0 l0.length l0) :
    Calls Try.prog 97 #[.agg #[.int .i64 j.f0, .int .i64 j.f1, .int .i64 j.f2, .int .i64 j.f3], .pointer (some B)] w fun e w' => e = .returned (.bool (lateB l0 j)) ∧ Below w.heap.size w w' := by
  have hBl := World.block_lt_of_cell? _ _ hB
  have hB2 : ∀ o, (w.alloc o).cell? B = some (.slice A0 l0.length c0) := fun o => (World.cell?_alloc_lt _ _ _ hBl).trans hB
  obtain ⟨ad, ea, hx0, hx1, hx2⟩ := at_T88 hr0 j.f0 h0 h1
  cases ea
  have hxl := World.block_lt_of_cell? _ _ hx1
  have hx3 := fun (o : Obj) => (show (w.alloc o).cell? _ = w.cell? _ from World.cell?_alloc_lt _ _ _ hxl).trans hx1
  unfold lateB trd
  clear hr0 hx0 hx1 hx2 hBl hxl hB
  generalize (rd_T88 l0 j.f0).f1 = x at hx3 ⊢
  have hc2 := hB2 (.cells #[.int .i64 j.f0, .int .i64 j.f1, .int .i64 j.f2, .int .i64 j.f3] 34)
  have hx4 := hx3 (.cells #[.int .i64 j.f0, .int .i64 j.f1, .int .i64 j.f2, .int .i64 j.f3] 34)
  clear hB2 hx3
  go_enter Try.func97, Try.ntmps97
  go_wp2_with fail
  go_big_region
  all_goals go_wp2
  go_ret
  exact ⟨rfl, below_drew1 (below_alloc (Below.refl _ _) _)⟩
theorem in_is (a b c : Int) (v : Bool) (h : decide (b ≤ a ∧ a ≤ c) = v) : impl_in.f a b c = some v := by
  unfold impl_in.f
  subst h
  by_cases h1 : a ≥ b
  · rw [if_pos h1]; simp [show b ≤ a from h1]
  · rw [if_neg h1]; simp [show ¬ b ≤ a from h1]
set_option maxHeartbeats 16000000 in
set_option maxRecDepth 100000 in
theorem ordered_calls (mn : Nat) (ml : Array Value) (em : ∀ args w, (callFunc mn args).run Try.prog w = .ok (.enter mn args) w) (l0 : List TaskT) (A : Option Addr) (c : Nat) (js : List JobT) (hjl : js.length ≤ 1000000000) (hll : l0.length ≤ 1000000000) (w : World) (hm : ∀ (W : World) (a : Int), Below w.heap.size w W → 0 ≤ a → a < (l0.length : Int) → Calls Try.prog mn (#[.int .i64 a] ++ ml) W fun e w' => e = .returned (.int .i64 (trd l0 a).f0) ∧ ∃ q, w' = W.drewN q) (hr : Kd.C k34 w A js.length js) :
    Calls Try.prog 91 #[.slice A js.length c, .int .i64 (l0.length : Int), .func (.func mn) #[] ml] w fun e w' => e = .returned (.bool (ordB l0 js)) ∧ Below w.heap.size w w' := by
  have HMM := Aside0.mk hm
  have HR := Aside0.mk hr
  clear hm hr
  go_enter Try.func91, Try.ntmps91
  go_wp2
  go_loopg [11] js.length (fun gg v11 wr => ∃ i : Nat, v11 = .int .i64 i ∧ i ≤ js.length ∧ js.length - i ≤ gg ∧ Aside0 (Below w.heap.size w wr) ∧ Aside0 (allB (ordOk l0 js) i = true))
  case atStart => exact ⟨0, by go_num, by omega, by omega, ⟨Below.refl _ _⟩, ⟨rfl⟩⟩
  case round =>
    obtain ⟨i, rfl, hil, hgg, BW, OK⟩ := hrel
    by_cases hlt : i < js.length
    · have hltz : (i : Int) < (js.length : Int) := by omega
      obtain ⟨ad, ea, hx0, hx1, hx2, hx3⟩ := at_T34 HR.out (i : Int) (by omega) hltz
      cases ea
      have hy0 := (BW.out.cell (World.block_lt_of_cell? w _ hx0)).trans hx0
      have hy1 := (BW.out.cell (World.block_lt_of_cell? w _ hx1)).trans hx1
      have hy2 := (BW.out.cell (World.block_lt_of_cell? w _ hx2)).trans hx2
      have hy3 := (BW.out.cell (World.block_lt_of_cell? w _ hx3)).trans hx3
      clear hx0 hx1 hx2 hx3
      rw [Int.toNat_natCast] at hy0 hy1 hy2 hy3
      obtain ⟨j, hj⟩ : ∃ j : JobT, j = jrd js i := ⟨_, rfl⟩
      rw [show rd_T34 js (i : Int) = j from hj.symm] at hy0 hy1 hy2 hy3
      have HJ := Aside0.mk hj
      clear hj
      have hw : IntKind.i64.wrap ((l0.length : Int) - 1) = (l0.length : Int) - 1 := by rw [IntKind.wrap_i64]; omega
      have HW := Aside0.mk hw
      clear hw
      -- the false answers
      have no : ordOk l0 js i = false → ordB l0 js = false := fun h => by unfold ordB; rw [allB_false h _ hlt]; rfl
      have NO := Aside0.mk no
      clear no
      cases q1 : inRng l0 j with
      | false =>
        have H1 := Aside0.mk (in_is j.f0 0 ((l0.length : Int) - 1) false q1)
        have F := Aside0.mk (NO.out (by unfold ordOk; rw [← HJ.out, q1]; rfl))
        clear q1
        go_wp2_with fail
        have hw := HW.out
        go_quiet ((first | (go_at_call 103; (with_reducible refine (impl_in.calls _ _ _ _ _ H1.out).mono ?_); rintro e w' ⟨rfl, ⟨nd, rfl⟩⟩; (try first | exact ⟨rfl, _, World.drewN_drewN _ _ _⟩ | exact ⟨rfl, _, Eq.trans (World.drewN_drewN _ _ _) (congrArg (World.drewN _) (Nat.add_assoc _ _ _))⟩ | exact ⟨rfl, _, rfl⟩))))
        clear hw
        go_wp2
        go_ret
        exact ⟨by rw [F.out]; rfl, by first | exact pw_below_drewN (below_alloc BW.out _) _ | exact below_drew1 (below_alloc BW.out _) | exact below_alloc BW.out _⟩
      | true =>
        have H1 := Aside0.mk (in_is j.f0 0 ((l0.length : Int) - 1) true q1)
        have Q1 := Aside0.mk q1
        clear q1
        cases q2 : relOk j with
        | false =>
          have H2 := Aside0.mk (in_is j.f1 0 119 false q2)
          have F := Aside0.mk (NO.out (by unfold ordOk; rw [← HJ.out, q2, Bool.and_false]; rfl))
          clear q2
          go_wp2_with fail
          have hw := HW.out
          go_quiet ((first | (go_at_call 103; (with_reducible refine (impl_in.calls _ _ _ _ _ H1.out).mono ?_); rintro e w' ⟨rfl, ⟨nd, rfl⟩⟩; (try first | exact ⟨rfl, _, World.drewN_drewN _ _ _⟩ | exact ⟨rfl, _, Eq.trans (World.drewN_drewN _ _ _) (congrArg (World.drewN _) (Nat.add_assoc _ _ _))⟩ | exact ⟨rfl, _, rfl⟩)) | (go_at_call 103; (with_reducible refine (impl_in.calls _ _ _ _ _ H2.out).mono ?_); rintro e w' ⟨rfl, ⟨nd, rfl⟩⟩; (try first | exact ⟨rfl, _, World.drewN_drewN _ _ _⟩ | exact ⟨rfl, _, Eq.trans (World.drewN_drewN _ _ _) (congrArg (World.drewN _) (Nat.add_assoc _ _ _))⟩ | exact ⟨rfl, _, rfl⟩))))
          clear hw
          go_wp2
          go_ret
          exact ⟨by rw [F.out]; rfl, by first | exact pw_below_drewN (below_alloc BW.out _) _ | exact below_drew1 (below_alloc BW.out _) | exact below_alloc BW.out _⟩
        | true =>
          have H2 := Aside0.mk (in_is j.f1 0 119 true q2)
          have Q2 := Aside0.mk q2
          clear q2
          have hr1 := of_decide_eq_true Q1.out
          have HM := Aside0.mk (fun (W : World) (hb : Below w.heap.size w W) => HMM.out W j.f0 hb (by omega) (by omega))
          clear hr1
          obtain ⟨z, hz⟩ : ∃ z, (trd l0 j.f0).f0 = z := ⟨_, rfl⟩
          rw [hz] at HM
          have HZ := Aside0.mk hz
          clear hz
          cases q3 : exOk l0 j with
          | false =>
            have H3 := Aside0.mk (in_is j.f3 1 z false (by have := q3; unfold exOk at this; rw [HZ.out] at this; exact this))
            have F := Aside0.mk (NO.out (by unfold ordOk; rw [← HJ.out, q3, Bool.and_false]; rfl))
            clear q3
            go_wp2_with fail
            have hw := HW.out
            go_quiet ((first | (go_at_call 103; (with_reducible refine (impl_in.calls _ _ _ _ _ H1.out).mono ?_); rintro e w' ⟨rfl, ⟨nd, rfl⟩⟩; (try first | exact ⟨rfl, _, World.drewN_drewN _ _ _⟩ | exact ⟨rfl, _, Eq.trans (World.drewN_drewN _ _ _) (congrArg (World.drewN _) (Nat.add_assoc _ _ _))⟩ | exact ⟨rfl, _, rfl⟩)) | (go_at_call 103; (with_reducible refine (impl_in.calls _ _ _ _ _ H2.out).mono ?_); rintro e w' ⟨rfl, ⟨nd, rfl⟩⟩; (try first | exact ⟨rfl, _, World.drewN_drewN _ _ _⟩ | exact ⟨rfl, _, Eq.trans (World.drewN_drewN _ _ _) (congrArg (World.drewN _) (Nat.add_assoc _ _ _))⟩ | exact ⟨rfl, _, rfl⟩)) | (go_at_call 103; (with_reducible refine (impl_in.calls _ _ _ _ _ H3.out).mono ?_); rintro e w' ⟨rfl, ⟨nd, rfl⟩⟩; (try first | exact ⟨rfl, _, World.drewN_drewN _ _ _⟩ | exact ⟨rfl, _, Eq.trans (World.drewN_drewN _ _ _) (congrArg (World.drewN _) (Nat.add_assoc _ _ _))⟩ | exact ⟨rfl, _, rfl⟩)) | (go_at_fn mn; refine Calls.quiet_of (HM.out _ (by first | exact pw_below_drewN (below_alloc BW.out _) _ | exact below_alloc BW.out _)))))
            clear hw
            go_wp2
            go_ret
            exact ⟨by rw [F.out]; rfl, by first | exact pw_below_drewN (below_alloc BW.out _) _ | exact below_drew1 (below_alloc BW.out _) | exact below_alloc BW.out _⟩
          | true =>
            have H3 := Aside0.mk (in_is j.f3 1 z true (by have := q3; unfold exOk at this; rw [HZ.out] at this; exact this))
            have Q3 := Aside0.mk q3
            clear q3
            go_wp2_with fail
            have hw := HW.out
            go_quiet ((first | (go_at_call 103; (with_reducible refine (impl_in.calls _ _ _ _ _ H1.out).mono ?_); rintro e w' ⟨rfl, ⟨nd, rfl⟩⟩; (try first | exact ⟨rfl, _, World.drewN_drewN _ _ _⟩ | exact ⟨rfl, _, Eq.trans (World.drewN_drewN _ _ _) (congrArg (World.drewN _) (Nat.add_assoc _ _ _))⟩ | exact ⟨rfl, _, rfl⟩)) | (go_at_call 103; (with_reducible refine (impl_in.calls _ _ _ _ _ H2.out).mono ?_); rintro e w' ⟨rfl, ⟨nd, rfl⟩⟩; (try first | exact ⟨rfl, _, World.drewN_drewN _ _ _⟩ | exact ⟨rfl, _, Eq.trans (World.drewN_drewN _ _ _) (congrArg (World.drewN _) (Nat.add_assoc _ _ _))⟩ | exact ⟨rfl, _, rfl⟩)) | (go_at_call 103; (with_reducible refine (impl_in.calls _ _ _ _ _ H3.out).mono ?_); rintro e w' ⟨rfl, ⟨nd, rfl⟩⟩; (try first | exact ⟨rfl, _, World.drewN_drewN _ _ _⟩ | exact ⟨rfl, _, Eq.trans (World.drewN_drewN _ _ _) (congrArg (World.drewN _) (Nat.add_assoc _ _ _))⟩ | exact ⟨rfl, _, rfl⟩)) | (go_at_fn mn; refine Calls.quiet_of (HM.out _ (by first | exact pw_below_drewN (below_alloc BW.out _) _ | exact below_alloc BW.out _)))))
            clear hw
            go_wp2_with fail
            have B6 := Aside0.mk (pw_below_drewN (below_alloc BW.out (.cells #[.int .i64 j.f0, .int .i64 j.f1, .int .i64 j.f2, .int .i64 j.f3] 34)) nq)
            have cj0 : ((wr.alloc (.cells #[.int .i64 j.f0, .int .i64 j.f1, .int .i64 j.f2, .int .i64 j.f3] 34)).drewN nq).cell? ⟨wr.heap.size, 0, none⟩ = some (.int .i64 j.f0) := by simp
            have cj1 : ((wr.alloc (.cells #[.int .i64 j.f0, .int .i64 j.f1, .int .i64 j.f2, .int .i64 j.f3] 34)).drewN nq).cell? ⟨wr.heap.size, 1, none⟩ = some (.int .i64 j.f1) := by simp
            clear hy0 hy1 hy2 hy3
            generalize ((wr.alloc (.cells #[.int .i64 j.f0, .int .i64 j.f1, .int .i64 j.f2, .int .i64 j.f3] 34)).drewN nq) = w6 at B6 cj0 cj1 ⊢
            rcases Nat.eq_zero_or_pos i with h0 | h0
            · subst h0
              have ONE := Aside0.mk (show ordOk l0 js 0 = true by unfold ordOk; rw [← HJ.out, Q1.out, Q2.out, Q3.out]; rfl)
              go_quiet (fail)
              go_wp2
              go_roundg (js.length - (0 + 1))
              case measure => omega
              case rel => exact ⟨0 + 1, by go_num, by omega, by omega, ⟨pw_below_drewN B6.out _⟩, ⟨by rw [allB, OK.out, ONE.out]; rfl⟩⟩
            · obtain ⟨k, hk⟩ : ∃ k : Nat, k = i - 1 := ⟨_, rfl⟩
              have hkl : (k : Int) < (js.length : Int) := by omega
              have hk0 : (0 : Int) ≤ (k : Int) := by omega
              have hi0 : (0 : Int) < (i : Int) := by omega
              obtain ⟨ad2, ea2, hp0, hp1, hp2, hp3⟩ := at_T34 HR.out (k : Int) (by omega) hkl
              cases ea2
              have hp0 := (B6.out.cell (World.block_lt_of_cell? w _ hp0)).trans hp0
              have hp1 := (B6.out.cell (World.block_lt_of_cell? w _ hp1)).trans hp1
              clear hp2 hp3
              rw [Int.toNat_natCast] at hp0 hp1
              obtain ⟨p, hp⟩ : ∃ p : JobT, p = jrd js k := ⟨_, rfl⟩
              rw [show rd_T34 js (k : Int) = p from hp.symm] at hp0 hp1
              have HPK : Aside0 (p = jrd js (i - 1)) := ⟨by rw [hp, hk]⟩
              have hw2 : IntKind.i64.wrap ((i : Int) - 1) = (k : Int) := by rw [IntKind.wrap_i64]; omega
              have HW2 := Aside0.mk hw2
              have Hi0 := Aside0.mk (show decide (i = 0) = false from decide_eq_false (by omega))
              clear hp hw2 hk
              have two : ∀ b, bhd p j = b → ordOk l0 js i = !b := fun b hb => by unfold ordOk; rw [← HJ.out, ← HPK.out, Q1.out, Q2.out, Q3.out, Hi0.out, hb]; simp
              have TWO := Aside0.mk two
              clear two
              by_cases ha : p.f1 > j.f1
              · have F := Aside0.mk (NO.out (TWO.out true (by unfold bhd; rw [decide_eq_true ha]; rfl)))
                have ha1 : decide (p.f1 > j.f1) = true := decide_eq_true ha
                have hw2 := HW2.out
                go_quiet (fail)
                clear hw2
                go_wp2
                go_ret
                exact ⟨by rw [F.out]; rfl, pw_below_drewN B6.out _⟩
              · have ha1 : decide (p.f1 > j.f1) = false := decide_eq_false ha
                by_cases hb : p.f1 = j.f1
                · by_cases hc : p.f0 ≥ j.f0
                  · have F := Aside0.mk (NO.out (TWO.out true (by unfold bhd; rw [decide_eq_true hb, decide_eq_true hc, Bool.and_self, Bool.or_true])))
                    have hb1 : (p.f1 == j.f1) = true := by simpa using hb
                    have hb2 : decide (p.f1 = j.f1) = true := decide_eq_true hb
                    have hc1 : decide (p.f0 ≥ j.f0) = true := decide_eq_true hc
                    clear hb
                    have hw2 := HW2.out
                    go_quiet (fail)
                    clear hw2
                    go_wp2
                    go_ret
                    exact ⟨by rw [F.out]; rfl, pw_below_drewN B6.out _⟩
                  · have ONE := Aside0.mk (TWO.out false (by unfold bhd; rw [decide_eq_false ha, decide_eq_false hc, Bool.and_false]; rfl))
                    have hb1 : (p.f1 == j.f1) = true := by simpa using hb
                    have hb2 : decide (p.f1 = j.f1) = true := decide_eq_true hb
                    have hc1 : decide (p.f0 ≥ j.f0) = false := decide_eq_false hc
                    clear hb
                    have hw2 := HW2.out
                    go_quiet (fail)
                    clear hw2
                    go_wp2
                    go_roundg (js.length - (i + 1))
                    case measure => omega
                    case rel => exact ⟨i + 1, by go_num, by omega, by omega, ⟨pw_below_drewN B6.out _⟩, ⟨by rw [allB, OK.out, ONE.out]; rfl⟩⟩
                · have ONE := Aside0.mk (TWO.out false (by unfold bhd; rw [decide_eq_false ha, decide_eq_false hb]; rfl))
                  have hb1 : (p.f1 == j.f1) = false := by simpa using hb
                  have hb2 : decide (p.f1 = j.f1) = false := decide_eq_false hb
                  have hw2 := HW2.out
                  go_quiet (fail)
                  clear hw2
                  go_wp2
                  go_roundg (js.length - (i + 1))
                  case measure => omega
                  case rel => exact ⟨i + 1, by go_num, by omega, by omega, ⟨pw_below_drewN B6.out _⟩, ⟨by rw [allB, OK.out, ONE.out]; rfl⟩⟩
    · have hltz : ¬ (i : Int) < (js.length : Int) := by omega
      go_wp2
      go_ret
      exact ⟨by rw [show i = js.length by omega] at OK; unfold ordB; rw [OK.out]; rfl, BW.out⟩

end Go.Proofs.Ytkdfjomhichkoaa.P
-- Laid by a program of this work.
namespace Go.Proofs.Ytkdfjomhichkoaa.P
open Go.RowKit Go.Proofs.YtkdfjomhichkoaaW.PrintWords Go.Proofs.YtkdfjomhichkoaaW.PrintLast Go.Proofs.YtkdfjomhichkoaaW.PrintMore
attribute [local go_sem] max2_int min2_int max_two min_two max_three min_three max_four min_four   -- for this text's walks alone
set_option linter.unusedVariables false
set_option linter.unusedSimpArgs false

-- by hand
-- NEEDS Derived.Maps.OwnSet
-- NEEDS Derived.Maps.OwnOps
-- NEEDS Derived.Carry
/-! Legal release patterns, by hand: the distance of one task's jobs, kept in a map. -/
theorem spc_law : Go.Maps.Keyed Try.prog 3 := Go.Maps.int_keyed Try.underlying3
theorem spc_zero (w : World) : (zeroValue 3).run Try.prog w = .ok (.int .i64 0) w := by kernel_rfl
/-- The release of the last job of a task among the first i. -/
def lastOf (js : List JobT) : Nat → Int → Option Int
  | 0, _ => none
  | i + 1, k => if (jrd js i).f0 = k then some (jrd js i).f1 else lastOf js i k
def spcOk (l : List TaskT) (js : List JobT) (i : Nat) : Bool :=
  match lastOf js i (jrd js i).f0 with
  | none => true
  | some b => !(decide (wrap64 ((jrd js i).f1 - b) < (trd l (jrd js i).f0).f2))
def spcB (l : List TaskT) (js : List JobT) : Bool := allB (spcOk l js) js.length
def Ds (js : List JobT) : Nat → DataW Unit
  | 0 => .map []
  | i + 1 => (Ds js i).put (.int .i64 (jrd js i).f0) (.lit (.int .i64 (jrd js i).f1))
theorem map_below {w w1 : World} {P : Program} {k : TypeId} {R : Value → Option (DataW Unit × List MemPlace)} {b n : Nat} {D : DataW Unit} (h : w.ownsMap P k R b n D) (hb : Below w.heap.size w w1) : w1.ownsMap P k R b n D := by
  obtain ⟨es, clock, h1, h2⟩ := h
  exact ⟨es, clock, (hb.block b (Array.getElem?_eq_some_iff.1 h1).1).trans h1, h2⟩
theorem Ds_map (js : List JobT) : ∀ i, Go.Maps.IsMap (Ds js i)
  | 0 => Go.Maps.isMap_empty
  | i + 1 => (Ds_map js i).put _ _
theorem Ds_has (js : List JobT) (k : Int) : ∀ i, Go.Maps.has (Ds js i) (.int .i64 k) = (lastOf js i k).isSome
  | 0 => rfl
  | i + 1 => by
    rw [Ds, lastOf]
    by_cases h : (jrd js i).f0 = k
    · rw [if_pos h, h, Go.Maps.has_put_same (Ds_map js i) (show Go.WideAt.IsKeyLit (.int .i64 k) from trivial)]; rfl
    · rw [if_neg h, Go.Maps.has_put_other (fun e => h (by injection e with _ e; exact e.symm)), Ds_has js k i]
theorem Ds_at (js : List JobT) (k b : Int) (z : DataW Unit) : ∀ i, lastOf js i k = some b → (Ds js i).atKey (.int .i64 k) z = .lit (.int .i64 b)
  | 0, h => by simp [lastOf] at h
  | i + 1, h => by
    rw [lastOf] at h
    rw [Ds]
    by_cases e : (jrd js i).f0 = k
    · rw [if_pos e] at h
      rw [e, Go.Maps.atKey_put_same (Ds_map js i) (show Go.WideAt.IsKeyLit (.int .i64 k) from trivial), Option.some.inj h]
    · rw [if_neg e] at h
      rw [Go.Maps.atKey_put_other (fun e2 => e (by injection e2 with _ e2; exact e2.symm)), Ds_at js k b z i h]
set_option maxHeartbeats 16000000 in
set_option maxRecDepth 100000 in
theorem spaced_calls (tn mn : Nat) (ml : Array Value) (et : ∀ args w, (callFunc tn args).run Try.prog w = .ok (.enter tn args) w) (em : ∀ args w, (callFunc mn args).run Try.prog w = .ok (.enter mn args) w) (hne : tn ≠ mn) (l0 : List TaskT) (A : Option Addr) (c : Nat) (js : List JobT) (hjl : js.length ≤ 1000000000)
    (hid : ∀ i, i < js.length → 0 ≤ (jrd js i).f0 ∧ (jrd js i).f0 < (l0.length : Int)) (hrel : ∀ i, i < js.length → 0 ≤ (jrd js i).f1 ∧ (jrd js i).f1 ≤ 119) (hll : l0.length ≤ 1000000000) (w : World)
    (ht : ∀ (W : World) (j : JobT), Below w.heap.size w W → Calls Try.prog tn #[.agg #[.int .i64 j.f0, .int .i64 j.f1, .int .i64 j.f2, .int .i64 j.f3]] W fun e w' => e = .returned (.int .i64 j.f1) ∧ Below W.heap.size W w')
    (hm : ∀ (W : World) (a : Int), Below w.heap.size w W → 0 ≤ a → a < (l0.length : Int) → Calls Try.prog mn (#[.int .i64 a] ++ ml) W fun e w' => e = .returned (.int .i64 (trd l0 a).f2) ∧ ∃ q, w' = W.drewN q) (hr : Kd.C k34 w A js.length js) :
    Calls Try.prog 93 #[.slice A js.length c, .func (.func tn) #[] #[], .func (.func mn) #[] ml] w fun e w' => e = .returned (.bool (spcB l0 js)) ∧ Below w.heap.size w w' := by
  have HT := Aside0.mk ht
  have HMM := Aside0.mk hm
  have HR := Aside0.mk hr
  have HID := Aside0.mk hid
  have HRL := Aside0.mk hrel
  have hmm := @run_makeMap Try.prog
  clear ht hm hr hid hrel
  go_enter Try.func93, Try.ntmps93
  go_wp2
  go_loopg [16] js.length (fun gg v16 wr => ∃ i : Nat, v16 = .int .i64 i ∧ i ≤ js.length ∧ js.length - i ≤ gg ∧ Aside0 (Below w.heap.size w wr) ∧ Aside0 (wr.ownsMap Try.prog 3 (plainElem Try.prog 3) w.heap.size i (Ds js i)) ∧ Aside0 (allB (spcOk l0 js) i = true))
  case atStart => exact ⟨0, by go_num, by omega, by omega, ⟨(Below.refl _ _).alloc (Nat.le_refl _) _⟩, ⟨World.ownsMap_made _ _ _ _⟩, ⟨rfl⟩⟩
  case round =>
    obtain ⟨i, rfl, hil, hgg, BW, OM, OK⟩ := hrel
    by_cases hlt : i < js.length
    · have hltz : (i : Int) < (js.length : Int) := by omega
      obtain ⟨ad, ea, hx0, hx1, hx2, hx3⟩ := at_T34 HR.out (i : Int) (by omega) hltz
      cases ea
      have hy0 := (BW.out.cell (World.block_lt_of_cell? w _ hx0)).trans hx0
      have hy1 := (BW.out.cell (World.block_lt_of_cell? w _ hx1)).trans hx1
      have hy2 := (BW.out.cell (World.block_lt_of_cell? w _ hx2)).trans hx2
      have hy3 := (BW.out.cell (World.block_lt_of_cell? w _ hx3)).trans hx3
      clear hx0 hx1 hx2 hx3
      rw [Int.toNat_natCast] at hy0 hy1 hy2 hy3
      have hb0 := HID.out i hlt
      have hb1 := HRL.out i hlt
      obtain ⟨j, hj⟩ : ∃ j : JobT, j = jrd js i := ⟨_, rfl⟩
      rw [show rd_T34 js (i : Int) = j from hj.symm] at hy0 hy1 hy2 hy3
      rw [← hj] at hb0 hb1
      have HJ := Aside0.mk hj
      clear hj
      have WF := Aside0.mk (show (Lit.int .i64 j.f0).wf = true from WalkArith.wf_i64 (by omega))
      have WF1 := Aside0.mk (show (Lit.int .i64 j.f1).wf = true from WalkArith.wf_i64 (by omega))
      have KEY := Aside0.mk (Go.Maps.keyOf_int_mk Try.underlying3 WF.out)
      obtain ⟨z, hz⟩ : ∃ z, (trd l0 j.f0).f2 = z := ⟨_, rfl⟩
      have HM := Aside0.mk (fun (W : World) (hb : Below w.heap.size w W) => HMM.out W j.f0 hb hb0.1 hb0.2)
      rw [hz] at HM
      have HZ := Aside0.mk hz
      clear hz hb0 hb1
      have no : spcOk l0 js i = false → spcB l0 js = false := fun h => by unfold spcB; exact allB_false h _ hlt
      have NO := Aside0.mk no
      clear no
      cases hl : lastOf js i j.f0 with
      | none =>
        have HH := Aside0.mk (show Go.Maps.has (Ds js i) (.int .i64 j.f0) = false by rw [Ds_has, hl]; rfl)
        have ONE := Aside0.mk (show spcOk l0 js i = true by unfold spcOk; rw [← HJ.out, hl])
        clear hl
        go_wp2_with (first | (go_at_fn tn; refine (HT.out _ j (below_alloc BW.out _)).mono ?_; rintro e w2 ⟨rfl, hb2⟩; have B2 := Aside0.mk (below_step (below_alloc BW.out _) hb2); have O2 := Aside0.mk (map_below (OM.out.alloc _) hb2); have j0 : w2.cell? ⟨wr.heap.size, 0, none⟩ = some (.int .i64 j.f0) := (hb2.cell (p := ⟨wr.heap.size, 0, none⟩) (by simp)).trans (by simp); clear hb2) | (at_lookup; refine wpList_lookup_own_ok_int _ rfl _ _ 122 rfl 3 3 .i64 spc_law Try.underlying122 Try.underlying3 (spc_zero _) w.heap.size i _ rfl O2.out _ _ rfl KEY.out ?_; intro c hat hwc; rw [HH.out]; clear hat hwc) | (at_mapUpdate; refine wpList_mapUpdate_own _ rfl _ _ _ 122 rfl 3 3 spc_law Try.underlying122 _ w.heap.size i _ rfl O2.out (by unfold maxLen; omega) _ _ _ rfl rfl KEY.out _ [] (plainElem_int Try.underlying3 WF1.out) ?_; intro w4 hown4 hgrow4))
        · have B4 := Aside0.mk ((B2.out).grown hgrow4 (B2.out).size (fun k hk => by cases hk; exact Nat.le_refl _))
          have O4 := Aside0.mk hown4
          clear hown4 hgrow4
          go_wp2
          go_roundg (js.length - (i + 1))
          case measure => omega
          case rel => exact ⟨i + 1, by go_num, by omega, by omega, B4, ⟨by rw [Ds, ← HJ.out]; exact O4.out⟩, ⟨by rw [allB, OK.out, ONE.out]; rfl⟩⟩
      | some b =>
        have HH := Aside0.mk (show Go.Maps.has (Ds js i) (.int .i64 j.f0) = true by rw [Ds_has, hl]; rfl)
        have HA := Aside0.mk (Ds_at js j.f0 b (.lit (.int .i64 0)) i hl)
        by_cases hc : wrap64 (j.f1 - b) < z
        · have F := Aside0.mk (NO.out (by unfold spcOk; rw [← HJ.out, hl]; show (!(decide (wrap64 (j.f1 - b) < (trd l0 j.f0).f2))) = false; rw [HZ.out, decide_eq_true hc]; rfl))
          have hc1 : decide (wrap64 (j.f1 - b) < z) = true := decide_eq_true hc
          clear hl
          go_wp2_with (first | (go_at_fn tn; refine (HT.out _ j (below_alloc BW.out _)).mono ?_; rintro e w2 ⟨rfl, hb2⟩; have B2 := Aside0.mk (below_step (below_alloc BW.out _) hb2); have O2 := Aside0.mk (map_below (OM.out.alloc _) hb2); have j0 : w2.cell? ⟨wr.heap.size, 0, none⟩ = some (.int .i64 j.f0) := (hb2.cell (p := ⟨wr.heap.size, 0, none⟩) (by simp)).trans (by simp); clear hb2) | (at_lookup; refine wpList_lookup_own_ok_int _ rfl _ _ 122 rfl 3 3 .i64 spc_law Try.underlying122 Try.underlying3 (spc_zero _) w.heap.size i _ rfl O2.out _ _ rfl KEY.out ?_; intro c hat hwc; rw [HH.out]; (obtain rfl : c = b := by (have e := HA.out.symm.trans hat; injection e with e; injection e with _ e; exact e.symm)); clear hat hwc) | (go_at_fn mn; refine (HM.out _ B2.out).mono ?_; rintro e w3 ⟨rfl, ⟨q, rfl⟩⟩))
          go_ret
          exact ⟨by rw [F.out]; rfl, pw_below_drewN B2.out _⟩
        · have ONE := Aside0.mk (show spcOk l0 js i = true by unfold spcOk; rw [← HJ.out, hl]; show (!(decide (wrap64 (j.f1 - b) < (trd l0 j.f0).f2))) = true; rw [HZ.out, decide_eq_false hc]; rfl)
          have hc1 : decide (wrap64 (j.f1 - b) < z) = false := decide_eq_false hc
          clear hl
          go_wp2_with (first | (go_at_fn tn; refine (HT.out _ j (below_alloc BW.out _)).mono ?_; rintro e w2 ⟨rfl, hb2⟩; have B2 := Aside0.mk (below_step (below_alloc BW.out _) hb2); have O2 := Aside0.mk (map_below (OM.out.alloc _) hb2); have j0 : w2.cell? ⟨wr.heap.size, 0, none⟩ = some (.int .i64 j.f0) := (hb2.cell (p := ⟨wr.heap.size, 0, none⟩) (by simp)).trans (by simp); clear hb2) | (at_lookup; refine wpList_lookup_own_ok_int _ rfl _ _ 122 rfl 3 3 .i64 spc_law Try.underlying122 Try.underlying3 (spc_zero _) w.heap.size i _ rfl O2.out _ _ rfl KEY.out ?_; intro c hat hwc; rw [HH.out]; (obtain rfl : c = b := by (have e := HA.out.symm.trans hat; injection e with e; injection e with _ e; exact e.symm)); clear hat hwc) | (go_at_fn mn; refine (HM.out _ B2.out).mono ?_; rintro e w3 ⟨rfl, ⟨q, rfl⟩⟩) | (at_mapUpdate; refine wpList_mapUpdate_own _ rfl _ _ _ 122 rfl 3 3 spc_law Try.underlying122 _ w.heap.size i _ rfl (map_below O2.out (pw_below_drewN (Below.refl _ _) _)) (by unfold maxLen; omega) _ _ _ rfl rfl KEY.out _ [] (plainElem_int Try.underlying3 WF1.out) ?_; intro w4 hown4 hgrow4))
          have B4 := Aside0.mk ((pw_below_drewN B2.out _).grown hgrow4 (pw_below_drewN B2.out _).size (fun k hk => by cases hk; exact Nat.le_refl _))
          have O4 := Aside0.mk hown4
          clear hown4 hgrow4
          go_wp2
          go_roundg (js.length - (i + 1))
          case measure => omega
          case rel => exact ⟨i + 1, by go_num, by omega, by omega, B4, ⟨by rw [Ds, ← HJ.out]; exact O4.out⟩, ⟨by rw [allB, OK.out, ONE.out]; rfl⟩⟩
    · have hltz : ¬ (i : Int) < (js.length : Int) := by omega
      go_wp2
      go_ret
      exact ⟨by rw [show i = js.length by omega] at OK; unfold spcB; rw [OK.out]; rfl, BW.out⟩

end Go.Proofs.Ytkdfjomhichkoaa.P
-- Laid by a program of this work.
namespace Go.Proofs.Ytkdfjomhichkoaa.P
open Go.RowKit Go.Proofs.YtkdfjomhichkoaaW.PrintWords Go.Proofs.YtkdfjomhichkoaaW.PrintLast Go.Proofs.YtkdfjomhichkoaaW.PrintMore
attribute [local go_sem] max2_int min2_int max_two min_two max_three min_three max_four min_four   -- for this text's walks alone
set_option linter.unusedVariables false
set_option linter.unusedSimpArgs false

-- by hand
/-- The first place of which p holds, or -1. -/
def idxOf {α : Type} (p : α → Bool) (l : List α) : Int := match l.findIdx? p with
  | some i => (i : Int)
  | none => -1
theorem idxOf_hit {α : Type} (p : α → Bool) (l : List α) (k : Nat) (hk : k < l.length) (hp : p l[k] = true) (hn : ∀ j (h : j < k), p (l[j]'(by omega)) = false) : idxOf p l = (k : Int) := by
  have : l.findIdx? p = some k := by
    rw [List.findIdx?_eq_some_iff_getElem]
    exact ⟨hk, hp, fun j hj => by simp [hn j hj]⟩
  unfold idxOf
  rw [this]
theorem idxOf_miss {α : Type} (p : α → Bool) (l : List α) (hn : ∀ j (h : j < l.length), p l[j] = false) : idxOf p l = -1 := by
  have : l.findIdx? p = none := by
    rw [List.findIdx?_eq_none_iff]
    intro x hx
    obtain ⟨j, hj, rfl⟩ := List.getElem_of_mem hx
    exact hn j hj
  unfold idxOf
  rw [this]
theorem idxOf_any {α : Type} (p : α → Bool) (l : List α) : decide (0 ≤ idxOf p l) = l.any p := by
  unfold idxOf
  cases h : l.findIdx? p with
  | none =>
    rw [List.findIdx?_eq_none_iff] at h
    have : l.any p = false := by
      rw [List.any_eq_false]
      intro x hx
      simp [h x hx]
    rw [this]
    rfl
  | some i =>
    rw [List.findIdx?_eq_some_iff_getElem] at h
    obtain ⟨hi, hp, _⟩ := h
    have : l.any p = true := List.any_eq_true.2 ⟨_, List.getElem_mem hi, hp⟩
    rw [this]
    exact decide_eq_true (show (0 : Int) ≤ (i : Int) by omega)

end Go.Proofs.Ytkdfjomhichkoaa.P
-- Laid by a program of this work.
namespace Go.Proofs.Ytkdfjomhichkoaa.P
open Go.RowKit Go.Proofs.YtkdfjomhichkoaaW.PrintWords Go.Proofs.YtkdfjomhichkoaaW.PrintLast Go.Proofs.YtkdfjomhichkoaaW.PrintMore
attribute [local go_sem] max2_int min2_int max_two min_two max_three min_three max_four min_four   -- for this text's walks alone
set_option linter.unusedVariables false
set_option linter.unusedSimpArgs false

-- by hand
set_option maxHeartbeats 2000000 in
set_option maxRecDepth 100000 in
/-- slices.IndexFunc at []Job, whatever the predicate. -/
theorem idxJob_calls (p : S34 → Bool) (g : Nat) (lb : Array Value) (eg : ∀ args w, (callFunc g args).run Try.prog w = .ok (.enter g args) w) (A : Option Addr) (c : Nat) (l : List S34) (w : World)
    (hp : ∀ (W : World) (x : S34), x ∈ l → Below w.heap.size w W → Calls Try.prog g (#[.agg #[.int .i64 x.f0, .int .i64 x.f1, .int .i64 x.f2, .int .i64 x.f3]] ++ lb) W fun e w' => e = .returned (.bool (p x)) ∧ Below W.heap.size W w')
    (hr : Kd.C k34 w A l.length l) :
    Calls Try.prog 113 #[.slice A l.length c, .func (.func g) #[] lb] w fun e w' => e = .returned (.int .i64 (idxOf p l)) ∧ Below w.heap.size w w' := by
  have hbig := Aside0.mk (Kd.C_max hr)
  have HR := Aside0.mk hr
  have HP := Aside0.mk hp
  clear hr hp
  go_enter Try.func113, Try.ntmps113
  go_wp2
  go_loopg [5, 8] l.length (fun gg _ s8 wr => ∃ kk : Nat, kk ≤ l.length ∧ l.length - kk ≤ gg ∧ s8 = .int .i64 kk ∧ Aside0 (Below w.heap.size w wr) ∧ Aside0 (∀ j (h : j < kk) (h2 : j < l.length), p l[j] = false))
  case atStart => exact ⟨0, Nat.zero_le _, by omega, rfl, ⟨Below.refl _ w⟩, ⟨fun j hj => absurd hj (Nat.not_lt_zero _)⟩⟩
  case round =>
    obtain ⟨kk, hkk, hg, rfl, BW, N⟩ := hrel
    by_cases hlt : kk < l.length
    · have hltz : (kk : Int) < (l.length : Int) := by omega
      have hb1 := hbig.out
      obtain ⟨ad, ea, hx0, hx1, hx2, hx3⟩ := at_T34 HR.out (kk : Int) (by omega) hltz
      cases ea
      have hy0 := (BW.out.cell (World.block_lt_of_cell? w _ hx0)).trans hx0
      have hy1 := (BW.out.cell (World.block_lt_of_cell? w _ hx1)).trans hx1
      have hy2 := (BW.out.cell (World.block_lt_of_cell? w _ hx2)).trans hx2
      have hy3 := (BW.out.cell (World.block_lt_of_cell? w _ hx3)).trans hx3
      have er : rd_T34 l (kk : Int) = l[kk] := by rw [rd_T34, List.getD_eq_getElem?_getD, Int.toNat_natCast, List.getElem?_eq_getElem hlt]; rfl
      rw [er, Int.toNat_natCast] at hy0 hy1 hy2 hy3
      have hcall := HP.out wr l[kk] (List.getElem_mem hlt) BW.out
      generalize hy : l[kk] = y at hy0 hy1 hy2 hy3 hcall
      have Y := Aside0.mk hy
      clear hy hx0 hx1 hx2 hx3 er
      cases hq : p y with
      | true =>
        rw [hq] at hcall
        go_wp2_with (go_at_fn g; refine hcall.mono ?_; rintro e w' ⟨rfl, hb'⟩)
        go_ret
        refine ⟨?_, Below.trans BW.out (hb'.mono BW.out.size)⟩
        rw [idxOf_hit p l kk hlt (by rw [Y.out]; exact hq) (fun j hj => N.out j hj (by omega))]
        rfl
      | false =>
        rw [hq] at hcall
        go_wp2_with (go_at_fn g; refine hcall.mono ?_; rintro e w' ⟨rfl, hb'⟩)
        go_roundg (l.length - (kk + 1))
        case measure => omega
        case rel =>
          refine ⟨kk + 1, by omega, by omega, by go_num, ⟨Below.trans BW.out (hb'.mono BW.out.size)⟩, ⟨fun j hj hj2 => ?_⟩⟩
          by_cases e : j = kk
          · subst e
            rw [Y.out]; exact hq
          · exact N.out j (by omega) hj2
    · have hltz : ¬ (kk : Int) < (l.length : Int) := by omega
      go_wp2
      go_ret
      refine ⟨?_, BW.out⟩
      rw [idxOf_miss p l (fun j hj => N.out j (by omega) hj)]
      rfl
set_option maxHeartbeats 2000000 in
set_option maxRecDepth 100000 in
/-- slices.ContainsFunc at []Job, whatever the predicate. -/
theorem anyJob_calls (p : S34 → Bool) (g : Nat) (lb : Array Value) (eg : ∀ args w, (callFunc g args).run Try.prog w = .ok (.enter g args) w) (A : Option Addr) (c : Nat) (l : List S34) (w : World)
    (hp : ∀ (W : World) (x : S34), x ∈ l → Below w.heap.size w W → Calls Try.prog g (#[.agg #[.int .i64 x.f0, .int .i64 x.f1, .int .i64 x.f2, .int .i64 x.f3]] ++ lb) W fun e w' => e = .returned (.bool (p x)) ∧ Below W.heap.size W w')
    (hr : Kd.C k34 w A l.length l) :
    Calls Try.prog 96 #[.slice A l.length c, .func (.func g) #[] lb] w fun e w' => e = .returned (.bool (l.any p)) ∧ Below w.heap.size w w' := by
  have Y := Aside0.mk (idxOf_any p l)
  have h := Aside0.mk (fun W (hW : W = w) => idxJob_calls p g lb eg A c l W (by subst hW; exact hp) (by subst hW; exact hr))
  clear hp hr eg
  go_enter Try.func96, Try.ntmps96
  go_wp2_with (go_at_call 113; refine (h.out _ rfl).mono ?_; rintro e w' ⟨rfl, hb'⟩)
  go_ret
  exact ⟨by rw [← Y.out]; rfl, hb'⟩

end Go.Proofs.Ytkdfjomhichkoaa.P
-- Laid by a program of this work.
namespace Go.Proofs.Ytkdfjomhichkoaa.P
open Go.RowKit Go.Proofs.YtkdfjomhichkoaaW.PrintWords Go.Proofs.YtkdfjomhichkoaaW.PrintLast Go.Proofs.YtkdfjomhichkoaaW.PrintMore
attribute [local go_sem] max2_int min2_int max_two min_two max_three min_three max_four min_four   -- for this text's walks alone
set_option linter.unusedVariables false
set_option linter.unusedSimpArgs false

-- by hand
set_option maxHeartbeats 2000000 in
set_option maxRecDepth 100000 in
/-- slices.IndexFunc at []Task, whatever the predicate. -/
theorem idxTask_calls (p : S88 → Bool) (g : Nat) (lb : Array Value) (eg : ∀ args w, (callFunc g args).run Try.prog w = .ok (.enter g args) w) (A : Option Addr) (c : Nat) (l : List S88) (w : World)
    (hp : ∀ (W : World) (x : S88), Below w.heap.size w W → Calls Try.prog g (#[.agg #[.int .i64 x.f0, .int .i64 x.f1, .int .i64 x.f2]] ++ lb) W fun e w' => e = .returned (.bool (p x)) ∧ Below W.heap.size W w')
    (hr : Kd.C k88 w A l.length l) :
    Calls Try.prog 115 #[.slice A l.length c, .func (.func g) #[] lb] w fun e w' => e = .returned (.int .i64 (idxOf p l)) ∧ Below w.heap.size w w' := by
  have hbig := Aside0.mk (Kd.C_max hr)
  have HR := Aside0.mk hr
  have HP := Aside0.mk hp
  clear hr hp
  go_enter Try.func115, Try.ntmps115
  go_wp2
  go_loopg [5, 8] l.length (fun gg _ s8 wr => ∃ kk : Nat, kk ≤ l.length ∧ l.length - kk ≤ gg ∧ s8 = .int .i64 kk ∧ Aside0 (Below w.heap.size w wr) ∧ Aside0 (∀ j (h : j < kk) (h2 : j < l.length), p l[j] = false))
  case atStart => exact ⟨0, Nat.zero_le _, by omega, rfl, ⟨Below.refl _ w⟩, ⟨fun j hj => absurd hj (Nat.not_lt_zero _)⟩⟩
  case round =>
    obtain ⟨kk, hkk, hg, rfl, BW, N⟩ := hrel
    by_cases hlt : kk < l.length
    · have hltz : (kk : Int) < (l.length : Int) := by omega
      have hb1 := hbig.out
      obtain ⟨ad, ea, hx0, hx1, hx2⟩ := at_T88 HR.out (kk : Int) (by omega) hltz
      cases ea
      have hy0 := (BW.out.cell (World.block_lt_of_cell? w _ hx0)).trans hx0
      have hy1 := (BW.out.cell (World.block_lt_of_cell? w _ hx1)).trans hx1
      have hy2 := (BW.out.cell (World.block_lt_of_cell? w _ hx2)).trans hx2
      have er : rd_T88 l (kk : Int) = l[kk] := by rw [rd_T88, List.getD_eq_getElem?_getD, Int.toNat_natCast, List.getElem?_eq_getElem hlt]; rfl
      rw [er, Int.toNat_natCast] at hy0 hy1 hy2
      have hcall := HP.out wr l[kk] BW.out
      generalize hy : l[kk] = y at hy0 hy1 hy2 hcall
      have Y := Aside0.mk hy
      clear hy hx0 hx1 hx2 er
      cases hq : p y with
      | true =>
        rw [hq] at hcall
        go_wp2_with (go_at_fn g; refine hcall.mono ?_; rintro e w' ⟨rfl, hb'⟩)
        go_ret
        refine ⟨?_, Below.trans BW.out (hb'.mono BW.out.size)⟩
        rw [idxOf_hit p l kk hlt (by rw [Y.out]; exact hq) (fun j hj => N.out j hj (by omega))]
        rfl
      | false =>
        rw [hq] at hcall
        go_wp2_with (go_at_fn g; refine hcall.mono ?_; rintro e w' ⟨rfl, hb'⟩)
        go_roundg (l.length - (kk + 1))
        case measure => omega
        case rel =>
          refine ⟨kk + 1, by omega, by omega, by go_num, ⟨Below.trans BW.out (hb'.mono BW.out.size)⟩, ⟨fun j hj hj2 => ?_⟩⟩
          by_cases e : j = kk
          · subst e
            rw [Y.out]; exact hq
          · exact N.out j (by omega) hj2
    · have hltz : ¬ (kk : Int) < (l.length : Int) := by omega
      go_wp2
      go_ret
      refine ⟨?_, BW.out⟩
      rw [idxOf_miss p l (fun j hj => N.out j (by omega) hj)]
      rfl
set_option maxHeartbeats 2000000 in
set_option maxRecDepth 100000 in
/-- slices.ContainsFunc at []Task, whatever the predicate. -/
theorem anyTask_calls (p : S88 → Bool) (g : Nat) (lb : Array Value) (eg : ∀ args w, (callFunc g args).run Try.prog w = .ok (.enter g args) w) (A : Option Addr) (c : Nat) (l : List S88) (w : World)
    (hp : ∀ (W : World) (x : S88), Below w.heap.size w W → Calls Try.prog g (#[.agg #[.int .i64 x.f0, .int .i64 x.f1, .int .i64 x.f2]] ++ lb) W fun e w' => e = .returned (.bool (p x)) ∧ Below W.heap.size W w')
    (hr : Kd.C k88 w A l.length l) :
    Calls Try.prog 104 #[.slice A l.length c, .func (.func g) #[] lb] w fun e w' => e = .returned (.bool (l.any p)) ∧ Below w.heap.size w w' := by
  have Y := Aside0.mk (idxOf_any p l)
  have h := Aside0.mk (fun W (hW : W = w) => idxTask_calls p g lb eg A c l W (by subst hW; exact hp) (by subst hW; exact hr))
  clear hp hr eg
  go_enter Try.func104, Try.ntmps104
  go_wp2_with (go_at_call 115; refine (h.out _ rfl).mono ?_; rintro e w' ⟨rfl, hb'⟩)
  go_ret
  exact ⟨by rw [← Y.out]; rfl, hb'⟩

end Go.Proofs.Ytkdfjomhichkoaa.P
-- Laid by a program of this work.
namespace Go.Proofs.Ytkdfjomhichkoaa.P
open Go.RowKit Go.Proofs.YtkdfjomhichkoaaW.PrintWords Go.Proofs.YtkdfjomhichkoaaW.PrintLast Go.Proofs.YtkdfjomhichkoaaW.PrintMore
attribute [local go_sem] max2_int min2_int max_two min_two max_three min_three max_four min_four   -- for this text's walks alone
set_option linter.unusedVariables false
set_option linter.unusedSimpArgs false

/-! ### impl_TaskValid: function 59 -/
def impl_TaskValid.f (a0_0 : Int) (a0_1 : Int) (a0_2 : Int) : Option (Bool) := (impl_in.f a0_0 1 8).bind fun t289 => (if t289 = true then ((impl_in.f a0_1 a0_0 a0_2).bind fun t290 => (if t290 = true then (some (decide (a0_2 ≤ 12))) else (some false))) else (some false))
set_option maxHeartbeats 8000000 in
set_option maxRecDepth 100000 in
theorem impl_TaskValid.calls (a0_0 : Int) (a0_1 : Int) (a0_2 : Int) (r : Bool) (w : World) (h : impl_TaskValid.f a0_0 a0_1 a0_2 = some r) :
  Calls Try.prog 59 #[.agg #[.int .i64 a0_0, .int .i64 a0_1, .int .i64 a0_2]] w fun e w' => e = .returned (.bool r) ∧ Below w.heap.size w w' := by
 have hu88 := Try.underlying88
 have HB := Aside0.mk (Below.refl w.heap.size w)
 have H : ((impl_in.f a0_0 1 8).bind fun t289 => (if t289 = true then ((impl_in.f a0_1 a0_0 a0_2).bind fun t290 => (if t290 = true then (some (decide (a0_2 ≤ 12))) else (some false))) else (some false))) = some r := h
 clear h
 replace H := Option.bind_eq_some_iff.mp H
 obtain ⟨t289, A20, H⟩ := H
 replace H : (if t289 = true then ((impl_in.f a0_1 a0_0 a0_2).bind fun t290 => (if t290 = true then (some (decide (a0_2 ≤ 12))) else (some false))) else (some false)) = some r := H
 have A2 := Aside0.mk A20
 clear A20
 by_cases c3 : t289 = true
 ·subst c3
  have H1 : ((impl_in.f a0_1 a0_0 a0_2).bind fun t290 => (if t290 = true then (some (decide (a0_2 ≤ 12))) else (some false))) = some r := by rw [if_pos rfl] at H; exact H
  clear H
  have H := H1
  clear H1
  replace H := Option.bind_eq_some_iff.mp H
  obtain ⟨t290, A40, H⟩ := H
  replace H : (if t290 = true then (some (decide (a0_2 ≤ 12))) else (some false)) = some r := H
  have A4 := Aside0.mk A40
  clear A40
  by_cases c5 : t290 = true
  ·subst c5
   have H1 : (some (decide (a0_2 ≤ 12))) = some r := by rw [if_pos rfl] at H; exact H
   clear H
   have H := H1
   clear H1
   obtain rfl := Option.some.inj H
   go_enter Try.func59, Try.ntmps59
   go_wp2_with (first | ((with_reducible refine gate_dst (N := 1) rfl ?_); refine box_event ?hg (N := 1) ?hd (cs := #[.int .i64 a0_0, .int .i64 a0_1, .int .i64 a0_2]) (t := 88) ?hr ?_; (case hd => rfl); (case hg => rfl); (case hr => first | (go_simp; done) | (go_simp; rfl)); intro gb288 hg w6 hbox hb; have n0_ := Aside0.mk (below_step (by repeat (first | (with_reducible first | exact HB.out | apply below_alloc | apply pw_below_drewN | apply below_drew1) | exact HB.out)) hb); have n1_ := Aside0.mk (hbox); have n2_ := Aside0.mk ((by rw [hg]; exact (below_size (by repeat (first | (with_reducible first | exact HB.out | apply below_alloc | apply pw_below_drewN | apply below_drew1) | exact HB.out))) : w.heap.size ≤ gb288)); have n3_ := Aside0.mk ((by rw [hg]; exact (below_size (by repeat (first | (with_reducible first | exact HB.out | apply below_alloc | apply pw_below_drewN | apply below_drew1) | exact HB.out))) : w.heap.size ≤ gb288)); clear HB; have HB := n0_; have BK288 := n1_; have GW288 := n2_; have GE288 := n3_; clear n0_ n1_ n2_ n3_; clear hb hbox hg; have hcz7_0 : w6.cell? ⟨gb288, 0, none⟩ = some (.int .i64 a0_0) := (blk_cell BK288.out 0).trans rfl; have hcz7_1 : w6.cell? ⟨gb288, 1, none⟩ = some (.int .i64 a0_1) := (blk_cell BK288.out 1).trans rfl; have hcz7_2 : w6.cell? ⟨gb288, 2, none⟩ = some (.int .i64 a0_2) := (blk_cell BK288.out 2).trans rfl; have hfz7_0 := blk_frozen BK288.out 0; have hfz7_1 := blk_frozen BK288.out 1; have hfz7_2 := blk_frozen BK288.out 2) | ((with_reducible refine gate_callee (f := 103) rfl ?_); refine goesL_ (some 5) rfl rfl Try.func103 (by kernel_rfl) rfl #[.int .i64 a0_0, .int .i64 1, .int .i64 8] rfl (by (try simp only [List.map_toArray, List.map_cons, List.map_nil]); first | done | rfl | (simp only [List.length_drop, List.length_take]; rfl)) ?_; (with_reducible refine (impl_in.calls a0_0 1 8 true _ A2.out).mono ?_); rintro e w' ⟨rfl, ⟨nd, rfl⟩⟩; refine ⟨_, rfl, ?_⟩) | (go_at_call 103; (with_reducible refine (impl_in.calls a0_1 a0_0 a0_2 true _ A4.out).mono ?_); rintro e w' ⟨rfl, ⟨nd, rfl⟩⟩))
   go_ret
   exact ⟨by first | rfl | (simp [errW_none, errW_some] <;> rfl) | (simp [*, errW_none, errW_some] <;> rfl), by repeat (first | (with_reducible first | exact HB.out | apply below_alloc | apply pw_below_drewN | apply below_drew1 | refine below_set ?_ GE288.out) | exact HB.out)⟩
  ·replace c5 := Bool.eq_false_iff.mpr c5
   subst c5
   have H1 : (some false) = some r := by rw [if_neg (show ¬ (false = true) by decide)] at H; exact H
   clear H
   have H := H1
   clear H1
   obtain rfl := Option.some.inj H
   go_enter Try.func59, Try.ntmps59
   go_wp2_with (first | ((with_reducible refine gate_dst (N := 1) rfl ?_); refine box_event ?hg (N := 1) ?hd (cs := #[.int .i64 a0_0, .int .i64 a0_1, .int .i64 a0_2]) (t := 88) ?hr ?_; (case hd => rfl); (case hg => rfl); (case hr => first | (go_simp; done) | (go_simp; rfl)); intro gb288 hg w8 hbox hb; have n0_ := Aside0.mk (below_step (by repeat (first | (with_reducible first | exact HB.out | apply below_alloc | apply pw_below_drewN | apply below_drew1) | exact HB.out)) hb); have n1_ := Aside0.mk (hbox); have n2_ := Aside0.mk ((by rw [hg]; exact (below_size (by repeat (first | (with_reducible first | exact HB.out | apply below_alloc | apply pw_below_drewN | apply below_drew1) | exact HB.out))) : w.heap.size ≤ gb288)); have n3_ := Aside0.mk ((by rw [hg]; exact (below_size (by repeat (first | (with_reducible first | exact HB.out | apply below_alloc | apply pw_below_drewN | apply below_drew1) | exact HB.out))) : w.heap.size ≤ gb288)); clear HB; have HB := n0_; have BK288 := n1_; have GW288 := n2_; have GE288 := n3_; clear n0_ n1_ n2_ n3_; clear hb hbox hg; have hcz9_0 : w8.cell? ⟨gb288, 0, none⟩ = some (.int .i64 a0_0) := (blk_cell BK288.out 0).trans rfl; have hcz9_1 : w8.cell? ⟨gb288, 1, none⟩ = some (.int .i64 a0_1) := (blk_cell BK288.out 1).trans rfl; have hcz9_2 : w8.cell? ⟨gb288, 2, none⟩ = some (.int .i64 a0_2) := (blk_cell BK288.out 2).trans rfl; have hfz9_0 := blk_frozen BK288.out 0; have hfz9_1 := blk_frozen BK288.out 1; have hfz9_2 := blk_frozen BK288.out 2) | ((with_reducible refine gate_callee (f := 103) rfl ?_); refine goesL_ (some 5) rfl rfl Try.func103 (by kernel_rfl) rfl #[.int .i64 a0_0, .int .i64 1, .int .i64 8] rfl (by (try simp only [List.map_toArray, List.map_cons, List.map_nil]); first | done | rfl | (simp only [List.length_drop, List.length_take]; rfl)) ?_; (with_reducible refine (impl_in.calls a0_0 1 8 true _ A2.out).mono ?_); rintro e w' ⟨rfl, ⟨nd, rfl⟩⟩; refine ⟨_, rfl, ?_⟩) | (go_at_call 103; (with_reducible refine (impl_in.calls a0_1 a0_0 a0_2 false _ A4.out).mono ?_); rintro e w' ⟨rfl, ⟨nd, rfl⟩⟩))
   go_ret
   exact ⟨by first | rfl | (simp [errW_none, errW_some] <;> rfl) | (simp [*, errW_none, errW_some] <;> rfl), by repeat (first | (with_reducible first | exact HB.out | apply below_alloc | apply pw_below_drewN | apply below_drew1 | refine below_set ?_ GE288.out) | exact HB.out)⟩
 ·replace c3 := Bool.eq_false_iff.mpr c3
  subst c3
  have H1 : (some false) = some r := by rw [if_neg (show ¬ (false = true) by decide)] at H; exact H
  clear H
  have H := H1
  clear H1
  obtain rfl := Option.some.inj H
  go_enter Try.func59, Try.ntmps59
  go_wp2_with (first | ((with_reducible refine gate_dst (N := 1) rfl ?_); refine box_event ?hg (N := 1) ?hd (cs := #[.int .i64 a0_0, .int .i64 a0_1, .int .i64 a0_2]) (t := 88) ?hr ?_; (case hd => rfl); (case hg => rfl); (case hr => first | (go_simp; done) | (go_simp; rfl)); intro gb288 hg w10 hbox hb; have n0_ := Aside0.mk (below_step (by repeat (first | (with_reducible first | exact HB.out | apply below_alloc | apply pw_below_drewN | apply below_drew1) | exact HB.out)) hb); have n1_ := Aside0.mk (hbox); have n2_ := Aside0.mk ((by rw [hg]; exact (below_size (by repeat (first | (with_reducible first | exact HB.out | apply below_alloc | apply pw_below_drewN | apply below_drew1) | exact HB.out))) : w.heap.size ≤ gb288)); have n3_ := Aside0.mk ((by rw [hg]; exact (below_size (by repeat (first | (with_reducible first | exact HB.out | apply below_alloc | apply pw_below_drewN | apply below_drew1) | exact HB.out))) : w.heap.size ≤ gb288)); clear HB; have HB := n0_; have BK288 := n1_; have GW288 := n2_; have GE288 := n3_; clear n0_ n1_ n2_ n3_; clear hb hbox hg; have hcz11_0 : w10.cell? ⟨gb288, 0, none⟩ = some (.int .i64 a0_0) := (blk_cell BK288.out 0).trans rfl; have hcz11_1 : w10.cell? ⟨gb288, 1, none⟩ = some (.int .i64 a0_1) := (blk_cell BK288.out 1).trans rfl; have hcz11_2 : w10.cell? ⟨gb288, 2, none⟩ = some (.int .i64 a0_2) := (blk_cell BK288.out 2).trans rfl; have hfz11_0 := blk_frozen BK288.out 0; have hfz11_1 := blk_frozen BK288.out 1; have hfz11_2 := blk_frozen BK288.out 2) | ((with_reducible refine gate_callee (f := 103) rfl ?_); refine goesL_ (some 5) rfl rfl Try.func103 (by kernel_rfl) rfl #[.int .i64 a0_0, .int .i64 1, .int .i64 8] rfl (by (try simp only [List.map_toArray, List.map_cons, List.map_nil]); first | done | rfl | (simp only [List.length_drop, List.length_take]; rfl)) ?_; (with_reducible refine (impl_in.calls a0_0 1 8 false _ A2.out).mono ?_); rintro e w' ⟨rfl, ⟨nd, rfl⟩⟩; refine ⟨_, rfl, ?_⟩))
  go_ret
  exact ⟨by first | rfl | (simp [errW_none, errW_some] <;> rfl) | (simp [*, errW_none, errW_some] <;> rfl), by repeat (first | (with_reducible first | exact HB.out | apply below_alloc | apply pw_below_drewN | apply below_drew1 | refine below_set ?_ GE288.out) | exact HB.out)⟩

end Go.Proofs.Ytkdfjomhichkoaa.P
-- Laid by a program of this work.
namespace Go.Proofs.Ytkdfjomhichkoaa.P
open Go.RowKit Go.Proofs.YtkdfjomhichkoaaW.PrintWords Go.Proofs.YtkdfjomhichkoaaW.PrintLast Go.Proofs.YtkdfjomhichkoaaW.PrintMore
attribute [local go_sem] max2_int min2_int max_two min_two max_three min_three max_four min_four   -- for this text's walks alone
set_option linter.unusedVariables false
set_option linter.unusedSimpArgs false

/-! ### impl_SetValid_1: function 109 -/
def impl_SetValid_1.f (a0_0 : Int) (a0_1 : Int) (a0_2 : Int) : Option (Bool) := (impl_TaskValid.f a0_0 a0_1 a0_2).bind fun t292 => (some (!t292))
set_option maxHeartbeats 8000000 in
set_option maxRecDepth 100000 in
theorem impl_SetValid_1.calls (a0_0 : Int) (a0_1 : Int) (a0_2 : Int) (r : Bool) (w : World) (h : impl_SetValid_1.f a0_0 a0_1 a0_2 = some r) :
  Calls Try.prog 109 #[.agg #[.int .i64 a0_0, .int .i64 a0_1, .int .i64 a0_2]] w fun e w' => e = .returned (.bool r) ∧ Below w.heap.size w w' := by
 have hu88 := Try.underlying88
 have HB := Aside0.mk (Below.refl w.heap.size w)
 have H : ((impl_TaskValid.f a0_0 a0_1 a0_2).bind fun t292 => (some (!t292))) = some r := h
 clear h
 replace H := Option.bind_eq_some_iff.mp H
 obtain ⟨t292, A20, H⟩ := H
 replace H : (some (!t292)) = some r := H
 have A2 := Aside0.mk A20
 clear A20
 obtain rfl := Option.some.inj H
 go_enter Try.func109, Try.ntmps109
 go_wp2_with (first | ((with_reducible refine gate_dst (N := 1) rfl ?_); refine box_event ?hg (N := 1) ?hd (cs := #[.int .i64 a0_0, .int .i64 a0_1, .int .i64 a0_2]) (t := 88) ?hr ?_; (case hd => rfl); (case hg => rfl); (case hr => first | (go_simp; done) | (go_simp; rfl)); intro gb291 hg w3 hbox hb; have n0_ := Aside0.mk (below_step (by repeat (first | (with_reducible first | exact HB.out | apply below_alloc | apply pw_below_drewN | apply below_drew1) | exact HB.out)) hb); have n1_ := Aside0.mk (hbox); have n2_ := Aside0.mk ((by rw [hg]; exact (below_size (by repeat (first | (with_reducible first | exact HB.out | apply below_alloc | apply pw_below_drewN | apply below_drew1) | exact HB.out))) : w.heap.size ≤ gb291)); have n3_ := Aside0.mk ((by rw [hg]; exact (below_size (by repeat (first | (with_reducible first | exact HB.out | apply below_alloc | apply pw_below_drewN | apply below_drew1) | exact HB.out))) : w.heap.size ≤ gb291)); clear HB; have HB := n0_; have BK291 := n1_; have GW291 := n2_; have GE291 := n3_; clear n0_ n1_ n2_ n3_; clear hb hbox hg; have hcz4_0 : w3.cell? ⟨gb291, 0, none⟩ = some (.int .i64 a0_0) := (blk_cell BK291.out 0).trans rfl; have hcz4_1 : w3.cell? ⟨gb291, 1, none⟩ = some (.int .i64 a0_1) := (blk_cell BK291.out 1).trans rfl; have hcz4_2 : w3.cell? ⟨gb291, 2, none⟩ = some (.int .i64 a0_2) := (blk_cell BK291.out 2).trans rfl; have hfz4_0 := blk_frozen BK291.out 0; have hfz4_1 := blk_frozen BK291.out 1; have hfz4_2 := blk_frozen BK291.out 2) | ((with_reducible refine gate_callee (f := 59) rfl ?_); refine goesL_ (some 4) rfl rfl Try.func59 (by kernel_rfl) rfl #[.agg #[.int .i64 a0_0, .int .i64 a0_1, .int .i64 a0_2]] rfl (by (try simp only [List.map_toArray, List.map_cons, List.map_nil]); first | done | rfl | (simp only [List.length_drop, List.length_take]; rfl)) ?_; (with_reducible refine (impl_TaskValid.calls a0_0 a0_1 a0_2 t292 _ A2.out).mono ?_); rintro e w5 ⟨rfl, hb⟩; refine ⟨_, rfl, ?_⟩; have n0_ := Aside0.mk (blk_below (g := gb291) (o := .cells #[.int .i64 a0_0, .int .i64 a0_1, .int .i64 a0_2] 88 (0, 0)) (by (with_reducible repeat (first | refine blk_drewN ?_ _ | refine blk_drew ?_ | refine blk_alloc ?_ _)); exact BK291.out) hb); have n1_ := Aside0.mk (below_step (by repeat (first | (with_reducible first | exact HB.out | apply below_alloc | apply pw_below_drewN | apply below_drew1 | refine below_set ?_ GE291.out) | exact HB.out)) hb); clear BK291; clear HB; have BK291 := n0_; have HB := n1_; clear n0_ n1_; (try clear hb); (try clear hb2); (try clear hk); (try clear hi)))
 go_ret
 exact ⟨by first | rfl | (simp [errW_none, errW_some] <;> rfl) | (simp [*, errW_none, errW_some] <;> rfl), by repeat (first | (with_reducible first | exact HB.out | apply below_alloc | apply pw_below_drewN | apply below_drew1 | refine below_set ?_ GE291.out) | exact HB.out)⟩

end Go.Proofs.Ytkdfjomhichkoaa.P
-- Laid by a program of this work.
namespace Go.Proofs.Ytkdfjomhichkoaa.P
open Go.RowKit Go.Proofs.YtkdfjomhichkoaaW.PrintWords Go.Proofs.YtkdfjomhichkoaaW.PrintLast Go.Proofs.YtkdfjomhichkoaaW.PrintMore
attribute [local go_sem] max2_int min2_int max_two min_two max_three min_three max_four min_four   -- for this text's walks alone
set_option linter.unusedVariables false
set_option linter.unusedSimpArgs false

-- slices.ContainsFunc[[]loop.example/deadlinescheduler/impl.Task,loop.example/deadlinescheduler/impl.Task] at loop.example/deadlinescheduler/impl.SetValid$1
def taskOk (x : S88) : Bool := decide (1 ≤ x.f0 ∧ x.f0 ≤ 8 ∧ x.f0 ≤ x.f1 ∧ x.f1 ≤ x.f2 ∧ x.f2 ≤ 12)
def any_tasks.bad (x : S88) : Bool := !(taskOk x)
theorem any_tasks.is (x : S88) : impl_SetValid_1.f x.f0 x.f1 x.f2 = some (any_tasks.bad x) := by
  unfold impl_SetValid_1.f impl_TaskValid.f impl_in.f any_tasks.bad taskOk
  by_cases h1 : x.f0 ≥ 1 <;> by_cases h2 : x.f0 ≤ 8 <;> by_cases h3 : x.f1 ≥ x.f0 <;> by_cases h4 : x.f1 ≤ x.f2 <;> by_cases h5 : x.f2 ≤ 12 <;> simp [h1, h2, h3, h4, h5]
  all_goals first | omega | (intros; omega) | skip
def any_tasks.f (l0 : List S88) : Option Bool := some (l0.any any_tasks.bad)
theorem any_tasks.calls (A0 : Option Addr) (c0 : Nat) (l0 : List S88) (r : Bool) (w : World) (hr0 : Kd.C k88 w A0 l0.length l0) (hc0 : l0.length ≤ c0) (h : any_tasks.f l0 = some r) :
    Calls Try.prog 104 #[.slice A0 l0.length c0, .func (.func 109) #[] #[]] w fun e w' => e = .returned (.bool r) ∧ Below w.heap.size w w' := by
  obtain rfl := Option.some.inj h
  exact anyTask_calls any_tasks.bad 109 #[] (enters_of Try.func109 (by kernel_rfl) rfl) A0 c0 l0 w (fun W' x _ => (impl_SetValid_1.calls x.f0 x.f1 x.f2 _ W' (any_tasks.is x)).mono fun e w' hh => ⟨hh.1, hh.2⟩) hr0

end Go.Proofs.Ytkdfjomhichkoaa.P
-- Laid by a program of this work.
namespace Go.Proofs.Ytkdfjomhichkoaa.P
open Go.RowKit Go.Proofs.YtkdfjomhichkoaaW.PrintWords Go.Proofs.YtkdfjomhichkoaaW.PrintLast Go.Proofs.YtkdfjomhichkoaaW.PrintMore
attribute [local go_sem] max2_int min2_int max_two min_two max_three min_three max_four min_four   -- for this text's walks alone
set_option linter.unusedVariables false
set_option linter.unusedSimpArgs false

/-! ### impl_SetValid: function 76 -/
def impl_SetValid.f (l0 : List (S88)) : Option (Bool) := if (l0.length : Int) ≤ 5 then ((any_tasks.f l0).bind fun t293 => (some (!t293))) else (some false)
set_option maxHeartbeats 8000000 in
set_option maxRecDepth 100000 in
theorem impl_SetValid.calls (A0 : Option Addr) (c0 : Nat) (l0 : List (S88)) (r : Bool) (w : World) (hr0 : Kd.C k88 w A0 l0.length l0) (hc0 : l0.length ≤ c0) (h : impl_SetValid.f l0 = some r) :
  Calls Try.prog 76 #[.slice A0 l0.length c0] w fun e w' => e = .returned (.bool r) ∧ Below w.heap.size w w' := by
 have HR0 := Aside0.mk hr0
 have HC0 := Aside0.mk hc0
 clear hr0 hc0
 have HB := Aside0.mk (Below.refl w.heap.size w)
 have H : (if (l0.length : Int) ≤ 5 then ((any_tasks.f l0).bind fun t293 => (some (!t293))) else (some false)) = some r := h
 clear h
 by_cases c2 : (l0.length : Int) ≤ 5
 ·rw [if_pos c2] at H
  have c2b0 : decide ((l0.length : Int) ≤ 5) = true := decide_eq_true c2
  have c2b1 : decide (l0.length ≤ 5) = true := decide_eq_true (by omega)
  clear c2
  replace H := Option.bind_eq_some_iff.mp H
  obtain ⟨t293, A30, H⟩ := H
  replace H : (some (!t293)) = some r := H
  have A3 := Aside0.mk A30
  clear A30
  obtain rfl := Option.some.inj H
  go_enter Try.func76, Try.ntmps76
  go_wp2_with (first | (go_at_call 104; (with_reducible refine (any_tasks.calls _ _ l0  t293 _ ?side1 ?side2 A3.out).mono ?_); (case side1 => repeat (first | exact HR0.out | (with_reducible refine Kd.C_alloc ?_ _) | (with_reducible refine Kd.C_drewN ?_ _) | (with_reducible refine Kd.C_drew ?_))); (case side2 => exact HC0.out); rintro e w4 ⟨rfl, hb⟩; have n0_ := Aside0.mk (below_step (by repeat (first | (with_reducible first | exact HB.out | apply below_alloc | apply pw_below_drewN | apply below_drew1) | exact HB.out)) hb); clear HB; have HB := n0_; clear n0_; (try clear hb); (try clear hb2); (try clear hk); (try clear hi)))
  go_ret
  exact ⟨by first | rfl | (simp [errW_none, errW_some] <;> rfl) | (simp [*, errW_none, errW_some] <;> rfl), by repeat (first | (with_reducible first | exact HB.out | apply below_alloc | apply pw_below_drewN | apply below_drew1) | exact HB.out)⟩
 ·rw [if_neg c2] at H
  have c2b0 : decide ((l0.length : Int) ≤ 5) = false := decide_eq_false c2
  have c2b1 : decide (l0.length ≤ 5) = false := decide_eq_false (by omega)
  clear c2
  obtain rfl := Option.some.inj H
  go_enter Try.func76, Try.ntmps76
  go_wp2
  go_ret
  exact ⟨by first | rfl | (simp [errW_none, errW_some] <;> rfl) | (simp [*, errW_none, errW_some] <;> rfl), by repeat (first | (with_reducible first | exact HB.out | apply below_alloc | apply pw_below_drewN | apply below_drew1) | exact HB.out)⟩

end Go.Proofs.Ytkdfjomhichkoaa.P
-- Laid by a program of this work.
namespace Go.Proofs.Ytkdfjomhichkoaa.P
open Go.RowKit Go.Proofs.YtkdfjomhichkoaaW.PrintWords Go.Proofs.YtkdfjomhichkoaaW.PrintLast Go.Proofs.YtkdfjomhichkoaaW.PrintMore
attribute [local go_sem] max2_int min2_int max_two min_two max_three min_three max_four min_four   -- for this text's walks alone
set_option linter.unusedVariables false
set_option linter.unusedSimpArgs false

/-! ### impl_release: function 94 -/
def impl_release.f (a0_0 : Int) (a0_1 : Int) (a0_2 : Int) (a0_3 : Int) : Option (Int) := some a0_1
set_option maxHeartbeats 8000000 in
set_option maxRecDepth 100000 in
theorem impl_release.calls (a0_0 : Int) (a0_1 : Int) (a0_2 : Int) (a0_3 : Int) (r : Int) (w : World) (h : impl_release.f a0_0 a0_1 a0_2 a0_3 = some r) :
  Calls Try.prog 94 #[.agg #[.int .i64 a0_0, .int .i64 a0_1, .int .i64 a0_2, .int .i64 a0_3]] w fun e w' => e = .returned (.int .i64 r) ∧ Below w.heap.size w w' := by
 have hu34 := Try.underlying34
 have HB := Aside0.mk (Below.refl w.heap.size w)
 have H : (some a0_1) = some r := h
 clear h
 obtain rfl := Option.some.inj H
 go_enter Try.func94, Try.ntmps94
 go_wp2_with (first | ((with_reducible refine gate_dst (N := 1) rfl ?_); refine box_event ?hg (N := 1) ?hd (cs := #[.int .i64 a0_0, .int .i64 a0_1, .int .i64 a0_2, .int .i64 a0_3]) (t := 34) ?hr ?_; (case hd => rfl); (case hg => rfl); (case hr => first | (go_simp; done) | (go_simp; rfl)); intro gb294 hg w2 hbox hb; have n0_ := Aside0.mk (below_step (by repeat (first | (with_reducible first | exact HB.out | apply below_alloc | apply pw_below_drewN | apply below_drew1) | exact HB.out)) hb); have n1_ := Aside0.mk (hbox); have n2_ := Aside0.mk ((by rw [hg]; exact (below_size (by repeat (first | (with_reducible first | exact HB.out | apply below_alloc | apply pw_below_drewN | apply below_drew1) | exact HB.out))) : w.heap.size ≤ gb294)); have n3_ := Aside0.mk ((by rw [hg]; exact (below_size (by repeat (first | (with_reducible first | exact HB.out | apply below_alloc | apply pw_below_drewN | apply below_drew1) | exact HB.out))) : w.heap.size ≤ gb294)); clear HB; have HB := n0_; have BK294 := n1_; have GW294 := n2_; have GE294 := n3_; clear n0_ n1_ n2_ n3_; clear hb hbox hg; have hcz3_0 : w2.cell? ⟨gb294, 0, none⟩ = some (.int .i64 a0_0) := (blk_cell BK294.out 0).trans rfl; have hcz3_1 : w2.cell? ⟨gb294, 1, none⟩ = some (.int .i64 a0_1) := (blk_cell BK294.out 1).trans rfl; have hcz3_2 : w2.cell? ⟨gb294, 2, none⟩ = some (.int .i64 a0_2) := (blk_cell BK294.out 2).trans rfl; have hcz3_3 : w2.cell? ⟨gb294, 3, none⟩ = some (.int .i64 a0_3) := (blk_cell BK294.out 3).trans rfl; have hfz3_0 := blk_frozen BK294.out 0; have hfz3_1 := blk_frozen BK294.out 1; have hfz3_2 := blk_frozen BK294.out 2; have hfz3_3 := blk_frozen BK294.out 3))
 go_ret
 exact ⟨by first | rfl | (simp [errW_none, errW_some] <;> rfl) | (simp [*, errW_none, errW_some] <;> rfl), by repeat (first | (with_reducible first | exact HB.out | apply below_alloc | apply pw_below_drewN | apply below_drew1 | refine below_set ?_ GE294.out) | exact HB.out)⟩

end Go.Proofs.Ytkdfjomhichkoaa.P
-- Laid by a program of this work.
namespace Go.Proofs.Ytkdfjomhichkoaa.P
open Go.RowKit Go.Proofs.YtkdfjomhichkoaaW.PrintWords Go.Proofs.YtkdfjomhichkoaaW.PrintLast Go.Proofs.YtkdfjomhichkoaaW.PrintMore
attribute [local go_sem] max2_int min2_int max_two min_two max_three min_three max_four min_four   -- for this text's walks alone
set_option linter.unusedVariables false
set_option linter.unusedSimpArgs false

/-! ### impl_JobsLegal: function 48: by hand -/
/-- A legal release pattern. -/
def legB (l : List TaskT) (js : List JobT) : Bool := if ordB l js = true then (if spcB l js = true then !(js.any (lateB l)) else false) else false
theorem ordOk_at {l : List TaskT} {js : List JobT} (h : ordB l js = true) (i : Nat) (hi : i < js.length) : inRng l (jrd js i) = true ∧ relOk (jrd js i) = true := by
  unfold ordB at h
  rw [Bool.and_eq_true] at h
  have := allB_true h.1 i hi
  unfold ordOk at this
  rw [Bool.and_eq_true, Bool.and_eq_true, Bool.and_eq_true] at this
  exact ⟨this.1.1.1, this.1.1.2⟩
def impl_JobsLegal.f (l0 : List S88) (l1 : List S34) : Option Bool := (impl_SetValid.f l0).bind fun t => (if t = true then (if l0.length ≤ 1000000000 ∧ l1.length ≤ 1000000000 then (some (legB l0 l1)) else (none)) else (some false))
set_option maxHeartbeats 16000000 in
set_option maxRecDepth 100000 in
theorem impl_JobsLegal.calls (A0 : Option Addr) (c0 : Nat) (l0 : List S88) (A1 : Option Addr) (c1 : Nat) (l1 : List S34) (r : Bool) (w : World) (hr0 : Kd.C k88 w A0 l0.length l0) (hc0 : l0.length ≤ c0) (hr1 : Kd.C k34 w A1 l1.length l1) (hc1 : l1.length ≤ c1) (h : impl_JobsLegal.f l0 l1 = some r) :
    Calls Try.prog 48 #[.slice A0 l0.length c0, .slice A1 l1.length c1] w fun e w' => e = .returned (.bool r) ∧ Below w.heap.size w w' := by
  unfold impl_JobsLegal.f at h
  have hlen0 : l0.length ≤ 9223372036854775807 := hr0.2.1
  have HR0 := Aside0.mk hr0
  have HC0 := Aside0.mk hc0
  have HR1 := Aside0.mk hr1
  clear hr0 hc0 hr1 hc1
  cases hs : impl_SetValid.f l0 with
  | none => rw [hs] at h; simp at h
  | some t =>
    rw [hs] at h
    have HS := Aside0.mk hs
    clear hs
    have B0 := Aside0.mk (below_alloc (Below.refl w.heap.size w) (.cells #[.slice A0 l0.length c0] 23))
    cases t with
    | false =>
      simp at h
      subst h
      go_enter Try.func48, Try.ntmps48
      go_wp2_with (go_at_call 76; refine (impl_SetValid.calls A0 c0 l0 false _ (Kd.C_below HR0.out B0.out) HC0.out HS.out).mono ?_; rintro e w1 ⟨rfl, hb⟩; have HB := Aside0.mk (below_step B0.out hb); clear hb)
      go_ret
      exact ⟨rfl, HB.out⟩
    | true =>
      simp only [Option.bind_some, if_true] at h
      by_cases hl : l0.length ≤ 1000000000 ∧ l1.length ≤ 1000000000
      · rw [if_pos hl] at h
        obtain rfl := Option.some.inj h
        clear h
        obtain ⟨hl0, hl1⟩ := hl
        have cellB : ∀ W, Below (w.alloc (.cells #[.slice A0 l0.length c0] 23)).heap.size (w.alloc (.cells #[.slice A0 l0.length c0] 23)) W → W.cell? ⟨w.heap.size, 0, none⟩ = some (.slice A0 l0.length c0) := fun W hb => (hb.cell (p := ⟨w.heap.size, 0, none⟩) (by simp)).trans (by simp)
        have CB := Aside0.mk cellB
        clear cellB
        have HO := Aside0.mk (fun (W1 : World) (hb1 : Below (w.alloc (.cells #[.slice A0 l0.length c0] 23)).heap.size (w.alloc (.cells #[.slice A0 l0.length c0] 23)) W1) =>
          ordered_calls 92 #[.pointer (some ⟨w.heap.size, 0, none⟩)] (enters_of Try.func92 (by kernel_rfl) rfl) l0 A1 c1 l1 hl1 hl0 W1
            (fun W a hb h0 h1 => (jl1_calls A0 c0 l0 ⟨w.heap.size, 0, none⟩ a h0 h1 W (CB.out W (below_then hb1 hb1.size hb)) (Kd.C_below (Kd.C_below HR0.out B0.out) (below_then hb1 hb1.size hb))).mono fun e w' hh => ⟨hh.1, hh.2.out⟩) (Kd.C_below (Kd.C_below HR1.out B0.out) hb1))
        have HP := Aside0.mk (fun (hord : ordB l0 l1 = true) (W1 : World) (hb1 : Below (w.alloc (.cells #[.slice A0 l0.length c0] 23)).heap.size (w.alloc (.cells #[.slice A0 l0.length c0] 23)) W1) =>
          spaced_calls 94 95 #[.pointer (some ⟨w.heap.size, 0, none⟩)] (enters_of Try.func94 (by kernel_rfl) rfl) (enters_of Try.func95 (by kernel_rfl) rfl) (by decide) l0 A1 c1 l1 hl1
            (fun i hi => by have h1 := (ordOk_at hord i hi).1; unfold inRng at h1; have h1 := of_decide_eq_true h1; omega) (fun i hi => by have h1 := (ordOk_at hord i hi).2; unfold relOk at h1; exact of_decide_eq_true h1) hl0 W1
            (fun W j _ => (impl_release.calls j.f0 j.f1 j.f2 j.f3 _ W rfl).mono fun e w' hh => ⟨hh.1, hh.2⟩)
            (fun W a hb h0 h1 => (jl2_calls A0 c0 l0 ⟨w.heap.size, 0, none⟩ a h0 h1 W (CB.out W (below_then hb1 hb1.size hb)) (Kd.C_below (Kd.C_below HR0.out B0.out) (below_then hb1 hb1.size hb))).mono fun e w' hh => ⟨hh.1, hh.2.out⟩) (Kd.C_below (Kd.C_below HR1.out B0.out) hb1))
        have HL := Aside0.mk (fun (hord : ordB l0 l1 = true) (W1 : World) (hb1 : Below (w.alloc (.cells #[.slice A0 l0.length c0] 23)).heap.size (w.alloc (.cells #[.slice A0 l0.length c0] 23)) W1) =>
          anyJob_calls (lateB l0) 97 #[.pointer (some ⟨w.heap.size, 0, none⟩)] (enters_of Try.func97 (by kernel_rfl) rfl) A1 c1 l1 W1
            (fun W x hx hb => by
              obtain ⟨i, hi, rfl⟩ := List.getElem_of_mem hx
              have h1 := (ordOk_at hord i hi).1
              have e : jrd l1 i = l1[i] := by unfold jrd rd_T34; rw [List.getD_eq_getElem?_getD, Int.toNat_natCast, List.getElem?_eq_getElem hi]; rfl
              rw [e] at h1
              unfold inRng at h1
              have h1 := of_decide_eq_true h1
              exact jl3_calls A0 c0 l0 ⟨w.heap.size, 0, none⟩ l1[i] h1.1 (by omega) W (CB.out W (below_then hb1 hb1.size hb)) (Kd.C_below (Kd.C_below HR0.out B0.out) (below_then hb1 hb1.size hb))) (Kd.C_below (Kd.C_below HR1.out B0.out) hb1))
        unfold legB
        cases ho : ordB l0 l1 with
        | false =>
          rw [ho] at HO
          rw [if_neg (by simp)]
          clear ho HP HL
          go_enter Try.func48, Try.ntmps48
          go_wp2_with (first
            | (go_at_call 76; refine (impl_SetValid.calls A0 c0 l0 true _ (Kd.C_below HR0.out B0.out) HC0.out HS.out).mono ?_; rintro e w1 ⟨rfl, hb⟩; have HB := Aside0.mk hb; have hcell := CB.out w1 hb; clear hb)
            | (go_at_call 91; refine (HO.out _ HB.out).mono ?_; rintro e w2 ⟨rfl, hb⟩; have HB2 := Aside0.mk (below_then HB.out HB.out.size hb); have hcell2 := CB.out w2 HB2.out; clear hb))
          go_ret
          exact ⟨rfl, below_then B0.out B0.out.size HB2.out⟩
        | true =>
          rw [ho] at HO
          rw [if_pos rfl]
          have HP2 := Aside0.mk (HP.out ho)
          have HL2 := Aside0.mk (HL.out ho)
          clear ho HP HL
          cases hp : spcB l0 l1 with
          | false =>
            rw [hp] at HP2
            rw [if_neg (by simp)]
            clear hp
            go_enter Try.func48, Try.ntmps48
            go_wp2_with (first
              | (go_at_call 76; refine (impl_SetValid.calls A0 c0 l0 true _ (Kd.C_below HR0.out B0.out) HC0.out HS.out).mono ?_; rintro e w1 ⟨rfl, hb⟩; have HB := Aside0.mk hb; have hcell := CB.out w1 hb; clear hb)
              | (go_at_call 91; refine (HO.out _ HB.out).mono ?_; rintro e w2 ⟨rfl, hb⟩; have HB2 := Aside0.mk (below_then HB.out HB.out.size hb); have hcell2 := CB.out w2 HB2.out; clear hb)
              | (go_at_call 93; refine (HP2.out _ HB2.out).mono ?_; rintro e w3 ⟨rfl, hb⟩; have HB3 := Aside0.mk (below_then HB2.out HB2.out.size hb); have hcell3 := CB.out w3 HB3.out; clear hb))
            go_ret
            exact ⟨rfl, below_then B0.out B0.out.size HB3.out⟩
          | true =>
            rw [hp] at HP2
            rw [if_pos rfl]
            clear hp
            obtain ⟨v, hv⟩ : ∃ v, l1.any (lateB l0) = v := ⟨_, rfl⟩
            rw [hv] at HL2 ⊢
            clear hv
            go_enter Try.func48, Try.ntmps48
            go_wp2_with (first
              | (go_at_call 76; refine (impl_SetValid.calls A0 c0 l0 true _ (Kd.C_below HR0.out B0.out) HC0.out HS.out).mono ?_; rintro e w1 ⟨rfl, hb⟩; have HB := Aside0.mk hb; have hcell := CB.out w1 hb; clear hb)
              | (go_at_call 91; refine (HO.out _ HB.out).mono ?_; rintro e w2 ⟨rfl, hb⟩; have HB2 := Aside0.mk (below_then HB.out HB.out.size hb); have hcell2 := CB.out w2 HB2.out; clear hb)
              | (go_at_call 93; refine (HP2.out _ HB2.out).mono ?_; rintro e w3 ⟨rfl, hb⟩; have HB3 := Aside0.mk (below_then HB2.out HB2.out.size hb); have hcell3 := CB.out w3 HB3.out; clear hb)
              | (go_at_call 96; refine (HL2.out _ HB3.out).mono ?_; rintro e w4 ⟨rfl, hb⟩; have HB4 := Aside0.mk (below_then HB3.out HB3.out.size hb); clear hb))
            go_ret
            exact ⟨rfl, below_then B0.out B0.out.size HB4.out⟩
      · rw [if_neg hl] at h
        cases h

end Go.Proofs.Ytkdfjomhichkoaa.P
-- Laid by a program of this work.
namespace Go.Proofs.Ytkdfjomhichkoaa.P
open Go.RowKit Go.Proofs.YtkdfjomhichkoaaW.PrintWords Go.Proofs.YtkdfjomhichkoaaW.PrintLast Go.Proofs.YtkdfjomhichkoaaW.PrintMore
attribute [local go_sem] max2_int min2_int max_two min_two max_three min_three max_four min_four   -- for this text's walks alone
set_option linter.unusedVariables false
set_option linter.unusedSimpArgs false

/-! ### impl_RunNonPreemptive: function 12: by hand -/
def impl_RunNonPreemptive.f (l0 : List S88) (l1 : List S34) : Option (List Int × List Int) := (impl_JobsLegal.f l0 l1).bind fun t => (if t = true then (if l1.length ≤ 1000 then (some (simR (npD l1) l1)) else (none)) else (some ([], [])))
set_option maxHeartbeats 8000000 in
set_option maxRecDepth 100000 in
theorem impl_RunNonPreemptive.calls (A0 : Option Addr) (c0 : Nat) (l0 : List S88) (A1 : Option Addr) (c1 : Nat) (l1 : List S34) (r1 : List Int) (r2 : List Int) (w : World) (hr0 : Kd.C k88 w A0 l0.length l0) (hc0 : l0.length ≤ c0) (hr1 : Kd.C k34 w A1 l1.length l1) (hc1 : l1.length ≤ c1) (h : impl_RunNonPreemptive.f l0 l1 = some (r1, r2)) :
    Calls Try.prog 12 #[.slice A0 l0.length c0, .slice A1 l1.length c1] w fun e w' => ∃ v0_ v1_ : Value, e = .returned (.agg #[v0_, v1_]) ∧ Kd.R (Kd.int .i64) 3 w' w.heap.size (fun k_ => some k_ ≠ (v1_ : Value).ownBlock) v0_ r1 ∧ Kd.R (Kd.int .i64) 3 w' w.heap.size (fun k_ => some k_ ≠ (v0_ : Value).ownBlock) v1_ r2 ∧ Below w.heap.size w w' := by
  unfold impl_RunNonPreemptive.f at h
  have HR0 := Aside0.mk hr0
  have HC0 := Aside0.mk hc0
  have HR1 := Aside0.mk hr1
  have HC1 := Aside0.mk hc1
  clear hr0 hc0 hr1 hc1
  cases hs : impl_JobsLegal.f l0 l1 with
  | none => rw [hs] at h; simp at h
  | some t =>
    rw [hs] at h
    have HS := Aside0.mk hs
    clear hs
    have B0 := Aside0.mk (below_alloc (Below.refl w.heap.size w) (.cells #[.slice none 0 0, .slice none 0 0] 29))
    have K0 := Aside0.mk (blk_new w (.cells #[.slice none 0 0, .slice none 0 0] 29))
    cases t with
    | false =>
      simp at h
      obtain ⟨rfl, rfl⟩ := h
      go_enter Try.func12, Try.ntmps12
      go_wp2_with (go_at_call 48; refine (impl_JobsLegal.calls A0 c0 l0 A1 c1 l1 false _ (Kd.C_below HR0.out B0.out) HC0.out (Kd.C_below HR1.out B0.out) HC1.out HS.out).mono ?_; rintro e w1 ⟨rfl, hb⟩; have BK1 := blk_below K0.out hb; have r0 := (blk_cell BK1 0); have r1 := (blk_cell BK1 1); have f0 := blk_frozen BK1 0; have f1 := blk_frozen BK1 1; have BK := Aside0.mk BK1; have HB := Aside0.mk (below_step B0.out hb); clear hb BK1)
      refine bodyPost_ret (results_cell_row rfl _ _ w.heap.size 29 #[.slice none 0 0, .slice none 0 0] (0, 0) _ rfl (by first | exact BK.out | (refine blk_put (cs := #[.slice none 0 0, .slice none 0 0]) ?_ 1 _ rfl; refine blk_put (cs := #[.slice none 0 0, .slice none 0 0]) ?_ 0 _ rfl; exact BK.out)) Try.underlying29 rfl (by kernel_rfl)) rfl ?_
      exact ⟨_, _, rfl, Kd.R_nil _ _ _ _ _, Kd.R_nil _ _ _ _ _, by first | exact HB.out | exact (HB.out.setCell (Nat.le_refl _) _).setCell (Nat.le_refl _) _⟩
    | true =>
      simp only [Option.bind_some, if_true] at h
      by_cases hl : l1.length ≤ 1000
      · rw [if_pos hl] at h
        have h := Option.some.inj h
        have e1 := congrArg Prod.fst h
        have e2 := congrArg Prod.snd h
        simp only at e1 e2
        subst e1 e2
        clear h
        have S0 := Aside0.mk (show w.heap.size < (w.alloc (.cells #[.slice none 0 0, .slice none 0 0] 29)).heap.size by simp)
        have HSM := Aside0.mk (fun (W : World) (hb1 : Below (w.alloc (.cells #[.slice none 0 0, .slice none 0 0] 29)).heap.size (w.alloc (.cells #[.slice none 0 0, .slice none 0 0] 29)) W) => simulate_calls (npD l1) 50 #[] #[] (enters_of Try.func50 (by kernel_rfl) rfl) A1 c1 l1 W (Kd.C_below (Kd.C_below HR1.out B0.out) hb1) hl (npD_rng l1)
          (fun W2 g D cd dn t htl hb hM => np_calls g A1 c1 l1 D cd dn (t : Int) W2 hM))
        go_enter Try.func12, Try.ntmps12
        go_wp2_with (first
          | (go_at_call 48; refine (impl_JobsLegal.calls A0 c0 l0 A1 c1 l1 true _ (Kd.C_below HR0.out B0.out) HC0.out (Kd.C_below HR1.out B0.out) HC1.out HS.out).mono ?_; rintro e w1 ⟨rfl, hb⟩; have HB := Aside0.mk hb; have BK1 := Aside0.mk (blk_below K0.out hb); clear hb)
          | (go_at_call 49; refine (HSM.out w1 HB.out).mono ?_; rintro e w2 ⟨v0, v1, rfl, hR0, hR1, hb⟩; obtain ⟨X0, y0, ev⟩ := Kd.R_slice hR0; subst ev; obtain ⟨X1, y1, ev⟩ := Kd.R_slice hR1; subst ev; have H0 := Aside0.mk hR0; have H1 := Aside0.mk hR1; have S1 := Aside0.mk (Nat.lt_of_lt_of_le S0.out HB.out.size); have HB2 := Aside0.mk (below_then B0.out B0.out.size (below_then HB.out HB.out.size hb)); have BK2 := blk_below BK1.out hb; have r0 := (blk_cell BK2 0); have r1 := (blk_cell BK2 1); have f0 := blk_frozen BK2 0; have f1 := blk_frozen BK2 1; have BK := Aside0.mk BK2; clear hR0 hR1 hb BK2))
        refine bodyPost_ret (results_cell_row rfl _ _ w.heap.size 29 #[.slice X0 (simR (npD l1) l1).1.length y0, .slice X1 (simR (npD l1) l1).2.length y1] (0, 0) _ rfl (by refine blk_put (cs := #[.slice X0 (simR (npD l1) l1).1.length y0, .slice none 0 0]) ?_ 1 _ rfl; refine blk_put (cs := #[.slice none 0 0, .slice none 0 0]) ?_ 0 _ rfl; exact BK.out) Try.underlying29 rfl (by kernel_rfl)) rfl ?_
        exact ⟨_, _, rfl, Kd.R_lower (Kd.R_mono (R_cells2 S1.out H0.out _ _) (fun k hk => hk.2)) (Nat.le_of_lt S1.out), Kd.R_lower (Kd.R_mono (R_cells2 S1.out H1.out _ _) (fun k hk => hk.2)) (Nat.le_of_lt S1.out), (HB2.out.setCell (Nat.le_refl _) _).setCell (Nat.le_refl _) _⟩
      · rw [if_neg hl] at h
        cases h

end Go.Proofs.Ytkdfjomhichkoaa.P
-- Laid by a program of this work.
namespace Go.Proofs.Ytkdfjomhichkoaa.P
open Go.RowKit Go.Proofs.YtkdfjomhichkoaaW.PrintWords Go.Proofs.YtkdfjomhichkoaaW.PrintLast Go.Proofs.YtkdfjomhichkoaaW.PrintMore
attribute [local go_sem] max2_int min2_int max_two min_two max_three min_three max_four min_four   -- for this text's walks alone
set_option linter.unusedVariables false
set_option linter.unusedSimpArgs false

/-! ### laws_sameInts: function 55 -/
def laws_sameInts.l0 : Nat → List Int → List Int → Int → Option (Bool)
 | 0, _, _, _ => none
 | k + 1, x0, x1, x5 => if x5 < (x0.length : Int) then (if 0 ≤ x5 then (if x5 < (x1.length : Int) then (if (rd x0 x5) = (rd x1 x5) then (laws_sameInts.l0 k x0 x1 (wrap64 (x5 + 1))) else (some false)) else (none)) else (none)) else (some true)
def laws_sameInts.f (k : Nat) (l0 : List Int) (l1 : List Int) : Option (Bool) := if (l0.length : Int) = (l1.length : Int) then (laws_sameInts.l0 k l0 l1 0) else (some false)
theorem laws_sameInts.mono_l : ∀ k, (∀ y0 y1 y2, LeO (laws_sameInts.l0 k y0 y1 y2) (laws_sameInts.l0 (k + 1) y0 y1 y2))
 | 0 => fun _ _ _ r h => by simp [laws_sameInts.l0] at h
 | k + 1 => by
  have ih0 := laws_sameInts.mono_l k
  ·intro y0 y1 y2
   unfold laws_sameInts.l0
   repeat' first
   | (with_reducible exact ih0 _ _ _)
   | (with_reducible exact LeO.refl _)
   | (with_reducible exact LeO.none _)
   | (with_reducible refine LeO.ite ?_ ?_)
   | (with_reducible refine LeO.bind ?_ (fun _ => ?_))
   | exact ih0 _ _ _
   | exact LeO.none _
   | refine LeO.ite ?_ ?_
   | refine LeO.bind ?_ (fun _ => ?_)
theorem laws_sameInts.mono : ∀ a0 a1 k, LeO (laws_sameInts.f k a0 a1) (laws_sameInts.f (k + 1) a0 a1) := by
 intro a0 a1 k
 have ih0 := laws_sameInts.mono_l k
 unfold laws_sameInts.f
 repeat' first
   | (with_reducible exact ih0 _ _ _)
   | (with_reducible exact LeO.refl _)
   | (with_reducible exact LeO.none _)
   | (with_reducible refine LeO.ite ?_ ?_)
   | (with_reducible refine LeO.bind ?_ (fun _ => ?_))
   | exact ih0 _ _ _
   | exact LeO.none _
   | refine LeO.ite ?_ ?_
   | refine LeO.bind ?_ (fun _ => ?_)
set_option maxHeartbeats 8000000 in
set_option maxRecDepth 100000 in
theorem laws_sameInts.calls (k : Nat) (A0 : Option Addr) (c0 : Nat) (l0 : List Int) (A1 : Option Addr) (c1 : Nat) (l1 : List Int) (r : Bool) (w : World) (hr0 : Kd.C (Kd.int .i64) w A0 l0.length l0) (hc0 : l0.length ≤ c0) (hr1 : Kd.C (Kd.int .i64) w A1 l1.length l1) (hc1 : l1.length ≤ c1) (h : laws_sameInts.f k l0 l1 = some r) :
  Calls Try.prog 55 #[.slice A0 l0.length c0, .slice A1 l1.length c1] w fun e w' => e = .returned (.bool r) ∧ Drawn0 w w' := by
 have HR0 := Aside0.mk hr0
 have HC0 := Aside0.mk hc0
 clear hr0 hc0
 have HR1 := Aside0.mk hr1
 have HC1 := Aside0.mk hc1
 clear hr1 hc1
 have H : (if (l0.length : Int) = (l1.length : Int) then (laws_sameInts.l0 k l0 l1 0) else (some false)) = some r := h
 clear h
 by_cases c3 : (l0.length : Int) = (l1.length : Int)
 ·rw [if_pos c3] at H
  have c3b0 : ((l0.length : Int) == (l1.length : Int)) = true := beq_iff_eq.mpr c3
  have c3b1 : ((l0.length : Int) != (l1.length : Int)) = false := bne_eq_false_iff_eq.mpr c3
  have c3b2 : (l0.length == l1.length) = true := by first | simpa using c3 | (simp at c3 ⊢; omega)
  clear c3
  have H' := Aside0.mk H
  clear H
  go_enter Try.func55, Try.ntmps55
  go_wp2
  repeat (go_quiet (fail); try go_wp2)
  go_loopg [5] k (fun kq v5 w' => ∃ (x5_1 : Int), v5 = .int .i64 x5_1 ∧ Aside0 (laws_sameInts.l0 kq l0 l1 x5_1 = some r) ∧ Aside0 (kq ≤ k) ∧ Drawn0 w w')
  case atStart => exact ⟨(0), (by first | rfl | (simp; done) | (simp [*]; done)), H', ⟨Nat.le_refl _⟩, by repeat (first | exact Drawn0.refl _ | apply Drawn0.step)⟩
  case round =>
   clear H'
   try clear c1
   try clear p2
   try clear c3
   try clear c3b0
   try clear c3b1
   try clear c3b2
   obtain ⟨x5_1, rfl, HA, HK1, ⟨m1, rfl⟩⟩ := hrel
   cases gk with
   | zero => exact absurd HA.out (by simp [laws_sameInts.l0])
   | succ k1 =>
    have H := HA.out
    clear HA
    simp only [laws_sameInts.l0] at H
    by_cases c4 : x5_1 < (l0.length : Int)
    ·rw [if_pos c4] at H
     have c4b0 : decide (x5_1 < (l0.length : Int)) = true := decide_eq_true c4
     clear c4
     by_cases c5 : 0 ≤ x5_1
     ·rw [if_pos c5] at H
      have c5b0 : decide (0 ≤ x5_1) = true := decide_eq_true c5
      clear c5
      by_cases c6 : x5_1 < (l1.length : Int)
      ·rw [if_pos c6] at H
       have c6b0 : decide (x5_1 < (l1.length : Int)) = true := decide_eq_true c6
       clear c6
       by_cases c7 : (rd l0 x5_1) = (rd l1 x5_1)
       ·rw [if_pos c7] at H
        have c7b0 : ((rd l0 x5_1) == (rd l1 x5_1)) = true := beq_iff_eq.mpr c7
        have c7b1 : ((rd l0 x5_1) != (rd l1 x5_1)) = false := bne_eq_false_iff_eq.mpr c7
        clear c7
        have H' := Aside0.mk H
        clear H
        have p306 : 0 ≤ (x5_1 : Int) := of_decide_eq_true (by first | (with_reducible assumption) | assumption)
        have q306 : x5_1 < (l0.length : Int) := of_decide_eq_true (by first | (with_reducible assumption) | assumption)
        obtain ⟨ad306, e306, hx306_0⟩ := Kd.at_int HR0.out x5_1 p306 q306
        cases e306
        replace p306 := eq_true p306
        replace q306 := eq_true q306
        have p307 : 0 ≤ (x5_1 : Int) := of_decide_eq_true (by first | (with_reducible assumption) | assumption)
        have q307 : x5_1 < (l1.length : Int) := of_decide_eq_true (by first | (with_reducible assumption) | assumption)
        obtain ⟨ad307, e307, hx307_0⟩ := Kd.at_int HR1.out x5_1 p307 q307
        cases e307
        replace p307 := eq_true p307
        replace q307 := eq_true q307
        go_wp2
        repeat (go_quiet (fail); try go_wp2)
        go_roundg k1
        case measure => have := HK1.out; omega
        case rel => exact ⟨(wrap64 (x5_1 + 1)), (by first | rfl | (simp; done) | (simp [*]; done)), H', ⟨by have := HK1.out; omega⟩, by repeat (first | exact Drawn0.refl _ | apply Drawn0.step)⟩
       ·rw [if_neg c7] at H
        have c7b0 : ((rd l0 x5_1) == (rd l1 x5_1)) = false := beq_eq_false_iff_ne.mpr c7
        have c7b1 : ((rd l0 x5_1) != (rd l1 x5_1)) = true := bne_iff_ne.mpr c7
        obtain rfl := Option.some.inj H
        have p306 : 0 ≤ (x5_1 : Int) := of_decide_eq_true (by first | (with_reducible assumption) | assumption)
        have q306 : x5_1 < (l0.length : Int) := of_decide_eq_true (by first | (with_reducible assumption) | assumption)
        obtain ⟨ad306, e306, hx306_0⟩ := Kd.at_int HR0.out x5_1 p306 q306
        cases e306
        replace p306 := eq_true p306
        replace q306 := eq_true q306
        have p307 : 0 ≤ (x5_1 : Int) := of_decide_eq_true (by first | (with_reducible assumption) | assumption)
        have q307 : x5_1 < (l1.length : Int) := of_decide_eq_true (by first | (with_reducible assumption) | assumption)
        obtain ⟨ad307, e307, hx307_0⟩ := Kd.at_int HR1.out x5_1 p307 q307
        cases e307
        replace p307 := eq_true p307
        replace q307 := eq_true q307
        go_wp2
        repeat (go_quiet (fail); try go_wp2)
        go_ret
        exact ⟨by first | rfl | (simp; done) | (simp [*]; done), by repeat (first | exact Drawn0.refl _ | apply Drawn0.step)⟩
      ·rw [if_neg c6] at H
       exact absurd H (by simp)
     ·rw [if_neg c5] at H
      exact absurd H (by simp)
    ·rw [if_neg c4] at H
     have c4b0 : decide (x5_1 < (l0.length : Int)) = false := decide_eq_false c4
     clear c4
     obtain rfl := Option.some.inj H
     go_wp2
     repeat (go_quiet (fail); try go_wp2)
     go_ret
     exact ⟨by first | rfl | (simp; done) | (simp [*]; done), by repeat (first | exact Drawn0.refl _ | apply Drawn0.step)⟩
 ·rw [if_neg c3] at H
  have c3b0 : ((l0.length : Int) == (l1.length : Int)) = false := beq_eq_false_iff_ne.mpr c3
  have c3b1 : ((l0.length : Int) != (l1.length : Int)) = true := bne_iff_ne.mpr c3
  have c3b2 : (l0.length == l1.length) = false := by first | simpa using c3 | (simp at c3 ⊢; omega)
  obtain rfl := Option.some.inj H
  go_enter Try.func55, Try.ntmps55
  go_wp2
  repeat (go_quiet (fail); try go_wp2)
  go_ret
  exact ⟨by first | rfl | (simp; done) | (simp [*]; done), by repeat (first | exact Drawn0.refl _ | apply Drawn0.step)⟩

end Go.Proofs.Ytkdfjomhichkoaa.P
-- Laid by a program of this work.
namespace Go.Proofs.Ytkdfjomhichkoaa.P
open Go.RowKit Go.Proofs.YtkdfjomhichkoaaW.PrintWords Go.Proofs.YtkdfjomhichkoaaW.PrintLast Go.Proofs.YtkdfjomhichkoaaW.PrintMore
attribute [local go_sem] max2_int min2_int max_two min_two max_three min_three max_four min_four   -- for this text's walks alone
set_option linter.unusedVariables false
set_option linter.unusedSimpArgs false

/-! ### laws_sameSchedule: function 13 -/
def laws_sameSchedule.f (k : Nat) (l0_0 : List Int) (l0_1 : List Int) (l1_0 : List Int) (l1_1 : List Int) : Option (Bool) := (laws_sameInts.f k l0_0 l1_0).bind fun t310 => (if t310 = true then ((laws_sameInts.f k l0_1 l1_1).bind fun t311 => (some t311)) else (some false))
theorem laws_sameSchedule.mono : ∀ a0 a1 a2 a3 k, LeO (laws_sameSchedule.f k a0 a1 a2 a3) (laws_sameSchedule.f (k + 1) a0 a1 a2 a3) := by
 intro a0 a1 a2 a3 k
 unfold laws_sameSchedule.f
 repeat' first
   | (with_reducible exact laws_sameInts.mono _ _ _)
   | (with_reducible exact LeO.refl _)
   | (with_reducible exact LeO.none _)
   | (with_reducible refine LeO.ite ?_ ?_)
   | (with_reducible refine LeO.bind ?_ (fun _ => ?_))
   | exact laws_sameInts.mono _ _ _
   | exact LeO.none _
   | refine LeO.ite ?_ ?_
   | refine LeO.bind ?_ (fun _ => ?_)
set_option maxHeartbeats 8000000 in
set_option maxRecDepth 100000 in
theorem laws_sameSchedule.calls (k : Nat) (A0_0 : Option Addr) (c0_0 : Nat) (l0_0 : List Int) (A0_1 : Option Addr) (c0_1 : Nat) (l0_1 : List Int) (A1_0 : Option Addr) (c1_0 : Nat) (l1_0 : List Int) (A1_1 : Option Addr) (c1_1 : Nat) (l1_1 : List Int) (r : Bool) (w : World) (hr0_0 : Kd.C (Kd.int .i64) w A0_0 l0_0.length l0_0) (hc0_0 : l0_0.length ≤ c0_0) (hr0_1 : Kd.C (Kd.int .i64) w A0_1 l0_1.length l0_1) (hc0_1 : l0_1.length ≤ c0_1) (hr1_0 : Kd.C (Kd.int .i64) w A1_0 l1_0.length l1_0) (hc1_0 : l1_0.length ≤ c1_0) (hr1_1 : Kd.C (Kd.int .i64) w A1_1 l1_1.length l1_1) (hc1_1 : l1_1.length ≤ c1_1) (h : laws_sameSchedule.f k l0_0 l0_1 l1_0 l1_1 = some r) :
  Calls Try.prog 13 #[.agg #[.slice A0_0 l0_0.length c0_0, .slice A0_1 l0_1.length c0_1], .agg #[.slice A1_0 l1_0.length c1_0, .slice A1_1 l1_1.length c1_1]] w fun e w' => e = .returned (.bool r) ∧ Below w.heap.size w w' := by
 have hu29 := Try.underlying29
 have HR0_0 := Aside0.mk hr0_0
 have HC0_0 := Aside0.mk hc0_0
 clear hr0_0 hc0_0
 have HR0_1 := Aside0.mk hr0_1
 have HC0_1 := Aside0.mk hc0_1
 clear hr0_1 hc0_1
 have HR1_0 := Aside0.mk hr1_0
 have HC1_0 := Aside0.mk hc1_0
 clear hr1_0 hc1_0
 have HR1_1 := Aside0.mk hr1_1
 have HC1_1 := Aside0.mk hc1_1
 clear hr1_1 hc1_1
 have HB := Aside0.mk (Below.refl w.heap.size w)
 have H : ((laws_sameInts.f k l0_0 l1_0).bind fun t310 => (if t310 = true then ((laws_sameInts.f k l0_1 l1_1).bind fun t311 => (some t311)) else (some false))) = some r := h
 clear h
 replace H := Option.bind_eq_some_iff.mp H
 obtain ⟨t310, A30, H⟩ := H
 replace H : (if t310 = true then ((laws_sameInts.f k l0_1 l1_1).bind fun t311 => (some t311)) else (some false)) = some r := H
 have A3 := Aside0.mk A30
 clear A30
 by_cases c4 : t310 = true
 ·subst c4
  have H1 : ((laws_sameInts.f k l0_1 l1_1).bind fun t311 => (some t311)) = some r := by rw [if_pos rfl] at H; exact H
  clear H
  have H := H1
  clear H1
  replace H := Option.bind_eq_some_iff.mp H
  obtain ⟨t311, A50, H⟩ := H
  replace H : (some t311) = some r := H
  have A5 := Aside0.mk A50
  clear A50
  obtain rfl := Option.some.inj H
  go_enter Try.func13, Try.ntmps13
  go_wp2_with (first | ((with_reducible refine gate_dst (N := 2) rfl ?_); refine box_event ?hg (N := 2) ?hd (cs := #[.slice A0_0 l0_0.length c0_0, .slice A0_1 l0_1.length c0_1]) (t := 29) ?hr ?_; (case hd => rfl); (case hg => rfl); (case hr => first | (go_simp; done) | (go_simp; rfl)); intro gb308 hg w6 hbox hb; have n0_ := Aside0.mk (below_step (by repeat (first | (with_reducible first | exact HB.out | apply below_alloc | apply pw_below_drewN | apply below_drew1) | exact HB.out)) hb); have n1_ := Aside0.mk (hbox); have n2_ := Aside0.mk ((by rw [hg]; exact (below_size (by repeat (first | (with_reducible first | exact HB.out | apply below_alloc | apply pw_below_drewN | apply below_drew1) | exact HB.out))) : w.heap.size ≤ gb308)); have n3_ := Aside0.mk ((by rw [hg]; exact (below_size (by repeat (first | (with_reducible first | exact HB.out | apply below_alloc | apply pw_below_drewN | apply below_drew1) | exact HB.out))) : w.heap.size ≤ gb308)); clear HB; have HB := n0_; have BK308 := n1_; have GW308 := n2_; have GE308 := n3_; clear n0_ n1_ n2_ n3_; clear hb hbox hg) | ((with_reducible refine gate_dst (N := 3) rfl ?_); refine box_event ?hg (N := 3) ?hd (cs := #[.slice A1_0 l1_0.length c1_0, .slice A1_1 l1_1.length c1_1]) (t := 29) ?hr ?_; (case hd => rfl); (case hg => rfl); (case hr => first | (go_simp; done) | (go_simp; rfl)); intro gb309 hg w7 hbox hb; have n0_ := Aside0.mk (blk_below (g := gb308) (o := .cells #[.slice A0_0 l0_0.length c0_0, .slice A0_1 l0_1.length c0_1] 29 (0, 0)) (by (with_reducible repeat (first | refine blk_drewN ?_ _ | refine blk_drew ?_ | refine blk_alloc ?_ _)); exact BK308.out) hb); have n1_ := Aside0.mk (below_step (by repeat (first | (with_reducible first | exact HB.out | apply below_alloc | apply pw_below_drewN | apply below_drew1 | refine below_set ?_ GE308.out) | exact HB.out)) hb); have n2_ := Aside0.mk (hbox); have n3_ := Aside0.mk ((by rw [hg]; exact (below_size (by repeat (first | (with_reducible first | exact HB.out | apply below_alloc | apply pw_below_drewN | apply below_drew1 | refine below_set ?_ GE308.out) | exact HB.out))) : w.heap.size ≤ gb309)); have n4_ := Aside0.mk ((by rw [hg]; exact (below_size (by repeat (first | (with_reducible first | exact HB.out | apply below_alloc | apply pw_below_drewN | apply below_drew1 | refine below_set ?_ GE308.out) | exact HB.out))) : w.heap.size ≤ gb309)); have n5_ := Aside0.mk ((by rw [hg]; exact Nat.ne_of_lt (blk_lt (g := gb308) (o := .cells #[.slice A0_0 l0_0.length c0_0, .slice A0_1 l0_1.length c0_1] 29 (0, 0)) (by (with_reducible repeat (first | refine blk_drewN ?_ _ | refine blk_drew ?_ | refine blk_alloc ?_ _)); exact BK308.out)) : gb308 ≠ gb309)); have n6_ := Aside0.mk ((by rw [hg]; exact Nat.ne_of_gt (blk_lt (g := gb308) (o := .cells #[.slice A0_0 l0_0.length c0_0, .slice A0_1 l0_1.length c0_1] 29 (0, 0)) (by (with_reducible repeat (first | refine blk_drewN ?_ _ | refine blk_drew ?_ | refine blk_alloc ?_ _)); exact BK308.out)) : gb309 ≠ gb308)); clear BK308; clear HB; have BK308 := n0_; have HB := n1_; have BK309 := n2_; have GW309 := n3_; have GE309 := n4_; have NB308_309 := n5_; have NB309_308 := n6_; clear n0_ n1_ n2_ n3_ n4_ n5_ n6_; clear hb hbox hg; have hnb8 := NB308_309.out; have hnc8 := NB309_308.out; have hcz9_0 : w7.cell? ⟨gb308, 0, none⟩ = some (.slice A0_0 l0_0.length c0_0) := (blk_cell BK308.out 0).trans rfl; have hcz9_1 : w7.cell? ⟨gb308, 1, none⟩ = some (.slice A0_1 l0_1.length c0_1) := (blk_cell BK308.out 1).trans rfl; have hfz9_0 := blk_frozen BK308.out 0; have hfz9_1 := blk_frozen BK308.out 1; have hcz10_0 : w7.cell? ⟨gb309, 0, none⟩ = some (.slice A1_0 l1_0.length c1_0) := (blk_cell BK309.out 0).trans rfl; have hcz10_1 : w7.cell? ⟨gb309, 1, none⟩ = some (.slice A1_1 l1_1.length c1_1) := (blk_cell BK309.out 1).trans rfl; have hfz10_0 := blk_frozen BK309.out 0; have hfz10_1 := blk_frozen BK309.out 1) | ((with_reducible refine gate_callee (f := 55) rfl ?_); refine goesL_ (some 9) rfl rfl Try.func55 (by kernel_rfl) rfl #[.slice A0_0 l0_0.length c0_0, .slice A1_0 l1_0.length c1_0] rfl (by (try simp only [List.map_toArray, List.map_cons, List.map_nil]); first | done | rfl | (simp only [List.length_drop, List.length_take]; rfl)) ?_; (with_reducible refine (laws_sameInts.calls k _ _ l0_0 _ _ l1_0 true _ ?side1 ?side2 ?side3 ?side4 A3.out).mono ?_); (case side1 => repeat (first | exact (Kd.C_below HR0_0.out HB.out) | (with_reducible refine Kd.C_alloc ?_ _) | (with_reducible refine Kd.C_drewN ?_ _) | (with_reducible refine Kd.C_drew ?_))); (case side2 => exact HC0_0.out); (case side3 => repeat (first | exact (Kd.C_below HR1_0.out HB.out) | (with_reducible refine Kd.C_alloc ?_ _) | (with_reducible refine Kd.C_drewN ?_ _) | (with_reducible refine Kd.C_drew ?_))); (case side4 => exact HC1_0.out); rintro e w' ⟨rfl, ⟨nd, rfl⟩⟩; refine ⟨_, rfl, ?_⟩) | (go_at_call 55; (with_reducible refine (laws_sameInts.calls k _ _ l0_1 _ _ l1_1 t311 _ ?side1 ?side2 ?side3 ?side4 A5.out).mono ?_); (case side1 => repeat (first | exact (Kd.C_below HR0_1.out (by repeat (first | (with_reducible first | exact HB.out | apply below_alloc | apply pw_below_drewN | apply below_drew1 | refine below_set ?_ GE308.out | refine below_set ?_ GE309.out) | exact HB.out))) | (with_reducible refine Kd.C_alloc ?_ _) | (with_reducible refine Kd.C_drewN ?_ _) | (with_reducible refine Kd.C_drew ?_))); (case side2 => exact HC0_1.out); (case side3 => repeat (first | exact (Kd.C_below HR1_1.out (by repeat (first | (with_reducible first | exact HB.out | apply below_alloc | apply pw_below_drewN | apply below_drew1 | refine below_set ?_ GE308.out | refine below_set ?_ GE309.out) | exact HB.out))) | (with_reducible refine Kd.C_alloc ?_ _) | (with_reducible refine Kd.C_drewN ?_ _) | (with_reducible refine Kd.C_drew ?_))); (case side4 => exact HC1_1.out); rintro e w' ⟨rfl, ⟨nd, rfl⟩⟩))
  go_ret
  exact ⟨by first | rfl | (simp [errW_none, errW_some] <;> rfl) | (simp [*, errW_none, errW_some] <;> rfl), by repeat (first | (with_reducible first | exact HB.out | apply below_alloc | apply pw_below_drewN | apply below_drew1 | refine below_set ?_ GE308.out | refine below_set ?_ GE309.out) | exact HB.out)⟩
 ·replace c4 := Bool.eq_false_iff.mpr c4
  subst c4
  have H1 : (some false) = some r := by rw [if_neg (show ¬ (false = true) by decide)] at H; exact H
  clear H
  have H := H1
  clear H1
  obtain rfl := Option.some.inj H
  go_enter Try.func13, Try.ntmps13
  go_wp2_with (first | ((with_reducible refine gate_dst (N := 2) rfl ?_); refine box_event ?hg (N := 2) ?hd (cs := #[.slice A0_0 l0_0.length c0_0, .slice A0_1 l0_1.length c0_1]) (t := 29) ?hr ?_; (case hd => rfl); (case hg => rfl); (case hr => first | (go_simp; done) | (go_simp; rfl)); intro gb308 hg w11 hbox hb; have n0_ := Aside0.mk (below_step (by repeat (first | (with_reducible first | exact HB.out | apply below_alloc | apply pw_below_drewN | apply below_drew1) | exact HB.out)) hb); have n1_ := Aside0.mk (hbox); have n2_ := Aside0.mk ((by rw [hg]; exact (below_size (by repeat (first | (with_reducible first | exact HB.out | apply below_alloc | apply pw_below_drewN | apply below_drew1) | exact HB.out))) : w.heap.size ≤ gb308)); have n3_ := Aside0.mk ((by rw [hg]; exact (below_size (by repeat (first | (with_reducible first | exact HB.out | apply below_alloc | apply pw_below_drewN | apply below_drew1) | exact HB.out))) : w.heap.size ≤ gb308)); clear HB; have HB := n0_; have BK308 := n1_; have GW308 := n2_; have GE308 := n3_; clear n0_ n1_ n2_ n3_; clear hb hbox hg) | ((with_reducible refine gate_dst (N := 3) rfl ?_); refine box_event ?hg (N := 3) ?hd (cs := #[.slice A1_0 l1_0.length c1_0, .slice A1_1 l1_1.length c1_1]) (t := 29) ?hr ?_; (case hd => rfl); (case hg => rfl); (case hr => first | (go_simp; done) | (go_simp; rfl)); intro gb309 hg w12 hbox hb; have n0_ := Aside0.mk (blk_below (g := gb308) (o := .cells #[.slice A0_0 l0_0.length c0_0, .slice A0_1 l0_1.length c0_1] 29 (0, 0)) (by (with_reducible repeat (first | refine blk_drewN ?_ _ | refine blk_drew ?_ | refine blk_alloc ?_ _)); exact BK308.out) hb); have n1_ := Aside0.mk (below_step (by repeat (first | (with_reducible first | exact HB.out | apply below_alloc | apply pw_below_drewN | apply below_drew1 | refine below_set ?_ GE308.out) | exact HB.out)) hb); have n2_ := Aside0.mk (hbox); have n3_ := Aside0.mk ((by rw [hg]; exact (below_size (by repeat (first | (with_reducible first | exact HB.out | apply below_alloc | apply pw_below_drewN | apply below_drew1 | refine below_set ?_ GE308.out) | exact HB.out))) : w.heap.size ≤ gb309)); have n4_ := Aside0.mk ((by rw [hg]; exact (below_size (by repeat (first | (with_reducible first | exact HB.out | apply below_alloc | apply pw_below_drewN | apply below_drew1 | refine below_set ?_ GE308.out) | exact HB.out))) : w.heap.size ≤ gb309)); have n5_ := Aside0.mk ((by rw [hg]; exact Nat.ne_of_lt (blk_lt (g := gb308) (o := .cells #[.slice A0_0 l0_0.length c0_0, .slice A0_1 l0_1.length c0_1] 29 (0, 0)) (by (with_reducible repeat (first | refine blk_drewN ?_ _ | refine blk_drew ?_ | refine blk_alloc ?_ _)); exact BK308.out)) : gb308 ≠ gb309)); have n6_ := Aside0.mk ((by rw [hg]; exact Nat.ne_of_gt (blk_lt (g := gb308) (o := .cells #[.slice A0_0 l0_0.length c0_0, .slice A0_1 l0_1.length c0_1] 29 (0, 0)) (by (with_reducible repeat (first | refine blk_drewN ?_ _ | refine blk_drew ?_ | refine blk_alloc ?_ _)); exact BK308.out)) : gb309 ≠ gb308)); clear BK308; clear HB; have BK308 := n0_; have HB := n1_; have BK309 := n2_; have GW309 := n3_; have GE309 := n4_; have NB308_309 := n5_; have NB309_308 := n6_; clear n0_ n1_ n2_ n3_ n4_ n5_ n6_; clear hb hbox hg; have hnb13 := NB308_309.out; have hnc13 := NB309_308.out; have hcz14_0 : w12.cell? ⟨gb308, 0, none⟩ = some (.slice A0_0 l0_0.length c0_0) := (blk_cell BK308.out 0).trans rfl; have hcz14_1 : w12.cell? ⟨gb308, 1, none⟩ = some (.slice A0_1 l0_1.length c0_1) := (blk_cell BK308.out 1).trans rfl; have hfz14_0 := blk_frozen BK308.out 0; have hfz14_1 := blk_frozen BK308.out 1; have hcz15_0 : w12.cell? ⟨gb309, 0, none⟩ = some (.slice A1_0 l1_0.length c1_0) := (blk_cell BK309.out 0).trans rfl; have hcz15_1 : w12.cell? ⟨gb309, 1, none⟩ = some (.slice A1_1 l1_1.length c1_1) := (blk_cell BK309.out 1).trans rfl; have hfz15_0 := blk_frozen BK309.out 0; have hfz15_1 := blk_frozen BK309.out 1) | ((with_reducible refine gate_callee (f := 55) rfl ?_); refine goesL_ (some 9) rfl rfl Try.func55 (by kernel_rfl) rfl #[.slice A0_0 l0_0.length c0_0, .slice A1_0 l1_0.length c1_0] rfl (by (try simp only [List.map_toArray, List.map_cons, List.map_nil]); first | done | rfl | (simp only [List.length_drop, List.length_take]; rfl)) ?_; (with_reducible refine (laws_sameInts.calls k _ _ l0_0 _ _ l1_0 false _ ?side1 ?side2 ?side3 ?side4 A3.out).mono ?_); (case side1 => repeat (first | exact (Kd.C_below HR0_0.out HB.out) | (with_reducible refine Kd.C_alloc ?_ _) | (with_reducible refine Kd.C_drewN ?_ _) | (with_reducible refine Kd.C_drew ?_))); (case side2 => exact HC0_0.out); (case side3 => repeat (first | exact (Kd.C_below HR1_0.out HB.out) | (with_reducible refine Kd.C_alloc ?_ _) | (with_reducible refine Kd.C_drewN ?_ _) | (with_reducible refine Kd.C_drew ?_))); (case side4 => exact HC1_0.out); rintro e w' ⟨rfl, ⟨nd, rfl⟩⟩; refine ⟨_, rfl, ?_⟩))
  go_ret
  exact ⟨by first | rfl | (simp [errW_none, errW_some] <;> rfl) | (simp [*, errW_none, errW_some] <;> rfl), by repeat (first | (with_reducible first | exact HB.out | apply below_alloc | apply pw_below_drewN | apply below_drew1 | refine below_set ?_ GE308.out | refine below_set ?_ GE309.out) | exact HB.out)⟩

end Go.Proofs.Ytkdfjomhichkoaa.P
-- Laid by a program of this work.
namespace Go.Proofs.Ytkdfjomhichkoaa.P
open Go.RowKit Go.Proofs.YtkdfjomhichkoaaW.PrintWords Go.Proofs.YtkdfjomhichkoaaW.PrintLast Go.Proofs.YtkdfjomhichkoaaW.PrintMore
attribute [local go_sem] max2_int min2_int max_two min_two max_three min_three max_four min_four   -- for this text's walks alone
set_option linter.unusedVariables false
set_option linter.unusedSimpArgs false

/-! ### spec_JobsLegal: function 56 -/
mutual
def spec_JobsLegal.j0 : Nat → List (S88) → List (S34) → Bool → Option (Bool)
 | 0, _, _, _ => none
 | k + 1, x0, x1, x16 => if x16 = true then (some false) else (if 0 ≤ (x0.length : Int) then (if ((x0.length : Int) : Int).toNat ≤ 35184372088832 then (spec_JobsLegal.l0 k x0 x1 (List.replicate ((x0.length : Int) : Int).toNat 0) 0) else (none)) else (none))
def spec_JobsLegal.l0 : Nat → List (S88) → List (S34) → List Int → Int → Option (Bool)
 | 0, _, _, _, _ => none
 | k + 1, x0, x1, x5, x6 => if x6 < (x1.length : Int) then (if 0 ≤ x6 then ((spec_l1In.f ((rd_T34 x1 x6).f0) 0 (wrap64 ((x0.length : Int) - 1))).bind fun t318 => (if t318 = true then ((spec_l1In.f ((rd_T34 x1 x6).f1) 0 119).bind fun t319 => (spec_JobsLegal.j2 k x0 x1 x5 x6 (!t319) ((rd_T34 x1 x6).f0) ((rd_T34 x1 x6).f1) ((rd_T34 x1 x6).f2) ((rd_T34 x1 x6).f3))) else (spec_JobsLegal.j2 k x0 x1 x5 x6 true ((rd_T34 x1 x6).f0) ((rd_T34 x1 x6).f1) ((rd_T34 x1 x6).f2) ((rd_T34 x1 x6).f3)))) else (none)) else (some true)
def spec_JobsLegal.j2 : Nat → List (S88) → List (S34) → List Int → Int → Bool → Int → Int → Int → Int → Option (Bool)
 | 0, _, _, _, _, _, _, _, _, _ => none
 | k + 1, x0, x1, x5, x6, x42, x318000, x318001, x318002, x318003 => if x42 = true then (some false) else (if 0 ≤ x318000 then (if x318000 < (x0.length : Int) then (if x318000 < (x5.length : Int) then (if x318001 < (rd x5 x318000) then (spec_JobsLegal.j3 k x0 x1 x5 x6 true x318000 x318001 x318002 x318003 ((rd_T88 x0 x318000).f0) ((rd_T88 x0 x318000).f1) ((rd_T88 x0 x318000).f2)) else (if x318002 = (wrap64 (x318001 + ((rd_T88 x0 x318000).f1))) then ((spec_l1In.f x318003 1 ((rd_T88 x0 x318000).f0)).bind fun t323 => (spec_JobsLegal.j3 k x0 x1 x5 x6 (!t323) x318000 x318001 x318002 x318003 ((rd_T88 x0 x318000).f0) ((rd_T88 x0 x318000).f1) ((rd_T88 x0 x318000).f2))) else (spec_JobsLegal.j3 k x0 x1 x5 x6 true x318000 x318001 x318002 x318003 ((rd_T88 x0 x318000).f0) ((rd_T88 x0 x318000).f1) ((rd_T88 x0 x318000).f2)))) else (none)) else (none)) else (none))
def spec_JobsLegal.j3 : Nat → List (S88) → List (S34) → List Int → Int → Bool → Int → Int → Int → Int → Int → Int → Int → Option (Bool)
 | 0, _, _, _, _, _, _, _, _, _, _, _, _ => none
 | k + 1, x0, x1, x5, x6, x73, x318000, x318001, x318002, x318003, x322000, x322001, x322002 => if x73 = true then (some false) else (if x6 > 0 then (if 0 ≤ (wrap64 (x6 - 1)) then (if (wrap64 (x6 - 1)) < (x1.length : Int) then (if ((rd_T34 x1 (wrap64 (x6 - 1))).f1) > x318001 then (some false) else (if ((rd_T34 x1 (wrap64 (x6 - 1))).f1) = x318001 then (if ((rd_T34 x1 (wrap64 (x6 - 1))).f0) ≥ x318000 then (some false) else (if 0 ≤ x318000 then (if x318000 < (x5.length : Int) then (spec_JobsLegal.l0 k x0 x1 (x5.set (x318000 : Int).toNat (wrap64 (x318001 + x322002))) (wrap64 (x6 + 1))) else (none)) else (none))) else (if 0 ≤ x318000 then (if x318000 < (x5.length : Int) then (spec_JobsLegal.l0 k x0 x1 (x5.set (x318000 : Int).toNat (wrap64 (x318001 + x322002))) (wrap64 (x6 + 1))) else (none)) else (none)))) else (none)) else (none)) else (if 0 ≤ x318000 then (if x318000 < (x5.length : Int) then (spec_JobsLegal.l0 k x0 x1 (x5.set (x318000 : Int).toNat (wrap64 (x318001 + x322002))) (wrap64 (x6 + 1))) else (none)) else (none)))
end
def spec_JobsLegal.f (k : Nat) (l0 : List (S88)) (l1 : List (S34)) : Option (Bool) := (spec_SetValid.f k l0).bind fun t312 => (if t312 = true then (spec_JobsLegal.j0 k l0 l1 (decide ((l1.length : Int) > 60))) else (spec_JobsLegal.j0 k l0 l1 true))
theorem spec_JobsLegal.mono_l : ∀ k, (∀ y0 y1 y2, LeO (spec_JobsLegal.j0 k y0 y1 y2) (spec_JobsLegal.j0 (k + 1) y0 y1 y2)) ∧ (∀ y0 y1 y2 y3, LeO (spec_JobsLegal.l0 k y0 y1 y2 y3) (spec_JobsLegal.l0 (k + 1) y0 y1 y2 y3)) ∧ (∀ y0 y1 y2 y3 y4 y5 y6 y7 y8, LeO (spec_JobsLegal.j2 k y0 y1 y2 y3 y4 y5 y6 y7 y8) (spec_JobsLegal.j2 (k + 1) y0 y1 y2 y3 y4 y5 y6 y7 y8)) ∧ (∀ y0 y1 y2 y3 y4 y5 y6 y7 y8 y9 y10 y11, LeO (spec_JobsLegal.j3 k y0 y1 y2 y3 y4 y5 y6 y7 y8 y9 y10 y11) (spec_JobsLegal.j3 (k + 1) y0 y1 y2 y3 y4 y5 y6 y7 y8 y9 y10 y11))
 | 0 => ⟨fun _ _ _ r h => by simp [spec_JobsLegal.j0] at h, fun _ _ _ _ r h => by simp [spec_JobsLegal.l0] at h, fun _ _ _ _ _ _ _ _ _ r h => by simp [spec_JobsLegal.j2] at h, fun _ _ _ _ _ _ _ _ _ _ _ _ r h => by simp [spec_JobsLegal.j3] at h⟩
 | k + 1 => by
  obtain ⟨ih0, ih1, ih2, ih3⟩ := spec_JobsLegal.mono_l k
  refine ⟨?_, ?_, ?_, ?_⟩
  ·intro y0 y1 y2
   unfold spec_JobsLegal.j0
   repeat' first
   | (with_reducible exact ih0 _ _ _)
   | (with_reducible exact ih1 _ _ _ _)
   | (with_reducible exact ih2 _ _ _ _ _ _ _ _ _)
   | (with_reducible exact ih3 _ _ _ _ _ _ _ _ _ _ _ _)
   | (with_reducible exact spec_SetValid.mono _ _)
   | (with_reducible exact LeO.refl _)
   | (with_reducible exact LeO.none _)
   | (with_reducible refine LeO.ite ?_ ?_)
   | (with_reducible refine LeO.bind ?_ (fun _ => ?_))
   | exact ih0 _ _ _
   | exact ih1 _ _ _ _
   | exact ih2 _ _ _ _ _ _ _ _ _
   | exact ih3 _ _ _ _ _ _ _ _ _ _ _ _
   | exact spec_SetValid.mono _ _
   | exact LeO.none _
   | refine LeO.ite ?_ ?_
   | refine LeO.bind ?_ (fun _ => ?_)
  ·intro y0 y1 y2 y3
   unfold spec_JobsLegal.l0
   repeat' first
   | (with_reducible exact ih0 _ _ _)
   | (with_reducible exact ih1 _ _ _ _)
   | (with_reducible exact ih2 _ _ _ _ _ _ _ _ _)
   | (with_reducible exact ih3 _ _ _ _ _ _ _ _ _ _ _ _)
   | (with_reducible exact spec_SetValid.mono _ _)
   | (with_reducible exact LeO.refl _)
   | (with_reducible exact LeO.none _)
   | (with_reducible refine LeO.ite ?_ ?_)
   | (with_reducible refine LeO.bind ?_ (fun _ => ?_))
   | exact ih0 _ _ _
   | exact ih1 _ _ _ _
   | exact ih2 _ _ _ _ _ _ _ _ _
   | exact ih3 _ _ _ _ _ _ _ _ _ _ _ _
   | exact spec_SetValid.mono _ _
   | exact LeO.none _
   | refine LeO.ite ?_ ?_
   | refine LeO.bind ?_ (fun _ => ?_)
  ·intro y0 y1 y2 y3 y4 y5 y6 y7 y8
   unfold spec_JobsLegal.j2
   repeat' first
   | (with_reducible exact ih0 _ _ _)
   | (with_reducible exact ih1 _ _ _ _)
   | (with_reducible exact ih2 _ _ _ _ _ _ _ _ _)
   | (with_reducible exact ih3 _ _ _ _ _ _ _ _ _ _ _ _)
   | (with_reducible exact spec_SetValid.mono _ _)
   | (with_reducible exact LeO.refl _)
   | (with_reducible exact LeO.none _)
   | (with_reducible refine LeO.ite ?_ ?_)
   | (with_reducible refine LeO.bind ?_ (fun _ => ?_))
   | exact ih0 _ _ _
   | exact ih1 _ _ _ _
   | exact ih2 _ _ _ _ _ _ _ _ _
   | exact ih3 _ _ _ _ _ _ _ _ _ _ _ _
   | exact spec_SetValid.mono _ _
   | exact LeO.none _
   | refine LeO.ite ?_ ?_
   | refine LeO.bind ?_ (fun _ => ?_)
  ·intro y0 y1 y2 y3 y4 y5 y6 y7 y8 y9 y10 y11
   unfold spec_JobsLegal.j3
   repeat' first
   | (with_reducible exact ih0 _ _ _)
   | (with_reducible exact ih1 _ _ _ _)
   | (with_reducible exact ih2 _ _ _ _ _ _ _ _ _)
   | (with_reducible exact ih3 _ _ _ _ _ _ _ _ _ _ _ _)
   | (with_reducible exact spec_SetValid.mono _ _)
   | (with_reducible exact LeO.refl _)
   | (with_reducible exact LeO.none _)
   | (with_reducible refine LeO.ite ?_ ?_)
   | (with_reducible refine LeO.bind ?_ (fun _ => ?_))
   | exact ih0 _ _ _
   | exact ih1 _ _ _ _
   | exact ih2 _ _ _ _ _ _ _ _ _
   | exact ih3 _ _ _ _ _ _ _ _ _ _ _ _
   | exact spec_SetValid.mono _ _
   | exact LeO.none _
   | refine LeO.ite ?_ ?_
   | refine LeO.bind ?_ (fun _ => ?_)
theorem spec_JobsLegal.mono : ∀ a0 a1 k, LeO (spec_JobsLegal.f k a0 a1) (spec_JobsLegal.f (k + 1) a0 a1) := by
 intro a0 a1 k
 obtain ⟨ih0, ih1, ih2, ih3⟩ := spec_JobsLegal.mono_l k
 unfold spec_JobsLegal.f
 repeat' first
   | (with_reducible exact ih0 _ _ _)
   | (with_reducible exact ih1 _ _ _ _)
   | (with_reducible exact ih2 _ _ _ _ _ _ _ _ _)
   | (with_reducible exact ih3 _ _ _ _ _ _ _ _ _ _ _ _)
   | (with_reducible exact spec_SetValid.mono _ _)
   | (with_reducible exact LeO.refl _)
   | (with_reducible exact LeO.none _)
   | (with_reducible refine LeO.ite ?_ ?_)
   | (with_reducible refine LeO.bind ?_ (fun _ => ?_))
   | exact ih0 _ _ _
   | exact ih1 _ _ _ _
   | exact ih2 _ _ _ _ _ _ _ _ _
   | exact ih3 _ _ _ _ _ _ _ _ _ _ _ _
   | exact spec_SetValid.mono _ _
   | exact LeO.none _
   | refine LeO.ite ?_ ?_
   | refine LeO.bind ?_ (fun _ => ?_)
set_option maxHeartbeats 8000000 in
set_option maxRecDepth 100000 in
theorem spec_JobsLegal.calls (k : Nat) (A0 : Option Addr) (c0 : Nat) (l0 : List (S88)) (A1 : Option Addr) (c1 : Nat) (l1 : List (S34)) (r : Bool) (w : World) (hr0 : Kd.C k88 w A0 l0.length l0) (hc0 : l0.length ≤ c0) (hr1 : Kd.C k34 w A1 l1.length l1) (hc1 : l1.length ≤ c1) (h : spec_JobsLegal.f k l0 l1 = some r) :
  Calls Try.prog 56 #[.slice A0 l0.length c0, .slice A1 l1.length c1] w fun e w' => e = .returned (.bool r) ∧ Below w.heap.size w w' := by
 have hu34 := Try.underlying34
 have hu88 := Try.underlying88
 have HR0 := Aside0.mk hr0
 have HC0 := Aside0.mk hc0
 clear hr0 hc0
 have HR1 := Aside0.mk hr1
 have HC1 := Aside0.mk hc1
 clear hr1 hc1
 have HB := Aside0.mk (Below.refl w.heap.size w)
 have H : ((spec_SetValid.f k l0).bind fun t312 => (if t312 = true then (spec_JobsLegal.j0 k l0 l1 (decide ((l1.length : Int) > 60))) else (spec_JobsLegal.j0 k l0 l1 true))) = some r := h
 clear h
 have HC3 := Aside0.mk H
 clear H
 go_enter Try.func56, Try.ntmps56
 go_upto_region 1 with (fail)
 repeat (go_quiet (fail); go_upto_region 1 with (fail))
 go_cut [16] (fun v16 wc => ∃ (kq : Nat) (x16_2 : Bool), v16 = .bool x16_2 ∧ Aside0 (spec_JobsLegal.j0 kq l0 l1 x16_2 = some r) ∧ Aside0 (kq ≤ k) ∧ Aside0 (Below w.heap.size w wc))
 case first =>
  have H := HC3.out
  clear HC3
  replace H := Option.bind_eq_some_iff.mp H
  obtain ⟨t312, A40, H⟩ := H
  replace H : (if t312 = true then (spec_JobsLegal.j0 k l0 l1 (decide ((l1.length : Int) > 60))) else (spec_JobsLegal.j0 k l0 l1 true)) = some r := H
  have A4 := Aside0.mk A40
  clear A40
  by_cases c5 : t312 = true
  ·subst c5
   have H1 : (spec_JobsLegal.j0 k l0 l1 (decide ((l1.length : Int) > 60))) = some r := by rw [if_pos rfl] at H; exact H
   clear H
   have H := H1
   clear H1
   have H' := Aside0.mk H
   clear H
   go_wp2_with (first | (go_at_call 46; (with_reducible refine (spec_SetValid.calls k _ _ l0 true _ ?side1 ?side2 A4.out).mono ?_); (case side1 => repeat (first | exact (Kd.C_below HR0.out HB.out) | (with_reducible refine Kd.C_alloc ?_ _) | (with_reducible refine Kd.C_drewN ?_ _) | (with_reducible refine Kd.C_drew ?_))); (case side2 => exact HC0.out); rintro e w6 ⟨rfl, hb⟩; have n0_ := Aside0.mk (below_step (by repeat (first | (with_reducible first | exact HB.out | apply below_alloc | apply pw_below_drewN | apply below_drew1) | exact HB.out)) hb); clear HB; have HB := n0_; clear n0_; (try clear hb); (try clear hb2); (try clear hk); (try clear hi)))
   repeat (go_quiet (first | (go_at_call 46; (with_reducible refine (spec_SetValid.calls k _ _ l0 true _ ?side1 ?side2 A4.out).mono ?_); (case side1 => repeat (first | exact (Kd.C_below HR0.out HB.out) | (with_reducible refine Kd.C_alloc ?_ _) | (with_reducible refine Kd.C_drewN ?_ _) | (with_reducible refine Kd.C_drew ?_))); (case side2 => exact HC0.out); rintro e w6 ⟨rfl, hb⟩; have n0_ := Aside0.mk (below_step (by repeat (first | (with_reducible first | exact HB.out | apply below_alloc | apply pw_below_drewN | apply below_drew1) | exact HB.out)) hb); clear HB; have HB := n0_; clear n0_; (try clear hb); (try clear hb2); (try clear hk); (try clear hi))); try go_wp2_with (first | (go_at_call 46; (with_reducible refine (spec_SetValid.calls k _ _ l0 true _ ?side1 ?side2 A4.out).mono ?_); (case side1 => repeat (first | exact (Kd.C_below HR0.out HB.out) | (with_reducible refine Kd.C_alloc ?_ _) | (with_reducible refine Kd.C_drewN ?_ _) | (with_reducible refine Kd.C_drew ?_))); (case side2 => exact HC0.out); rintro e w6 ⟨rfl, hb⟩; have n0_ := Aside0.mk (below_step (by repeat (first | (with_reducible first | exact HB.out | apply below_alloc | apply pw_below_drewN | apply below_drew1) | exact HB.out)) hb); clear HB; have HB := n0_; clear n0_; (try clear hb); (try clear hb2); (try clear hk); (try clear hi))))
   go_meet
   case rel => exact ⟨_, (decide ((l1.length : Int) > 60)), (by first | rfl | (simp; done) | (simp [*]; done)), H', ⟨by first | omega | exact Nat.le_refl _⟩, ⟨by repeat (first | (with_reducible first | exact HB.out | apply below_alloc | apply pw_below_drewN | apply below_drew1) | exact HB.out)⟩⟩
  ·replace c5 := Bool.eq_false_iff.mpr c5
   subst c5
   have H1 : (spec_JobsLegal.j0 k l0 l1 true) = some r := by rw [if_neg (show ¬ (false = true) by decide)] at H; exact H
   clear H
   have H := H1
   clear H1
   have H' := Aside0.mk H
   clear H
   go_wp2_with (first | (go_at_call 46; (with_reducible refine (spec_SetValid.calls k _ _ l0 false _ ?side1 ?side2 A4.out).mono ?_); (case side1 => repeat (first | exact (Kd.C_below HR0.out HB.out) | (with_reducible refine Kd.C_alloc ?_ _) | (with_reducible refine Kd.C_drewN ?_ _) | (with_reducible refine Kd.C_drew ?_))); (case side2 => exact HC0.out); rintro e w7 ⟨rfl, hb⟩; have n0_ := Aside0.mk (below_step (by repeat (first | (with_reducible first | exact HB.out | apply below_alloc | apply pw_below_drewN | apply below_drew1) | exact HB.out)) hb); clear HB; have HB := n0_; clear n0_; (try clear hb); (try clear hb2); (try clear hk); (try clear hi)))
   repeat (go_quiet (first | (go_at_call 46; (with_reducible refine (spec_SetValid.calls k _ _ l0 false _ ?side1 ?side2 A4.out).mono ?_); (case side1 => repeat (first | exact (Kd.C_below HR0.out HB.out) | (with_reducible refine Kd.C_alloc ?_ _) | (with_reducible refine Kd.C_drewN ?_ _) | (with_reducible refine Kd.C_drew ?_))); (case side2 => exact HC0.out); rintro e w7 ⟨rfl, hb⟩; have n0_ := Aside0.mk (below_step (by repeat (first | (with_reducible first | exact HB.out | apply below_alloc | apply pw_below_drewN | apply below_drew1) | exact HB.out)) hb); clear HB; have HB := n0_; clear n0_; (try clear hb); (try clear hb2); (try clear hk); (try clear hi))); try go_wp2_with (first | (go_at_call 46; (with_reducible refine (spec_SetValid.calls k _ _ l0 false _ ?side1 ?side2 A4.out).mono ?_); (case side1 => repeat (first | exact (Kd.C_below HR0.out HB.out) | (with_reducible refine Kd.C_alloc ?_ _) | (with_reducible refine Kd.C_drewN ?_ _) | (with_reducible refine Kd.C_drew ?_))); (case side2 => exact HC0.out); rintro e w7 ⟨rfl, hb⟩; have n0_ := Aside0.mk (below_step (by repeat (first | (with_reducible first | exact HB.out | apply below_alloc | apply pw_below_drewN | apply below_drew1) | exact HB.out)) hb); clear HB; have HB := n0_; clear n0_; (try clear hb); (try clear hb2); (try clear hk); (try clear hi))))
   go_meet
   case rel => exact ⟨_, (true), (by first | rfl | (simp; done) | (simp [*]; done)), H', ⟨by first | omega | exact Nat.le_refl _⟩, ⟨by repeat (first | (with_reducible first | exact HB.out | apply below_alloc | apply pw_below_drewN | apply below_drew1) | exact HB.out)⟩⟩
 case rest =>
  clear HC3
  try clear c1
  try clear p2
  try clear c5
  obtain ⟨kq, x16_2, rfl, HA, HJ2, HB⟩ := hcut
  cases kq with
  | zero => exact absurd HA.out (by simp [spec_JobsLegal.j0])
  | succ kj2 =>
   have H := HA.out
   clear HA
   simp only [spec_JobsLegal.j0] at H
   by_cases c8 : x16_2 = true
   ·subst c8
    have H1 : (some false) = some r := by rw [if_pos rfl] at H; exact H
    clear H
    have H := H1
    clear H1
    obtain rfl := Option.some.inj H
    go_wp2
    repeat (go_quiet (fail); try go_wp2)
    go_ret
    exact ⟨by first | rfl | (simp [errW_none, errW_some] <;> rfl) | (simp [*, errW_none, errW_some] <;> rfl), by repeat (first | (with_reducible first | exact HB.out | apply below_alloc | apply pw_below_drewN | apply below_drew1) | exact HB.out)⟩
   ·replace c8 := Bool.eq_false_iff.mpr c8
    subst c8
    have H1 : (if 0 ≤ (l0.length : Int) then (if ((l0.length : Int) : Int).toNat ≤ 35184372088832 then (spec_JobsLegal.l0 kj2 l0 l1 (List.replicate ((l0.length : Int) : Int).toNat 0) 0) else (none)) else (none)) = some r := by rw [if_neg (show ¬ (false = true) by decide)] at H; exact H
    clear H
    have H := H1
    clear H1
    by_cases c9 : 0 ≤ (l0.length : Int)
    ·rw [if_pos c9] at H
     have c9b0 := eq_true c9
     have c9b1 : decide (0 ≤ (l0.length : Int)) = true := decide_eq_true c9
     clear c9
     by_cases c10 : ((l0.length : Int) : Int).toNat ≤ 35184372088832
     ·rw [if_pos c10] at H
      have c10b0 := eq_true c10
      have c10b1 : decide (((l0.length : Int) : Int).toNat ≤ 35184372088832) = true := decide_eq_true c10
      clear c10
      obtain ⟨y313, hy313⟩ : ∃ y_ : List Int, y_ = (List.replicate ((l0.length : Int) : Int).toNat 0) := ⟨_, rfl⟩
      replace H : (spec_JobsLegal.l0 kj2 l0 l1 y313 0) = some r := by first | (rw [hy313]; with_reducible exact H) | (have H2_ := (Option.bind_some _ _).symm.trans H; rw [hy313]; with_reducible exact H2_) | (have H2_ := (Option.bind_some _ _).symm.trans H; with_reducible exact H2_) | with_reducible exact H | (rw [hy313]; exact H) | exact H
      have Ny313 := Aside0.mk hy313
      clear hy313
      have H' := Aside0.mk H
      clear H
      go_wp2_with (first | ((with_reducible refine gate_dst (N := 19) rfl ?_); (try (refine gate_guard (by rfl) ?_; dsimp only)); refine Kd.R_make (Kd.int .i64) _ 3 rfl (N := 19) rfl 27 _ _ rfl (l0.length : Int) rfl rfl Try.underlying27 (.int .i64 0) 8 info3 rfl (by decide) (by omega) 0 (ok := fun _ => True) (okp := fun _ => True) rfl (fun _ hk => hk) trivial (of_decide_eq_true (by first | (with_reducible assumption) | assumption)) (Nat.le_trans (Nat.mul_le_mul_right _ (of_decide_eq_true (by first | (with_reducible assumption) | assumption) : (l0.length : Int).toNat ≤ 35184372088832)) (by omega)) (Below.refl _ _) (Nat.le_refl _) ?_; intro v314 w11 ho12 hb hg_ hnew_; clear hg_ hnew_; (first | rw [← Ny313.out] at ho12 | (simp only [Int.reduceToNat] at ho12; rw [← Ny313.out] at ho12)); have n0_ := Aside0.mk (Kd.R_lower ho12 (below_size (by repeat (first | (with_reducible first | exact HB.out | apply below_alloc | apply pw_below_drewN | apply below_drew1) | exact HB.out)))); have n1_ := Aside0.mk (below_step (by repeat (first | (with_reducible first | exact HB.out | apply below_alloc | apply pw_below_drewN | apply below_drew1) | exact HB.out)) hb); clear HB; have HO315 := n0_; have HB := n1_; clear n0_ n1_; clear hb ho12))
      repeat (go_quiet (first | ((with_reducible refine gate_dst (N := 19) rfl ?_); (try (refine gate_guard (by rfl) ?_; dsimp only)); refine Kd.R_make (Kd.int .i64) _ 3 rfl (N := 19) rfl 27 _ _ rfl (l0.length : Int) rfl rfl Try.underlying27 (.int .i64 0) 8 info3 rfl (by decide) (by omega) 0 (ok := fun _ => True) (okp := fun _ => True) rfl (fun _ hk => hk) trivial (of_decide_eq_true (by first | (with_reducible assumption) | assumption)) (Nat.le_trans (Nat.mul_le_mul_right _ (of_decide_eq_true (by first | (with_reducible assumption) | assumption) : (l0.length : Int).toNat ≤ 35184372088832)) (by omega)) (Below.refl _ _) (Nat.le_refl _) ?_; intro v314 w11 ho12 hb hg_ hnew_; clear hg_ hnew_; (first | rw [← Ny313.out] at ho12 | (simp only [Int.reduceToNat] at ho12; rw [← Ny313.out] at ho12)); have n0_ := Aside0.mk (Kd.R_lower ho12 (below_size (by repeat (first | (with_reducible first | exact HB.out | apply below_alloc | apply pw_below_drewN | apply below_drew1) | exact HB.out)))); have n1_ := Aside0.mk (below_step (by repeat (first | (with_reducible first | exact HB.out | apply below_alloc | apply pw_below_drewN | apply below_drew1) | exact HB.out)) hb); clear HB; have HO315 := n0_; have HB := n1_; clear n0_ n1_; clear hb ho12)); try go_wp2_with (first | ((with_reducible refine gate_dst (N := 19) rfl ?_); (try (refine gate_guard (by rfl) ?_; dsimp only)); refine Kd.R_make (Kd.int .i64) _ 3 rfl (N := 19) rfl 27 _ _ rfl (l0.length : Int) rfl rfl Try.underlying27 (.int .i64 0) 8 info3 rfl (by decide) (by omega) 0 (ok := fun _ => True) (okp := fun _ => True) rfl (fun _ hk => hk) trivial (of_decide_eq_true (by first | (with_reducible assumption) | assumption)) (Nat.le_trans (Nat.mul_le_mul_right _ (of_decide_eq_true (by first | (with_reducible assumption) | assumption) : (l0.length : Int).toNat ≤ 35184372088832)) (by omega)) (Below.refl _ _) (Nat.le_refl _) ?_; intro v314 w11 ho12 hb hg_ hnew_; clear hg_ hnew_; (first | rw [← Ny313.out] at ho12 | (simp only [Int.reduceToNat] at ho12; rw [← Ny313.out] at ho12)); have n0_ := Aside0.mk (Kd.R_lower ho12 (below_size (by repeat (first | (with_reducible first | exact HB.out | apply below_alloc | apply pw_below_drewN | apply below_drew1) | exact HB.out)))); have n1_ := Aside0.mk (below_step (by repeat (first | (with_reducible first | exact HB.out | apply below_alloc | apply pw_below_drewN | apply below_drew1) | exact HB.out)) hb); clear HB; have HO315 := n0_; have HB := n1_; clear n0_ n1_; clear hb ho12)))
      go_loopg [6] kj2 (fun kq v6 w' => ∃ (x5_2 : List Int) (x6_2 : Int), v6 = .int .i64 x6_2 ∧ Aside0 (spec_JobsLegal.l0 kq l0 l1 x5_2 x6_2 = some r) ∧ Aside0 (kq ≤ kj2) ∧ Aside0 (Kd.R (Kd.int .i64) 3 w' w.heap.size (fun _ => True) v314 x5_2) ∧ Aside0 (Below w.heap.size w w'))
      case atStart => exact ⟨(y313), (0), (by first | rfl | (simp; done) | (simp [*]; done)), H', ⟨Nat.le_refl _⟩, ⟨by (with_reducible repeat (first | apply Kd.R_alloc | apply Kd.R_drewN | apply Kd.R_drew)); exact HO315.out⟩, ⟨by repeat (first | (with_reducible first | exact HB.out | apply below_alloc | apply pw_below_drewN | apply below_drew1) | exact HB.out)⟩⟩
      case round =>
       clear H'
       try clear c1
       try clear p2
       try clear c5
       try clear c8
       try clear c9
       try clear c9b0
       try clear c9b1
       try clear c10
       try clear c10b0
       try clear c10b1
       try clear p2
       obtain ⟨x5_2, x6_2, rfl, HA, HK2, HO_5, HB⟩ := hrel
       cases gk with
       | zero => exact absurd HA.out (by simp [spec_JobsLegal.l0])
       | succ k2 =>
        have H := HA.out
        clear HA
        simp only [spec_JobsLegal.l0] at H
        by_cases c13 : x6_2 < (l1.length : Int)
        ·rw [if_pos c13] at H
         have c13b0 : decide (x6_2 < (l1.length : Int)) = true := decide_eq_true c13
         clear c13
         by_cases c14 : 0 ≤ x6_2
         ·rw [if_pos c14] at H
          have c14b0 : decide (0 ≤ x6_2) = true := decide_eq_true c14
          clear c14
          have HC15 := Aside0.mk H
          clear H
          have p316 : 0 ≤ (x6_2 : Int) := of_decide_eq_true (by first | (with_reducible assumption) | assumption)
          have q316 : x6_2 < (l1.length : Int) := of_decide_eq_true (by first | (with_reducible assumption) | assumption)
          obtain ⟨ad316, e316, hx316_0, hx316_1, hx316_2, hx316_3⟩ := at_T34 HR1.out x6_2 p316 q316
          cases e316
          replace hx316_0 := (HB.out.cell (World.block_lt_of_cell? w _ hx316_0)).trans hx316_0
          replace hx316_1 := (HB.out.cell (World.block_lt_of_cell? w _ hx316_1)).trans hx316_1
          replace hx316_2 := (HB.out.cell (World.block_lt_of_cell? w _ hx316_2)).trans hx316_2
          replace hx316_3 := (HB.out.cell (World.block_lt_of_cell? w _ hx316_3)).trans hx316_3
          replace p316 := eq_true p316
          replace q316 := eq_true q316
          go_upto_region 8 with (first | ((with_reducible refine gate_dst (N := 7) rfl ?_); (try (refine gate_guard (by rfl) ?_; dsimp only)); refine box_event ?hg (N := 7) ?hd (cs := #[.int .i64 0, .int .i64 0, .int .i64 0, .int .i64 0]) (t := 34) ?hr ?_; (case hd => rfl); (case hg => rfl); (case hr => first | (go_simp; done) | (go_simp; rfl)); intro gb317 hg w16 hbox hb; have n0_ := Aside0.mk (Kd.R_below (by (with_reducible repeat (first | apply Kd.R_alloc | apply Kd.R_drewN | apply Kd.R_drew)); exact HO_5.out) hb); have n1_ := Aside0.mk (below_step (by repeat (first | (with_reducible first | exact HB.out | apply below_alloc | apply pw_below_drewN | apply below_drew1) | exact HB.out)) hb); have n2_ := Aside0.mk (hbox); have n3_ := Aside0.mk ((by rw [hg]; exact (below_size (by repeat (first | (with_reducible first | exact HB.out | apply below_alloc | apply pw_below_drewN | apply below_drew1) | exact HB.out))) : w.heap.size ≤ gb317)); have n4_ := Aside0.mk ((by rw [hg]; exact (below_size (by repeat (first | (with_reducible first | exact HB.out | apply below_alloc | apply pw_below_drewN | apply below_drew1) | exact HB.out))) : w.heap.size ≤ gb317)); clear HO_5; clear HB; have HO_5 := n0_; have HB := n1_; have BK317 := n2_; have GW317 := n3_; have GE317 := n4_; clear n0_ n1_ n2_ n3_ n4_; clear hb hbox hg; have hcz17_0 : w16.cell? ⟨gb317, 0, none⟩ = some (.int .i64 0) := (blk_cell BK317.out 0).trans rfl; have hcz17_1 : w16.cell? ⟨gb317, 1, none⟩ = some (.int .i64 0) := (blk_cell BK317.out 1).trans rfl; have hcz17_2 : w16.cell? ⟨gb317, 2, none⟩ = some (.int .i64 0) := (blk_cell BK317.out 2).trans rfl; have hcz17_3 : w16.cell? ⟨gb317, 3, none⟩ = some (.int .i64 0) := (blk_cell BK317.out 3).trans rfl; have hfz17_0 := blk_frozen BK317.out 0; have hfz17_1 := blk_frozen BK317.out 1; have hfz17_2 := blk_frozen BK317.out 2; have hfz17_3 := blk_frozen BK317.out 3))
          repeat (go_quiet (first | ((with_reducible refine gate_dst (N := 7) rfl ?_); (try (refine gate_guard (by rfl) ?_; dsimp only)); refine box_event ?hg (N := 7) ?hd (cs := #[.int .i64 0, .int .i64 0, .int .i64 0, .int .i64 0]) (t := 34) ?hr ?_; (case hd => rfl); (case hg => rfl); (case hr => first | (go_simp; done) | (go_simp; rfl)); intro gb317 hg w16 hbox hb; have n0_ := Aside0.mk (Kd.R_below (by (with_reducible repeat (first | apply Kd.R_alloc | apply Kd.R_drewN | apply Kd.R_drew)); exact HO_5.out) hb); have n1_ := Aside0.mk (below_step (by repeat (first | (with_reducible first | exact HB.out | apply below_alloc | apply pw_below_drewN | apply below_drew1) | exact HB.out)) hb); have n2_ := Aside0.mk (hbox); have n3_ := Aside0.mk ((by rw [hg]; exact (below_size (by repeat (first | (with_reducible first | exact HB.out | apply below_alloc | apply pw_below_drewN | apply below_drew1) | exact HB.out))) : w.heap.size ≤ gb317)); have n4_ := Aside0.mk ((by rw [hg]; exact (below_size (by repeat (first | (with_reducible first | exact HB.out | apply below_alloc | apply pw_below_drewN | apply below_drew1) | exact HB.out))) : w.heap.size ≤ gb317)); clear HO_5; clear HB; have HO_5 := n0_; have HB := n1_; have BK317 := n2_; have GW317 := n3_; have GE317 := n4_; clear n0_ n1_ n2_ n3_ n4_; clear hb hbox hg; have hcz17_0 : w16.cell? ⟨gb317, 0, none⟩ = some (.int .i64 0) := (blk_cell BK317.out 0).trans rfl; have hcz17_1 : w16.cell? ⟨gb317, 1, none⟩ = some (.int .i64 0) := (blk_cell BK317.out 1).trans rfl; have hcz17_2 : w16.cell? ⟨gb317, 2, none⟩ = some (.int .i64 0) := (blk_cell BK317.out 2).trans rfl; have hcz17_3 : w16.cell? ⟨gb317, 3, none⟩ = some (.int .i64 0) := (blk_cell BK317.out 3).trans rfl; have hfz17_0 := blk_frozen BK317.out 0; have hfz17_1 := blk_frozen BK317.out 1; have hfz17_2 := blk_frozen BK317.out 2; have hfz17_3 := blk_frozen BK317.out 3)); go_upto_region 8 with (first | ((with_reducible refine gate_dst (N := 7) rfl ?_); (try (refine gate_guard (by rfl) ?_; dsimp only)); refine box_event ?hg (N := 7) ?hd (cs := #[.int .i64 0, .int .i64 0, .int .i64 0, .int .i64 0]) (t := 34) ?hr ?_; (case hd => rfl); (case hg => rfl); (case hr => first | (go_simp; done) | (go_simp; rfl)); intro gb317 hg w16 hbox hb; have n0_ := Aside0.mk (Kd.R_below (by (with_reducible repeat (first | apply Kd.R_alloc | apply Kd.R_drewN | apply Kd.R_drew)); exact HO_5.out) hb); have n1_ := Aside0.mk (below_step (by repeat (first | (with_reducible first | exact HB.out | apply below_alloc | apply pw_below_drewN | apply below_drew1) | exact HB.out)) hb); have n2_ := Aside0.mk (hbox); have n3_ := Aside0.mk ((by rw [hg]; exact (below_size (by repeat (first | (with_reducible first | exact HB.out | apply below_alloc | apply pw_below_drewN | apply below_drew1) | exact HB.out))) : w.heap.size ≤ gb317)); have n4_ := Aside0.mk ((by rw [hg]; exact (below_size (by repeat (first | (with_reducible first | exact HB.out | apply below_alloc | apply pw_below_drewN | apply below_drew1) | exact HB.out))) : w.heap.size ≤ gb317)); clear HO_5; clear HB; have HO_5 := n0_; have HB := n1_; have BK317 := n2_; have GW317 := n3_; have GE317 := n4_; clear n0_ n1_ n2_ n3_ n4_; clear hb hbox hg; have hcz17_0 : w16.cell? ⟨gb317, 0, none⟩ = some (.int .i64 0) := (blk_cell BK317.out 0).trans rfl; have hcz17_1 : w16.cell? ⟨gb317, 1, none⟩ = some (.int .i64 0) := (blk_cell BK317.out 1).trans rfl; have hcz17_2 : w16.cell? ⟨gb317, 2, none⟩ = some (.int .i64 0) := (blk_cell BK317.out 2).trans rfl; have hcz17_3 : w16.cell? ⟨gb317, 3, none⟩ = some (.int .i64 0) := (blk_cell BK317.out 3).trans rfl; have hfz17_0 := blk_frozen BK317.out 0; have hfz17_1 := blk_frozen BK317.out 1; have hfz17_2 := blk_frozen BK317.out 2; have hfz17_3 := blk_frozen BK317.out 3)))
          (try simp only [Act.put, List.setIfInBounds_toArray, List.set_cons_zero, List.set_cons_succ])
          go_cut [42] (fun v42 wc => ∃ (kq : Nat) (x42_14 : Bool), v42 = .bool x42_14 ∧ Aside0 (spec_JobsLegal.j2 kq l0 l1 x5_2 x6_2 x42_14 ((rd_T34 l1 x6_2).f0) ((rd_T34 l1 x6_2).f1) ((rd_T34 l1 x6_2).f2) ((rd_T34 l1 x6_2).f3) = some r) ∧ Aside0 (kq ≤ k2) ∧ Aside0 (Kd.R (Kd.int .i64) 3 wc w.heap.size (fun _ => True) v314 x5_2) ∧ Aside0 (wc.heap[gb317]? = some (.cells #[.int .i64 ((rd_T34 l1 x6_2).f0), .int .i64 ((rd_T34 l1 x6_2).f1), .int .i64 ((rd_T34 l1 x6_2).f2), .int .i64 ((rd_T34 l1 x6_2).f3)] 34 (0, 0))) ∧ Aside0 (Below w.heap.size w wc))
          case first =>
           have H := HC15.out
           clear HC15
           replace H := Option.bind_eq_some_iff.mp H
           obtain ⟨t318, A180, H⟩ := H
           replace H : (if t318 = true then ((spec_l1In.f ((rd_T34 l1 x6_2).f1) 0 119).bind fun t319 => (spec_JobsLegal.j2 k2 l0 l1 x5_2 x6_2 (!t319) ((rd_T34 l1 x6_2).f0) ((rd_T34 l1 x6_2).f1) ((rd_T34 l1 x6_2).f2) ((rd_T34 l1 x6_2).f3))) else (spec_JobsLegal.j2 k2 l0 l1 x5_2 x6_2 true ((rd_T34 l1 x6_2).f0) ((rd_T34 l1 x6_2).f1) ((rd_T34 l1 x6_2).f2) ((rd_T34 l1 x6_2).f3))) = some r := H
           have A18 := Aside0.mk A180
           clear A180
           by_cases c19 : t318 = true
           ·subst c19
            have H1 : ((spec_l1In.f ((rd_T34 l1 x6_2).f1) 0 119).bind fun t319 => (spec_JobsLegal.j2 k2 l0 l1 x5_2 x6_2 (!t319) ((rd_T34 l1 x6_2).f0) ((rd_T34 l1 x6_2).f1) ((rd_T34 l1 x6_2).f2) ((rd_T34 l1 x6_2).f3))) = some r := by rw [if_pos rfl] at H; exact H
            clear H
            have H := H1
            clear H1
            replace H := Option.bind_eq_some_iff.mp H
            obtain ⟨t319, A200, H⟩ := H
            replace H : (spec_JobsLegal.j2 k2 l0 l1 x5_2 x6_2 (!t319) ((rd_T34 l1 x6_2).f0) ((rd_T34 l1 x6_2).f1) ((rd_T34 l1 x6_2).f2) ((rd_T34 l1 x6_2).f3)) = some r := H
            have A20 := Aside0.mk A200
            clear A200
            have H' := Aside0.mk H
            clear H
            have hcz21_0 : w16.cell? ⟨gb317, 0, none⟩ = some (.int .i64 0) := (blk_cell BK317.out 0).trans rfl
            have hcz21_1 : w16.cell? ⟨gb317, 1, none⟩ = some (.int .i64 0) := (blk_cell BK317.out 1).trans rfl
            have hcz21_2 : w16.cell? ⟨gb317, 2, none⟩ = some (.int .i64 0) := (blk_cell BK317.out 2).trans rfl
            have hcz21_3 : w16.cell? ⟨gb317, 3, none⟩ = some (.int .i64 0) := (blk_cell BK317.out 3).trans rfl
            have hfz21_0 := blk_frozen BK317.out 0
            have hfz21_1 := blk_frozen BK317.out 1
            have hfz21_2 := blk_frozen BK317.out 2
            have hfz21_3 := blk_frozen BK317.out 3
            go_wp2_with (first | (go_at_call 102; (with_reducible refine (spec_l1In.calls ((rd_T34 l1 x6_2).f0) 0 (wrap64 ((l0.length : Int) - 1)) true _ A18.out).mono ?_); rintro e w' ⟨rfl, ⟨nd, rfl⟩⟩; (try first | exact ⟨rfl, _, World.drewN_drewN _ _ _⟩ | exact ⟨rfl, _, Eq.trans (World.drewN_drewN _ _ _) (congrArg (World.drewN _) (Nat.add_assoc _ _ _))⟩)) | (go_at_call 102; (with_reducible refine (spec_l1In.calls ((rd_T34 l1 x6_2).f1) 0 119 t319 _ A20.out).mono ?_); rintro e w' ⟨rfl, ⟨nd, rfl⟩⟩; (try first | exact ⟨rfl, _, World.drewN_drewN _ _ _⟩ | exact ⟨rfl, _, Eq.trans (World.drewN_drewN _ _ _) (congrArg (World.drewN _) (Nat.add_assoc _ _ _))⟩)))
            repeat (go_quiet (first | (go_at_call 102; (with_reducible refine (spec_l1In.calls ((rd_T34 l1 x6_2).f0) 0 (wrap64 ((l0.length : Int) - 1)) true _ A18.out).mono ?_); rintro e w' ⟨rfl, ⟨nd, rfl⟩⟩; (try first | exact ⟨rfl, _, World.drewN_drewN _ _ _⟩ | exact ⟨rfl, _, Eq.trans (World.drewN_drewN _ _ _) (congrArg (World.drewN _) (Nat.add_assoc _ _ _))⟩)) | (go_at_call 102; (with_reducible refine (spec_l1In.calls ((rd_T34 l1 x6_2).f1) 0 119 t319 _ A20.out).mono ?_); rintro e w' ⟨rfl, ⟨nd, rfl⟩⟩; (try first | exact ⟨rfl, _, World.drewN_drewN _ _ _⟩ | exact ⟨rfl, _, Eq.trans (World.drewN_drewN _ _ _) (congrArg (World.drewN _) (Nat.add_assoc _ _ _))⟩))); try go_wp2_with (first | (go_at_call 102; (with_reducible refine (spec_l1In.calls ((rd_T34 l1 x6_2).f0) 0 (wrap64 ((l0.length : Int) - 1)) true _ A18.out).mono ?_); rintro e w' ⟨rfl, ⟨nd, rfl⟩⟩; (try first | exact ⟨rfl, _, World.drewN_drewN _ _ _⟩ | exact ⟨rfl, _, Eq.trans (World.drewN_drewN _ _ _) (congrArg (World.drewN _) (Nat.add_assoc _ _ _))⟩)) | (go_at_call 102; (with_reducible refine (spec_l1In.calls ((rd_T34 l1 x6_2).f1) 0 119 t319 _ A20.out).mono ?_); rintro e w' ⟨rfl, ⟨nd, rfl⟩⟩; (try first | exact ⟨rfl, _, World.drewN_drewN _ _ _⟩ | exact ⟨rfl, _, Eq.trans (World.drewN_drewN _ _ _) (congrArg (World.drewN _) (Nat.add_assoc _ _ _))⟩))))
            go_meet
            case rel => exact ⟨_, (!t319), (by first | rfl | (simp; done) | (simp [*]; done)), H', ⟨by have := HJ2.out; have := HK2.out; first | omega | exact Nat.le_refl _⟩, ⟨by (with_reducible repeat (first | apply Kd.R_alloc | apply Kd.R_drewN | apply Kd.R_drew)); exact Kd.R_mono (Kd.R_far (p := ⟨gb317, 3, none⟩) (Kd.R_far (p := ⟨gb317, 2, none⟩) (Kd.R_far (p := ⟨gb317, 1, none⟩) (Kd.R_far (p := ⟨gb317, 0, none⟩) (Kd.R_types HO_5.out BK317.out (by decide)) (fun _ hk => hk.2) (.int .i64 ((rd_T34 l1 x6_2).f0))) (fun _ hk => hk.2) (.int .i64 ((rd_T34 l1 x6_2).f1))) (fun _ hk => hk.2) (.int .i64 ((rd_T34 l1 x6_2).f2))) (fun _ hk => hk.2) (.int .i64 ((rd_T34 l1 x6_2).f3))) (fun _ hk => trivial)⟩, ⟨by (with_reducible repeat (first | refine blk_drewN ?_ _ | refine blk_drew ?_ | refine blk_alloc ?_ _)); refine blk_put (cs := #[.int .i64 ((rd_T34 l1 x6_2).f0), .int .i64 ((rd_T34 l1 x6_2).f1), .int .i64 ((rd_T34 l1 x6_2).f2), .int .i64 0]) ?_ 3 _ rfl; (with_reducible repeat (first | refine blk_drewN ?_ _ | refine blk_drew ?_ | refine blk_alloc ?_ _)); refine blk_put (cs := #[.int .i64 ((rd_T34 l1 x6_2).f0), .int .i64 ((rd_T34 l1 x6_2).f1), .int .i64 0, .int .i64 0]) ?_ 2 _ rfl; (with_reducible repeat (first | refine blk_drewN ?_ _ | refine blk_drew ?_ | refine blk_alloc ?_ _)); refine blk_put (cs := #[.int .i64 ((rd_T34 l1 x6_2).f0), .int .i64 0, .int .i64 0, .int .i64 0]) ?_ 1 _ rfl; (with_reducible repeat (first | refine blk_drewN ?_ _ | refine blk_drew ?_ | refine blk_alloc ?_ _)); refine blk_put (cs := #[.int .i64 0, .int .i64 0, .int .i64 0, .int .i64 0]) ?_ 0 _ rfl; (with_reducible repeat (first | refine blk_drewN ?_ _ | refine blk_drew ?_ | refine blk_alloc ?_ _)); exact BK317.out⟩, ⟨by repeat (first | (with_reducible first | exact HB.out | apply below_alloc | apply pw_below_drewN | apply below_drew1 | refine below_set ?_ GE317.out) | exact HB.out)⟩⟩
           ·replace c19 := Bool.eq_false_iff.mpr c19
            subst c19
            have H1 : (spec_JobsLegal.j2 k2 l0 l1 x5_2 x6_2 true ((rd_T34 l1 x6_2).f0) ((rd_T34 l1 x6_2).f1) ((rd_T34 l1 x6_2).f2) ((rd_T34 l1 x6_2).f3)) = some r := by rw [if_neg (show ¬ (false = true) by decide)] at H; exact H
            clear H
            have H := H1
            clear H1
            have H' := Aside0.mk H
            clear H
            have hcz22_0 : w16.cell? ⟨gb317, 0, none⟩ = some (.int .i64 0) := (blk_cell BK317.out 0).trans rfl
            have hcz22_1 : w16.cell? ⟨gb317, 1, none⟩ = some (.int .i64 0) := (blk_cell BK317.out 1).trans rfl
            have hcz22_2 : w16.cell? ⟨gb317, 2, none⟩ = some (.int .i64 0) := (blk_cell BK317.out 2).trans rfl
            have hcz22_3 : w16.cell? ⟨gb317, 3, none⟩ = some (.int .i64 0) := (blk_cell BK317.out 3).trans rfl
            have hfz22_0 := blk_frozen BK317.out 0
            have hfz22_1 := blk_frozen BK317.out 1
            have hfz22_2 := blk_frozen BK317.out 2
            have hfz22_3 := blk_frozen BK317.out 3
            go_wp2_with (first | (go_at_call 102; (with_reducible refine (spec_l1In.calls ((rd_T34 l1 x6_2).f0) 0 (wrap64 ((l0.length : Int) - 1)) false _ A18.out).mono ?_); rintro e w' ⟨rfl, ⟨nd, rfl⟩⟩; (try first | exact ⟨rfl, _, World.drewN_drewN _ _ _⟩ | exact ⟨rfl, _, Eq.trans (World.drewN_drewN _ _ _) (congrArg (World.drewN _) (Nat.add_assoc _ _ _))⟩)))
            repeat (go_quiet (first | (go_at_call 102; (with_reducible refine (spec_l1In.calls ((rd_T34 l1 x6_2).f0) 0 (wrap64 ((l0.length : Int) - 1)) false _ A18.out).mono ?_); rintro e w' ⟨rfl, ⟨nd, rfl⟩⟩; (try first | exact ⟨rfl, _, World.drewN_drewN _ _ _⟩ | exact ⟨rfl, _, Eq.trans (World.drewN_drewN _ _ _) (congrArg (World.drewN _) (Nat.add_assoc _ _ _))⟩))); try go_wp2_with (first | (go_at_call 102; (with_reducible refine (spec_l1In.calls ((rd_T34 l1 x6_2).f0) 0 (wrap64 ((l0.length : Int) - 1)) false _ A18.out).mono ?_); rintro e w' ⟨rfl, ⟨nd, rfl⟩⟩; (try first | exact ⟨rfl, _, World.drewN_drewN _ _ _⟩ | exact ⟨rfl, _, Eq.trans (World.drewN_drewN _ _ _) (congrArg (World.drewN _) (Nat.add_assoc _ _ _))⟩))))
            go_meet
            case rel => exact ⟨_, (true), (by first | rfl | (simp; done) | (simp [*]; done)), H', ⟨by have := HJ2.out; have := HK2.out; first | omega | exact Nat.le_refl _⟩, ⟨by (with_reducible repeat (first | apply Kd.R_alloc | apply Kd.R_drewN | apply Kd.R_drew)); exact Kd.R_mono (Kd.R_far (p := ⟨gb317, 3, none⟩) (Kd.R_far (p := ⟨gb317, 2, none⟩) (Kd.R_far (p := ⟨gb317, 1, none⟩) (Kd.R_far (p := ⟨gb317, 0, none⟩) (Kd.R_types HO_5.out BK317.out (by decide)) (fun _ hk => hk.2) (.int .i64 ((rd_T34 l1 x6_2).f0))) (fun _ hk => hk.2) (.int .i64 ((rd_T34 l1 x6_2).f1))) (fun _ hk => hk.2) (.int .i64 ((rd_T34 l1 x6_2).f2))) (fun _ hk => hk.2) (.int .i64 ((rd_T34 l1 x6_2).f3))) (fun _ hk => trivial)⟩, ⟨by (with_reducible repeat (first | refine blk_drewN ?_ _ | refine blk_drew ?_ | refine blk_alloc ?_ _)); refine blk_put (cs := #[.int .i64 ((rd_T34 l1 x6_2).f0), .int .i64 ((rd_T34 l1 x6_2).f1), .int .i64 ((rd_T34 l1 x6_2).f2), .int .i64 0]) ?_ 3 _ rfl; (with_reducible repeat (first | refine blk_drewN ?_ _ | refine blk_drew ?_ | refine blk_alloc ?_ _)); refine blk_put (cs := #[.int .i64 ((rd_T34 l1 x6_2).f0), .int .i64 ((rd_T34 l1 x6_2).f1), .int .i64 0, .int .i64 0]) ?_ 2 _ rfl; (with_reducible repeat (first | refine blk_drewN ?_ _ | refine blk_drew ?_ | refine blk_alloc ?_ _)); refine blk_put (cs := #[.int .i64 ((rd_T34 l1 x6_2).f0), .int .i64 0, .int .i64 0, .int .i64 0]) ?_ 1 _ rfl; (with_reducible repeat (first | refine blk_drewN ?_ _ | refine blk_drew ?_ | refine blk_alloc ?_ _)); refine blk_put (cs := #[.int .i64 0, .int .i64 0, .int .i64 0, .int .i64 0]) ?_ 0 _ rfl; (with_reducible repeat (first | refine blk_drewN ?_ _ | refine blk_drew ?_ | refine blk_alloc ?_ _)); exact BK317.out⟩, ⟨by repeat (first | (with_reducible first | exact HB.out | apply below_alloc | apply pw_below_drewN | apply below_drew1 | refine below_set ?_ GE317.out) | exact HB.out)⟩⟩
          case rest =>
           clear HC15
           try clear c1
           try clear p2
           try clear p3
           try clear q3
           try clear hx3
           try clear c5
           try clear p6
           try clear c8
           try clear c9
           try clear c9b0
           try clear c9b1
           try clear c10
           try clear c10b0
           try clear c10b1
           try clear c13
           try clear c13b0
           try clear c14
           try clear c14b0
           try clear c19
           try clear hcz17_0
           try clear hcz17_1
           try clear hcz17_2
           try clear hcz17_3
           try clear hcz21_0
           try clear hcz21_1
           try clear hcz21_2
           try clear hcz21_3
           try clear hcz22_0
           try clear hcz22_1
           try clear hcz22_2
           try clear hcz22_3
           try clear hfz17_0
           try clear hfz17_1
           try clear hfz17_2
           try clear hfz17_3
           try clear hfz21_0
           try clear hfz21_1
           try clear hfz21_2
           try clear hfz21_3
           try clear hfz22_0
           try clear hfz22_1
           try clear hfz22_2
           try clear hfz22_3
           try clear hx316_0
           try clear hx316_1
           try clear hx316_2
           try clear hx316_3
           try clear p2
           try clear p316
           try clear q316
           obtain ⟨kq, x42_14, rfl, HA, HJ14, HO_5, BK317, HB⟩ := hcut
           cases kq with
           | zero => exact absurd HA.out (by simp [spec_JobsLegal.j2])
           | succ kj14 =>
            have H := HA.out
            clear HA
            simp only [spec_JobsLegal.j2] at H
            by_cases c23 : x42_14 = true
            ·subst c23
             have H1 : (some false) = some r := by rw [if_pos rfl] at H; exact H
             clear H
             have H := H1
             clear H1
             obtain rfl := Option.some.inj H
             go_wp2
             repeat (go_quiet (fail); try go_wp2)
             go_ret
             exact ⟨by first | rfl | (simp [errW_none, errW_some] <;> rfl) | (simp [*, errW_none, errW_some] <;> rfl), by repeat (first | (with_reducible first | exact HB.out | apply below_alloc | apply pw_below_drewN | apply below_drew1 | refine below_set ?_ GE317.out) | exact HB.out)⟩
            ·replace c23 := Bool.eq_false_iff.mpr c23
             subst c23
             have H1 : (if 0 ≤ ((rd_T34 l1 x6_2).f0) then (if ((rd_T34 l1 x6_2).f0) < (l0.length : Int) then (if ((rd_T34 l1 x6_2).f0) < (x5_2.length : Int) then (if ((rd_T34 l1 x6_2).f1) < (rd x5_2 ((rd_T34 l1 x6_2).f0)) then (spec_JobsLegal.j3 kj14 l0 l1 x5_2 x6_2 true ((rd_T34 l1 x6_2).f0) ((rd_T34 l1 x6_2).f1) ((rd_T34 l1 x6_2).f2) ((rd_T34 l1 x6_2).f3) ((rd_T88 l0 ((rd_T34 l1 x6_2).f0)).f0) ((rd_T88 l0 ((rd_T34 l1 x6_2).f0)).f1) ((rd_T88 l0 ((rd_T34 l1 x6_2).f0)).f2)) else (if ((rd_T34 l1 x6_2).f2) = (wrap64 (((rd_T34 l1 x6_2).f1) + ((rd_T88 l0 ((rd_T34 l1 x6_2).f0)).f1))) then ((spec_l1In.f ((rd_T34 l1 x6_2).f3) 1 ((rd_T88 l0 ((rd_T34 l1 x6_2).f0)).f0)).bind fun t323 => (spec_JobsLegal.j3 kj14 l0 l1 x5_2 x6_2 (!t323) ((rd_T34 l1 x6_2).f0) ((rd_T34 l1 x6_2).f1) ((rd_T34 l1 x6_2).f2) ((rd_T34 l1 x6_2).f3) ((rd_T88 l0 ((rd_T34 l1 x6_2).f0)).f0) ((rd_T88 l0 ((rd_T34 l1 x6_2).f0)).f1) ((rd_T88 l0 ((rd_T34 l1 x6_2).f0)).f2))) else (spec_JobsLegal.j3 kj14 l0 l1 x5_2 x6_2 true ((rd_T34 l1 x6_2).f0) ((rd_T34 l1 x6_2).f1) ((rd_T34 l1 x6_2).f2) ((rd_T34 l1 x6_2).f3) ((rd_T88 l0 ((rd_T34 l1 x6_2).f0)).f0) ((rd_T88 l0 ((rd_T34 l1 x6_2).f0)).f1) ((rd_T88 l0 ((rd_T34 l1 x6_2).f0)).f2)))) else (none)) else (none)) else (none)) = some r := by rw [if_neg (show ¬ (false = true) by decide)] at H; exact H
             clear H
             have H := H1
             clear H1
             by_cases c24 : 0 ≤ ((rd_T34 l1 x6_2).f0)
             ·rw [if_pos c24] at H
              have c24b0 : decide (0 ≤ ((rd_T34 l1 x6_2).f0)) = true := decide_eq_true c24
              clear c24
              by_cases c25 : ((rd_T34 l1 x6_2).f0) < (l0.length : Int)
              ·rw [if_pos c25] at H
               have c25b0 : decide (((rd_T34 l1 x6_2).f0) < (l0.length : Int)) = true := decide_eq_true c25
               clear c25
               have HC26 := Aside0.mk H
               clear H
               have hcz27_0 : wc.cell? ⟨gb317, 0, none⟩ = some (.int .i64 ((rd_T34 l1 x6_2).f0)) := (blk_cell BK317.out 0).trans rfl
               have hcz27_1 : wc.cell? ⟨gb317, 1, none⟩ = some (.int .i64 ((rd_T34 l1 x6_2).f1)) := (blk_cell BK317.out 1).trans rfl
               have hcz27_2 : wc.cell? ⟨gb317, 2, none⟩ = some (.int .i64 ((rd_T34 l1 x6_2).f2)) := (blk_cell BK317.out 2).trans rfl
               have hcz27_3 : wc.cell? ⟨gb317, 3, none⟩ = some (.int .i64 ((rd_T34 l1 x6_2).f3)) := (blk_cell BK317.out 3).trans rfl
               have hfz27_0 := blk_frozen BK317.out 0
               have hfz27_1 := blk_frozen BK317.out 1
               have hfz27_2 := blk_frozen BK317.out 2
               have hfz27_3 := blk_frozen BK317.out 3
               have p320 : 0 ≤ (((rd_T34 l1 x6_2).f0) : Int) := of_decide_eq_true (by first | (with_reducible assumption) | assumption)
               have q320 : ((rd_T34 l1 x6_2).f0) < (l0.length : Int) := of_decide_eq_true (by first | (with_reducible assumption) | assumption)
               obtain ⟨ad320, e320, hx320_0, hx320_1, hx320_2⟩ := at_T88 HR0.out ((rd_T34 l1 x6_2).f0) p320 q320
               cases e320
               replace hx320_0 := (HB.out.cell (World.block_lt_of_cell? w _ hx320_0)).trans hx320_0
               replace hx320_1 := (HB.out.cell (World.block_lt_of_cell? w _ hx320_1)).trans hx320_1
               replace hx320_2 := (HB.out.cell (World.block_lt_of_cell? w _ hx320_2)).trans hx320_2
               replace p320 := eq_true p320
               replace q320 := eq_true q320
               go_upto_region 11 with (first | ((with_reducible refine gate_dst (N := 8) rfl ?_); (try (refine gate_guard (by rfl) ?_; dsimp only)); refine box_event ?hg (N := 8) ?hd (cs := #[.int .i64 0, .int .i64 0, .int .i64 0]) (t := 88) ?hr ?_; (case hd => rfl); (case hg => rfl); (case hr => first | (go_simp; done) | (go_simp; rfl)); intro gb321 hg w28 hbox hb; have n0_ := Aside0.mk (Kd.R_below (by (with_reducible repeat (first | apply Kd.R_alloc | apply Kd.R_drewN | apply Kd.R_drew)); exact HO_5.out) hb); have n1_ := Aside0.mk (blk_below (g := gb317) (o := .cells #[.int .i64 ((rd_T34 l1 x6_2).f0), .int .i64 ((rd_T34 l1 x6_2).f1), .int .i64 ((rd_T34 l1 x6_2).f2), .int .i64 ((rd_T34 l1 x6_2).f3)] 34 (0, 0)) (by (with_reducible repeat (first | refine blk_drewN ?_ _ | refine blk_drew ?_ | refine blk_alloc ?_ _)); exact BK317.out) hb); have n2_ := Aside0.mk (below_step (by repeat (first | (with_reducible first | exact HB.out | apply below_alloc | apply pw_below_drewN | apply below_drew1 | refine below_set ?_ GE317.out) | exact HB.out)) hb); have n3_ := Aside0.mk (hbox); have n4_ := Aside0.mk ((by rw [hg]; exact (below_size (by repeat (first | (with_reducible first | exact HB.out | apply below_alloc | apply pw_below_drewN | apply below_drew1 | refine below_set ?_ GE317.out) | exact HB.out))) : w.heap.size ≤ gb321)); have n5_ := Aside0.mk ((by rw [hg]; exact (below_size (by repeat (first | (with_reducible first | exact HB.out | apply below_alloc | apply pw_below_drewN | apply below_drew1 | refine below_set ?_ GE317.out) | exact HB.out))) : w.heap.size ≤ gb321)); have n6_ := Aside0.mk ((by rw [hg]; exact Nat.ne_of_lt (blk_lt (g := gb317) (o := .cells #[.int .i64 ((rd_T34 l1 x6_2).f0), .int .i64 ((rd_T34 l1 x6_2).f1), .int .i64 ((rd_T34 l1 x6_2).f2), .int .i64 ((rd_T34 l1 x6_2).f3)] 34 (0, 0)) (by (with_reducible repeat (first | refine blk_drewN ?_ _ | refine blk_drew ?_ | refine blk_alloc ?_ _)); exact BK317.out)) : gb317 ≠ gb321)); have n7_ := Aside0.mk ((by rw [hg]; exact Nat.ne_of_gt (blk_lt (g := gb317) (o := .cells #[.int .i64 ((rd_T34 l1 x6_2).f0), .int .i64 ((rd_T34 l1 x6_2).f1), .int .i64 ((rd_T34 l1 x6_2).f2), .int .i64 ((rd_T34 l1 x6_2).f3)] 34 (0, 0)) (by (with_reducible repeat (first | refine blk_drewN ?_ _ | refine blk_drew ?_ | refine blk_alloc ?_ _)); exact BK317.out)) : gb321 ≠ gb317)); clear HO_5; clear BK317; clear HB; have HO_5 := n0_; have BK317 := n1_; have HB := n2_; have BK321 := n3_; have GW321 := n4_; have GE321 := n5_; have NB317_321 := n6_; have NB321_317 := n7_; clear n0_ n1_ n2_ n3_ n4_ n5_ n6_ n7_; clear hb hbox hg; have hnb29 := NB321_317.out; have hnc29 := NB317_321.out; have hcz30_0 : w28.cell? ⟨gb321, 0, none⟩ = some (.int .i64 0) := (blk_cell BK321.out 0).trans rfl; have hcz30_1 : w28.cell? ⟨gb321, 1, none⟩ = some (.int .i64 0) := (blk_cell BK321.out 1).trans rfl; have hcz30_2 : w28.cell? ⟨gb321, 2, none⟩ = some (.int .i64 0) := (blk_cell BK321.out 2).trans rfl; have hfz30_0 := blk_frozen BK321.out 0; have hfz30_1 := blk_frozen BK321.out 1; have hfz30_2 := blk_frozen BK321.out 2))
               repeat (go_quiet (first | ((with_reducible refine gate_dst (N := 8) rfl ?_); (try (refine gate_guard (by rfl) ?_; dsimp only)); refine box_event ?hg (N := 8) ?hd (cs := #[.int .i64 0, .int .i64 0, .int .i64 0]) (t := 88) ?hr ?_; (case hd => rfl); (case hg => rfl); (case hr => first | (go_simp; done) | (go_simp; rfl)); intro gb321 hg w28 hbox hb; have n0_ := Aside0.mk (Kd.R_below (by (with_reducible repeat (first | apply Kd.R_alloc | apply Kd.R_drewN | apply Kd.R_drew)); exact HO_5.out) hb); have n1_ := Aside0.mk (blk_below (g := gb317) (o := .cells #[.int .i64 ((rd_T34 l1 x6_2).f0), .int .i64 ((rd_T34 l1 x6_2).f1), .int .i64 ((rd_T34 l1 x6_2).f2), .int .i64 ((rd_T34 l1 x6_2).f3)] 34 (0, 0)) (by (with_reducible repeat (first | refine blk_drewN ?_ _ | refine blk_drew ?_ | refine blk_alloc ?_ _)); exact BK317.out) hb); have n2_ := Aside0.mk (below_step (by repeat (first | (with_reducible first | exact HB.out | apply below_alloc | apply pw_below_drewN | apply below_drew1 | refine below_set ?_ GE317.out) | exact HB.out)) hb); have n3_ := Aside0.mk (hbox); have n4_ := Aside0.mk ((by rw [hg]; exact (below_size (by repeat (first | (with_reducible first | exact HB.out | apply below_alloc | apply pw_below_drewN | apply below_drew1 | refine below_set ?_ GE317.out) | exact HB.out))) : w.heap.size ≤ gb321)); have n5_ := Aside0.mk ((by rw [hg]; exact (below_size (by repeat (first | (with_reducible first | exact HB.out | apply below_alloc | apply pw_below_drewN | apply below_drew1 | refine below_set ?_ GE317.out) | exact HB.out))) : w.heap.size ≤ gb321)); have n6_ := Aside0.mk ((by rw [hg]; exact Nat.ne_of_lt (blk_lt (g := gb317) (o := .cells #[.int .i64 ((rd_T34 l1 x6_2).f0), .int .i64 ((rd_T34 l1 x6_2).f1), .int .i64 ((rd_T34 l1 x6_2).f2), .int .i64 ((rd_T34 l1 x6_2).f3)] 34 (0, 0)) (by (with_reducible repeat (first | refine blk_drewN ?_ _ | refine blk_drew ?_ | refine blk_alloc ?_ _)); exact BK317.out)) : gb317 ≠ gb321)); have n7_ := Aside0.mk ((by rw [hg]; exact Nat.ne_of_gt (blk_lt (g := gb317) (o := .cells #[.int .i64 ((rd_T34 l1 x6_2).f0), .int .i64 ((rd_T34 l1 x6_2).f1), .int .i64 ((rd_T34 l1 x6_2).f2), .int .i64 ((rd_T34 l1 x6_2).f3)] 34 (0, 0)) (by (with_reducible repeat (first | refine blk_drewN ?_ _ | refine blk_drew ?_ | refine blk_alloc ?_ _)); exact BK317.out)) : gb321 ≠ gb317)); clear HO_5; clear BK317; clear HB; have HO_5 := n0_; have BK317 := n1_; have HB := n2_; have BK321 := n3_; have GW321 := n4_; have GE321 := n5_; have NB317_321 := n6_; have NB321_317 := n7_; clear n0_ n1_ n2_ n3_ n4_ n5_ n6_ n7_; clear hb hbox hg; have hnb29 := NB321_317.out; have hnc29 := NB317_321.out; have hcz30_0 : w28.cell? ⟨gb321, 0, none⟩ = some (.int .i64 0) := (blk_cell BK321.out 0).trans rfl; have hcz30_1 : w28.cell? ⟨gb321, 1, none⟩ = some (.int .i64 0) := (blk_cell BK321.out 1).trans rfl; have hcz30_2 : w28.cell? ⟨gb321, 2, none⟩ = some (.int .i64 0) := (blk_cell BK321.out 2).trans rfl; have hfz30_0 := blk_frozen BK321.out 0; have hfz30_1 := blk_frozen BK321.out 1; have hfz30_2 := blk_frozen BK321.out 2)); go_upto_region 11 with (first | ((with_reducible refine gate_dst (N := 8) rfl ?_); (try (refine gate_guard (by rfl) ?_; dsimp only)); refine box_event ?hg (N := 8) ?hd (cs := #[.int .i64 0, .int .i64 0, .int .i64 0]) (t := 88) ?hr ?_; (case hd => rfl); (case hg => rfl); (case hr => first | (go_simp; done) | (go_simp; rfl)); intro gb321 hg w28 hbox hb; have n0_ := Aside0.mk (Kd.R_below (by (with_reducible repeat (first | apply Kd.R_alloc | apply Kd.R_drewN | apply Kd.R_drew)); exact HO_5.out) hb); have n1_ := Aside0.mk (blk_below (g := gb317) (o := .cells #[.int .i64 ((rd_T34 l1 x6_2).f0), .int .i64 ((rd_T34 l1 x6_2).f1), .int .i64 ((rd_T34 l1 x6_2).f2), .int .i64 ((rd_T34 l1 x6_2).f3)] 34 (0, 0)) (by (with_reducible repeat (first | refine blk_drewN ?_ _ | refine blk_drew ?_ | refine blk_alloc ?_ _)); exact BK317.out) hb); have n2_ := Aside0.mk (below_step (by repeat (first | (with_reducible first | exact HB.out | apply below_alloc | apply pw_below_drewN | apply below_drew1 | refine below_set ?_ GE317.out) | exact HB.out)) hb); have n3_ := Aside0.mk (hbox); have n4_ := Aside0.mk ((by rw [hg]; exact (below_size (by repeat (first | (with_reducible first | exact HB.out | apply below_alloc | apply pw_below_drewN | apply below_drew1 | refine below_set ?_ GE317.out) | exact HB.out))) : w.heap.size ≤ gb321)); have n5_ := Aside0.mk ((by rw [hg]; exact (below_size (by repeat (first | (with_reducible first | exact HB.out | apply below_alloc | apply pw_below_drewN | apply below_drew1 | refine below_set ?_ GE317.out) | exact HB.out))) : w.heap.size ≤ gb321)); have n6_ := Aside0.mk ((by rw [hg]; exact Nat.ne_of_lt (blk_lt (g := gb317) (o := .cells #[.int .i64 ((rd_T34 l1 x6_2).f0), .int .i64 ((rd_T34 l1 x6_2).f1), .int .i64 ((rd_T34 l1 x6_2).f2), .int .i64 ((rd_T34 l1 x6_2).f3)] 34 (0, 0)) (by (with_reducible repeat (first | refine blk_drewN ?_ _ | refine blk_drew ?_ | refine blk_alloc ?_ _)); exact BK317.out)) : gb317 ≠ gb321)); have n7_ := Aside0.mk ((by rw [hg]; exact Nat.ne_of_gt (blk_lt (g := gb317) (o := .cells #[.int .i64 ((rd_T34 l1 x6_2).f0), .int .i64 ((rd_T34 l1 x6_2).f1), .int .i64 ((rd_T34 l1 x6_2).f2), .int .i64 ((rd_T34 l1 x6_2).f3)] 34 (0, 0)) (by (with_reducible repeat (first | refine blk_drewN ?_ _ | refine blk_drew ?_ | refine blk_alloc ?_ _)); exact BK317.out)) : gb321 ≠ gb317)); clear HO_5; clear BK317; clear HB; have HO_5 := n0_; have BK317 := n1_; have HB := n2_; have BK321 := n3_; have GW321 := n4_; have GE321 := n5_; have NB317_321 := n6_; have NB321_317 := n7_; clear n0_ n1_ n2_ n3_ n4_ n5_ n6_ n7_; clear hb hbox hg; have hnb29 := NB321_317.out; have hnc29 := NB317_321.out; have hcz30_0 : w28.cell? ⟨gb321, 0, none⟩ = some (.int .i64 0) := (blk_cell BK321.out 0).trans rfl; have hcz30_1 : w28.cell? ⟨gb321, 1, none⟩ = some (.int .i64 0) := (blk_cell BK321.out 1).trans rfl; have hcz30_2 : w28.cell? ⟨gb321, 2, none⟩ = some (.int .i64 0) := (blk_cell BK321.out 2).trans rfl; have hfz30_0 := blk_frozen BK321.out 0; have hfz30_1 := blk_frozen BK321.out 1; have hfz30_2 := blk_frozen BK321.out 2)))
               (try simp only [Act.put, List.setIfInBounds_toArray, List.set_cons_zero, List.set_cons_succ])
               go_cut [73] (fun v73 wc => ∃ (kq : Nat) (x73_25 : Bool), v73 = .bool x73_25 ∧ Aside0 (spec_JobsLegal.j3 kq l0 l1 x5_2 x6_2 x73_25 ((rd_T34 l1 x6_2).f0) ((rd_T34 l1 x6_2).f1) ((rd_T34 l1 x6_2).f2) ((rd_T34 l1 x6_2).f3) ((rd_T88 l0 ((rd_T34 l1 x6_2).f0)).f0) ((rd_T88 l0 ((rd_T34 l1 x6_2).f0)).f1) ((rd_T88 l0 ((rd_T34 l1 x6_2).f0)).f2) = some r) ∧ Aside0 (kq ≤ kj14) ∧ Aside0 (Kd.R (Kd.int .i64) 3 wc w.heap.size (fun _ => True) v314 x5_2) ∧ Aside0 (wc.heap[gb317]? = some (.cells #[.int .i64 ((rd_T34 l1 x6_2).f0), .int .i64 ((rd_T34 l1 x6_2).f1), .int .i64 ((rd_T34 l1 x6_2).f2), .int .i64 ((rd_T34 l1 x6_2).f3)] 34 (0, 0))) ∧ Aside0 (wc.heap[gb321]? = some (.cells #[.int .i64 ((rd_T88 l0 ((rd_T34 l1 x6_2).f0)).f0), .int .i64 ((rd_T88 l0 ((rd_T34 l1 x6_2).f0)).f1), .int .i64 ((rd_T88 l0 ((rd_T34 l1 x6_2).f0)).f2)] 88 (0, 0))) ∧ Aside0 (Below w.heap.size w wc))
               case first =>
                have H := HC26.out
                clear HC26
                by_cases c31 : ((rd_T34 l1 x6_2).f0) < (x5_2.length : Int)
                ·rw [if_pos c31] at H
                 have c31b0 : decide (((rd_T34 l1 x6_2).f0) < (x5_2.length : Int)) = true := decide_eq_true c31
                 clear c31
                 (first | rw [c31b0] | (simp only [i64_w, i32_w]; rw [c31b0]) | skip)
                 by_cases c32 : ((rd_T34 l1 x6_2).f1) < (rd x5_2 ((rd_T34 l1 x6_2).f0))
                 ·rw [if_pos c32] at H
                  have c32b0 : decide (((rd_T34 l1 x6_2).f1) < (rd x5_2 ((rd_T34 l1 x6_2).f0))) = true := decide_eq_true c32
                  clear c32
                  have H' := Aside0.mk H
                  clear H
                  have hnb33 := NB317_321.out
                  have hnc33 := NB321_317.out
                  have hcz34_0 : w28.cell? ⟨gb317, 0, none⟩ = some (.int .i64 ((rd_T34 l1 x6_2).f0)) := (blk_cell BK317.out 0).trans rfl
                  have hcz34_1 : w28.cell? ⟨gb317, 1, none⟩ = some (.int .i64 ((rd_T34 l1 x6_2).f1)) := (blk_cell BK317.out 1).trans rfl
                  have hcz34_2 : w28.cell? ⟨gb317, 2, none⟩ = some (.int .i64 ((rd_T34 l1 x6_2).f2)) := (blk_cell BK317.out 2).trans rfl
                  have hcz34_3 : w28.cell? ⟨gb317, 3, none⟩ = some (.int .i64 ((rd_T34 l1 x6_2).f3)) := (blk_cell BK317.out 3).trans rfl
                  have hfz34_0 := blk_frozen BK317.out 0
                  have hfz34_1 := blk_frozen BK317.out 1
                  have hfz34_2 := blk_frozen BK317.out 2
                  have hfz34_3 := blk_frozen BK317.out 3
                  obtain ⟨Ao35, co35, eo35⟩ := Kd.R_slice HO_5.out
                  subst eo35
                  have p322 : 0 ≤ (((rd_T34 l1 x6_2).f0) : Int) := of_decide_eq_true (by first | (with_reducible assumption) | assumption)
                  have q322 : ((rd_T34 l1 x6_2).f0) < (x5_2.length : Int) := of_decide_eq_true (by first | (with_reducible assumption) | assumption)
                  obtain ⟨ad322, e322, hx322_0⟩ := Kd.at_int (Kd.R_reads' HO_5.out).2.2 ((rd_T34 l1 x6_2).f0) p322 q322
                  cases e322
                  have hn322_0 : ad322.block ≠ gb321 := Kd.own_blk (Kd.R_ne HO_5.out BK321.out (by decide))
                  have hn322_1 : ad322.block ≠ gb321 := Kd.own_blk (Kd.R_ne HO_5.out BK321.out (by decide))
                  have hn322_2 : ad322.block ≠ gb321 := Kd.own_blk (Kd.R_ne HO_5.out BK321.out (by decide))
                  replace hx322_0 := (cell_far (p := ⟨gb321, 0, none⟩) (by first | (rw [add_block]; exact hn322_0) | (show (Addr.add _ _).block ≠ _; rw [add_block]; exact hn322_0) | exact hn322_0) (.int .i64 ((rd_T88 l0 ((rd_T34 l1 x6_2).f0)).f0))).trans hx322_0
                  replace hx322_0 := (cell_far (p := ⟨gb321, 1, none⟩) (by first | (rw [add_block]; exact hn322_1) | (show (Addr.add _ _).block ≠ _; rw [add_block]; exact hn322_1) | exact hn322_1) (.int .i64 ((rd_T88 l0 ((rd_T34 l1 x6_2).f0)).f1))).trans hx322_0
                  replace hx322_0 := (cell_far (p := ⟨gb321, 2, none⟩) (by first | (rw [add_block]; exact hn322_2) | (show (Addr.add _ _).block ≠ _; rw [add_block]; exact hn322_2) | exact hn322_2) (.int .i64 ((rd_T88 l0 ((rd_T34 l1 x6_2).f0)).f2))).trans hx322_0
                  (try have hy322_0 := fun (n_ : Nat) => (show (((((w28.drewN n_).setCell ⟨gb321, 0, none⟩ (.int .i64 ((rd_T88 l0 ((rd_T34 l1 x6_2).f0)).f0))).setCell ⟨gb321, 1, none⟩ (.int .i64 ((rd_T88 l0 ((rd_T34 l1 x6_2).f0)).f1))).setCell ⟨gb321, 2, none⟩ (.int .i64 ((rd_T88 l0 ((rd_T34 l1 x6_2).f0)).f2)))).cell? _ = some _ from hx322_0))
                  clear hn322_0
                  clear hn322_1
                  clear hn322_2
                  replace p322 := eq_true p322
                  replace q322 := eq_true q322
                  go_wp2
                  repeat (go_quiet (fail); try go_wp2)
                  go_meet
                  case rel => exact ⟨_, (true), (by first | rfl | (simp; done) | (simp [*]; done)), H', ⟨by have := HJ2.out; have := HK2.out; have := HJ14.out; first | omega | exact Nat.le_refl _⟩, ⟨by (with_reducible repeat (first | apply Kd.R_alloc | apply Kd.R_drewN | apply Kd.R_drew)); exact Kd.R_mono (Kd.R_far (p := ⟨gb321, 2, none⟩) (Kd.R_far (p := ⟨gb321, 1, none⟩) (Kd.R_far (p := ⟨gb321, 0, none⟩) (Kd.R_types HO_5.out BK321.out (by decide)) (fun _ hk => hk.2) (.int .i64 ((rd_T88 l0 ((rd_T34 l1 x6_2).f0)).f0))) (fun _ hk => hk.2) (.int .i64 ((rd_T88 l0 ((rd_T34 l1 x6_2).f0)).f1))) (fun _ hk => hk.2) (.int .i64 ((rd_T88 l0 ((rd_T34 l1 x6_2).f0)).f2))) (fun _ hk => trivial)⟩, ⟨by (with_reducible repeat (first | refine blk_drewN ?_ _ | refine blk_drew ?_ | refine blk_alloc ?_ _)); refine blk_far ?_ NB317_321.out _; (with_reducible repeat (first | refine blk_drewN ?_ _ | refine blk_drew ?_ | refine blk_alloc ?_ _)); refine blk_far ?_ NB317_321.out _; (with_reducible repeat (first | refine blk_drewN ?_ _ | refine blk_drew ?_ | refine blk_alloc ?_ _)); refine blk_far ?_ NB317_321.out _; (with_reducible repeat (first | refine blk_drewN ?_ _ | refine blk_drew ?_ | refine blk_alloc ?_ _)); exact BK317.out⟩, ⟨by (with_reducible repeat (first | refine blk_drewN ?_ _ | refine blk_drew ?_ | refine blk_alloc ?_ _)); refine blk_put (cs := #[.int .i64 ((rd_T88 l0 ((rd_T34 l1 x6_2).f0)).f0), .int .i64 ((rd_T88 l0 ((rd_T34 l1 x6_2).f0)).f1), .int .i64 0]) ?_ 2 _ rfl; (with_reducible repeat (first | refine blk_drewN ?_ _ | refine blk_drew ?_ | refine blk_alloc ?_ _)); refine blk_put (cs := #[.int .i64 ((rd_T88 l0 ((rd_T34 l1 x6_2).f0)).f0), .int .i64 0, .int .i64 0]) ?_ 1 _ rfl; (with_reducible repeat (first | refine blk_drewN ?_ _ | refine blk_drew ?_ | refine blk_alloc ?_ _)); refine blk_put (cs := #[.int .i64 0, .int .i64 0, .int .i64 0]) ?_ 0 _ rfl; (with_reducible repeat (first | refine blk_drewN ?_ _ | refine blk_drew ?_ | refine blk_alloc ?_ _)); exact BK321.out⟩, ⟨by repeat (first | (with_reducible first | exact HB.out | apply below_alloc | apply pw_below_drewN | apply below_drew1 | refine below_set ?_ GE317.out | refine below_set ?_ GE321.out) | exact HB.out)⟩⟩
                 ·rw [if_neg c32] at H
                  have c32b0 : decide (((rd_T34 l1 x6_2).f1) < (rd x5_2 ((rd_T34 l1 x6_2).f0))) = false := decide_eq_false c32
                  clear c32
                  by_cases c36 : ((rd_T34 l1 x6_2).f2) = (wrap64 (((rd_T34 l1 x6_2).f1) + ((rd_T88 l0 ((rd_T34 l1 x6_2).f0)).f1)))
                  ·rw [if_pos c36] at H
                   have c36b0 : (((rd_T34 l1 x6_2).f2) == (wrap64 (((rd_T34 l1 x6_2).f1) + ((rd_T88 l0 ((rd_T34 l1 x6_2).f0)).f1)))) = true := beq_iff_eq.mpr c36
                   have c36b1 : (((rd_T34 l1 x6_2).f2) != (wrap64 (((rd_T34 l1 x6_2).f1) + ((rd_T88 l0 ((rd_T34 l1 x6_2).f0)).f1)))) = false := bne_eq_false_iff_eq.mpr c36
                   clear c36
                   replace H := Option.bind_eq_some_iff.mp H
                   obtain ⟨t323, A370, H⟩ := H
                   replace H : (spec_JobsLegal.j3 kj14 l0 l1 x5_2 x6_2 (!t323) ((rd_T34 l1 x6_2).f0) ((rd_T34 l1 x6_2).f1) ((rd_T34 l1 x6_2).f2) ((rd_T34 l1 x6_2).f3) ((rd_T88 l0 ((rd_T34 l1 x6_2).f0)).f0) ((rd_T88 l0 ((rd_T34 l1 x6_2).f0)).f1) ((rd_T88 l0 ((rd_T34 l1 x6_2).f0)).f2)) = some r := H
                   have A37 := Aside0.mk A370
                   clear A370
                   have H' := Aside0.mk H
                   clear H
                   have hnb38 := NB317_321.out
                   have hnc38 := NB321_317.out
                   have hcz39_0 : w28.cell? ⟨gb317, 0, none⟩ = some (.int .i64 ((rd_T34 l1 x6_2).f0)) := (blk_cell BK317.out 0).trans rfl
                   have hcz39_1 : w28.cell? ⟨gb317, 1, none⟩ = some (.int .i64 ((rd_T34 l1 x6_2).f1)) := (blk_cell BK317.out 1).trans rfl
                   have hcz39_2 : w28.cell? ⟨gb317, 2, none⟩ = some (.int .i64 ((rd_T34 l1 x6_2).f2)) := (blk_cell BK317.out 2).trans rfl
                   have hcz39_3 : w28.cell? ⟨gb317, 3, none⟩ = some (.int .i64 ((rd_T34 l1 x6_2).f3)) := (blk_cell BK317.out 3).trans rfl
                   have hfz39_0 := blk_frozen BK317.out 0
                   have hfz39_1 := blk_frozen BK317.out 1
                   have hfz39_2 := blk_frozen BK317.out 2
                   have hfz39_3 := blk_frozen BK317.out 3
                   obtain ⟨Ao40, co40, eo40⟩ := Kd.R_slice HO_5.out
                   subst eo40
                   have p322 : 0 ≤ (((rd_T34 l1 x6_2).f0) : Int) := of_decide_eq_true (by first | (with_reducible assumption) | assumption)
                   have q322 : ((rd_T34 l1 x6_2).f0) < (x5_2.length : Int) := of_decide_eq_true (by first | (with_reducible assumption) | assumption)
                   obtain ⟨ad322, e322, hx322_0⟩ := Kd.at_int (Kd.R_reads' HO_5.out).2.2 ((rd_T34 l1 x6_2).f0) p322 q322
                   cases e322
                   have hn322_0 : ad322.block ≠ gb321 := Kd.own_blk (Kd.R_ne HO_5.out BK321.out (by decide))
                   have hn322_1 : ad322.block ≠ gb321 := Kd.own_blk (Kd.R_ne HO_5.out BK321.out (by decide))
                   have hn322_2 : ad322.block ≠ gb321 := Kd.own_blk (Kd.R_ne HO_5.out BK321.out (by decide))
                   replace hx322_0 := (cell_far (p := ⟨gb321, 0, none⟩) (by first | (rw [add_block]; exact hn322_0) | (show (Addr.add _ _).block ≠ _; rw [add_block]; exact hn322_0) | exact hn322_0) (.int .i64 ((rd_T88 l0 ((rd_T34 l1 x6_2).f0)).f0))).trans hx322_0
                   replace hx322_0 := (cell_far (p := ⟨gb321, 1, none⟩) (by first | (rw [add_block]; exact hn322_1) | (show (Addr.add _ _).block ≠ _; rw [add_block]; exact hn322_1) | exact hn322_1) (.int .i64 ((rd_T88 l0 ((rd_T34 l1 x6_2).f0)).f1))).trans hx322_0
                   replace hx322_0 := (cell_far (p := ⟨gb321, 2, none⟩) (by first | (rw [add_block]; exact hn322_2) | (show (Addr.add _ _).block ≠ _; rw [add_block]; exact hn322_2) | exact hn322_2) (.int .i64 ((rd_T88 l0 ((rd_T34 l1 x6_2).f0)).f2))).trans hx322_0
                   (try have hy322_0 := fun (n_ : Nat) => (show (((((w28.drewN n_).setCell ⟨gb321, 0, none⟩ (.int .i64 ((rd_T88 l0 ((rd_T34 l1 x6_2).f0)).f0))).setCell ⟨gb321, 1, none⟩ (.int .i64 ((rd_T88 l0 ((rd_T34 l1 x6_2).f0)).f1))).setCell ⟨gb321, 2, none⟩ (.int .i64 ((rd_T88 l0 ((rd_T34 l1 x6_2).f0)).f2)))).cell? _ = some _ from hx322_0))
                   clear hn322_0
                   clear hn322_1
                   clear hn322_2
                   replace p322 := eq_true p322
                   replace q322 := eq_true q322
                   have hcz41_0 : w28.cell? ⟨gb321, 0, none⟩ = some (.int .i64 0) := (blk_cell BK321.out 0).trans rfl
                   have hcz41_1 : w28.cell? ⟨gb321, 1, none⟩ = some (.int .i64 0) := (blk_cell BK321.out 1).trans rfl
                   have hcz41_2 : w28.cell? ⟨gb321, 2, none⟩ = some (.int .i64 0) := (blk_cell BK321.out 2).trans rfl
                   have hfz41_0 := blk_frozen BK321.out 0
                   have hfz41_1 := blk_frozen BK321.out 1
                   have hfz41_2 := blk_frozen BK321.out 2
                   go_wp2_with (first | (go_at_call 102; (with_reducible refine (spec_l1In.calls ((rd_T34 l1 x6_2).f3) 1 ((rd_T88 l0 ((rd_T34 l1 x6_2).f0)).f0) t323 _ A37.out).mono ?_); rintro e w' ⟨rfl, ⟨nd, rfl⟩⟩; (try first | exact ⟨rfl, _, World.drewN_drewN _ _ _⟩ | exact ⟨rfl, _, Eq.trans (World.drewN_drewN _ _ _) (congrArg (World.drewN _) (Nat.add_assoc _ _ _))⟩)))
                   repeat (go_quiet (first | (go_at_call 102; (with_reducible refine (spec_l1In.calls ((rd_T34 l1 x6_2).f3) 1 ((rd_T88 l0 ((rd_T34 l1 x6_2).f0)).f0) t323 _ A37.out).mono ?_); rintro e w' ⟨rfl, ⟨nd, rfl⟩⟩; (try first | exact ⟨rfl, _, World.drewN_drewN _ _ _⟩ | exact ⟨rfl, _, Eq.trans (World.drewN_drewN _ _ _) (congrArg (World.drewN _) (Nat.add_assoc _ _ _))⟩))); try go_wp2_with (first | (go_at_call 102; (with_reducible refine (spec_l1In.calls ((rd_T34 l1 x6_2).f3) 1 ((rd_T88 l0 ((rd_T34 l1 x6_2).f0)).f0) t323 _ A37.out).mono ?_); rintro e w' ⟨rfl, ⟨nd, rfl⟩⟩; (try first | exact ⟨rfl, _, World.drewN_drewN _ _ _⟩ | exact ⟨rfl, _, Eq.trans (World.drewN_drewN _ _ _) (congrArg (World.drewN _) (Nat.add_assoc _ _ _))⟩))))
                   go_meet
                   case rel => exact ⟨_, (!t323), (by first | rfl | (simp; done) | (simp [*]; done)), H', ⟨by have := HJ2.out; have := HK2.out; have := HJ14.out; first | omega | exact Nat.le_refl _⟩, ⟨by (with_reducible repeat (first | apply Kd.R_alloc | apply Kd.R_drewN | apply Kd.R_drew)); exact Kd.R_mono (Kd.R_far (p := ⟨gb321, 2, none⟩) (Kd.R_far (p := ⟨gb321, 1, none⟩) (Kd.R_far (p := ⟨gb321, 0, none⟩) (Kd.R_types HO_5.out BK321.out (by decide)) (fun _ hk => hk.2) (.int .i64 ((rd_T88 l0 ((rd_T34 l1 x6_2).f0)).f0))) (fun _ hk => hk.2) (.int .i64 ((rd_T88 l0 ((rd_T34 l1 x6_2).f0)).f1))) (fun _ hk => hk.2) (.int .i64 ((rd_T88 l0 ((rd_T34 l1 x6_2).f0)).f2))) (fun _ hk => trivial)⟩, ⟨by (with_reducible repeat (first | refine blk_drewN ?_ _ | refine blk_drew ?_ | refine blk_alloc ?_ _)); refine blk_far ?_ NB317_321.out _; (with_reducible repeat (first | refine blk_drewN ?_ _ | refine blk_drew ?_ | refine blk_alloc ?_ _)); refine blk_far ?_ NB317_321.out _; (with_reducible repeat (first | refine blk_drewN ?_ _ | refine blk_drew ?_ | refine blk_alloc ?_ _)); refine blk_far ?_ NB317_321.out _; (with_reducible repeat (first | refine blk_drewN ?_ _ | refine blk_drew ?_ | refine blk_alloc ?_ _)); exact BK317.out⟩, ⟨by (with_reducible repeat (first | refine blk_drewN ?_ _ | refine blk_drew ?_ | refine blk_alloc ?_ _)); refine blk_put (cs := #[.int .i64 ((rd_T88 l0 ((rd_T34 l1 x6_2).f0)).f0), .int .i64 ((rd_T88 l0 ((rd_T34 l1 x6_2).f0)).f1), .int .i64 0]) ?_ 2 _ rfl; (with_reducible repeat (first | refine blk_drewN ?_ _ | refine blk_drew ?_ | refine blk_alloc ?_ _)); refine blk_put (cs := #[.int .i64 ((rd_T88 l0 ((rd_T34 l1 x6_2).f0)).f0), .int .i64 0, .int .i64 0]) ?_ 1 _ rfl; (with_reducible repeat (first | refine blk_drewN ?_ _ | refine blk_drew ?_ | refine blk_alloc ?_ _)); refine blk_put (cs := #[.int .i64 0, .int .i64 0, .int .i64 0]) ?_ 0 _ rfl; (with_reducible repeat (first | refine blk_drewN ?_ _ | refine blk_drew ?_ | refine blk_alloc ?_ _)); exact BK321.out⟩, ⟨by repeat (first | (with_reducible first | exact HB.out | apply below_alloc | apply pw_below_drewN | apply below_drew1 | refine below_set ?_ GE317.out | refine below_set ?_ GE321.out) | exact HB.out)⟩⟩
                  ·rw [if_neg c36] at H
                   have c36b0 : (((rd_T34 l1 x6_2).f2) == (wrap64 (((rd_T34 l1 x6_2).f1) + ((rd_T88 l0 ((rd_T34 l1 x6_2).f0)).f1)))) = false := beq_eq_false_iff_ne.mpr c36
                   have c36b1 : (((rd_T34 l1 x6_2).f2) != (wrap64 (((rd_T34 l1 x6_2).f1) + ((rd_T88 l0 ((rd_T34 l1 x6_2).f0)).f1)))) = true := bne_iff_ne.mpr c36
                   have H' := Aside0.mk H
                   clear H
                   have hnb42 := NB317_321.out
                   have hnc42 := NB321_317.out
                   have hcz43_0 : w28.cell? ⟨gb317, 0, none⟩ = some (.int .i64 ((rd_T34 l1 x6_2).f0)) := (blk_cell BK317.out 0).trans rfl
                   have hcz43_1 : w28.cell? ⟨gb317, 1, none⟩ = some (.int .i64 ((rd_T34 l1 x6_2).f1)) := (blk_cell BK317.out 1).trans rfl
                   have hcz43_2 : w28.cell? ⟨gb317, 2, none⟩ = some (.int .i64 ((rd_T34 l1 x6_2).f2)) := (blk_cell BK317.out 2).trans rfl
                   have hcz43_3 : w28.cell? ⟨gb317, 3, none⟩ = some (.int .i64 ((rd_T34 l1 x6_2).f3)) := (blk_cell BK317.out 3).trans rfl
                   have hfz43_0 := blk_frozen BK317.out 0
                   have hfz43_1 := blk_frozen BK317.out 1
                   have hfz43_2 := blk_frozen BK317.out 2
                   have hfz43_3 := blk_frozen BK317.out 3
                   obtain ⟨Ao44, co44, eo44⟩ := Kd.R_slice HO_5.out
                   subst eo44
                   have p322 : 0 ≤ (((rd_T34 l1 x6_2).f0) : Int) := of_decide_eq_true (by first | (with_reducible assumption) | assumption)
                   have q322 : ((rd_T34 l1 x6_2).f0) < (x5_2.length : Int) := of_decide_eq_true (by first | (with_reducible assumption) | assumption)
                   obtain ⟨ad322, e322, hx322_0⟩ := Kd.at_int (Kd.R_reads' HO_5.out).2.2 ((rd_T34 l1 x6_2).f0) p322 q322
                   cases e322
                   have hn322_0 : ad322.block ≠ gb321 := Kd.own_blk (Kd.R_ne HO_5.out BK321.out (by decide))
                   have hn322_1 : ad322.block ≠ gb321 := Kd.own_blk (Kd.R_ne HO_5.out BK321.out (by decide))
                   have hn322_2 : ad322.block ≠ gb321 := Kd.own_blk (Kd.R_ne HO_5.out BK321.out (by decide))
                   replace hx322_0 := (cell_far (p := ⟨gb321, 0, none⟩) (by first | (rw [add_block]; exact hn322_0) | (show (Addr.add _ _).block ≠ _; rw [add_block]; exact hn322_0) | exact hn322_0) (.int .i64 ((rd_T88 l0 ((rd_T34 l1 x6_2).f0)).f0))).trans hx322_0
                   replace hx322_0 := (cell_far (p := ⟨gb321, 1, none⟩) (by first | (rw [add_block]; exact hn322_1) | (show (Addr.add _ _).block ≠ _; rw [add_block]; exact hn322_1) | exact hn322_1) (.int .i64 ((rd_T88 l0 ((rd_T34 l1 x6_2).f0)).f1))).trans hx322_0
                   replace hx322_0 := (cell_far (p := ⟨gb321, 2, none⟩) (by first | (rw [add_block]; exact hn322_2) | (show (Addr.add _ _).block ≠ _; rw [add_block]; exact hn322_2) | exact hn322_2) (.int .i64 ((rd_T88 l0 ((rd_T34 l1 x6_2).f0)).f2))).trans hx322_0
                   (try have hy322_0 := fun (n_ : Nat) => (show (((((w28.drewN n_).setCell ⟨gb321, 0, none⟩ (.int .i64 ((rd_T88 l0 ((rd_T34 l1 x6_2).f0)).f0))).setCell ⟨gb321, 1, none⟩ (.int .i64 ((rd_T88 l0 ((rd_T34 l1 x6_2).f0)).f1))).setCell ⟨gb321, 2, none⟩ (.int .i64 ((rd_T88 l0 ((rd_T34 l1 x6_2).f0)).f2)))).cell? _ = some _ from hx322_0))
                   clear hn322_0
                   clear hn322_1
                   clear hn322_2
                   replace p322 := eq_true p322
                   replace q322 := eq_true q322
                   have hcz45_0 : w28.cell? ⟨gb321, 0, none⟩ = some (.int .i64 0) := (blk_cell BK321.out 0).trans rfl
                   have hcz45_1 : w28.cell? ⟨gb321, 1, none⟩ = some (.int .i64 0) := (blk_cell BK321.out 1).trans rfl
                   have hcz45_2 : w28.cell? ⟨gb321, 2, none⟩ = some (.int .i64 0) := (blk_cell BK321.out 2).trans rfl
                   have hfz45_0 := blk_frozen BK321.out 0
                   have hfz45_1 := blk_frozen BK321.out 1
                   have hfz45_2 := blk_frozen BK321.out 2
                   go_wp2
                   repeat (go_quiet (fail); try go_wp2)
                   go_meet
                   case rel => exact ⟨_, (true), (by first | rfl | (simp; done) | (simp [*]; done)), H', ⟨by have := HJ2.out; have := HK2.out; have := HJ14.out; first | omega | exact Nat.le_refl _⟩, ⟨by (with_reducible repeat (first | apply Kd.R_alloc | apply Kd.R_drewN | apply Kd.R_drew)); exact Kd.R_mono (Kd.R_far (p := ⟨gb321, 2, none⟩) (Kd.R_far (p := ⟨gb321, 1, none⟩) (Kd.R_far (p := ⟨gb321, 0, none⟩) (Kd.R_types HO_5.out BK321.out (by decide)) (fun _ hk => hk.2) (.int .i64 ((rd_T88 l0 ((rd_T34 l1 x6_2).f0)).f0))) (fun _ hk => hk.2) (.int .i64 ((rd_T88 l0 ((rd_T34 l1 x6_2).f0)).f1))) (fun _ hk => hk.2) (.int .i64 ((rd_T88 l0 ((rd_T34 l1 x6_2).f0)).f2))) (fun _ hk => trivial)⟩, ⟨by (with_reducible repeat (first | refine blk_drewN ?_ _ | refine blk_drew ?_ | refine blk_alloc ?_ _)); refine blk_far ?_ NB317_321.out _; (with_reducible repeat (first | refine blk_drewN ?_ _ | refine blk_drew ?_ | refine blk_alloc ?_ _)); refine blk_far ?_ NB317_321.out _; (with_reducible repeat (first | refine blk_drewN ?_ _ | refine blk_drew ?_ | refine blk_alloc ?_ _)); refine blk_far ?_ NB317_321.out _; (with_reducible repeat (first | refine blk_drewN ?_ _ | refine blk_drew ?_ | refine blk_alloc ?_ _)); exact BK317.out⟩, ⟨by (with_reducible repeat (first | refine blk_drewN ?_ _ | refine blk_drew ?_ | refine blk_alloc ?_ _)); refine blk_put (cs := #[.int .i64 ((rd_T88 l0 ((rd_T34 l1 x6_2).f0)).f0), .int .i64 ((rd_T88 l0 ((rd_T34 l1 x6_2).f0)).f1), .int .i64 0]) ?_ 2 _ rfl; (with_reducible repeat (first | refine blk_drewN ?_ _ | refine blk_drew ?_ | refine blk_alloc ?_ _)); refine blk_put (cs := #[.int .i64 ((rd_T88 l0 ((rd_T34 l1 x6_2).f0)).f0), .int .i64 0, .int .i64 0]) ?_ 1 _ rfl; (with_reducible repeat (first | refine blk_drewN ?_ _ | refine blk_drew ?_ | refine blk_alloc ?_ _)); refine blk_put (cs := #[.int .i64 0, .int .i64 0, .int .i64 0]) ?_ 0 _ rfl; (with_reducible repeat (first | refine blk_drewN ?_ _ | refine blk_drew ?_ | refine blk_alloc ?_ _)); exact BK321.out⟩, ⟨by repeat (first | (with_reducible first | exact HB.out | apply below_alloc | apply pw_below_drewN | apply below_drew1 | refine below_set ?_ GE317.out | refine below_set ?_ GE321.out) | exact HB.out)⟩⟩
                ·rw [if_neg c31] at H
                 exact absurd H (by simp)
               case rest =>
                clear HC26
                try clear c1
                try clear c2
                try clear p2
                try clear c3
                try clear p3
                try clear q3
                try clear hx3
                try clear c4
                try clear c5
                try clear p6
                try clear c8
                try clear c9
                try clear c9b0
                try clear c9b1
                try clear c10
                try clear c10b0
                try clear c10b1
                try clear c13
                try clear c13b0
                try clear c14
                try clear c14b0
                try clear c19
                try clear c23
                try clear c24
                try clear c24b0
                try clear c25
                try clear c25b0
                try clear c29
                try clear c31
                try clear c31b0
                try clear p31
                try clear q31
                try clear hx31
                try clear c32
                try clear c32b0
                try clear p32
                try clear q32
                try clear hx32
                try clear c33
                try clear c36
                try clear c36b0
                try clear c36b1
                try clear c38
                try clear c42
                try clear hcz17_0
                try clear hcz17_1
                try clear hcz17_2
                try clear hcz17_3
                try clear hcz21_0
                try clear hcz21_1
                try clear hcz21_2
                try clear hcz21_3
                try clear hcz22_0
                try clear hcz22_1
                try clear hcz22_2
                try clear hcz22_3
                try clear hcz27_0
                try clear hcz27_1
                try clear hcz27_2
                try clear hcz27_3
                try clear hcz30_0
                try clear hcz30_1
                try clear hcz30_2
                try clear hcz34_0
                try clear hcz34_1
                try clear hcz34_2
                try clear hcz34_3
                try clear hcz39_0
                try clear hcz39_1
                try clear hcz39_2
                try clear hcz39_3
                try clear hcz41_0
                try clear hcz41_1
                try clear hcz41_2
                try clear hcz43_0
                try clear hcz43_1
                try clear hcz43_2
                try clear hcz43_3
                try clear hcz45_0
                try clear hcz45_1
                try clear hcz45_2
                try clear hfz17_0
                try clear hfz17_1
                try clear hfz17_2
                try clear hfz17_3
                try clear hfz21_0
                try clear hfz21_1
                try clear hfz21_2
                try clear hfz21_3
                try clear hfz22_0
                try clear hfz22_1
                try clear hfz22_2
                try clear hfz22_3
                try clear hfz27_0
                try clear hfz27_1
                try clear hfz27_2
                try clear hfz27_3
                try clear hfz30_0
                try clear hfz30_1
                try clear hfz30_2
                try clear hfz34_0
                try clear hfz34_1
                try clear hfz34_2
                try clear hfz34_3
                try clear hfz39_0
                try clear hfz39_1
                try clear hfz39_2
                try clear hfz39_3
                try clear hfz41_0
                try clear hfz41_1
                try clear hfz41_2
                try clear hfz43_0
                try clear hfz43_1
                try clear hfz43_2
                try clear hfz43_3
                try clear hfz45_0
                try clear hfz45_1
                try clear hfz45_2
                try clear hx316_0
                try clear hx316_1
                try clear hx316_2
                try clear hx316_3
                try clear hx320_0
                try clear hx320_1
                try clear hx320_2
                try clear hx322_0
                try clear p2
                try clear p3
                try clear p316
                try clear p320
                try clear p322
                try clear p6
                try clear q3
                try clear q316
                try clear q320
                try clear q322
                obtain ⟨kq, x73_25, rfl, HA, HJ25, HO_5, BK317, BK321, HB⟩ := hcut
                cases kq with
                | zero => exact absurd HA.out (by simp [spec_JobsLegal.j3])
                | succ kj25 =>
                 have H := HA.out
                 clear HA
                 simp only [spec_JobsLegal.j3] at H
                 by_cases c46 : x73_25 = true
                 ·subst c46
                  have H1 : (some false) = some r := by rw [if_pos rfl] at H; exact H
                  clear H
                  have H := H1
                  clear H1
                  obtain rfl := Option.some.inj H
                  go_wp2
                  repeat (go_quiet (fail); try go_wp2)
                  go_ret
                  exact ⟨by first | rfl | (simp [errW_none, errW_some] <;> rfl) | (simp [*, errW_none, errW_some] <;> rfl), by repeat (first | (with_reducible first | exact HB.out | apply below_alloc | apply pw_below_drewN | apply below_drew1 | refine below_set ?_ GE317.out | refine below_set ?_ GE321.out) | exact HB.out)⟩
                 ·replace c46 := Bool.eq_false_iff.mpr c46
                  subst c46
                  have H1 : (if x6_2 > 0 then (if 0 ≤ (wrap64 (x6_2 - 1)) then (if (wrap64 (x6_2 - 1)) < (l1.length : Int) then (if ((rd_T34 l1 (wrap64 (x6_2 - 1))).f1) > ((rd_T34 l1 x6_2).f1) then (some false) else (if ((rd_T34 l1 (wrap64 (x6_2 - 1))).f1) = ((rd_T34 l1 x6_2).f1) then (if ((rd_T34 l1 (wrap64 (x6_2 - 1))).f0) ≥ ((rd_T34 l1 x6_2).f0) then (some false) else (if 0 ≤ ((rd_T34 l1 x6_2).f0) then (if ((rd_T34 l1 x6_2).f0) < (x5_2.length : Int) then (spec_JobsLegal.l0 kj25 l0 l1 (x5_2.set (((rd_T34 l1 x6_2).f0) : Int).toNat (wrap64 (((rd_T34 l1 x6_2).f1) + ((rd_T88 l0 ((rd_T34 l1 x6_2).f0)).f2)))) (wrap64 (x6_2 + 1))) else (none)) else (none))) else (if 0 ≤ ((rd_T34 l1 x6_2).f0) then (if ((rd_T34 l1 x6_2).f0) < (x5_2.length : Int) then (spec_JobsLegal.l0 kj25 l0 l1 (x5_2.set (((rd_T34 l1 x6_2).f0) : Int).toNat (wrap64 (((rd_T34 l1 x6_2).f1) + ((rd_T88 l0 ((rd_T34 l1 x6_2).f0)).f2)))) (wrap64 (x6_2 + 1))) else (none)) else (none)))) else (none)) else (none)) else (if 0 ≤ ((rd_T34 l1 x6_2).f0) then (if ((rd_T34 l1 x6_2).f0) < (x5_2.length : Int) then (spec_JobsLegal.l0 kj25 l0 l1 (x5_2.set (((rd_T34 l1 x6_2).f0) : Int).toNat (wrap64 (((rd_T34 l1 x6_2).f1) + ((rd_T88 l0 ((rd_T34 l1 x6_2).f0)).f2)))) (wrap64 (x6_2 + 1))) else (none)) else (none))) = some r := by rw [if_neg (show ¬ (false = true) by decide)] at H; exact H
                  clear H
                  have H := H1
                  clear H1
                  by_cases c47 : x6_2 > 0
                  ·rw [if_pos c47] at H
                   have c47b0 : decide (0 < x6_2) = true := decide_eq_true c47
                   clear c47
                   obtain ⟨ji48, hji48⟩ : ∃ j_ : Int, (wrap64 (x6_2 - 1)) = j_ := ⟨_, rfl⟩
                   replace H : (if 0 ≤ (ji48) then (if (ji48) < (l1.length : Int) then (if ((rd_T34 l1 (ji48)).f1) > ((rd_T34 l1 x6_2).f1) then (some false) else (if ((rd_T34 l1 (ji48)).f1) = ((rd_T34 l1 x6_2).f1) then (if ((rd_T34 l1 (ji48)).f0) ≥ ((rd_T34 l1 x6_2).f0) then (some false) else (if 0 ≤ ((rd_T34 l1 x6_2).f0) then (if ((rd_T34 l1 x6_2).f0) < (x5_2.length : Int) then (spec_JobsLegal.l0 kj25 l0 l1 (x5_2.set (((rd_T34 l1 x6_2).f0) : Int).toNat (wrap64 (((rd_T34 l1 x6_2).f1) + ((rd_T88 l0 ((rd_T34 l1 x6_2).f0)).f2)))) (wrap64 (x6_2 + 1))) else (none)) else (none))) else (if 0 ≤ ((rd_T34 l1 x6_2).f0) then (if ((rd_T34 l1 x6_2).f0) < (x5_2.length : Int) then (spec_JobsLegal.l0 kj25 l0 l1 (x5_2.set (((rd_T34 l1 x6_2).f0) : Int).toNat (wrap64 (((rd_T34 l1 x6_2).f1) + ((rd_T88 l0 ((rd_T34 l1 x6_2).f0)).f2)))) (wrap64 (x6_2 + 1))) else (none)) else (none)))) else (none)) else (none)) = some r := by first | (rw [hji48] at H; exact H) | (simp only [hji48] at H ⊢; exact H)
                   have hji48w : (IntKind.i64.wrap (x6_2 - 1)) = ji48 := (i64_w _).trans hji48
                   by_cases c49 : 0 ≤ (ji48)
                   ·rw [if_pos c49] at H
                    have c49b0 : decide (0 ≤ (ji48)) = true := decide_eq_true c49
                    clear c49
                    by_cases c50 : (ji48) < (l1.length : Int)
                    ·rw [if_pos c50] at H
                     have c50b0 : decide ((ji48) < (l1.length : Int)) = true := decide_eq_true c50
                     clear c50
                     by_cases c51 : ((rd_T34 l1 (ji48)).f1) > ((rd_T34 l1 x6_2).f1)
                     ·rw [if_pos c51] at H
                      have c51b0 : decide (((rd_T34 l1 x6_2).f1) < ((rd_T34 l1 (ji48)).f1)) = true := decide_eq_true c51
                      clear c51
                      obtain rfl := Option.some.inj H
                      have p324 : 0 ≤ ((ji48) : Int) := of_decide_eq_true (by first | (with_reducible assumption) | assumption)
                      have q324 : (ji48) < (l1.length : Int) := of_decide_eq_true (by first | (with_reducible assumption) | assumption)
                      obtain ⟨ad324, e324, hx324_0, hx324_1, hx324_2, hx324_3⟩ := at_T34 HR1.out (ji48) p324 q324
                      obtain rfl : ad316 = ad324 := (by injection e324)
                      replace hx324_0 := (HB.out.cell (World.block_lt_of_cell? w _ hx324_0)).trans hx324_0
                      replace hx324_1 := (HB.out.cell (World.block_lt_of_cell? w _ hx324_1)).trans hx324_1
                      replace hx324_2 := (HB.out.cell (World.block_lt_of_cell? w _ hx324_2)).trans hx324_2
                      replace hx324_3 := (HB.out.cell (World.block_lt_of_cell? w _ hx324_3)).trans hx324_3
                      replace p324 := eq_true p324
                      replace q324 := eq_true q324
                      have hnb52 := NB317_321.out
                      have hnc52 := NB321_317.out
                      have hcz53_0 : wc.cell? ⟨gb317, 0, none⟩ = some (.int .i64 ((rd_T34 l1 x6_2).f0)) := (blk_cell BK317.out 0).trans rfl
                      have hcz53_1 : wc.cell? ⟨gb317, 1, none⟩ = some (.int .i64 ((rd_T34 l1 x6_2).f1)) := (blk_cell BK317.out 1).trans rfl
                      have hcz53_2 : wc.cell? ⟨gb317, 2, none⟩ = some (.int .i64 ((rd_T34 l1 x6_2).f2)) := (blk_cell BK317.out 2).trans rfl
                      have hcz53_3 : wc.cell? ⟨gb317, 3, none⟩ = some (.int .i64 ((rd_T34 l1 x6_2).f3)) := (blk_cell BK317.out 3).trans rfl
                      have hfz53_0 := blk_frozen BK317.out 0
                      have hfz53_1 := blk_frozen BK317.out 1
                      have hfz53_2 := blk_frozen BK317.out 2
                      have hfz53_3 := blk_frozen BK317.out 3
                      go_wp2
                      repeat (go_quiet (fail); try go_wp2)
                      go_ret
                      exact ⟨by first | rfl | (simp [errW_none, errW_some] <;> rfl) | (simp only [← hji48]; first | rfl | (simp [errW_none, errW_some] <;> rfl)) | (simp [*, errW_none, errW_some] <;> rfl), by repeat (first | (with_reducible first | exact HB.out | apply below_alloc | apply pw_below_drewN | apply below_drew1 | refine below_set ?_ GE317.out | refine below_set ?_ GE321.out) | exact HB.out)⟩
                     ·rw [if_neg c51] at H
                      have c51b0 : decide (((rd_T34 l1 x6_2).f1) < ((rd_T34 l1 (ji48)).f1)) = false := decide_eq_false c51
                      clear c51
                      by_cases c54 : ((rd_T34 l1 (ji48)).f1) = ((rd_T34 l1 x6_2).f1)
                      ·rw [if_pos c54] at H
                       have c54b0 : (((rd_T34 l1 (ji48)).f1) == ((rd_T34 l1 x6_2).f1)) = true := beq_iff_eq.mpr c54
                       have c54b1 : (((rd_T34 l1 (ji48)).f1) != ((rd_T34 l1 x6_2).f1)) = false := bne_eq_false_iff_eq.mpr c54
                       clear c54
                       by_cases c55 : ((rd_T34 l1 (ji48)).f0) ≥ ((rd_T34 l1 x6_2).f0)
                       ·rw [if_pos c55] at H
                        have c55b0 : decide (((rd_T34 l1 x6_2).f0) ≤ ((rd_T34 l1 (ji48)).f0)) = true := decide_eq_true c55
                        clear c55
                        obtain rfl := Option.some.inj H
                        have p324 : 0 ≤ ((ji48) : Int) := of_decide_eq_true (by first | (with_reducible assumption) | assumption)
                        have q324 : (ji48) < (l1.length : Int) := of_decide_eq_true (by first | (with_reducible assumption) | assumption)
                        obtain ⟨ad324, e324, hx324_0, hx324_1, hx324_2, hx324_3⟩ := at_T34 HR1.out (ji48) p324 q324
                        obtain rfl : ad316 = ad324 := (by injection e324)
                        replace hx324_0 := (HB.out.cell (World.block_lt_of_cell? w _ hx324_0)).trans hx324_0
                        replace hx324_1 := (HB.out.cell (World.block_lt_of_cell? w _ hx324_1)).trans hx324_1
                        replace hx324_2 := (HB.out.cell (World.block_lt_of_cell? w _ hx324_2)).trans hx324_2
                        replace hx324_3 := (HB.out.cell (World.block_lt_of_cell? w _ hx324_3)).trans hx324_3
                        replace p324 := eq_true p324
                        replace q324 := eq_true q324
                        have hnb56 := NB317_321.out
                        have hnc56 := NB321_317.out
                        have hcz57_0 : wc.cell? ⟨gb317, 0, none⟩ = some (.int .i64 ((rd_T34 l1 x6_2).f0)) := (blk_cell BK317.out 0).trans rfl
                        have hcz57_1 : wc.cell? ⟨gb317, 1, none⟩ = some (.int .i64 ((rd_T34 l1 x6_2).f1)) := (blk_cell BK317.out 1).trans rfl
                        have hcz57_2 : wc.cell? ⟨gb317, 2, none⟩ = some (.int .i64 ((rd_T34 l1 x6_2).f2)) := (blk_cell BK317.out 2).trans rfl
                        have hcz57_3 : wc.cell? ⟨gb317, 3, none⟩ = some (.int .i64 ((rd_T34 l1 x6_2).f3)) := (blk_cell BK317.out 3).trans rfl
                        have hfz57_0 := blk_frozen BK317.out 0
                        have hfz57_1 := blk_frozen BK317.out 1
                        have hfz57_2 := blk_frozen BK317.out 2
                        have hfz57_3 := blk_frozen BK317.out 3
                        have p325 : 0 ≤ ((ji48) : Int) := of_decide_eq_true (by first | (with_reducible assumption) | assumption)
                        have q325 : (ji48) < (l1.length : Int) := of_decide_eq_true (by first | (with_reducible assumption) | assumption)
                        obtain ⟨ad325, e325, hx325_0, hx325_1, hx325_2, hx325_3⟩ := at_T34 HR1.out (ji48) p325 q325
                        obtain rfl : ad316 = ad325 := (by injection e325)
                        replace hx325_0 := (HB.out.cell (World.block_lt_of_cell? w _ hx325_0)).trans hx325_0
                        replace hx325_1 := (HB.out.cell (World.block_lt_of_cell? w _ hx325_1)).trans hx325_1
                        replace hx325_2 := (HB.out.cell (World.block_lt_of_cell? w _ hx325_2)).trans hx325_2
                        replace hx325_3 := (HB.out.cell (World.block_lt_of_cell? w _ hx325_3)).trans hx325_3
                        replace p325 := eq_true p325
                        replace q325 := eq_true q325
                        have p326 : 0 ≤ ((ji48) : Int) := of_decide_eq_true (by first | (with_reducible assumption) | assumption)
                        have q326 : (ji48) < (l1.length : Int) := of_decide_eq_true (by first | (with_reducible assumption) | assumption)
                        obtain ⟨ad326, e326, hx326_0, hx326_1, hx326_2, hx326_3⟩ := at_T34 HR1.out (ji48) p326 q326
                        obtain rfl : ad316 = ad326 := (by injection e326)
                        replace hx326_0 := (HB.out.cell (World.block_lt_of_cell? w _ hx326_0)).trans hx326_0
                        replace hx326_1 := (HB.out.cell (World.block_lt_of_cell? w _ hx326_1)).trans hx326_1
                        replace hx326_2 := (HB.out.cell (World.block_lt_of_cell? w _ hx326_2)).trans hx326_2
                        replace hx326_3 := (HB.out.cell (World.block_lt_of_cell? w _ hx326_3)).trans hx326_3
                        replace p326 := eq_true p326
                        replace q326 := eq_true q326
                        go_wp2
                        repeat (go_quiet (fail); try go_wp2)
                        go_ret
                        exact ⟨by first | rfl | (simp [errW_none, errW_some] <;> rfl) | (simp only [← hji48]; first | rfl | (simp [errW_none, errW_some] <;> rfl)) | (simp [*, errW_none, errW_some] <;> rfl), by repeat (first | (with_reducible first | exact HB.out | apply below_alloc | apply pw_below_drewN | apply below_drew1 | refine below_set ?_ GE317.out | refine below_set ?_ GE321.out) | exact HB.out)⟩
                       ·rw [if_neg c55] at H
                        have c55b0 : decide (((rd_T34 l1 x6_2).f0) ≤ ((rd_T34 l1 (ji48)).f0)) = false := decide_eq_false c55
                        clear c55
                        by_cases c58 : 0 ≤ ((rd_T34 l1 x6_2).f0)
                        ·rw [if_pos c58] at H
                         have c58b0 : decide (0 ≤ ((rd_T34 l1 x6_2).f0)) = true := decide_eq_true c58
                         clear c58
                         by_cases c59 : ((rd_T34 l1 x6_2).f0) < (x5_2.length : Int)
                         ·rw [if_pos c59] at H
                          have c59b0 : decide (((rd_T34 l1 x6_2).f0) < (x5_2.length : Int)) = true := decide_eq_true c59
                          clear c59
                          obtain ⟨y327, hy327⟩ : ∃ y_ : List Int, y_ = (x5_2.set (((rd_T34 l1 x6_2).f0) : Int).toNat (wrap64 (((rd_T34 l1 x6_2).f1) + ((rd_T88 l0 ((rd_T34 l1 x6_2).f0)).f2)))) := ⟨_, rfl⟩
                          replace H : (spec_JobsLegal.l0 kj25 l0 l1 y327 (wrap64 (x6_2 + 1))) = some r := by first | (rw [hy327]; with_reducible exact H) | (have H2_ := (Option.bind_some _ _).symm.trans H; rw [hy327]; with_reducible exact H2_) | (have H2_ := (Option.bind_some _ _).symm.trans H; with_reducible exact H2_) | with_reducible exact H | (rw [hy327]; exact H) | exact H
                          have Ny327 := Aside0.mk hy327
                          clear hy327
                          have H' := Aside0.mk H
                          clear H
                          have p324 : 0 ≤ ((ji48) : Int) := of_decide_eq_true (by first | (with_reducible assumption) | assumption)
                          have q324 : (ji48) < (l1.length : Int) := of_decide_eq_true (by first | (with_reducible assumption) | assumption)
                          obtain ⟨ad324, e324, hx324_0, hx324_1, hx324_2, hx324_3⟩ := at_T34 HR1.out (ji48) p324 q324
                          obtain rfl : ad316 = ad324 := (by injection e324)
                          replace hx324_0 := (HB.out.cell (World.block_lt_of_cell? w _ hx324_0)).trans hx324_0
                          replace hx324_1 := (HB.out.cell (World.block_lt_of_cell? w _ hx324_1)).trans hx324_1
                          replace hx324_2 := (HB.out.cell (World.block_lt_of_cell? w _ hx324_2)).trans hx324_2
                          replace hx324_3 := (HB.out.cell (World.block_lt_of_cell? w _ hx324_3)).trans hx324_3
                          replace p324 := eq_true p324
                          replace q324 := eq_true q324
                          have hnb61 := NB317_321.out
                          have hnc61 := NB321_317.out
                          have hcz62_0 : wc.cell? ⟨gb317, 0, none⟩ = some (.int .i64 ((rd_T34 l1 x6_2).f0)) := (blk_cell BK317.out 0).trans rfl
                          have hcz62_1 : wc.cell? ⟨gb317, 1, none⟩ = some (.int .i64 ((rd_T34 l1 x6_2).f1)) := (blk_cell BK317.out 1).trans rfl
                          have hcz62_2 : wc.cell? ⟨gb317, 2, none⟩ = some (.int .i64 ((rd_T34 l1 x6_2).f2)) := (blk_cell BK317.out 2).trans rfl
                          have hcz62_3 : wc.cell? ⟨gb317, 3, none⟩ = some (.int .i64 ((rd_T34 l1 x6_2).f3)) := (blk_cell BK317.out 3).trans rfl
                          have hfz62_0 := blk_frozen BK317.out 0
                          have hfz62_1 := blk_frozen BK317.out 1
                          have hfz62_2 := blk_frozen BK317.out 2
                          have hfz62_3 := blk_frozen BK317.out 3
                          have p325 : 0 ≤ ((ji48) : Int) := of_decide_eq_true (by first | (with_reducible assumption) | assumption)
                          have q325 : (ji48) < (l1.length : Int) := of_decide_eq_true (by first | (with_reducible assumption) | assumption)
                          obtain ⟨ad325, e325, hx325_0, hx325_1, hx325_2, hx325_3⟩ := at_T34 HR1.out (ji48) p325 q325
                          obtain rfl : ad316 = ad325 := (by injection e325)
                          replace hx325_0 := (HB.out.cell (World.block_lt_of_cell? w _ hx325_0)).trans hx325_0
                          replace hx325_1 := (HB.out.cell (World.block_lt_of_cell? w _ hx325_1)).trans hx325_1
                          replace hx325_2 := (HB.out.cell (World.block_lt_of_cell? w _ hx325_2)).trans hx325_2
                          replace hx325_3 := (HB.out.cell (World.block_lt_of_cell? w _ hx325_3)).trans hx325_3
                          replace p325 := eq_true p325
                          replace q325 := eq_true q325
                          have p326 : 0 ≤ ((ji48) : Int) := of_decide_eq_true (by first | (with_reducible assumption) | assumption)
                          have q326 : (ji48) < (l1.length : Int) := of_decide_eq_true (by first | (with_reducible assumption) | assumption)
                          obtain ⟨ad326, e326, hx326_0, hx326_1, hx326_2, hx326_3⟩ := at_T34 HR1.out (ji48) p326 q326
                          obtain rfl : ad316 = ad326 := (by injection e326)
                          replace hx326_0 := (HB.out.cell (World.block_lt_of_cell? w _ hx326_0)).trans hx326_0
                          replace hx326_1 := (HB.out.cell (World.block_lt_of_cell? w _ hx326_1)).trans hx326_1
                          replace hx326_2 := (HB.out.cell (World.block_lt_of_cell? w _ hx326_2)).trans hx326_2
                          replace hx326_3 := (HB.out.cell (World.block_lt_of_cell? w _ hx326_3)).trans hx326_3
                          replace p326 := eq_true p326
                          replace q326 := eq_true q326
                          have hcz63_0 : wc.cell? ⟨gb321, 0, none⟩ = some (.int .i64 ((rd_T88 l0 ((rd_T34 l1 x6_2).f0)).f0)) := (blk_cell BK321.out 0).trans rfl
                          have hcz63_1 : wc.cell? ⟨gb321, 1, none⟩ = some (.int .i64 ((rd_T88 l0 ((rd_T34 l1 x6_2).f0)).f1)) := (blk_cell BK321.out 1).trans rfl
                          have hcz63_2 : wc.cell? ⟨gb321, 2, none⟩ = some (.int .i64 ((rd_T88 l0 ((rd_T34 l1 x6_2).f0)).f2)) := (blk_cell BK321.out 2).trans rfl
                          have hfz63_0 := blk_frozen BK321.out 0
                          have hfz63_1 := blk_frozen BK321.out 1
                          have hfz63_2 := blk_frozen BK321.out 2
                          have p60 : 0 ≤ (((rd_T34 l1 x6_2).f0) : Int) := of_decide_eq_true (by first | (with_reducible assumption) | assumption)
                          have q60 : (((rd_T34 l1 x6_2).f0) : Int) < ((x5_2.length : Int) : Int) := of_decide_eq_true (by first | (with_reducible assumption) | assumption)
                          obtain ⟨go60, co60, eo60, gb60, gl60, cl60, HG60⟩ := Kd.R_form HO_5.out (by omega)
                          (first | cases eo60 | (injection eo60 with ea_ en_ ec_; (first | subst ea_ | (injection ea_ with ea_; subst ea_)); subst ec_; clear en_))
                          have GB60 := Aside0.mk gb60
                          have GG60 := Aside0.mk HG60
                          clear gb60 gl60 HG60
                          obtain ⟨hx60_0, hf60_0⟩ := Kd.R_celln 0 HO_5.out (((rd_T34 l1 x6_2).f0) : Int) p60 q60
                          replace p60 := eq_true p60
                          replace q60 := eq_true q60
                          have HP64 := Kd.R_putg HO_5.out (((rd_T34 l1 x6_2).f0) : Int) (wrap64 (((rd_T34 l1 x6_2).f1) + ((rd_T88 l0 ((rd_T34 l1 x6_2).f0)).f2)))
                          go_wp2_with (first | ((with_reducible refine gate_store (t := 3) (p := 117) rfl ?_); (try (rw [drewN_self wc]; generalize hq_ : World.drewN wc _ = wc; have n0_ := Aside0.mk (Kd.R_at hq_ HO_5.out); have n1_ := Aside0.mk (blk_at hq_ BK317.out); have n2_ := Aside0.mk (blk_at hq_ BK321.out); have n3_ := Aside0.mk (below_at hq_ HB.out); clear hq_ HO_5 BK317 BK321 HB; have HO_5 := n0_; have BK317 := n1_; have BK321 := n2_; have HB := n3_; clear n0_ n1_ n2_ n3_; (try (have HP64 := Kd.R_putg HO_5.out (((rd_T34 l1 x6_2).f0) : Int) (wrap64 (((rd_T34 l1 x6_2).f1) + ((rd_T88 l0 ((rd_T34 l1 x6_2).f0)).f2))))))); refine store_event (t := 3) (p := 117) (v := ?vo_w65) (w1 := (wc.setCell ⟨go60, (((rd_T34 l1 x6_2).f0) : Int).toNat, none⟩ (.int .i64 (wrap64 (((rd_T34 l1 x6_2).f1) + ((rd_T88 l0 ((rd_T34 l1 x6_2).f0)).f2)))))) ?hg ?ho ?hn ?hr ?_; (case ho => rfl); (case hg => rfl); (case hn => rfl); (case hr => first | (go_simp; done) | (go_simp; rfl)); intro w65 hw; have hg : wc.grownBy w65 (some go60) := (by rw [hw]; exact HP64.2); have hp_ : Kd.R (Kd.int .i64) 3 w65 w.heap.size (fun _ => True) (.slice (some ⟨go60, 0, none⟩) x5_2.length co60) y327 := (by rw [hw, Ny327.out]; exact HP64.1); clear HP64; have n0_ := Aside0.mk (hp_); have n1_ := Aside0.mk (blk_grown (g := gb317) (o := .cells #[.int .i64 ((rd_T34 l1 x6_2).f0), .int .i64 ((rd_T34 l1 x6_2).f1), .int .i64 ((rd_T34 l1 x6_2).f2), .int .i64 ((rd_T34 l1 x6_2).f3)] 34 (0, 0)) (by (with_reducible repeat (first | refine blk_drewN ?_ _ | refine blk_drew ?_ | refine blk_alloc ?_ _)); exact BK317.out) hg (Kd.R_ne HO_5.out BK317.out (by decide))); have n2_ := Aside0.mk (blk_grown (g := gb321) (o := .cells #[.int .i64 ((rd_T88 l0 ((rd_T34 l1 x6_2).f0)).f0), .int .i64 ((rd_T88 l0 ((rd_T34 l1 x6_2).f0)).f1), .int .i64 ((rd_T88 l0 ((rd_T34 l1 x6_2).f0)).f2)] 88 (0, 0)) (by (with_reducible repeat (first | refine blk_drewN ?_ _ | refine blk_drew ?_ | refine blk_alloc ?_ _)); exact BK321.out) hg (Kd.R_ne HO_5.out BK321.out (by decide))); have n3_ := Aside0.mk ((by rw [hw]; exact below_set (HB.out) GB60.out : Below w.heap.size w w65)); clear HO_5; clear BK317; clear BK321; clear HB; have HO_5 := n0_; have BK317 := n1_; have BK321 := n2_; have HB := n3_; clear n0_ n1_ n2_ n3_; clear hg hw hp_))
                          repeat (go_quiet (first | ((with_reducible refine gate_store (t := 3) (p := 117) rfl ?_); (try (rw [drewN_self wc]; generalize hq_ : World.drewN wc _ = wc; have n0_ := Aside0.mk (Kd.R_at hq_ HO_5.out); have n1_ := Aside0.mk (blk_at hq_ BK317.out); have n2_ := Aside0.mk (blk_at hq_ BK321.out); have n3_ := Aside0.mk (below_at hq_ HB.out); clear hq_ HO_5 BK317 BK321 HB; have HO_5 := n0_; have BK317 := n1_; have BK321 := n2_; have HB := n3_; clear n0_ n1_ n2_ n3_; (try (have HP64 := Kd.R_putg HO_5.out (((rd_T34 l1 x6_2).f0) : Int) (wrap64 (((rd_T34 l1 x6_2).f1) + ((rd_T88 l0 ((rd_T34 l1 x6_2).f0)).f2))))))); refine store_event (t := 3) (p := 117) (v := ?vo_w65) (w1 := (wc.setCell ⟨go60, (((rd_T34 l1 x6_2).f0) : Int).toNat, none⟩ (.int .i64 (wrap64 (((rd_T34 l1 x6_2).f1) + ((rd_T88 l0 ((rd_T34 l1 x6_2).f0)).f2)))))) ?hg ?ho ?hn ?hr ?_; (case ho => rfl); (case hg => rfl); (case hn => rfl); (case hr => first | (go_simp; done) | (go_simp; rfl)); intro w65 hw; have hg : wc.grownBy w65 (some go60) := (by rw [hw]; exact HP64.2); have hp_ : Kd.R (Kd.int .i64) 3 w65 w.heap.size (fun _ => True) (.slice (some ⟨go60, 0, none⟩) x5_2.length co60) y327 := (by rw [hw, Ny327.out]; exact HP64.1); clear HP64; have n0_ := Aside0.mk (hp_); have n1_ := Aside0.mk (blk_grown (g := gb317) (o := .cells #[.int .i64 ((rd_T34 l1 x6_2).f0), .int .i64 ((rd_T34 l1 x6_2).f1), .int .i64 ((rd_T34 l1 x6_2).f2), .int .i64 ((rd_T34 l1 x6_2).f3)] 34 (0, 0)) (by (with_reducible repeat (first | refine blk_drewN ?_ _ | refine blk_drew ?_ | refine blk_alloc ?_ _)); exact BK317.out) hg (Kd.R_ne HO_5.out BK317.out (by decide))); have n2_ := Aside0.mk (blk_grown (g := gb321) (o := .cells #[.int .i64 ((rd_T88 l0 ((rd_T34 l1 x6_2).f0)).f0), .int .i64 ((rd_T88 l0 ((rd_T34 l1 x6_2).f0)).f1), .int .i64 ((rd_T88 l0 ((rd_T34 l1 x6_2).f0)).f2)] 88 (0, 0)) (by (with_reducible repeat (first | refine blk_drewN ?_ _ | refine blk_drew ?_ | refine blk_alloc ?_ _)); exact BK321.out) hg (Kd.R_ne HO_5.out BK321.out (by decide))); have n3_ := Aside0.mk ((by rw [hw]; exact below_set (HB.out) GB60.out : Below w.heap.size w w65)); clear HO_5; clear BK317; clear BK321; clear HB; have HO_5 := n0_; have BK317 := n1_; have BK321 := n2_; have HB := n3_; clear n0_ n1_ n2_ n3_; clear hg hw hp_)); try go_wp2_with (first | ((with_reducible refine gate_store (t := 3) (p := 117) rfl ?_); (try (rw [drewN_self wc]; generalize hq_ : World.drewN wc _ = wc; have n0_ := Aside0.mk (Kd.R_at hq_ HO_5.out); have n1_ := Aside0.mk (blk_at hq_ BK317.out); have n2_ := Aside0.mk (blk_at hq_ BK321.out); have n3_ := Aside0.mk (below_at hq_ HB.out); clear hq_ HO_5 BK317 BK321 HB; have HO_5 := n0_; have BK317 := n1_; have BK321 := n2_; have HB := n3_; clear n0_ n1_ n2_ n3_; (try (have HP64 := Kd.R_putg HO_5.out (((rd_T34 l1 x6_2).f0) : Int) (wrap64 (((rd_T34 l1 x6_2).f1) + ((rd_T88 l0 ((rd_T34 l1 x6_2).f0)).f2))))))); refine store_event (t := 3) (p := 117) (v := ?vo_w65) (w1 := (wc.setCell ⟨go60, (((rd_T34 l1 x6_2).f0) : Int).toNat, none⟩ (.int .i64 (wrap64 (((rd_T34 l1 x6_2).f1) + ((rd_T88 l0 ((rd_T34 l1 x6_2).f0)).f2)))))) ?hg ?ho ?hn ?hr ?_; (case ho => rfl); (case hg => rfl); (case hn => rfl); (case hr => first | (go_simp; done) | (go_simp; rfl)); intro w65 hw; have hg : wc.grownBy w65 (some go60) := (by rw [hw]; exact HP64.2); have hp_ : Kd.R (Kd.int .i64) 3 w65 w.heap.size (fun _ => True) (.slice (some ⟨go60, 0, none⟩) x5_2.length co60) y327 := (by rw [hw, Ny327.out]; exact HP64.1); clear HP64; have n0_ := Aside0.mk (hp_); have n1_ := Aside0.mk (blk_grown (g := gb317) (o := .cells #[.int .i64 ((rd_T34 l1 x6_2).f0), .int .i64 ((rd_T34 l1 x6_2).f1), .int .i64 ((rd_T34 l1 x6_2).f2), .int .i64 ((rd_T34 l1 x6_2).f3)] 34 (0, 0)) (by (with_reducible repeat (first | refine blk_drewN ?_ _ | refine blk_drew ?_ | refine blk_alloc ?_ _)); exact BK317.out) hg (Kd.R_ne HO_5.out BK317.out (by decide))); have n2_ := Aside0.mk (blk_grown (g := gb321) (o := .cells #[.int .i64 ((rd_T88 l0 ((rd_T34 l1 x6_2).f0)).f0), .int .i64 ((rd_T88 l0 ((rd_T34 l1 x6_2).f0)).f1), .int .i64 ((rd_T88 l0 ((rd_T34 l1 x6_2).f0)).f2)] 88 (0, 0)) (by (with_reducible repeat (first | refine blk_drewN ?_ _ | refine blk_drew ?_ | refine blk_alloc ?_ _)); exact BK321.out) hg (Kd.R_ne HO_5.out BK321.out (by decide))); have n3_ := Aside0.mk ((by rw [hw]; exact below_set (HB.out) GB60.out : Below w.heap.size w w65)); clear HO_5; clear BK317; clear BK321; clear HB; have HO_5 := n0_; have BK317 := n1_; have BK321 := n2_; have HB := n3_; clear n0_ n1_ n2_ n3_; clear hg hw hp_)))
                          go_roundg kj25
                          case measure => have := HJ2.out; have := HK2.out; have := HJ14.out; have := HJ25.out; omega
                          case rel => exact ⟨(y327), (wrap64 (x6_2 + 1)), (by first | rfl | (simp; done) | (simp [*]; done)), H', ⟨by have := HJ2.out; have := HK2.out; have := HJ14.out; have := HJ25.out; omega⟩, ⟨by first | ((with_reducible repeat (first | apply Kd.R_alloc | apply Kd.R_drewN | apply Kd.R_drew)); exact HO_5.out) | (rw [Ny327.out]; exact (Kd.R_putg (Kd.R_drewN HO_5.out _) _ _).1) | (rw [Ny327.out]; exact (Kd.R_putg HO_5.out _ _).1)⟩, ⟨by first | exact below_set (pw_below_drewN HB.out _) GB60.out | exact below_set HB.out GB60.out | (repeat (first | (with_reducible first | exact HB.out | apply below_alloc | apply pw_below_drewN | apply below_drew1 | refine below_set ?_ GE317.out | refine below_set ?_ GE321.out) | exact HB.out))⟩⟩
                         ·rw [if_neg c59] at H
                          exact absurd H (by simp)
                        ·rw [if_neg c58] at H
                         exact absurd H (by simp)
                      ·rw [if_neg c54] at H
                       have c54b0 : (((rd_T34 l1 (ji48)).f1) == ((rd_T34 l1 x6_2).f1)) = false := beq_eq_false_iff_ne.mpr c54
                       have c54b1 : (((rd_T34 l1 (ji48)).f1) != ((rd_T34 l1 x6_2).f1)) = true := bne_iff_ne.mpr c54
                       by_cases c66 : 0 ≤ ((rd_T34 l1 x6_2).f0)
                       ·rw [if_pos c66] at H
                        have c66b0 : decide (0 ≤ ((rd_T34 l1 x6_2).f0)) = true := decide_eq_true c66
                        clear c66
                        by_cases c67 : ((rd_T34 l1 x6_2).f0) < (x5_2.length : Int)
                        ·rw [if_pos c67] at H
                         have c67b0 : decide (((rd_T34 l1 x6_2).f0) < (x5_2.length : Int)) = true := decide_eq_true c67
                         clear c67
                         obtain ⟨y328, hy328⟩ : ∃ y_ : List Int, y_ = (x5_2.set (((rd_T34 l1 x6_2).f0) : Int).toNat (wrap64 (((rd_T34 l1 x6_2).f1) + ((rd_T88 l0 ((rd_T34 l1 x6_2).f0)).f2)))) := ⟨_, rfl⟩
                         replace H : (spec_JobsLegal.l0 kj25 l0 l1 y328 (wrap64 (x6_2 + 1))) = some r := by first | (rw [hy328]; with_reducible exact H) | (have H2_ := (Option.bind_some _ _).symm.trans H; rw [hy328]; with_reducible exact H2_) | (have H2_ := (Option.bind_some _ _).symm.trans H; with_reducible exact H2_) | with_reducible exact H | (rw [hy328]; exact H) | exact H
                         have Ny328 := Aside0.mk hy328
                         clear hy328
                         have H' := Aside0.mk H
                         clear H
                         have p324 : 0 ≤ ((ji48) : Int) := of_decide_eq_true (by first | (with_reducible assumption) | assumption)
                         have q324 : (ji48) < (l1.length : Int) := of_decide_eq_true (by first | (with_reducible assumption) | assumption)
                         obtain ⟨ad324, e324, hx324_0, hx324_1, hx324_2, hx324_3⟩ := at_T34 HR1.out (ji48) p324 q324
                         obtain rfl : ad316 = ad324 := (by injection e324)
                         replace hx324_0 := (HB.out.cell (World.block_lt_of_cell? w _ hx324_0)).trans hx324_0
                         replace hx324_1 := (HB.out.cell (World.block_lt_of_cell? w _ hx324_1)).trans hx324_1
                         replace hx324_2 := (HB.out.cell (World.block_lt_of_cell? w _ hx324_2)).trans hx324_2
                         replace hx324_3 := (HB.out.cell (World.block_lt_of_cell? w _ hx324_3)).trans hx324_3
                         replace p324 := eq_true p324
                         replace q324 := eq_true q324
                         have hnb69 := NB317_321.out
                         have hnc69 := NB321_317.out
                         have hcz70_0 : wc.cell? ⟨gb317, 0, none⟩ = some (.int .i64 ((rd_T34 l1 x6_2).f0)) := (blk_cell BK317.out 0).trans rfl
                         have hcz70_1 : wc.cell? ⟨gb317, 1, none⟩ = some (.int .i64 ((rd_T34 l1 x6_2).f1)) := (blk_cell BK317.out 1).trans rfl
                         have hcz70_2 : wc.cell? ⟨gb317, 2, none⟩ = some (.int .i64 ((rd_T34 l1 x6_2).f2)) := (blk_cell BK317.out 2).trans rfl
                         have hcz70_3 : wc.cell? ⟨gb317, 3, none⟩ = some (.int .i64 ((rd_T34 l1 x6_2).f3)) := (blk_cell BK317.out 3).trans rfl
                         have hfz70_0 := blk_frozen BK317.out 0
                         have hfz70_1 := blk_frozen BK317.out 1
                         have hfz70_2 := blk_frozen BK317.out 2
                         have hfz70_3 := blk_frozen BK317.out 3
                         have p325 : 0 ≤ ((ji48) : Int) := of_decide_eq_true (by first | (with_reducible assumption) | assumption)
                         have q325 : (ji48) < (l1.length : Int) := of_decide_eq_true (by first | (with_reducible assumption) | assumption)
                         obtain ⟨ad325, e325, hx325_0, hx325_1, hx325_2, hx325_3⟩ := at_T34 HR1.out (ji48) p325 q325
                         obtain rfl : ad316 = ad325 := (by injection e325)
                         replace hx325_0 := (HB.out.cell (World.block_lt_of_cell? w _ hx325_0)).trans hx325_0
                         replace hx325_1 := (HB.out.cell (World.block_lt_of_cell? w _ hx325_1)).trans hx325_1
                         replace hx325_2 := (HB.out.cell (World.block_lt_of_cell? w _ hx325_2)).trans hx325_2
                         replace hx325_3 := (HB.out.cell (World.block_lt_of_cell? w _ hx325_3)).trans hx325_3
                         replace p325 := eq_true p325
                         replace q325 := eq_true q325
                         have hcz71_0 : wc.cell? ⟨gb321, 0, none⟩ = some (.int .i64 ((rd_T88 l0 ((rd_T34 l1 x6_2).f0)).f0)) := (blk_cell BK321.out 0).trans rfl
                         have hcz71_1 : wc.cell? ⟨gb321, 1, none⟩ = some (.int .i64 ((rd_T88 l0 ((rd_T34 l1 x6_2).f0)).f1)) := (blk_cell BK321.out 1).trans rfl
                         have hcz71_2 : wc.cell? ⟨gb321, 2, none⟩ = some (.int .i64 ((rd_T88 l0 ((rd_T34 l1 x6_2).f0)).f2)) := (blk_cell BK321.out 2).trans rfl
                         have hfz71_0 := blk_frozen BK321.out 0
                         have hfz71_1 := blk_frozen BK321.out 1
                         have hfz71_2 := blk_frozen BK321.out 2
                         have p68 : 0 ≤ (((rd_T34 l1 x6_2).f0) : Int) := of_decide_eq_true (by first | (with_reducible assumption) | assumption)
                         have q68 : (((rd_T34 l1 x6_2).f0) : Int) < ((x5_2.length : Int) : Int) := of_decide_eq_true (by first | (with_reducible assumption) | assumption)
                         obtain ⟨go68, co68, eo68, gb68, gl68, cl68, HG68⟩ := Kd.R_form HO_5.out (by omega)
                         (first | cases eo68 | (injection eo68 with ea_ en_ ec_; (first | subst ea_ | (injection ea_ with ea_; subst ea_)); subst ec_; clear en_))
                         have GB68 := Aside0.mk gb68
                         have GG68 := Aside0.mk HG68
                         clear gb68 gl68 HG68
                         obtain ⟨hx68_0, hf68_0⟩ := Kd.R_celln 0 HO_5.out (((rd_T34 l1 x6_2).f0) : Int) p68 q68
                         replace p68 := eq_true p68
                         replace q68 := eq_true q68
                         have HP72 := Kd.R_putg HO_5.out (((rd_T34 l1 x6_2).f0) : Int) (wrap64 (((rd_T34 l1 x6_2).f1) + ((rd_T88 l0 ((rd_T34 l1 x6_2).f0)).f2)))
                         go_wp2_with (first | ((with_reducible refine gate_store (t := 3) (p := 117) rfl ?_); (try (rw [drewN_self wc]; generalize hq_ : World.drewN wc _ = wc; have n0_ := Aside0.mk (Kd.R_at hq_ HO_5.out); have n1_ := Aside0.mk (blk_at hq_ BK317.out); have n2_ := Aside0.mk (blk_at hq_ BK321.out); have n3_ := Aside0.mk (below_at hq_ HB.out); clear hq_ HO_5 BK317 BK321 HB; have HO_5 := n0_; have BK317 := n1_; have BK321 := n2_; have HB := n3_; clear n0_ n1_ n2_ n3_; (try (have HP72 := Kd.R_putg HO_5.out (((rd_T34 l1 x6_2).f0) : Int) (wrap64 (((rd_T34 l1 x6_2).f1) + ((rd_T88 l0 ((rd_T34 l1 x6_2).f0)).f2))))))); refine store_event (t := 3) (p := 117) (v := ?vo_w73) (w1 := (wc.setCell ⟨go68, (((rd_T34 l1 x6_2).f0) : Int).toNat, none⟩ (.int .i64 (wrap64 (((rd_T34 l1 x6_2).f1) + ((rd_T88 l0 ((rd_T34 l1 x6_2).f0)).f2)))))) ?hg ?ho ?hn ?hr ?_; (case ho => rfl); (case hg => rfl); (case hn => rfl); (case hr => first | (go_simp; done) | (go_simp; rfl)); intro w73 hw; have hg : wc.grownBy w73 (some go68) := (by rw [hw]; exact HP72.2); have hp_ : Kd.R (Kd.int .i64) 3 w73 w.heap.size (fun _ => True) (.slice (some ⟨go68, 0, none⟩) x5_2.length co68) y328 := (by rw [hw, Ny328.out]; exact HP72.1); clear HP72; have n0_ := Aside0.mk (hp_); have n1_ := Aside0.mk (blk_grown (g := gb317) (o := .cells #[.int .i64 ((rd_T34 l1 x6_2).f0), .int .i64 ((rd_T34 l1 x6_2).f1), .int .i64 ((rd_T34 l1 x6_2).f2), .int .i64 ((rd_T34 l1 x6_2).f3)] 34 (0, 0)) (by (with_reducible repeat (first | refine blk_drewN ?_ _ | refine blk_drew ?_ | refine blk_alloc ?_ _)); exact BK317.out) hg (Kd.R_ne HO_5.out BK317.out (by decide))); have n2_ := Aside0.mk (blk_grown (g := gb321) (o := .cells #[.int .i64 ((rd_T88 l0 ((rd_T34 l1 x6_2).f0)).f0), .int .i64 ((rd_T88 l0 ((rd_T34 l1 x6_2).f0)).f1), .int .i64 ((rd_T88 l0 ((rd_T34 l1 x6_2).f0)).f2)] 88 (0, 0)) (by (with_reducible repeat (first | refine blk_drewN ?_ _ | refine blk_drew ?_ | refine blk_alloc ?_ _)); exact BK321.out) hg (Kd.R_ne HO_5.out BK321.out (by decide))); have n3_ := Aside0.mk ((by rw [hw]; exact below_set (HB.out) GB68.out : Below w.heap.size w w73)); clear HO_5; clear BK317; clear BK321; clear HB; have HO_5 := n0_; have BK317 := n1_; have BK321 := n2_; have HB := n3_; clear n0_ n1_ n2_ n3_; clear hg hw hp_))
                         repeat (go_quiet (first | ((with_reducible refine gate_store (t := 3) (p := 117) rfl ?_); (try (rw [drewN_self wc]; generalize hq_ : World.drewN wc _ = wc; have n0_ := Aside0.mk (Kd.R_at hq_ HO_5.out); have n1_ := Aside0.mk (blk_at hq_ BK317.out); have n2_ := Aside0.mk (blk_at hq_ BK321.out); have n3_ := Aside0.mk (below_at hq_ HB.out); clear hq_ HO_5 BK317 BK321 HB; have HO_5 := n0_; have BK317 := n1_; have BK321 := n2_; have HB := n3_; clear n0_ n1_ n2_ n3_; (try (have HP72 := Kd.R_putg HO_5.out (((rd_T34 l1 x6_2).f0) : Int) (wrap64 (((rd_T34 l1 x6_2).f1) + ((rd_T88 l0 ((rd_T34 l1 x6_2).f0)).f2))))))); refine store_event (t := 3) (p := 117) (v := ?vo_w73) (w1 := (wc.setCell ⟨go68, (((rd_T34 l1 x6_2).f0) : Int).toNat, none⟩ (.int .i64 (wrap64 (((rd_T34 l1 x6_2).f1) + ((rd_T88 l0 ((rd_T34 l1 x6_2).f0)).f2)))))) ?hg ?ho ?hn ?hr ?_; (case ho => rfl); (case hg => rfl); (case hn => rfl); (case hr => first | (go_simp; done) | (go_simp; rfl)); intro w73 hw; have hg : wc.grownBy w73 (some go68) := (by rw [hw]; exact HP72.2); have hp_ : Kd.R (Kd.int .i64) 3 w73 w.heap.size (fun _ => True) (.slice (some ⟨go68, 0, none⟩) x5_2.length co68) y328 := (by rw [hw, Ny328.out]; exact HP72.1); clear HP72; have n0_ := Aside0.mk (hp_); have n1_ := Aside0.mk (blk_grown (g := gb317) (o := .cells #[.int .i64 ((rd_T34 l1 x6_2).f0), .int .i64 ((rd_T34 l1 x6_2).f1), .int .i64 ((rd_T34 l1 x6_2).f2), .int .i64 ((rd_T34 l1 x6_2).f3)] 34 (0, 0)) (by (with_reducible repeat (first | refine blk_drewN ?_ _ | refine blk_drew ?_ | refine blk_alloc ?_ _)); exact BK317.out) hg (Kd.R_ne HO_5.out BK317.out (by decide))); have n2_ := Aside0.mk (blk_grown (g := gb321) (o := .cells #[.int .i64 ((rd_T88 l0 ((rd_T34 l1 x6_2).f0)).f0), .int .i64 ((rd_T88 l0 ((rd_T34 l1 x6_2).f0)).f1), .int .i64 ((rd_T88 l0 ((rd_T34 l1 x6_2).f0)).f2)] 88 (0, 0)) (by (with_reducible repeat (first | refine blk_drewN ?_ _ | refine blk_drew ?_ | refine blk_alloc ?_ _)); exact BK321.out) hg (Kd.R_ne HO_5.out BK321.out (by decide))); have n3_ := Aside0.mk ((by rw [hw]; exact below_set (HB.out) GB68.out : Below w.heap.size w w73)); clear HO_5; clear BK317; clear BK321; clear HB; have HO_5 := n0_; have BK317 := n1_; have BK321 := n2_; have HB := n3_; clear n0_ n1_ n2_ n3_; clear hg hw hp_)); try go_wp2_with (first | ((with_reducible refine gate_store (t := 3) (p := 117) rfl ?_); (try (rw [drewN_self wc]; generalize hq_ : World.drewN wc _ = wc; have n0_ := Aside0.mk (Kd.R_at hq_ HO_5.out); have n1_ := Aside0.mk (blk_at hq_ BK317.out); have n2_ := Aside0.mk (blk_at hq_ BK321.out); have n3_ := Aside0.mk (below_at hq_ HB.out); clear hq_ HO_5 BK317 BK321 HB; have HO_5 := n0_; have BK317 := n1_; have BK321 := n2_; have HB := n3_; clear n0_ n1_ n2_ n3_; (try (have HP72 := Kd.R_putg HO_5.out (((rd_T34 l1 x6_2).f0) : Int) (wrap64 (((rd_T34 l1 x6_2).f1) + ((rd_T88 l0 ((rd_T34 l1 x6_2).f0)).f2))))))); refine store_event (t := 3) (p := 117) (v := ?vo_w73) (w1 := (wc.setCell ⟨go68, (((rd_T34 l1 x6_2).f0) : Int).toNat, none⟩ (.int .i64 (wrap64 (((rd_T34 l1 x6_2).f1) + ((rd_T88 l0 ((rd_T34 l1 x6_2).f0)).f2)))))) ?hg ?ho ?hn ?hr ?_; (case ho => rfl); (case hg => rfl); (case hn => rfl); (case hr => first | (go_simp; done) | (go_simp; rfl)); intro w73 hw; have hg : wc.grownBy w73 (some go68) := (by rw [hw]; exact HP72.2); have hp_ : Kd.R (Kd.int .i64) 3 w73 w.heap.size (fun _ => True) (.slice (some ⟨go68, 0, none⟩) x5_2.length co68) y328 := (by rw [hw, Ny328.out]; exact HP72.1); clear HP72; have n0_ := Aside0.mk (hp_); have n1_ := Aside0.mk (blk_grown (g := gb317) (o := .cells #[.int .i64 ((rd_T34 l1 x6_2).f0), .int .i64 ((rd_T34 l1 x6_2).f1), .int .i64 ((rd_T34 l1 x6_2).f2), .int .i64 ((rd_T34 l1 x6_2).f3)] 34 (0, 0)) (by (with_reducible repeat (first | refine blk_drewN ?_ _ | refine blk_drew ?_ | refine blk_alloc ?_ _)); exact BK317.out) hg (Kd.R_ne HO_5.out BK317.out (by decide))); have n2_ := Aside0.mk (blk_grown (g := gb321) (o := .cells #[.int .i64 ((rd_T88 l0 ((rd_T34 l1 x6_2).f0)).f0), .int .i64 ((rd_T88 l0 ((rd_T34 l1 x6_2).f0)).f1), .int .i64 ((rd_T88 l0 ((rd_T34 l1 x6_2).f0)).f2)] 88 (0, 0)) (by (with_reducible repeat (first | refine blk_drewN ?_ _ | refine blk_drew ?_ | refine blk_alloc ?_ _)); exact BK321.out) hg (Kd.R_ne HO_5.out BK321.out (by decide))); have n3_ := Aside0.mk ((by rw [hw]; exact below_set (HB.out) GB68.out : Below w.heap.size w w73)); clear HO_5; clear BK317; clear BK321; clear HB; have HO_5 := n0_; have BK317 := n1_; have BK321 := n2_; have HB := n3_; clear n0_ n1_ n2_ n3_; clear hg hw hp_)))
                         go_roundg kj25
                         case measure => have := HJ2.out; have := HK2.out; have := HJ14.out; have := HJ25.out; omega
                         case rel => exact ⟨(y328), (wrap64 (x6_2 + 1)), (by first | rfl | (simp; done) | (simp [*]; done)), H', ⟨by have := HJ2.out; have := HK2.out; have := HJ14.out; have := HJ25.out; omega⟩, ⟨by first | ((with_reducible repeat (first | apply Kd.R_alloc | apply Kd.R_drewN | apply Kd.R_drew)); exact HO_5.out) | (rw [Ny328.out]; exact (Kd.R_putg (Kd.R_drewN HO_5.out _) _ _).1) | (rw [Ny328.out]; exact (Kd.R_putg HO_5.out _ _).1)⟩, ⟨by first | exact below_set (pw_below_drewN HB.out _) GB68.out | exact below_set HB.out GB68.out | (repeat (first | (with_reducible first | exact HB.out | apply below_alloc | apply pw_below_drewN | apply below_drew1 | refine below_set ?_ GE317.out | refine below_set ?_ GE321.out) | exact HB.out))⟩⟩
                        ·rw [if_neg c67] at H
                         exact absurd H (by simp)
                       ·rw [if_neg c66] at H
                        exact absurd H (by simp)
                    ·rw [if_neg c50] at H
                     exact absurd H (by simp)
                   ·rw [if_neg c49] at H
                    exact absurd H (by simp)
                  ·rw [if_neg c47] at H
                   have c47b0 : decide (0 < x6_2) = false := decide_eq_false c47
                   clear c47
                   by_cases c74 : 0 ≤ ((rd_T34 l1 x6_2).f0)
                   ·rw [if_pos c74] at H
                    have c74b0 : decide (0 ≤ ((rd_T34 l1 x6_2).f0)) = true := decide_eq_true c74
                    clear c74
                    by_cases c75 : ((rd_T34 l1 x6_2).f0) < (x5_2.length : Int)
                    ·rw [if_pos c75] at H
                     have c75b0 : decide (((rd_T34 l1 x6_2).f0) < (x5_2.length : Int)) = true := decide_eq_true c75
                     clear c75
                     obtain ⟨y329, hy329⟩ : ∃ y_ : List Int, y_ = (x5_2.set (((rd_T34 l1 x6_2).f0) : Int).toNat (wrap64 (((rd_T34 l1 x6_2).f1) + ((rd_T88 l0 ((rd_T34 l1 x6_2).f0)).f2)))) := ⟨_, rfl⟩
                     replace H : (spec_JobsLegal.l0 kj25 l0 l1 y329 (wrap64 (x6_2 + 1))) = some r := by first | (rw [hy329]; with_reducible exact H) | (have H2_ := (Option.bind_some _ _).symm.trans H; rw [hy329]; with_reducible exact H2_) | (have H2_ := (Option.bind_some _ _).symm.trans H; with_reducible exact H2_) | with_reducible exact H | (rw [hy329]; exact H) | exact H
                     have Ny329 := Aside0.mk hy329
                     clear hy329
                     have H' := Aside0.mk H
                     clear H
                     have hnb77 := NB317_321.out
                     have hnc77 := NB321_317.out
                     have hcz78_0 : wc.cell? ⟨gb317, 0, none⟩ = some (.int .i64 ((rd_T34 l1 x6_2).f0)) := (blk_cell BK317.out 0).trans rfl
                     have hcz78_1 : wc.cell? ⟨gb317, 1, none⟩ = some (.int .i64 ((rd_T34 l1 x6_2).f1)) := (blk_cell BK317.out 1).trans rfl
                     have hcz78_2 : wc.cell? ⟨gb317, 2, none⟩ = some (.int .i64 ((rd_T34 l1 x6_2).f2)) := (blk_cell BK317.out 2).trans rfl
                     have hcz78_3 : wc.cell? ⟨gb317, 3, none⟩ = some (.int .i64 ((rd_T34 l1 x6_2).f3)) := (blk_cell BK317.out 3).trans rfl
                     have hfz78_0 := blk_frozen BK317.out 0
                     have hfz78_1 := blk_frozen BK317.out 1
                     have hfz78_2 := blk_frozen BK317.out 2
                     have hfz78_3 := blk_frozen BK317.out 3
                     have hcz79_0 : wc.cell? ⟨gb321, 0, none⟩ = some (.int .i64 ((rd_T88 l0 ((rd_T34 l1 x6_2).f0)).f0)) := (blk_cell BK321.out 0).trans rfl
                     have hcz79_1 : wc.cell? ⟨gb321, 1, none⟩ = some (.int .i64 ((rd_T88 l0 ((rd_T34 l1 x6_2).f0)).f1)) := (blk_cell BK321.out 1).trans rfl
                     have hcz79_2 : wc.cell? ⟨gb321, 2, none⟩ = some (.int .i64 ((rd_T88 l0 ((rd_T34 l1 x6_2).f0)).f2)) := (blk_cell BK321.out 2).trans rfl
                     have hfz79_0 := blk_frozen BK321.out 0
                     have hfz79_1 := blk_frozen BK321.out 1
                     have hfz79_2 := blk_frozen BK321.out 2
                     have p76 : 0 ≤ (((rd_T34 l1 x6_2).f0) : Int) := of_decide_eq_true (by first | (with_reducible assumption) | assumption)
                     have q76 : (((rd_T34 l1 x6_2).f0) : Int) < ((x5_2.length : Int) : Int) := of_decide_eq_true (by first | (with_reducible assumption) | assumption)
                     obtain ⟨go76, co76, eo76, gb76, gl76, cl76, HG76⟩ := Kd.R_form HO_5.out (by omega)
                     (first | cases eo76 | (injection eo76 with ea_ en_ ec_; (first | subst ea_ | (injection ea_ with ea_; subst ea_)); subst ec_; clear en_))
                     have GB76 := Aside0.mk gb76
                     have GG76 := Aside0.mk HG76
                     clear gb76 gl76 HG76
                     obtain ⟨hx76_0, hf76_0⟩ := Kd.R_celln 0 HO_5.out (((rd_T34 l1 x6_2).f0) : Int) p76 q76
                     replace p76 := eq_true p76
                     replace q76 := eq_true q76
                     have HP80 := Kd.R_putg HO_5.out (((rd_T34 l1 x6_2).f0) : Int) (wrap64 (((rd_T34 l1 x6_2).f1) + ((rd_T88 l0 ((rd_T34 l1 x6_2).f0)).f2)))
                     go_wp2_with (first | ((with_reducible refine gate_store (t := 3) (p := 117) rfl ?_); (try (rw [drewN_self wc]; generalize hq_ : World.drewN wc _ = wc; have n0_ := Aside0.mk (Kd.R_at hq_ HO_5.out); have n1_ := Aside0.mk (blk_at hq_ BK317.out); have n2_ := Aside0.mk (blk_at hq_ BK321.out); have n3_ := Aside0.mk (below_at hq_ HB.out); clear hq_ HO_5 BK317 BK321 HB; have HO_5 := n0_; have BK317 := n1_; have BK321 := n2_; have HB := n3_; clear n0_ n1_ n2_ n3_; (try (have HP80 := Kd.R_putg HO_5.out (((rd_T34 l1 x6_2).f0) : Int) (wrap64 (((rd_T34 l1 x6_2).f1) + ((rd_T88 l0 ((rd_T34 l1 x6_2).f0)).f2))))))); refine store_event (t := 3) (p := 117) (v := ?vo_w81) (w1 := (wc.setCell ⟨go76, (((rd_T34 l1 x6_2).f0) : Int).toNat, none⟩ (.int .i64 (wrap64 (((rd_T34 l1 x6_2).f1) + ((rd_T88 l0 ((rd_T34 l1 x6_2).f0)).f2)))))) ?hg ?ho ?hn ?hr ?_; (case ho => rfl); (case hg => rfl); (case hn => rfl); (case hr => first | (go_simp; done) | (go_simp; rfl)); intro w81 hw; have hg : wc.grownBy w81 (some go76) := (by rw [hw]; exact HP80.2); have hp_ : Kd.R (Kd.int .i64) 3 w81 w.heap.size (fun _ => True) (.slice (some ⟨go76, 0, none⟩) x5_2.length co76) y329 := (by rw [hw, Ny329.out]; exact HP80.1); clear HP80; have n0_ := Aside0.mk (hp_); have n1_ := Aside0.mk (blk_grown (g := gb317) (o := .cells #[.int .i64 ((rd_T34 l1 x6_2).f0), .int .i64 ((rd_T34 l1 x6_2).f1), .int .i64 ((rd_T34 l1 x6_2).f2), .int .i64 ((rd_T34 l1 x6_2).f3)] 34 (0, 0)) (by (with_reducible repeat (first | refine blk_drewN ?_ _ | refine blk_drew ?_ | refine blk_alloc ?_ _)); exact BK317.out) hg (Kd.R_ne HO_5.out BK317.out (by decide))); have n2_ := Aside0.mk (blk_grown (g := gb321) (o := .cells #[.int .i64 ((rd_T88 l0 ((rd_T34 l1 x6_2).f0)).f0), .int .i64 ((rd_T88 l0 ((rd_T34 l1 x6_2).f0)).f1), .int .i64 ((rd_T88 l0 ((rd_T34 l1 x6_2).f0)).f2)] 88 (0, 0)) (by (with_reducible repeat (first | refine blk_drewN ?_ _ | refine blk_drew ?_ | refine blk_alloc ?_ _)); exact BK321.out) hg (Kd.R_ne HO_5.out BK321.out (by decide))); have n3_ := Aside0.mk ((by rw [hw]; exact below_set (HB.out) GB76.out : Below w.heap.size w w81)); clear HO_5; clear BK317; clear BK321; clear HB; have HO_5 := n0_; have BK317 := n1_; have BK321 := n2_; have HB := n3_; clear n0_ n1_ n2_ n3_; clear hg hw hp_))
                     repeat (go_quiet (first | ((with_reducible refine gate_store (t := 3) (p := 117) rfl ?_); (try (rw [drewN_self wc]; generalize hq_ : World.drewN wc _ = wc; have n0_ := Aside0.mk (Kd.R_at hq_ HO_5.out); have n1_ := Aside0.mk (blk_at hq_ BK317.out); have n2_ := Aside0.mk (blk_at hq_ BK321.out); have n3_ := Aside0.mk (below_at hq_ HB.out); clear hq_ HO_5 BK317 BK321 HB; have HO_5 := n0_; have BK317 := n1_; have BK321 := n2_; have HB := n3_; clear n0_ n1_ n2_ n3_; (try (have HP80 := Kd.R_putg HO_5.out (((rd_T34 l1 x6_2).f0) : Int) (wrap64 (((rd_T34 l1 x6_2).f1) + ((rd_T88 l0 ((rd_T34 l1 x6_2).f0)).f2))))))); refine store_event (t := 3) (p := 117) (v := ?vo_w81) (w1 := (wc.setCell ⟨go76, (((rd_T34 l1 x6_2).f0) : Int).toNat, none⟩ (.int .i64 (wrap64 (((rd_T34 l1 x6_2).f1) + ((rd_T88 l0 ((rd_T34 l1 x6_2).f0)).f2)))))) ?hg ?ho ?hn ?hr ?_; (case ho => rfl); (case hg => rfl); (case hn => rfl); (case hr => first | (go_simp; done) | (go_simp; rfl)); intro w81 hw; have hg : wc.grownBy w81 (some go76) := (by rw [hw]; exact HP80.2); have hp_ : Kd.R (Kd.int .i64) 3 w81 w.heap.size (fun _ => True) (.slice (some ⟨go76, 0, none⟩) x5_2.length co76) y329 := (by rw [hw, Ny329.out]; exact HP80.1); clear HP80; have n0_ := Aside0.mk (hp_); have n1_ := Aside0.mk (blk_grown (g := gb317) (o := .cells #[.int .i64 ((rd_T34 l1 x6_2).f0), .int .i64 ((rd_T34 l1 x6_2).f1), .int .i64 ((rd_T34 l1 x6_2).f2), .int .i64 ((rd_T34 l1 x6_2).f3)] 34 (0, 0)) (by (with_reducible repeat (first | refine blk_drewN ?_ _ | refine blk_drew ?_ | refine blk_alloc ?_ _)); exact BK317.out) hg (Kd.R_ne HO_5.out BK317.out (by decide))); have n2_ := Aside0.mk (blk_grown (g := gb321) (o := .cells #[.int .i64 ((rd_T88 l0 ((rd_T34 l1 x6_2).f0)).f0), .int .i64 ((rd_T88 l0 ((rd_T34 l1 x6_2).f0)).f1), .int .i64 ((rd_T88 l0 ((rd_T34 l1 x6_2).f0)).f2)] 88 (0, 0)) (by (with_reducible repeat (first | refine blk_drewN ?_ _ | refine blk_drew ?_ | refine blk_alloc ?_ _)); exact BK321.out) hg (Kd.R_ne HO_5.out BK321.out (by decide))); have n3_ := Aside0.mk ((by rw [hw]; exact below_set (HB.out) GB76.out : Below w.heap.size w w81)); clear HO_5; clear BK317; clear BK321; clear HB; have HO_5 := n0_; have BK317 := n1_; have BK321 := n2_; have HB := n3_; clear n0_ n1_ n2_ n3_; clear hg hw hp_)); try go_wp2_with (first | ((with_reducible refine gate_store (t := 3) (p := 117) rfl ?_); (try (rw [drewN_self wc]; generalize hq_ : World.drewN wc _ = wc; have n0_ := Aside0.mk (Kd.R_at hq_ HO_5.out); have n1_ := Aside0.mk (blk_at hq_ BK317.out); have n2_ := Aside0.mk (blk_at hq_ BK321.out); have n3_ := Aside0.mk (below_at hq_ HB.out); clear hq_ HO_5 BK317 BK321 HB; have HO_5 := n0_; have BK317 := n1_; have BK321 := n2_; have HB := n3_; clear n0_ n1_ n2_ n3_; (try (have HP80 := Kd.R_putg HO_5.out (((rd_T34 l1 x6_2).f0) : Int) (wrap64 (((rd_T34 l1 x6_2).f1) + ((rd_T88 l0 ((rd_T34 l1 x6_2).f0)).f2))))))); refine store_event (t := 3) (p := 117) (v := ?vo_w81) (w1 := (wc.setCell ⟨go76, (((rd_T34 l1 x6_2).f0) : Int).toNat, none⟩ (.int .i64 (wrap64 (((rd_T34 l1 x6_2).f1) + ((rd_T88 l0 ((rd_T34 l1 x6_2).f0)).f2)))))) ?hg ?ho ?hn ?hr ?_; (case ho => rfl); (case hg => rfl); (case hn => rfl); (case hr => first | (go_simp; done) | (go_simp; rfl)); intro w81 hw; have hg : wc.grownBy w81 (some go76) := (by rw [hw]; exact HP80.2); have hp_ : Kd.R (Kd.int .i64) 3 w81 w.heap.size (fun _ => True) (.slice (some ⟨go76, 0, none⟩) x5_2.length co76) y329 := (by rw [hw, Ny329.out]; exact HP80.1); clear HP80; have n0_ := Aside0.mk (hp_); have n1_ := Aside0.mk (blk_grown (g := gb317) (o := .cells #[.int .i64 ((rd_T34 l1 x6_2).f0), .int .i64 ((rd_T34 l1 x6_2).f1), .int .i64 ((rd_T34 l1 x6_2).f2), .int .i64 ((rd_T34 l1 x6_2).f3)] 34 (0, 0)) (by (with_reducible repeat (first | refine blk_drewN ?_ _ | refine blk_drew ?_ | refine blk_alloc ?_ _)); exact BK317.out) hg (Kd.R_ne HO_5.out BK317.out (by decide))); have n2_ := Aside0.mk (blk_grown (g := gb321) (o := .cells #[.int .i64 ((rd_T88 l0 ((rd_T34 l1 x6_2).f0)).f0), .int .i64 ((rd_T88 l0 ((rd_T34 l1 x6_2).f0)).f1), .int .i64 ((rd_T88 l0 ((rd_T34 l1 x6_2).f0)).f2)] 88 (0, 0)) (by (with_reducible repeat (first | refine blk_drewN ?_ _ | refine blk_drew ?_ | refine blk_alloc ?_ _)); exact BK321.out) hg (Kd.R_ne HO_5.out BK321.out (by decide))); have n3_ := Aside0.mk ((by rw [hw]; exact below_set (HB.out) GB76.out : Below w.heap.size w w81)); clear HO_5; clear BK317; clear BK321; clear HB; have HO_5 := n0_; have BK317 := n1_; have BK321 := n2_; have HB := n3_; clear n0_ n1_ n2_ n3_; clear hg hw hp_)))
                     go_roundg kj25
                     case measure => have := HJ2.out; have := HK2.out; have := HJ14.out; have := HJ25.out; omega
                     case rel => exact ⟨(y329), (wrap64 (x6_2 + 1)), (by first | rfl | (simp; done) | (simp [*]; done)), H', ⟨by have := HJ2.out; have := HK2.out; have := HJ14.out; have := HJ25.out; omega⟩, ⟨by first | ((with_reducible repeat (first | apply Kd.R_alloc | apply Kd.R_drewN | apply Kd.R_drew)); exact HO_5.out) | (rw [Ny329.out]; exact (Kd.R_putg (Kd.R_drewN HO_5.out _) _ _).1) | (rw [Ny329.out]; exact (Kd.R_putg HO_5.out _ _).1)⟩, ⟨by first | exact below_set (pw_below_drewN HB.out _) GB76.out | exact below_set HB.out GB76.out | (repeat (first | (with_reducible first | exact HB.out | apply below_alloc | apply pw_below_drewN | apply below_drew1 | refine below_set ?_ GE317.out | refine below_set ?_ GE321.out) | exact HB.out))⟩⟩
                    ·rw [if_neg c75] at H
                     exact absurd H (by simp)
                   ·rw [if_neg c74] at H
                    exact absurd H (by simp)
              ·rw [if_neg c25] at H
               exact absurd H (by simp)
             ·rw [if_neg c24] at H
              exact absurd H (by simp)
         ·rw [if_neg c14] at H
          exact absurd H (by simp)
        ·rw [if_neg c13] at H
         have c13b0 : decide (x6_2 < (l1.length : Int)) = false := decide_eq_false c13
         clear c13
         obtain rfl := Option.some.inj H
         go_wp2
         repeat (go_quiet (fail); try go_wp2)
         go_ret
         exact ⟨by first | rfl | (simp [errW_none, errW_some] <;> rfl) | (simp [*, errW_none, errW_some] <;> rfl), by repeat (first | (with_reducible first | exact HB.out | apply below_alloc | apply pw_below_drewN | apply below_drew1) | exact HB.out)⟩
     ·rw [if_neg c10] at H
      exact absurd H (by simp)
    ·rw [if_neg c9] at H
     exact absurd H (by simp)

end Go.Proofs.Ytkdfjomhichkoaa.P
-- Laid by a program of this work.
namespace Go.Proofs.Ytkdfjomhichkoaa.P
open Go.RowKit Go.Proofs.YtkdfjomhichkoaaW.PrintWords Go.Proofs.YtkdfjomhichkoaaW.PrintLast Go.Proofs.YtkdfjomhichkoaaW.PrintMore
attribute [local go_sem] max2_int min2_int max_two min_two max_three min_three max_four min_four   -- for this text's walks alone
set_option linter.unusedVariables false
set_option linter.unusedSimpArgs false

/-! ### spec_l3Deadlines: function 57 -/
def spec_l3Deadlines.l0 : Nat → List (S34) → List Int → Int → Option (List Int)
 | 0, _, _, _ => none
 | k + 1, x0, x3, x4 => if x4 < (x0.length : Int) then (if 0 ≤ x4 then (if x3.length < 17592186044416 then (spec_l3Deadlines.l0 k x0 (x3 ++ [(rd_T34 x0 x4).f2]) (wrap64 (x4 + 1))) else (none)) else (none)) else (some x3)
def spec_l3Deadlines.f (k : Nat) (l0 : List (S34)) : Option (List Int) := spec_l3Deadlines.l0 k l0 (([] : List Int)) 0
theorem spec_l3Deadlines.mono_l : ∀ k, (∀ y0 y1 y2, LeO (spec_l3Deadlines.l0 k y0 y1 y2) (spec_l3Deadlines.l0 (k + 1) y0 y1 y2))
 | 0 => fun _ _ _ r h => by simp [spec_l3Deadlines.l0] at h
 | k + 1 => by
  have ih0 := spec_l3Deadlines.mono_l k
  ·intro y0 y1 y2
   unfold spec_l3Deadlines.l0
   repeat' first
   | (with_reducible exact ih0 _ _ _)
   | (with_reducible exact LeO.refl _)
   | (with_reducible exact LeO.none _)
   | (with_reducible refine LeO.ite ?_ ?_)
   | (with_reducible refine LeO.bind ?_ (fun _ => ?_))
   | exact ih0 _ _ _
   | exact LeO.none _
   | refine LeO.ite ?_ ?_
   | refine LeO.bind ?_ (fun _ => ?_)
theorem spec_l3Deadlines.mono : ∀ a0 k, LeO (spec_l3Deadlines.f k a0) (spec_l3Deadlines.f (k + 1) a0) := by
 intro a0 k
 have ih0 := spec_l3Deadlines.mono_l k
 unfold spec_l3Deadlines.f
 repeat' first
   | (with_reducible exact ih0 _ _ _)
   | (with_reducible exact LeO.refl _)
   | (with_reducible exact LeO.none _)
   | (with_reducible refine LeO.ite ?_ ?_)
   | (with_reducible refine LeO.bind ?_ (fun _ => ?_))
   | exact ih0 _ _ _
   | exact LeO.none _
   | refine LeO.ite ?_ ?_
   | refine LeO.bind ?_ (fun _ => ?_)
set_option maxHeartbeats 8000000 in
set_option maxRecDepth 100000 in
theorem spec_l3Deadlines.calls (k : Nat) (A0 : Option Addr) (c0 : Nat) (l0 : List (S34)) (r : List Int) (w : World) (hr0 : Kd.C k34 w A0 l0.length l0) (hc0 : l0.length ≤ c0) (h : spec_l3Deadlines.f k l0 = some r) :
  Calls Try.prog 57 #[.slice A0 l0.length c0] w fun e w' => ∃ v0_ : Value, e = .returned (v0_) ∧ Kd.R (Kd.int .i64) 3 w' w.heap.size (fun _ => True) v0_ r ∧ Below w.heap.size w w' := by
 have HR0 := Aside0.mk hr0
 have HC0 := Aside0.mk hc0
 clear hr0 hc0
 have HB := Aside0.mk (Below.refl w.heap.size w)
 have H : (spec_l3Deadlines.l0 k l0 (([] : List Int)) 0) = some r := h
 clear h
 obtain ⟨y330, hy330⟩ : ∃ y_ : List Int, y_ = (([] : List Int)) := ⟨_, rfl⟩
 replace H : (spec_l3Deadlines.l0 k l0 y330 0) = some r := by first | (rw [hy330]; with_reducible exact H) | (have H2_ := (Option.bind_some _ _).symm.trans H; rw [hy330]; with_reducible exact H2_) | (have H2_ := (Option.bind_some _ _).symm.trans H; with_reducible exact H2_) | with_reducible exact H | (rw [hy330]; exact H) | exact H
 have Ny330 := Aside0.mk hy330
 clear hy330
 have H' := Aside0.mk H
 clear H
 go_enter Try.func57, Try.ntmps57
 go_wp2_with (first | ((with_reducible refine gate_dst (N := 5) rfl ?_); refine Kd.R_lit (Kd.int .i64) _ 3 ?hg (N := 5) ?hd (xs := ([] : List Int)) (inner := []) (ok := fun _ => True) (okp := fun _ => True) ?hr ?hp (fun _ hk => hk) trivial (Below.refl _ _) (Nat.le_refl _) (by simp) ?_; (case hd => rfl); (case hg => rfl); (case hr => first | (go_simp; done) | (go_simp; rfl)); (case hp => exact (Reps.none _ _)); intro v331 w2 ho3 hb hg_ hnew_; clear hg_ hnew_; (first | rw [← Ny330.out] at ho3 | (simp only [Int.reduceToNat] at ho3; rw [← Ny330.out] at ho3)); have n0_ := Aside0.mk (Kd.R_lower ho3 (below_size (by repeat (first | (with_reducible first | exact HB.out | apply below_alloc | apply pw_below_drewN | apply below_drew1) | exact HB.out)))); have n1_ := Aside0.mk (below_step (by repeat (first | (with_reducible first | exact HB.out | apply below_alloc | apply pw_below_drewN | apply below_drew1) | exact HB.out)) hb); clear HB; have HO332 := n0_; have HB := n1_; clear n0_ n1_; clear hb ho3))
 go_loopg [3, 4] k (fun kq v3 v4 w' => ∃ (x3_1 : List Int) (x4_1 : Int), v4 = .int .i64 x4_1 ∧ Aside0 (spec_l3Deadlines.l0 kq l0 x3_1 x4_1 = some r) ∧ Aside0 (kq ≤ k) ∧ Aside0 (Kd.R (Kd.int .i64) 3 w' w.heap.size (fun _ => True) v3 x3_1) ∧ Aside0 (Below w.heap.size w w'))
 case atStart => exact ⟨(y330), (0), (by first | rfl | (simp; done) | (simp [*]; done)), H', ⟨Nat.le_refl _⟩, ⟨by (with_reducible repeat (first | apply Kd.R_alloc | apply Kd.R_drewN | apply Kd.R_drew)); exact HO332.out⟩, ⟨by repeat (first | (with_reducible first | exact HB.out | apply below_alloc | apply pw_below_drewN | apply below_drew1) | exact HB.out)⟩⟩
 case round =>
  clear H'
  try clear p2
  obtain ⟨x3_1, x4_1, rfl, HA, HK1, HO_3, HB⟩ := hrel
  cases gk with
  | zero => exact absurd HA.out (by simp [spec_l3Deadlines.l0])
  | succ k1 =>
   have H := HA.out
   clear HA
   simp only [spec_l3Deadlines.l0] at H
   by_cases c4 : x4_1 < (l0.length : Int)
   ·rw [if_pos c4] at H
    have c4b0 : decide (x4_1 < (l0.length : Int)) = true := decide_eq_true c4
    clear c4
    by_cases c5 : 0 ≤ x4_1
    ·rw [if_pos c5] at H
     have c5b0 : decide (0 ≤ x4_1) = true := decide_eq_true c5
     clear c5
     by_cases c6 : x3_1.length < 17592186044416
     ·rw [if_pos c6] at H
      have LMc6 := Aside0.mk c6
      clear c6
      obtain ⟨y334, hy334⟩ : ∃ y_ : List Int, y_ = (x3_1 ++ [(rd_T34 l0 x4_1).f2]) := ⟨_, rfl⟩
      replace H : (spec_l3Deadlines.l0 k1 l0 y334 (wrap64 (x4_1 + 1))) = some r := by first | (rw [hy334]; with_reducible exact H) | (have H2_ := (Option.bind_some _ _).symm.trans H; rw [hy334]; with_reducible exact H2_) | (have H2_ := (Option.bind_some _ _).symm.trans H; with_reducible exact H2_) | with_reducible exact H | (rw [hy334]; exact H) | exact H
      have Ny334 := Aside0.mk hy334
      clear hy334
      have H' := Aside0.mk H
      clear H
      have p333 : 0 ≤ (x4_1 : Int) := of_decide_eq_true (by first | (with_reducible assumption) | assumption)
      have q333 : x4_1 < (l0.length : Int) := of_decide_eq_true (by first | (with_reducible assumption) | assumption)
      obtain ⟨ad333, e333, hx333_0, hx333_1, hx333_2, hx333_3⟩ := at_T34 HR0.out x4_1 p333 q333
      cases e333
      replace hx333_0 := (HB.out.cell (World.block_lt_of_cell? w _ hx333_0)).trans hx333_0
      replace hx333_1 := (HB.out.cell (World.block_lt_of_cell? w _ hx333_1)).trans hx333_1
      replace hx333_2 := (HB.out.cell (World.block_lt_of_cell? w _ hx333_2)).trans hx333_2
      replace hx333_3 := (HB.out.cell (World.block_lt_of_cell? w _ hx333_3)).trans hx333_3
      replace p333 := eq_true p333
      replace q333 := eq_true q333
      go_wp2_with (first | ((with_reducible refine gate_builtin (b := .append) (xs := #[.tmp 12, .tmp 18]) rfl ?_); at_builtin; refine Kd.R_append (Kd.int .i64) (w0 := w) w.heap.size rfl (.tmp 12) (.tmp 18) 27 3 (.int .i64 0) 8 rfl Try.underlying27 info3 rfl (by decide) (by omega) u3 x3_1 ((rd_T34 l0 x4_1).f2) [.int .i64 ((rd_T34 l0 x4_1).f2)] (fun _ => True) (fun _ => False) rfl rfl ?aP (fun _ hk => hk.elim) ?aF ?aO ?aB ?aS ?aL ?_; (case aP => exact rfl); (case aB => exact (by repeat (first | (with_reducible first | exact HB.out | apply below_alloc | apply pw_below_drewN | apply below_drew1) | exact HB.out))); (case aF => exact (fun _ _ => trivial)); (case aO => exact (by (with_reducible repeat (first | apply Kd.R_alloc | apply Kd.R_drewN | apply Kd.R_drew)); exact HO_3.out)); (case aS => exact (below_size (by repeat (first | (with_reducible first | exact HB.out | apply below_alloc | apply pw_below_drewN | apply below_drew1) | exact HB.out)))); (case aL => have := LMc6.out; omega); intro v335 w7 ho hb hg hat; rw [← Ny334.out] at ho; have n0_ := Aside0.mk (hb); have n1_ := Aside0.mk (ho); clear HB; clear HO_3; have HB := n0_; have HO336 := n1_; clear n0_ n1_; clear ho hb hg hat))
      go_roundg k1
      case measure => have := HK1.out; omega
      case rel => exact ⟨(y334), (wrap64 (x4_1 + 1)), (by first | rfl | (simp; done) | (simp [*]; done)), H', ⟨by have := HK1.out; omega⟩, ⟨by (with_reducible repeat (first | apply Kd.R_alloc | apply Kd.R_drewN | apply Kd.R_drew)); exact HO336.out⟩, ⟨by repeat (first | (with_reducible first | exact HB.out | apply below_alloc | apply pw_below_drewN | apply below_drew1) | exact HB.out)⟩⟩
     ·rw [if_neg c6] at H
      exact absurd H (by simp)
    ·rw [if_neg c5] at H
     exact absurd H (by simp)
   ·rw [if_neg c4] at H
    have c4b0 : decide (x4_1 < (l0.length : Int)) = false := decide_eq_false c4
    clear c4
    obtain rfl := Option.some.inj H
    go_wp2
    go_ret
    exact ⟨_, by first | rfl | (simp [errW_none, errW_some] <;> rfl) | (simp [*, errW_none, errW_some] <;> rfl), by (with_reducible repeat (first | apply Kd.R_alloc | apply Kd.R_drewN | apply Kd.R_drew)); exact HO_3.out, by repeat (first | (with_reducible first | exact HB.out | apply below_alloc | apply pw_below_drewN | apply below_drew1) | exact HB.out)⟩

end Go.Proofs.Ytkdfjomhichkoaa.P
