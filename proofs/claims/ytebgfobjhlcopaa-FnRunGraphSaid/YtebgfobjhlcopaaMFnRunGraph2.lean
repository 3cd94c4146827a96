/- The law FnRunGraph for every input, part 2 of its proof: what the program's functions answer, and the plain law. No condition. -/
import Derived.Test.YtebgfobjhlcopaaMFnRunGraph1
set_option maxRecDepth 100000
namespace Go.Proofs.Ytebgfobjhlcopaa.P
open Go.RowKit Go.Proofs.YtebgfobjhlcopaaW.PrintWords Go.Proofs.YtebgfobjhlcopaaW.PrintLast Go.Proofs.YtebgfobjhlcopaaW.PrintMore
attribute [local go_sem] zfw zfx zhc zhd zfe zff zfy zfz
set_option linter.unusedVariables false
set_option linter.unusedSimpArgs false
def rdR (xs : List (List Int)) (i : Int) : List Int := xs.getD i.toNat ([] : List Int)
theorem rdR_at (xs : List (List Int)) (i : Nat) (h : i < xs.length) : rdR xs (i : Int) = xs[i] := by
  unfold rdR
  rw [List.getD_eq_getElem?_getD, Int.toNat_natCast, List.getElem?_eq_getElem h]
  rfl
theorem at_R {e : Nat} {w : World} {A : Option Addr} {n : Nat} {xs : List (List Int)} (h : Kd.C (Kd.slice e (Kd.int .i64)) w A n xs) (i : Nat) (h1 : i < n) : ∃ ad A0 c0, A = some ad ∧ w.cell? (ad.add i) = some (.slice A0 (rdR xs (i : Int)).length c0) ∧ (rdR xs (i : Int)).length ≤ c0 ∧ Kd.C (Kd.int .i64) w A0 (rdR xs (i : Int)).length (rdR xs (i : Int)) := by
  have hn := h.1
  obtain ⟨ad, he, hc⟩ := h.2.2 (by omega)
  obtain ⟨c, hcl, hp, hcc⟩ := hc i _ (List.getElem?_eq_getElem (show i < xs.length by omega))
  obtain ⟨A0, c0, rfl, hl, hr⟩ := hp
  rw [rdR_at xs i (by omega)]
  have := hcc 0 _ rfl
  simp only [Kd.slice, Nat.mul_one, Nat.add_zero] at this
  exact ⟨ad, A0, c0, he, this, hl, hr⟩
set_option maxHeartbeats 2000000 in
theorem zhg (p : List Int → Bool) (g : Nat) (lb : Array Value) (eg : ∀ args w, (callFunc g args).run Try.prog w = .ok (.enter g args) w) (A : Option Addr) (c : Nat) (l : List (List Int)) (w : World)
    (hp : ∀ (W : World) (x : List Int) (B : Option Addr) (cb : Nat), x ∈ l → Below w.heap.size w W → Kd.C (Kd.int .i64) W B x.length x → Calls Try.prog g (#[.slice B x.length cb] ++ lb) W fun e w' => e = .returned (.bool (p x)) ∧ Below W.heap.size W w')
    (hr : Kd.C (Kd.slice 3 (Kd.int .i64)) w A l.length l) :
    Calls Try.prog 58 #[.slice A l.length c, .func (.func g) #[] lb] w fun e w' => e = .returned (.int .i64 (idxOf p l)) ∧ Below w.heap.size w w' := by
  have hbig := za.mk (Kd.C_max hr)
  have HR := za.mk hr
  have HP := za.mk hp
  clear hr hp
  go_enter Try.func58, Try.ntmps58
  go_wp2
  go_loopg [5, 8] l.length (fun gg _ s8 wr => ∃ kk : Nat, kk ≤ l.length ∧ l.length - kk ≤ gg ∧ s8 = .int .i64 kk ∧ za (Below w.heap.size w wr) ∧ za (∀ j (h : j < kk) (h2 : j < l.length), p l[j] = false))
  case atStart => exact ⟨0, Nat.zero_le _, by omega, rfl, ⟨Below.refl _ w⟩, ⟨fun j hj => absurd hj (Nat.not_lt_zero _)⟩⟩
  case round =>
    obtain ⟨kk, hkk, hg, rfl, BW, N⟩ := hrel
    by_cases hlt : kk < l.length
    · have hltz : (kk : Int) < (l.length : Int) := by omega
      have hb1 := hbig.out
      obtain ⟨ad, A0, c0, ea, hx, hc0, hC⟩ := at_R HR.out kk hlt
      cases ea
      have hx' := (BW.out.cell (World.block_lt_of_cell? w _ hx)).trans hx
      have hC' := Kd.zci hC BW.out
      rw [rdR_at l kk hlt] at hx' hC'
      have hcall := HP.out wr l[kk] A0 c0 (List.getElem_mem hlt) BW.out hC'
      clear hx hC hC' hc0
      generalize hy : l[kk] = y at hx' hcall
      have Y := za.mk hy
      clear hy
      cases hq : p y with
      | true =>
        rw [hq] at hcall
        go_wp2_with (go_at_fn g; refine hcall.mono ?_; rintro e w' ⟨rfl, hb'⟩)
        go_ret
        refine ⟨?_, Below.trans BW.out (hb'.mono BW.out.size)⟩
        rw [idxOf_hit p l kk hlt (by rw [Y.out]; exact hq) (fun j hj => N.out j hj (by omega))]
        rfl
      | false =>
        rw [hq] at hcall
        go_wp2_with (go_at_fn g; refine hcall.mono ?_; rintro e w' ⟨rfl, hb'⟩)
        go_roundg (l.length - (kk + 1))
        case measure => omega
        case rel =>
          refine ⟨kk + 1, by omega, by omega, by go_num, ⟨Below.trans BW.out (hb'.mono BW.out.size)⟩, ⟨fun j hj hj2 => ?_⟩⟩
          by_cases e : j = kk
          · subst e
            rw [Y.out]; exact hq
          · exact N.out j (by omega) hj2
    · have hltz : ¬ (kk : Int) < (l.length : Int) := by omega
      go_wp2
      go_ret
      refine ⟨?_, BW.out⟩
      rw [idxOf_miss p l (fun j hj => N.out j (by omega) hj)]
      rfl
set_option maxHeartbeats 2000000 in
theorem zhh (p : List Int → Bool) (g : Nat) (lb : Array Value) (eg : ∀ args w, (callFunc g args).run Try.prog w = .ok (.enter g args) w) (A : Option Addr) (c : Nat) (l : List (List Int)) (w : World)
    (hp : ∀ (W : World) (x : List Int) (B : Option Addr) (cb : Nat), x ∈ l → Below w.heap.size w W → Kd.C (Kd.int .i64) W B x.length x → Calls Try.prog g (#[.slice B x.length cb] ++ lb) W fun e w' => e = .returned (.bool (p x)) ∧ Below W.heap.size W w')
    (hr : Kd.C (Kd.slice 3 (Kd.int .i64)) w A l.length l) :
    Calls Try.prog 35 #[.slice A l.length c, .func (.func g) #[] lb] w fun e w' => e = .returned (.bool (l.any p)) ∧ Below w.heap.size w w' := by
  have Y := za.mk (zhy p l)
  have h := za.mk (fun W (hW : W = w) => zhg p g lb eg A c l W (by subst hW; exact hp) (by subst hW; exact hr))
  clear hp hr eg
  go_enter Try.func35, Try.ntmps35
  go_wp2_with (go_at_call 58; refine (h.out _ rfl).mono ?_; rintro e w' ⟨rfl, hb'⟩)
  go_ret
  exact ⟨by rw [← Y.out]; rfl, hb'⟩
def blkE (left : List Int) (i : Nat) (e : List Int) : Bool := if rd e 1 = (i : Int) then decide (rd left (rd e 0) > 0) else false
set_option maxHeartbeats 4000000 in
theorem blkE_calls (gi gl i : Nat) (L : Option Addr) (cl : Nat) (left : List Int) (B : Option Addr) (cb : Nat) (x : List Int) (w : World) (hi : w.cell? ⟨gi, 0, none⟩ = some (.int .i64 (i : Int))) (hl : w.cell? ⟨gl, 0, none⟩ = some (.slice L left.length cl)) (hL : Kd.C (Kd.int .i64) w L left.length left) (hx : Kd.C (Kd.int .i64) w B x.length x) (h2 : x.length = 2) (h0 : 0 ≤ rd x 0) (h1 : rd x 0 < (left.length : Int)) :
    Calls Try.prog 36 (#[.slice B x.length cb] ++ #[.pointer (some ⟨gi, 0, none⟩), .pointer (some ⟨gl, 0, none⟩)]) w fun e w' => e = .returned (.bool (blkE left i x)) ∧ Below w.heap.size w w' := by
  obtain ⟨ad, ea, hx0⟩ := Kd.zbq hx 0 (by omega) (by omega)
  obtain ⟨ad2, ea2, hx1⟩ := Kd.zbq hx 1 (by omega) (by omega)
  cases ea
  cases ea2
  obtain ⟨ad3, ea3, hy⟩ := Kd.zbq hL (rd x 0) h0 h1
  cases ea3
  rw [h2]
  have c1 : (0 : Int) < ((2 : Nat) : Int) := by decide
  have c2 : (1 : Int) < ((2 : Nat) : Int) := by decide
  have X0 := za.mk hx
  have X1 := za.mk hL
  have X2 := za.mk h2
  clear hx hL h2
  unfold blkE
  obtain ⟨a0, ha0⟩ : ∃ a, rd x 0 = a := ⟨_, rfl⟩
  obtain ⟨a1, ha1⟩ : ∃ a, rd x 1 = a := ⟨_, rfl⟩
  rw [ha0] at hx0 hy h0 h1 ⊢
  rw [ha1] at hx1 ⊢
  obtain ⟨y, hyy⟩ : ∃ y, rd left a0 = y := ⟨_, rfl⟩
  rw [hyy] at hy ⊢
  have hx1' : w.cell? { block := ad.block, off := ad.off + 1 } = some (.int .i64 a1) := hx1
  have hx0' : w.cell? ad = some (.int .i64 a0) := hx0
  have X3 := za.mk ha0
  have X4 := za.mk ha1
  have X5 := za.mk hyy
  clear ha0 ha1 hyy
  go_enter Try.func36, Try.ntmps36
  by_cases e : a1 = (i : Int)
  · have eb : (a1 == (i : Int)) = true := by simp [e]
    rw [if_pos e]
    go_wp2_with fail
    go_big_region
    all_goals go_wp2
    go_ret
    exact ⟨by first | rfl | (simp; done), zef (Below.refl _ _)⟩
  · have eb : (a1 == (i : Int)) = false := by simp [e]
    rw [if_neg e]
    go_wp2_with fail
    go_big_region
    all_goals go_wp2
    go_ret
    exact ⟨by first | rfl | (simp; done), zef (Below.refl _ _)⟩
set_option maxHeartbeats 4000000 in
theorem zge (w : World) : Calls Try.prog 38 #[.slice none 0 0] w fun e w' => e = .returned (.slice none 0 0) ∧ zbj w w' := by
  go_enter Try.func38, Try.ntmps38
  go_wp2
  go_ret
  exact ⟨rfl, zbj.refl _⟩
set_option maxHeartbeats 4000000 in
theorem zfu (ad : Addr) (n c : Nat) (hn : n ≤ c) (w : World) : Calls Try.prog 38 #[.slice (some ad) n c] w fun e w' => e = .returned (.slice (some ad) n n) ∧ zbj w w' := by
  have hnz : (n : Int) ≤ (c : Int) := by omega
  go_enter Try.func38, Try.ntmps38
  go_wp2
  go_ret
  exact ⟨rfl, zbj.refl _⟩
theorem R_nil_is {α : Type} {d : Kd α} {e base n c : Nat} {W : World} {ok : Nat → Prop} {xs : List α} (h : Kd.R d e W base ok (.slice none n c) xs) : xs = [] ∧ n = 0 ∧ c = 0 := by
  obtain ⟨h5, inner, h6, h7⟩ := h
  rcases h6.2 with ⟨hv, hn⟩ | ⟨g, cap, cur, hv, _⟩
  · injection hv with _ h9 h10
    exact ⟨List.eq_nil_of_length_eq_zero hn, h9, h10⟩
  · injection hv with h1; cases h1
theorem clipR_own {d : Kd (List Int)} {e base c : Nat} {W : World} {ok : Nat → Prop} {X : Option Addr} {xs : List (List Int)} (h : Kd.R d e W base ok (.slice X xs.length c) xs) :
    ∃ c2, za ((∀ w : World, Calls Try.prog 38 #[.slice X xs.length c] w fun e w' => e = .returned (.slice X xs.length c2) ∧ zbj w w') ∧ Kd.Qc d e W base ok (.slice X xs.length c2) xs) := by
  cases X with
  | none =>
    obtain ⟨hx, hn, hc⟩ := R_nil_is h
    subst hx
    subst hc
    exact ⟨0, ⟨fun w => zge w, Kd.zgc h⟩⟩
  | some ad =>
    have hle := (Kd.zcj h).2.1
    exact ⟨xs.length, ⟨fun w => zfu ad _ c hle w, Kd.zik h (Nat.le_refl _) hle⟩⟩
theorem clip_own {d : Kd Int} {e base c : Nat} {W : World} {ok : Nat → Prop} {X : Option Addr} {xs : List Int} (h : Kd.R d e W base ok (.slice X xs.length c) xs) :
    ∃ c2, za ((∀ w : World, Calls Try.prog 37 #[.slice X xs.length c] w fun e w' => e = .returned (.slice X xs.length c2) ∧ zbj w w') ∧ Kd.Qc d e W base ok (.slice X xs.length c2) xs) := by
  cases X with
  | none =>
    obtain ⟨hx, hn, hc⟩ := R_nil_is h
    subst hx
    subst hc
    exact ⟨0, ⟨fun w => zee w, Kd.zgc h⟩⟩
  | some ad =>
    have hle := (Kd.zcj h).2.1
    exact ⟨xs.length, ⟨fun w => zex ad _ c hle w, Kd.zik h (Nat.le_refl _) hle⟩⟩
theorem Q_celln {e base n cap g : Nat} {W : World} {ok : Nat → Prop} {xs : List Int} (h : Kd.Qc (Kd.int .i64) e W base ok (.slice (some ⟨g, 0, none⟩) n cap) xs) (i : Int) (h0 : 0 ≤ i) (h1 : i < (n : Int)) : W.cell? ⟨g, i.toNat, none⟩ = some (.int .i64 (rdOf 0 xs i)) ∧ W.frozen? ⟨g, i.toNat, none⟩ = false := by
  obtain ⟨v', hc, h⟩ := h
  rcases hc with rfl | ⟨ad, n1, c1, c', he, rfl, _, _⟩
  · exact Kd.zeb 0 h i h0 h1
  · injection he with e1 e2 e3
    injection e1 with e1
    subst e1
    subst e2
    exact Kd.zeb 0 h i h0 h1
set_option maxHeartbeats 2000000 in
theorem zhz (p : Int → Bool) (g : Nat) (lb : Array Value) (eg : ∀ args w, (callFunc g args).run Try.prog w = .ok (.enter g args) w) (A : Option Addr) (c : Nat) (l : List Int) (w : World)
    (hp : ∀ (W : World) (x : Int), Below w.heap.size w W → Calls Try.prog g (#[.int .i64 x] ++ lb) W fun e w' => e = .returned (.bool (p x)) ∧ Below W.heap.size W w')
    (hr : Kd.C (Kd.int .i64) w A l.length l) :
    Calls Try.prog 62 #[.slice A l.length c, .func (.func g) #[] lb] w fun e w' => e = .returned (.int .i64 (idxOf p l)) ∧ Below w.heap.size w w' := by
  have hbig := za.mk (Kd.C_max hr)
  have HR := za.mk hr
  have HP := za.mk hp
  clear hr hp
  go_enter Try.func62, Try.ntmps62
  go_wp2
  go_loopg [5, 8] l.length (fun gg _ s8 wr => ∃ kk : Nat, kk ≤ l.length ∧ l.length - kk ≤ gg ∧ s8 = .int .i64 kk ∧ za (Below w.heap.size w wr) ∧ za (∀ j (h : j < kk) (h2 : j < l.length), p l[j] = false))
  case atStart => exact ⟨0, Nat.zero_le _, by omega, rfl, ⟨Below.refl _ w⟩, ⟨fun j hj => absurd hj (Nat.not_lt_zero _)⟩⟩
  case round =>
    obtain ⟨kk, hkk, hg, rfl, BW, N⟩ := hrel
    by_cases hlt : kk < l.length
    · have hltz : (kk : Int) < (l.length : Int) := by omega
      have hb1 := hbig.out
      obtain ⟨ad, ea, hx⟩ := Kd.zbq HR.out (kk : Int) (by omega) hltz
      cases ea
      have hx' := (BW.out.cell (World.block_lt_of_cell? w _ hx)).trans hx
      rw [rd, List.getD_eq_getElem?_getD, Int.toNat_natCast, List.getElem?_eq_getElem hlt] at hx'
      simp only [Option.getD_some] at hx'
      have hcall := HP.out wr l[kk] BW.out
      generalize hy : l[kk] = y at hx' hcall
      have Y := za.mk hy
      clear hy hx
      cases hq : p y with
      | true =>
        rw [hq] at hcall
        go_wp2_with (go_at_fn g; refine hcall.mono ?_; rintro e w' ⟨rfl, hb'⟩)
        go_ret
        refine ⟨?_, Below.trans BW.out (hb'.mono BW.out.size)⟩
        rw [idxOf_hit p l kk hlt (by rw [Y.out]; exact hq) (fun j hj => N.out j hj (by omega))]
        rfl
      | false =>
        rw [hq] at hcall
        go_wp2_with (go_at_fn g; refine hcall.mono ?_; rintro e w' ⟨rfl, hb'⟩)
        go_roundg (l.length - (kk + 1))
        case measure => omega
        case rel =>
          refine ⟨kk + 1, by omega, by omega, by go_num, ⟨Below.trans BW.out (hb'.mono BW.out.size)⟩, ⟨fun j hj hj2 => ?_⟩⟩
          by_cases e : j = kk
          · subst e
            rw [Y.out]; exact hq
          · exact N.out j (by omega) hj2
    · have hltz : ¬ (kk : Int) < (l.length : Int) := by omega
      go_wp2
      go_ret
      refine ⟨?_, BW.out⟩
      rw [idxOf_miss p l (fun j hj => N.out j (by omega) hj)]
      rfl
set_option maxHeartbeats 2000000 in
theorem zh0 (p : Int → Bool) (g : Nat) (lb : Array Value) (eg : ∀ args w, (callFunc g args).run Try.prog w = .ok (.enter g args) w) (A : Option Addr) (c : Nat) (l : List Int) (w : World)
    (hp : ∀ (W : World) (x : Int), Below w.heap.size w W → Calls Try.prog g (#[.int .i64 x] ++ lb) W fun e w' => e = .returned (.bool (p x)) ∧ Below W.heap.size W w')
    (hr : Kd.C (Kd.int .i64) w A l.length l) :
    Calls Try.prog 53 #[.slice A l.length c, .func (.func g) #[] lb] w fun e w' => e = .returned (.bool (l.any p)) ∧ Below w.heap.size w w' := by
  have Y := za.mk (zhy p l)
  have h := za.mk (fun W (hW : W = w) => zhz p g lb eg A c l W (by subst hW; exact hp) (by subst hW; exact hr))
  clear hp hr eg
  go_enter Try.func53, Try.ntmps53
  go_wp2_with (go_at_call 62; refine (h.out _ rfl).mono ?_; rintro e w' ⟨rfl, hb'⟩)
  go_ret
  exact ⟨by rw [← Y.out]; rfl, hb'⟩
def zb5.f (a0 : Int) (a1 : Int) (a2 : Int) : Option (Bool) := if a0 ≥ a1 then (some (decide (a0 ≤ a2))) else (some false)
set_option maxHeartbeats 8000000 in
theorem zb5.calls (a0 : Int) (a1 : Int) (a2 : Int) (r : Bool) (w : World) (h : zb5.f a0 a1 a2 = some r) :
  Calls Try.prog 52 #[.int .i64 a0, .int .i64 a1, .int .i64 a2] w fun e w' => e = .returned (.bool r) ∧ zbj w w' := by
 have H : (if a0 ≥ a1 then (some (decide (a0 ≤ a2))) else (some false)) = some r := h
 clear h
 by_cases c4 : a0 ≥ a1
 ·rw [if_pos c4] at H
  have c4b0 : decide (a1 ≤ a0) = true := decide_eq_true c4;clear c4;obtain rfl := Option.some.inj H;go_enter Try.func52, Try.ntmps52;go_wp2;go_ret;exact ⟨by first | rfl | (simp; done) | (simp [*]; done), by repeat (first | exact zbj.refl _ | apply zbj.step)⟩
 ·rw [if_neg c4] at H
  have c4b0 : decide (a1 ≤ a0) = false := decide_eq_false c4;clear c4;obtain rfl := Option.some.inj H;go_enter Try.func52, Try.ntmps52;go_wp2;go_ret;exact ⟨by first | rfl | (simp; done) | (simp [*]; done), by repeat (first | exact zbj.refl _ | apply zbj.step)⟩
def zcv.f (a0 : Int) : Option (Bool) := (zb5.f a0 1 8).bind fun t194 => (some (!t194))
set_option maxHeartbeats 8000000 in
theorem zcv.calls (a0 : Int) (r : Bool) (w : World) (h : zcv.f a0 = some r) :
  Calls Try.prog 54 #[.int .i64 a0] w fun e w' => e = .returned (.bool r) ∧ zbj w w' := by
 have H : ((zb5.f a0 1 8).bind fun t194 => (some (!t194))) = some r := h
 clear h
 replace H := Option.bind_eq_some_iff.mp H
 obtain ⟨t194, A20, H⟩ := H
 replace H : (some (!t194)) = some r := H
 have A2 := za.mk A20
 clear A20
 obtain rfl := Option.some.inj H
 go_enter Try.func54, Try.ntmps54
 go_wp2_with (first | ((with_reducible refine zbd (f := 52) rfl ?_); refine zb7 (some 4) rfl rfl Try.func52 (by kernel_rfl) rfl #[.int .i64 a0, .int .i64 1, .int .i64 8] rfl Zmt ?_; (with_reducible refine (zb5.calls a0 1 8 t194 _ A2.out).mono ?_); rintro e w' ⟨rfl, ⟨nd, rfl⟩⟩; refine ⟨_, rfl, ?_⟩))
 go_ret
 exact ⟨by first | rfl | (simp; done) | (simp [*]; done), by repeat (first | exact zbj.refl _ | apply zbj.step)⟩
def zcl.bad (n : Int) : Bool := !(decide (1 ≤ n ∧ n ≤ 8))
theorem zcl.is (x : Int) : zcv.f x = some (zcl.bad x) := by
  unfold zcv.f zb5.f zcl.bad
  by_cases h1 : x ≥ 1 <;> by_cases h2 : x ≤ 8 <;> simp [h1, h2]
  all_goals first | omega | (intro h; omega) | skip
def zcl.f (l0 : List Int) : Option Bool := some (l0.any zcl.bad)
theorem zcl.calls (A0 : Option Addr) (c0 : Nat) (l0 : List Int) (r : Bool) (w : World) (hr0 : Kd.C (Kd.int .i64) w A0 l0.length l0) (hc0 : l0.length ≤ c0) (h : zcl.f l0 = some r) :
    Calls Try.prog 53 #[.slice A0 l0.length c0, .func (.func 54) #[] #[]] w fun e w' => e = .returned (.bool r) ∧ Below w.heap.size w w' := by
  obtain rfl := Option.some.inj h
  exact zh0 zcl.bad 54 #[] (enters_of Try.func54 (by kernel_rfl) rfl) A0 c0 l0 w (fun W' x _ => (zcv.calls x _ W' (zcl.is x)).mono fun e w' hh => ⟨hh.1, hh.2.below⟩) hr0
theorem Zq12 {X0 P : Prop} (x0 : X0) (h : X0 → P := by intro x0; repeat (first | exact x0 | (with_reducible refine Kd.zdj ?_ _) | (with_reducible refine Kd.zdc ?_ _) | (with_reducible refine Kd.zdk ?_))) : P := h x0
theorem Zs1 {α : Type} {l : List α} {i : Nat} {a : α} : l.toArray.setIfInBounds i a = (l.set i a).toArray := List.setIfInBounds_toArray ..
theorem Zs2 {α : Type} {a b : α} {l : List α} : (a :: l).set 0 b = b :: l := rfl
theorem Zs3 {α : Type} {a b : α} {l : List α} {i : Nat} : (a :: l).set (i + 1) b = a :: l.set i b := rfl
def zm.l0 : Nat → List Int → List (List Int) → List (List Int) → Int → Int → Option (Bool)
 | 0, _, _, _, _, _ => none
 | k + 1, x0, x1, x7, x8, x9 => if x9 < x8 then (if 0 ≤ x9 then (if x9 < (x7.length : Int) then (if ((zh x7 x9).length : Int) = 2 then (if 0 < ((zh x7 x9).length : Int) then ((zb5.f (rd (zh x7 x9) 0) 0 (wrap64 ((x0.length : Int) - 1))).bind fun t198 => (if t198 = true then (if 1 < ((zh x7 x9).length : Int) then ((zb5.f (rd (zh x7 x9) 1) (rd (zh x7 x9) 0) (wrap64 ((x0.length : Int) - 1))).bind fun t201 => (if t201 = true then (if (rd (zh x7 x9) 0) = (rd (zh x7 x9) 1) then (some false) else (zm.l0 k x0 x1 x7 x8 (wrap64 (x9 + 1)))) else (some false))) else (none)) else (some false))) else (none)) else (some false)) else (none)) else (none)) else (if (x0.length : Int) ≤ 8 then (if (x1.length : Int) ≤ 64 then ((zcl.f x0).bind fun t195 => (some (!t195))) else (some false)) else (some false))
def zm.f (k : Nat) (l0 : List Int) (l1 : List (List Int)) : Option (Bool) := zm.l0 k l0 l1 l1 (l1.length : Int) 0
def zm.T4 : Bool × List (List Nat × List Nat) := (true, [([], []), ([0], [0]), ([1], [1]), ([2], [2]), ([3], [3]), ([4, 3], [3, 4]), ([5, 3], [3, 5]), ([3], [3]), ([7, 3], [3, 7]), ([8, 3], [3, 8]), ([6, 9, 3, 3], [3, 6, 9]), ([10, 3], [3, 10]), ([3, 11], [3, 11]), ([12, 10], [12]), ([13], [13]), ([14, 13], [13, 14]), ([15, 13], [13, 15]), ([13], [13]), ([17, 13], [13, 17]), ([18, 13], [13, 18]), ([13], [13]), ([20, 13], [13, 20]), ([21, 13], [13, 21]), ([16, 19, 22, 13, 13], [13, 16, 19, 22]), ([23, 13], [13, 23]), ([13, 24], [13, 24]), ([25, 23], [25]), ([26], [26]), ([27, 26], [26, 27]), ([28, 26], [26, 28]), ([26], [26]), ([30, 26], [26, 30]), ([31, 26], [26, 31]), ([29, 32, 26], [26, 29, 32]), ([26, 33], [26, 33])])
def zm.B4 : List Nat := [0, 1, 3, 7, 15, 31, 63, 15, 143, 399, 1023, 2047, 4095, 8191, 16383, 32767, 65535, 16383, 147455, 409599, 16383, 1064959, 3162111, 8388607, 16777215, 33554431, 67108863, 134217727, 268435455, 536870911, 134217727, 1207959551, 3355443199, 8589934591, 17179869183]
theorem zm.tab4 : rtab .any (opsOf Try.f30 4) = zm.T4 := by kernel_rfl
theorem zm.bits4 : zdw zm.T4.2 zm.B4 = true := by kernel_rfl
set_option maxHeartbeats 8000000 in
theorem zm.calls (k : Nat) (A0 : Option Addr) (c0 : Nat) (l0 : List Int) (A1 : Option Addr) (c1 : Nat) (l1 : List (List Int)) (r : Bool) (w : World) (hr0 : Kd.C (Kd.int .i64) w A0 l0.length l0) (hc0 : l0.length ≤ c0) (hr1 : Kd.C (Kd.slice 3 (Kd.int .i64)) w A1 l1.length l1) (hc1 : l1.length ≤ c1) (h : zm.f k l0 l1 = some r) :
  Calls Try.prog 30 #[.slice A0 l0.length c0, .slice A1 l1.length c1] w fun e w' => e = .returned (.bool r) ∧ Below w.heap.size w w' := by
 have HR0 := za.mk hr0
 have HC0 := za.mk hc0
 clear hr0 hc0
 have HR1 := za.mk hr1
 have HC1 := za.mk hc1
 clear hr1 hc1
 have HB := za.mk (Below.refl w.heap.size w)
 have H : (zm.l0 k l0 l1 l1 (l1.length : Int) 0) = some r := h
 clear h
 have H' := za.mk H
 clear H
 go_enter Try.func30, Try.ntmps30
 go_wp2
 go_loopg [9] k (fun kq v9 w' => ∃ (x9_1 : Int), v9 = .int .i64 x9_1 ∧ za (zm.l0 kq l0 l1 l1 (l1.length : Int) x9_1 = some r) ∧ za (kq ≤ k) ∧ za (Below w.heap.size w w'))
 case atStart => exact ⟨(0), Zrs, H', ⟨Nat.le_refl _⟩, ⟨Zq1 HB⟩⟩
 case round =>
  clear H'
  (try clear c1);(try clear p2)
  obtain ⟨x9_1, rfl, HA, HK1, HB⟩ := hrel
  cases gk with
  | zero => exact absurd HA.out (by simp [zm.l0])
  | succ k1 =>
   have H := HA.out;clear HA;simp only [zm.l0] at H;by_cases c3 : x9_1 < (l1.length : Int)
   ·rw [if_pos c3] at H
    have c3b0 : decide (x9_1 < (l1.length : Int)) = true := decide_eq_true c3;clear c3;by_cases c4 : 0 ≤ x9_1
    ·rw [if_pos c4] at H
     have c4b0 : decide (0 ≤ x9_1) = true := decide_eq_true c4;clear c4;by_cases c5 : x9_1 < (l1.length : Int)
     ·rw [if_pos c5] at H
      have c5b0 : decide (x9_1 < (l1.length : Int)) = true := decide_eq_true c5;clear c5;by_cases c6 : ((zh l1 x9_1).length : Int) = 2
      ·rw [if_pos c6] at H
       have c6b0 : (((zh l1 x9_1).length : Int) == 2) = true := beq_iff_eq.mpr c6;have c6b1 : (((zh l1 x9_1).length : Int) != 2) = false := bne_eq_false_iff_eq.mpr c6;clear c6;by_cases c7 : 0 < ((zh l1 x9_1).length : Int)
       ·rw [if_pos c7] at H
        have c7b0 : decide (0 < ((zh l1 x9_1).length : Int)) = true := decide_eq_true c7;have c7b1 : decide (0 < (zh l1 x9_1).length) = true := decide_eq_true (by omega);clear c7;replace H := Option.bind_eq_some_iff.mp H;obtain ⟨t198, A80, H⟩ := H;replace H : (if t198 = true then (if 1 < ((zh l1 x9_1).length : Int) then ((zb5.f (rd (zh l1 x9_1) 1) (rd (zh l1 x9_1) 0) (wrap64 ((l0.length : Int) - 1))).bind fun t201 => (if t201 = true then (if (rd (zh l1 x9_1) 0) = (rd (zh l1 x9_1) 1) then (some false) else (zm.l0 k1 l0 l1 l1 (l1.length : Int) (wrap64 (x9_1 + 1)))) else (some false))) else (none)) else (some false)) = some r := H;have A8 := za.mk A80;clear A80;by_cases c9 : t198 = true
        ·subst c9
         have H1 : (if 1 < ((zh l1 x9_1).length : Int) then ((zb5.f (rd (zh l1 x9_1) 1) (rd (zh l1 x9_1) 0) (wrap64 ((l0.length : Int) - 1))).bind fun t201 => (if t201 = true then (if (rd (zh l1 x9_1) 0) = (rd (zh l1 x9_1) 1) then (some false) else (zm.l0 k1 l0 l1 l1 (l1.length : Int) (wrap64 (x9_1 + 1)))) else (some false))) else (none)) = some r := by rw [if_pos rfl] at H; exact H
         clear H;have H := H1;clear H1;by_cases c10 : 1 < ((zh l1 x9_1).length : Int)
         ·rw [if_pos c10] at H
          have c10b0 : decide (1 < ((zh l1 x9_1).length : Int)) = true := decide_eq_true c10;have c10b1 : decide (1 < (zh l1 x9_1).length) = true := decide_eq_true (by omega);clear c10;replace H := Option.bind_eq_some_iff.mp H;obtain ⟨t201, A110, H⟩ := H;replace H : (if t201 = true then (if (rd (zh l1 x9_1) 0) = (rd (zh l1 x9_1) 1) then (some false) else (zm.l0 k1 l0 l1 l1 (l1.length : Int) (wrap64 (x9_1 + 1)))) else (some false)) = some r := H;have A11 := za.mk A110;clear A110;by_cases c12 : t201 = true
          ·subst c12
           have H1 : (if (rd (zh l1 x9_1) 0) = (rd (zh l1 x9_1) 1) then (some false) else (zm.l0 k1 l0 l1 l1 (l1.length : Int) (wrap64 (x9_1 + 1)))) = some r := by rw [if_pos rfl] at H; exact H
           clear H;have H := H1;clear H1;by_cases c13 : (rd (zh l1 x9_1) 0) = (rd (zh l1 x9_1) 1)
           ·rw [if_pos c13] at H
            have c13b0 : ((rd (zh l1 x9_1) 0) == (rd (zh l1 x9_1) 1)) = true := beq_iff_eq.mpr c13;have c13b1 : ((rd (zh l1 x9_1) 0) != (rd (zh l1 x9_1) 1)) = false := bne_eq_false_iff_eq.mpr c13;clear c13;obtain rfl := Option.some.inj H;have p196 : 0 ≤ (x9_1 : Int) := of_decide_eq_true Zas;have q196 : x9_1 < (l1.length : Int) := of_decide_eq_true Zas;obtain ⟨ad196, A196_0, c196_0, e196, hx196_0, hl196_0, hi196_0⟩ := zc6 HR1.out x9_1 p196 q196
            cases e196
            replace hx196_0 := (HB.out.cell (World.block_lt_of_cell? w _ hx196_0)).trans hx196_0;have HR196_0 := za.mk hi196_0;have HC196_0 := za.mk hl196_0;clear hi196_0 hl196_0;replace p196 := eq_true p196;replace q196 := eq_true q196
            try go_wp2
            have n0_ := za.mk (zbr HB.out);clear HB;have HB := n0_;clear n0_;have p197 : 0 ≤ (0 : Int) := (by omega);have q197 : 0 < ((zh l1 x9_1).length : Int) := of_decide_eq_true Zas;obtain ⟨ad197, e197, hx197_0⟩ := Kd.zbq HR196_0.out 0 p197 q197;have hw197_0 := hx197_0;(try rw [show ((0 : Int)).toNat = 0 from rfl] at hw197_0);(try rw [show 0 * 1 = 0 from rfl] at hw197_0);(try rw [Addr.add_zero'] at hw197_0)
            cases e197
            have qi197 : (0 < (zh l1 x9_1).length) = True := eq_true (by omega);(try rw [show ((0 : Int)).toNat = 0 from rfl] at hx197_0);(try rw [Addr.add_zero'] at hx197_0);replace hx197_0 := (HB.out.cell (World.block_lt_of_cell? w _ hx197_0)).trans hx197_0;replace p197 := eq_true p197;replace q197 := eq_true q197;have p199 : 0 ≤ (1 : Int) := (by omega);have q199 : 1 < ((zh l1 x9_1).length : Int) := of_decide_eq_true Zas;obtain ⟨ad199, e199, hx199_0⟩ := Kd.zbq HR196_0.out 1 p199 q199;have hw199_0 := hx199_0;(try rw [show ((1 : Int)).toNat = 1 from rfl] at hw199_0);(try rw [show 1 * 1 = 1 from rfl] at hw199_0);(try simp only [Nat.reduceMul, Nat.reduceEqDiff, Go.Addr.add, ↓reduceIte] at hw199_0);obtain rfl : ad197 = ad199 := (by injection e199);(try simp only [show (1 : Int).toNat = 1 from rfl, Nat.reduceMul, Nat.reduceEqDiff, Go.Addr.add, ↓reduceIte] at hx199_0);have qi199 : (1 < (zh l1 x9_1).length) = True := eq_true (by omega);(try rw [show ((1 : Int)).toNat = 1 from rfl] at hx199_0);replace hx199_0 := (HB.out.cell (World.block_lt_of_cell? w _ hx199_0)).trans hx199_0;replace p199 := eq_true p199;replace q199 := eq_true q199;have p200 : 0 ≤ (0 : Int) := (by omega);have q200 : 0 < ((zh l1 x9_1).length : Int) := of_decide_eq_true Zas;obtain ⟨ad200, e200, hx200_0⟩ := Kd.zbq HR196_0.out 0 p200 q200;have hw200_0 := hx200_0;(try rw [show ((0 : Int)).toNat = 0 from rfl] at hw200_0);(try rw [show 0 * 1 = 0 from rfl] at hw200_0);(try rw [Addr.add_zero'] at hw200_0);obtain rfl : ad197 = ad200 := (by injection e200);have qi200 : (0 < (zh l1 x9_1).length) = True := eq_true (by omega);(try rw [show ((0 : Int)).toNat = 0 from rfl] at hx200_0);(try rw [Addr.add_zero'] at hx200_0);replace hx200_0 := (HB.out.cell (World.block_lt_of_cell? w _ hx200_0)).trans hx200_0;replace p200 := eq_true p200;replace q200 := eq_true q200;have p202 : 0 ≤ (0 : Int) := (by omega);have q202 : 0 < ((zh l1 x9_1).length : Int) := of_decide_eq_true Zas;obtain ⟨ad202, e202, hx202_0⟩ := Kd.zbq HR196_0.out 0 p202 q202;have hw202_0 := hx202_0;(try rw [show ((0 : Int)).toNat = 0 from rfl] at hw202_0);(try rw [show 0 * 1 = 0 from rfl] at hw202_0);(try rw [Addr.add_zero'] at hw202_0);obtain rfl : ad197 = ad202 := (by injection e202);have qi202 : (0 < (zh l1 x9_1).length) = True := eq_true (by omega);(try rw [show ((0 : Int)).toNat = 0 from rfl] at hx202_0);(try rw [Addr.add_zero'] at hx202_0);replace hx202_0 := (HB.out.cell (World.block_lt_of_cell? w _ hx202_0)).trans hx202_0;replace p202 := eq_true p202;replace q202 := eq_true q202;have p203 : 0 ≤ (1 : Int) := (by omega);have q203 : 1 < ((zh l1 x9_1).length : Int) := of_decide_eq_true Zas;obtain ⟨ad203, e203, hx203_0⟩ := Kd.zbq HR196_0.out 1 p203 q203;have hw203_0 := hx203_0;(try rw [show ((1 : Int)).toNat = 1 from rfl] at hw203_0);(try rw [show 1 * 1 = 1 from rfl] at hw203_0);(try simp only [Nat.reduceMul, Nat.reduceEqDiff, Go.Addr.add, ↓reduceIte] at hw203_0);obtain rfl : ad197 = ad203 := (by injection e203);(try simp only [show (1 : Int).toNat = 1 from rfl, Nat.reduceMul, Nat.reduceEqDiff, Go.Addr.add, ↓reduceIte] at hx203_0);have qi203 : (1 < (zh l1 x9_1).length) = True := eq_true (by omega);(try rw [show ((1 : Int)).toNat = 1 from rfl] at hx203_0);replace hx203_0 := (HB.out.cell (World.block_lt_of_cell? w _ hx203_0)).trans hx203_0;replace p203 := eq_true p203;replace q203 := eq_true q203;refine zdl (n := 35) (S := fun w' => w'.cell? ad197 = some (.int .i64 (rd (zh l1 x9_1) 0)) ∧ w'.cell? ⟨ad197.block, ad197.off + 1, none⟩ = some (.int .i64 (rd (zh l1 x9_1) 1)) ∧ w'.cell? ad197 = some (.int .i64 (rd (zh l1 x9_1) 0)) ∧ w'.cell? ad197 = some (.int .i64 (rd (zh l1 x9_1) 0)) ∧ w'.cell? ⟨ad197.block, ad197.off + 1, none⟩ = some (.int .i64 (rd (zh l1 x9_1) 1))) (ds := []) #[false, false, false, false, false, false, false, false, false, false, false, false, false, false, false, false, false, false, false, false, false, false, false, false, false, false, false, false, false, false, false, false, false, false, false] (by kernel_rfl) rfl rfl ⟨((HB.out.cell (World.block_lt_of_cell? w _ hw197_0)).trans hw197_0), ((HB.out.cell (World.block_lt_of_cell? w _ hw199_0)).trans hw199_0), ((HB.out.cell (World.block_lt_of_cell? w _ hw200_0)).trans hw200_0), ((HB.out.cell (World.block_lt_of_cell? w _ hw202_0)).trans hw202_0), ((HB.out.cell (World.block_lt_of_cell? w _ hw203_0)).trans hw203_0)⟩ (fun hHeld => ?_); refine zb9 zm.tab4 zm.bits4 (fun HT_ HW_ => ?_);generalize wr.drew = w14 at HB hx197_0 hx199_0 hx200_0 hx202_0 hx203_0 hHeld ⊢;refine zi (i := 0) (N := some 13) (v := ?_) (a' := ?_) #[true, false, false, false, false, false, false, false, false, false, false, false, false, false, false, false, false, false, false, false, false, false, false, false, false, false, false, false, false, false, false, false, false, false, false] rfl rfl (zb HT_.out (by kernel_rfl)) (fun _ _ _ h => h) (Or.inl ⟨by rfl, ?_⟩) ?_ ?_;rotate_left
            ·intro w'
             go_simp;with_reducible rfl
            rotate_left
            ·simp only [Act.put, Zs1, Zs2, Zs3, ze, zf]
             rfl
            refine zi (i := 1) (N := some 14) (v := ?_) (a' := ?_) #[true, true, false, false, false, false, false, false, false, false, false, false, false, false, false, false, false, false, false, false, false, false, false, false, false, false, false, false, false, false, false, false, false, false, false] rfl rfl (zb HT_.out (by kernel_rfl)) (fun _ _ _ h => h) (Or.inl ⟨by rfl, ?_⟩) ?_ ?_;rotate_left
            ·intro w'
             go_simp;with_reducible rfl
            rotate_left
            ·simp only [Act.put, Zs1, Zs2, Zs3, ze, zf]
             rfl
            refine zi (i := 2) (N := some 15) (v := ?_) (a' := ?_) #[true, true, true, false, false, false, false, false, false, false, false, false, false, false, false, false, false, false, false, false, false, false, false, false, false, false, false, false, false, false, false, false, false, false, false] rfl rfl (zb HT_.out (by kernel_rfl)) (fun _ _ _ h => h) (Or.inl ⟨by rfl, ?_⟩) ?_ ?_;rotate_left
            ·intro w'
             go_simp;with_reducible rfl
            rotate_left
            ·simp only [Act.put, Zs1, Zs2, Zs3, ze, zf]
             rfl
            refine zi (i := 3) (N := some 16) (v := ?_) (a' := ?_) #[true, true, true, true, false, false, false, false, false, false, false, false, false, false, false, false, false, false, false, false, false, false, false, false, false, false, false, false, false, false, false, false, false, false, false] rfl rfl (zb HT_.out (by kernel_rfl)) (fun _ _ _ h => h) (Or.inl ⟨by rfl, ?_⟩) ?_ ?_;rotate_left
            ·intro w'
             go_simp;with_reducible rfl
            rotate_left
            ·simp only [Act.put, Zs1, Zs2, Zs3, ze, zf]
             rfl
            refine zi (i := 4) (N := some 17) (v := ?_) (a' := ?_) #[true, true, true, true, true, false, false, false, false, false, false, false, false, false, false, false, false, false, false, false, false, false, false, false, false, false, false, false, false, false, false, false, false, false, false] rfl rfl (zb HT_.out (by kernel_rfl)) (fun _ _ _ h => h) (Or.inl ⟨by rfl, ?_⟩) ?_ ?_;rotate_left
            ·intro w'
             go_simp;with_reducible rfl
            rotate_left
            ·simp only [Act.put, Zs1, Zs2, Zs3, ze, zf]
             rfl
            refine zi (i := 5) (N := some 18) (v := ?_) (a' := ?_) #[true, true, true, true, true, true, false, false, false, false, false, false, false, false, false, false, false, false, false, false, false, false, false, false, false, false, false, false, false, false, false, false, false, false, false] rfl rfl (zb HT_.out (by kernel_rfl)) (fun _ _ _ h => h) (Or.inl ⟨by rfl, ?_⟩) ?_ ?_;rotate_left
            ·intro w'
             go_simp;with_reducible rfl
            rotate_left
            ·simp only [Act.put, Zs1, Zs2, Zs3, ze, zf]
             rfl
            refine zi (i := 7) (N := some 20) (v := ?_) (a' := ?_) #[true, true, true, true, true, true, false, true, false, false, false, false, false, false, false, false, false, false, false, false, false, false, false, false, false, false, false, false, false, false, false, false, false, false, false] rfl rfl (zb HT_.out (by kernel_rfl)) (fun _ _ _ h => h) (Or.inl ⟨by rfl, ?_⟩) ?_ ?_;rotate_left
            ·intro w'
             go_simp;with_reducible rfl
            rotate_left
            ·simp only [Act.put, Zs1, Zs2, Zs3, ze, zf]
             rfl
            refine zi (i := 8) (N := some 21) (v := ?_) (a' := ?_) #[true, true, true, true, true, true, false, true, true, false, false, false, false, false, false, false, false, false, false, false, false, false, false, false, false, false, false, false, false, false, false, false, false, false, false] rfl rfl (zb HT_.out (by kernel_rfl)) (fun _ _ _ h => h) (Or.inl ⟨by rfl, ?_⟩) ?_ ?_;rotate_left
            ·intro w'
             go_simp;with_reducible rfl
            rotate_left
            ·simp only [Act.put, Zs1, Zs2, Zs3, ze, zf]
             rfl
            refine zi (i := 9) (N := some 22) (v := ?_) (a' := ?_) #[true, true, true, true, true, true, false, true, true, true, false, false, false, false, false, false, false, false, false, false, false, false, false, false, false, false, false, false, false, false, false, false, false, false, false] rfl rfl (zb HT_.out (by kernel_rfl)) (fun _ _ _ h => h) (Or.inl ⟨by rfl, ?_⟩) ?_ ?_;rotate_left
            ·intro w'
             go_simp;with_reducible rfl
            rotate_left
            ·simp only [Act.put, Zs1, Zs2, Zs3, ze, zf]
             rfl
            refine zb3 (i := 6) (N := some 19) (v := ?_) (a' := ?_) #[true, true, true, true, true, true, true, true, true, true, false, false, false, false, false, false, false, false, false, false, false, false, false, false, false, false, false, false, false, false, false, false, false, false, false] rfl rfl (zbf HT_.out HW_.out (by kernel_rfl)) (fun _ _ _ h => h) (Or.inl ⟨by rfl, ?_⟩) hHeld ?_ ?_;rotate_left
            ·rintro w' ⟨s0, s1, s2, s3, s4⟩
             go_simp;with_reducible rfl
            rotate_left
            ·simp only [Act.put, Zs1, Zs2, Zs3, ze, zf]
             rfl
            refine one_ (i := 10) (N := some 23) #[true, true, true, true, true, true, true, true, true, true, true, false, false, false, false, false, false, false, false, false, false, false, false, false, false, false, false, false, false, false, false, false, false, false, false] rfl rfl (zdb HT_.out (by kernel_rfl)) (by decide) (fun K hK => ?_);refine ze4 Try.func52 (by kernel_rfl) rfl #[.int .i64 (rd (zh l1 x9_1) 0), .int .i64 0, .int .i64 (wrap64 ((l0.length : Int) - 1))] (by rfl) rfl rfl Zmt ?_;with_reducible refine (zb5.calls (rd (zh l1 x9_1) 0) 0 (wrap64 ((l0.length : Int) - 1)) true _ A8.out).mono ?_
            rintro e w' ⟨rfl, ⟨nd, rfl⟩⟩;refine ⟨_, rfl, ?_⟩;refine hK.out _ _ ⟨((HB.out.cell (World.block_lt_of_cell? w _ hw197_0)).trans hw197_0), ((HB.out.cell (World.block_lt_of_cell? w _ hw199_0)).trans hw199_0), ((HB.out.cell (World.block_lt_of_cell? w _ hw200_0)).trans hw200_0), ((HB.out.cell (World.block_lt_of_cell? w _ hw202_0)).trans hw202_0), ((HB.out.cell (World.block_lt_of_cell? w _ hw203_0)).trans hw203_0)⟩ (fun hHeld => ?_);clear hK K;refine zeu (a' := ?_) ?_ ?_;rotate_left
            ·show Act.put _ (some 23) _ = _
             simp only [Act.put, Zs1, Zs2, Zs3, ze, zf];rfl
            refine zi (i := 11) (N := some 24) (v := ?_) (a' := ?_) #[true, true, true, true, true, true, true, true, true, true, true, true, false, false, false, false, false, false, false, false, false, false, false, false, false, false, false, false, false, false, false, false, false, false, false] rfl rfl (zb HT_.out (by kernel_rfl)) (fun _ _ _ h => h) (Or.inl ⟨by rfl, ?_⟩) ?_ ?_;rotate_left
            ·intro w'
             go_simp;with_reducible rfl
            rotate_left
            ·simp only [Act.put, Zs1, Zs2, Zs3, ze, zf]
             rfl
            refine zi (i := 12) (N := some 25) (v := ?_) (a' := ?_) #[true, true, true, true, true, true, true, true, true, true, true, true, true, false, false, false, false, false, false, false, false, false, false, false, false, false, false, false, false, false, false, false, false, false, false] rfl rfl (zb HT_.out (by kernel_rfl)) (fun _ _ _ h => h) (Or.inl ⟨by rfl, ?_⟩) ?_ ?_;rotate_left
            ·intro w'
             go_simp;with_reducible rfl
            rotate_left
            ·simp only [Act.put, Zs1, Zs2, Zs3, ze, zf]
             rfl
            refine zi (i := 13) (N := some 26) (v := ?_) (a' := ?_) #[true, true, true, true, true, true, true, true, true, true, true, true, true, true, false, false, false, false, false, false, false, false, false, false, false, false, false, false, false, false, false, false, false, false, false] rfl rfl (zb HT_.out (by kernel_rfl)) (fun _ _ _ h => h) (Or.inl ⟨by rfl, ?_⟩) ?_ ?_;rotate_left
            ·intro w'
             go_simp;with_reducible rfl
            rotate_left
            ·simp only [Act.put, Zs1, Zs2, Zs3, ze, zf]
             rfl
            refine zi (i := 14) (N := some 27) (v := ?_) (a' := ?_) #[true, true, true, true, true, true, true, true, true, true, true, true, true, true, true, false, false, false, false, false, false, false, false, false, false, false, false, false, false, false, false, false, false, false, false] rfl rfl (zb HT_.out (by kernel_rfl)) (fun _ _ _ h => h) (Or.inl ⟨by rfl, ?_⟩) ?_ ?_;rotate_left
            ·intro w'
             go_simp;with_reducible rfl
            rotate_left
            ·simp only [Act.put, Zs1, Zs2, Zs3, ze, zf]
             rfl
            refine zi (i := 15) (N := some 28) (v := ?_) (a' := ?_) #[true, true, true, true, true, true, true, true, true, true, true, true, true, true, true, true, false, false, false, false, false, false, false, false, false, false, false, false, false, false, false, false, false, false, false] rfl rfl (zb HT_.out (by kernel_rfl)) (fun _ _ _ h => h) (Or.inl ⟨by rfl, ?_⟩) ?_ ?_;rotate_left
            ·intro w'
             go_simp;with_reducible rfl
            rotate_left
            ·simp only [Act.put, Zs1, Zs2, Zs3, ze, zf]
             rfl
            refine zi (i := 17) (N := some 30) (v := ?_) (a' := ?_) #[true, true, true, true, true, true, true, true, true, true, true, true, true, true, true, true, false, true, false, false, false, false, false, false, false, false, false, false, false, false, false, false, false, false, false] rfl rfl (zb HT_.out (by kernel_rfl)) (fun _ _ _ h => h) (Or.inl ⟨by rfl, ?_⟩) ?_ ?_;rotate_left
            ·intro w'
             go_simp;with_reducible rfl
            rotate_left
            ·simp only [Act.put, Zs1, Zs2, Zs3, ze, zf]
             rfl
            refine zi (i := 18) (N := some 31) (v := ?_) (a' := ?_) #[true, true, true, true, true, true, true, true, true, true, true, true, true, true, true, true, false, true, true, false, false, false, false, false, false, false, false, false, false, false, false, false, false, false, false] rfl rfl (zb HT_.out (by kernel_rfl)) (fun _ _ _ h => h) (Or.inl ⟨by rfl, ?_⟩) ?_ ?_;rotate_left
            ·intro w'
             go_simp;with_reducible rfl
            rotate_left
            ·simp only [Act.put, Zs1, Zs2, Zs3, ze, zf]
             rfl
            refine zi (i := 20) (N := some 33) (v := ?_) (a' := ?_) #[true, true, true, true, true, true, true, true, true, true, true, true, true, true, true, true, false, true, true, false, true, false, false, false, false, false, false, false, false, false, false, false, false, false, false] rfl rfl (zb HT_.out (by kernel_rfl)) (fun _ _ _ h => h) (Or.inl ⟨by rfl, ?_⟩) ?_ ?_;rotate_left
            ·intro w'
             go_simp;with_reducible rfl
            rotate_left
            ·simp only [Act.put, Zs1, Zs2, Zs3, ze, zf]
             rfl
            refine zi (i := 21) (N := some 34) (v := ?_) (a' := ?_) #[true, true, true, true, true, true, true, true, true, true, true, true, true, true, true, true, false, true, true, false, true, true, false, false, false, false, false, false, false, false, false, false, false, false, false] rfl rfl (zb HT_.out (by kernel_rfl)) (fun _ _ _ h => h) (Or.inl ⟨by rfl, ?_⟩) ?_ ?_;rotate_left
            ·intro w'
             go_simp;with_reducible rfl
            rotate_left
            ·simp only [Act.put, Zs1, Zs2, Zs3, ze, zf]
             rfl
            refine zi (i := 22) (N := some 35) (v := ?_) (a' := ?_) #[true, true, true, true, true, true, true, true, true, true, true, true, true, true, true, true, false, true, true, false, true, true, true, false, false, false, false, false, false, false, false, false, false, false, false] rfl rfl (zb HT_.out (by kernel_rfl)) (fun _ _ _ h => h) (Or.inl ⟨by rfl, ?_⟩) ?_ ?_;rotate_left
            ·intro w'
             go_simp;with_reducible rfl
            rotate_left
            ·simp only [Act.put, Zs1, Zs2, Zs3, ze, zf]
             rfl
            refine zb3 (i := 16) (N := some 29) (v := ?_) (a' := ?_) #[true, true, true, true, true, true, true, true, true, true, true, true, true, true, true, true, true, true, true, false, true, true, true, false, false, false, false, false, false, false, false, false, false, false, false] rfl rfl (zbf HT_.out HW_.out (by kernel_rfl)) (fun _ _ _ h => h) (Or.inl ⟨by rfl, ?_⟩) hHeld ?_ ?_;rotate_left
            ·rintro w' ⟨s0, s1, s2, s3, s4⟩
             go_simp;with_reducible rfl
            rotate_left
            ·simp only [Act.put, Zs1, Zs2, Zs3, ze, zf]
             rfl
            refine zb3 (i := 19) (N := some 32) (v := ?_) (a' := ?_) #[true, true, true, true, true, true, true, true, true, true, true, true, true, true, true, true, true, true, true, true, true, true, true, false, false, false, false, false, false, false, false, false, false, false, false] rfl rfl (zbf HT_.out HW_.out (by kernel_rfl)) (fun _ _ _ h => h) (Or.inl ⟨by rfl, ?_⟩) hHeld ?_ ?_;rotate_left
            ·rintro w' ⟨s0, s1, s2, s3, s4⟩
             go_simp;with_reducible rfl
            rotate_left
            ·simp only [Act.put, Zs1, Zs2, Zs3, ze, zf]
             rfl
            refine one_ (i := 23) (N := some 36) #[true, true, true, true, true, true, true, true, true, true, true, true, true, true, true, true, true, true, true, true, true, true, true, true, false, false, false, false, false, false, false, false, false, false, false] rfl rfl (zdb HT_.out (by kernel_rfl)) (by decide) (fun K hK => ?_);refine ze4 Try.func52 (by kernel_rfl) rfl #[.int .i64 (rd (zh l1 x9_1) 1), .int .i64 (rd (zh l1 x9_1) 0), .int .i64 (wrap64 ((l0.length : Int) - 1))] (by rfl) rfl rfl Zmt ?_;with_reducible refine (zb5.calls (rd (zh l1 x9_1) 1) (rd (zh l1 x9_1) 0) (wrap64 ((l0.length : Int) - 1)) true _ A11.out).mono ?_
            rintro e w' ⟨rfl, ⟨nd, rfl⟩⟩;refine ⟨_, rfl, ?_⟩;refine hK.out _ _ ⟨((HB.out.cell (World.block_lt_of_cell? w _ hw197_0)).trans hw197_0), ((HB.out.cell (World.block_lt_of_cell? w _ hw199_0)).trans hw199_0), ((HB.out.cell (World.block_lt_of_cell? w _ hw200_0)).trans hw200_0), ((HB.out.cell (World.block_lt_of_cell? w _ hw202_0)).trans hw202_0), ((HB.out.cell (World.block_lt_of_cell? w _ hw203_0)).trans hw203_0)⟩ (fun hHeld => ?_);clear hK K;refine zeu (a' := ?_) ?_ ?_;rotate_left
            ·show Act.put _ (some 36) _ = _
             simp only [Act.put, Zs1, Zs2, Zs3, ze, zf];rfl
            refine zi (i := 24) (N := some 37) (v := ?_) (a' := ?_) #[true, true, true, true, true, true, true, true, true, true, true, true, true, true, true, true, true, true, true, true, true, true, true, true, true, false, false, false, false, false, false, false, false, false, false] rfl rfl (zb HT_.out (by kernel_rfl)) (fun _ _ _ h => h) (Or.inl ⟨by rfl, ?_⟩) ?_ ?_;rotate_left
            ·intro w'
             go_simp;with_reducible rfl
            rotate_left
            ·simp only [Act.put, Zs1, Zs2, Zs3, ze, zf]
             rfl
            refine zi (i := 25) (N := some 38) (v := ?_) (a' := ?_) #[true, true, true, true, true, true, true, true, true, true, true, true, true, true, true, true, true, true, true, true, true, true, true, true, true, true, false, false, false, false, false, false, false, false, false] rfl rfl (zb HT_.out (by kernel_rfl)) (fun _ _ _ h => h) (Or.inl ⟨by rfl, ?_⟩) ?_ ?_;rotate_left
            ·intro w'
             go_simp;with_reducible rfl
            rotate_left
            ·simp only [Act.put, Zs1, Zs2, Zs3, ze, zf]
             rfl
            refine zi (i := 26) (N := some 39) (v := ?_) (a' := ?_) #[true, true, true, true, true, true, true, true, true, true, true, true, true, true, true, true, true, true, true, true, true, true, true, true, true, true, true, false, false, false, false, false, false, false, false] rfl rfl (zb HT_.out (by kernel_rfl)) (fun _ _ _ h => h) (Or.inl ⟨by rfl, ?_⟩) ?_ ?_;rotate_left
            ·intro w'
             go_simp;with_reducible rfl
            rotate_left
            ·simp only [Act.put, Zs1, Zs2, Zs3, ze, zf]
             rfl
            refine zi (i := 27) (N := some 40) (v := ?_) (a' := ?_) #[true, true, true, true, true, true, true, true, true, true, true, true, true, true, true, true, true, true, true, true, true, true, true, true, true, true, true, true, false, false, false, false, false, false, false] rfl rfl (zb HT_.out (by kernel_rfl)) (fun _ _ _ h => h) (Or.inl ⟨by rfl, ?_⟩) ?_ ?_;rotate_left
            ·intro w'
             go_simp;with_reducible rfl
            rotate_left
            ·simp only [Act.put, Zs1, Zs2, Zs3, ze, zf]
             rfl
            refine zi (i := 28) (N := some 41) (v := ?_) (a' := ?_) #[true, true, true, true, true, true, true, true, true, true, true, true, true, true, true, true, true, true, true, true, true, true, true, true, true, true, true, true, true, false, false, false, false, false, false] rfl rfl (zb HT_.out (by kernel_rfl)) (fun _ _ _ h => h) (Or.inl ⟨by rfl, ?_⟩) ?_ ?_;rotate_left
            ·intro w'
             go_simp;with_reducible rfl
            rotate_left
            ·simp only [Act.put, Zs1, Zs2, Zs3, ze, zf]
             rfl
            refine zi (i := 30) (N := some 43) (v := ?_) (a' := ?_) #[true, true, true, true, true, true, true, true, true, true, true, true, true, true, true, true, true, true, true, true, true, true, true, true, true, true, true, true, true, false, true, false, false, false, false] rfl rfl (zb HT_.out (by kernel_rfl)) (fun _ _ _ h => h) (Or.inl ⟨by rfl, ?_⟩) ?_ ?_;rotate_left
            ·intro w'
             go_simp;with_reducible rfl
            rotate_left
            ·simp only [Act.put, Zs1, Zs2, Zs3, ze, zf]
             rfl
            refine zi (i := 31) (N := some 44) (v := ?_) (a' := ?_) #[true, true, true, true, true, true, true, true, true, true, true, true, true, true, true, true, true, true, true, true, true, true, true, true, true, true, true, true, true, false, true, true, false, false, false] rfl rfl (zb HT_.out (by kernel_rfl)) (fun _ _ _ h => h) (Or.inl ⟨by rfl, ?_⟩) ?_ ?_;rotate_left
            ·intro w'
             go_simp;with_reducible rfl
            rotate_left
            ·simp only [Act.put, Zs1, Zs2, Zs3, ze, zf]
             rfl
            refine zb3 (i := 29) (N := some 42) (v := ?_) (a' := ?_) #[true, true, true, true, true, true, true, true, true, true, true, true, true, true, true, true, true, true, true, true, true, true, true, true, true, true, true, true, true, true, true, true, false, false, false] rfl rfl (zbf HT_.out HW_.out (by kernel_rfl)) (fun _ _ _ h => h) (Or.inl ⟨by rfl, ?_⟩) hHeld ?_ ?_;rotate_left
            ·rintro w' ⟨s0, s1, s2, s3, s4⟩
             go_simp;with_reducible rfl
            rotate_left
            ·simp only [Act.put, Zs1, Zs2, Zs3, ze, zf]
             rfl
            refine zb3 (i := 32) (N := some 45) (v := ?_) (a' := ?_) #[true, true, true, true, true, true, true, true, true, true, true, true, true, true, true, true, true, true, true, true, true, true, true, true, true, true, true, true, true, true, true, true, true, false, false] rfl rfl (zbf HT_.out HW_.out (by kernel_rfl)) (fun _ _ _ h => h) (Or.inl ⟨by rfl, ?_⟩) hHeld ?_ ?_;rotate_left
            ·rintro w' ⟨s0, s1, s2, s3, s4⟩
             go_simp;with_reducible rfl
            rotate_left
            ·simp only [Act.put, Zs1, Zs2, Zs3, ze, zf]
             rfl
            refine zi (i := 33) (N := some 46) (v := ?_) (a' := ?_) #[true, true, true, true, true, true, true, true, true, true, true, true, true, true, true, true, true, true, true, true, true, true, true, true, true, true, true, true, true, true, true, true, true, true, false] rfl rfl (zb HT_.out (by kernel_rfl)) (fun _ _ _ h => h) (Or.inl ⟨by rfl, ?_⟩) ?_ ?_;rotate_left
            ·intro w'
             go_simp;with_reducible rfl
            rotate_left
            ·simp only [Act.put, Zs1, Zs2, Zs3, ze, zf]
             rfl
            refine zi (i := 34) (N := some 47) (v := ?_) (a' := ?_) #[true, true, true, true, true, true, true, true, true, true, true, true, true, true, true, true, true, true, true, true, true, true, true, true, true, true, true, true, true, true, true, true, true, true, true] rfl rfl (zb HT_.out (by kernel_rfl)) (fun _ _ _ h => h) (Or.inl ⟨by rfl, ?_⟩) ?_ ?_;rotate_left
            ·intro w'
             go_simp;with_reducible rfl
            rotate_left
            ·simp only [Act.put, Zs1, Zs2, Zs3, ze, zf]
             rfl
            refine zeg (zct HT_.out (by kernel_rfl)) ?_
            try go_wp2
            go_ret;exact ⟨by first | rfl | (simp [zq, zt] <;> rfl) | (simp [*, zq, zt] <;> rfl), Zq1 HB⟩
           ·rw [if_neg c13] at H
            have c13b0 : ((rd (zh l1 x9_1) 0) == (rd (zh l1 x9_1) 1)) = false := beq_eq_false_iff_ne.mpr c13;have c13b1 : ((rd (zh l1 x9_1) 0) != (rd (zh l1 x9_1) 1)) = true := bne_iff_ne.mpr c13;have H' := za.mk H;clear H;have p196 : 0 ≤ (x9_1 : Int) := of_decide_eq_true Zas;have q196 : x9_1 < (l1.length : Int) := of_decide_eq_true Zas;obtain ⟨ad196, A196_0, c196_0, e196, hx196_0, hl196_0, hi196_0⟩ := zc6 HR1.out x9_1 p196 q196
            cases e196
            replace hx196_0 := (HB.out.cell (World.block_lt_of_cell? w _ hx196_0)).trans hx196_0;have HR196_0 := za.mk hi196_0;have HC196_0 := za.mk hl196_0;clear hi196_0 hl196_0;replace p196 := eq_true p196;replace q196 := eq_true q196
            try go_wp2
            have n0_ := za.mk (zbr HB.out);clear HB;have HB := n0_;clear n0_;have p197 : 0 ≤ (0 : Int) := (by omega);have q197 : 0 < ((zh l1 x9_1).length : Int) := of_decide_eq_true Zas;obtain ⟨ad197, e197, hx197_0⟩ := Kd.zbq HR196_0.out 0 p197 q197;have hw197_0 := hx197_0;(try rw [show ((0 : Int)).toNat = 0 from rfl] at hw197_0);(try rw [show 0 * 1 = 0 from rfl] at hw197_0);(try rw [Addr.add_zero'] at hw197_0)
            cases e197
            have qi197 : (0 < (zh l1 x9_1).length) = True := eq_true (by omega);(try rw [show ((0 : Int)).toNat = 0 from rfl] at hx197_0);(try rw [Addr.add_zero'] at hx197_0);replace hx197_0 := (HB.out.cell (World.block_lt_of_cell? w _ hx197_0)).trans hx197_0;replace p197 := eq_true p197;replace q197 := eq_true q197;have p199 : 0 ≤ (1 : Int) := (by omega);have q199 : 1 < ((zh l1 x9_1).length : Int) := of_decide_eq_true Zas;obtain ⟨ad199, e199, hx199_0⟩ := Kd.zbq HR196_0.out 1 p199 q199;have hw199_0 := hx199_0;(try rw [show ((1 : Int)).toNat = 1 from rfl] at hw199_0);(try rw [show 1 * 1 = 1 from rfl] at hw199_0);(try simp only [Nat.reduceMul, Nat.reduceEqDiff, Go.Addr.add, ↓reduceIte] at hw199_0);obtain rfl : ad197 = ad199 := (by injection e199);(try simp only [show (1 : Int).toNat = 1 from rfl, Nat.reduceMul, Nat.reduceEqDiff, Go.Addr.add, ↓reduceIte] at hx199_0);have qi199 : (1 < (zh l1 x9_1).length) = True := eq_true (by omega);(try rw [show ((1 : Int)).toNat = 1 from rfl] at hx199_0);replace hx199_0 := (HB.out.cell (World.block_lt_of_cell? w _ hx199_0)).trans hx199_0;replace p199 := eq_true p199;replace q199 := eq_true q199;have p200 : 0 ≤ (0 : Int) := (by omega);have q200 : 0 < ((zh l1 x9_1).length : Int) := of_decide_eq_true Zas;obtain ⟨ad200, e200, hx200_0⟩ := Kd.zbq HR196_0.out 0 p200 q200;have hw200_0 := hx200_0;(try rw [show ((0 : Int)).toNat = 0 from rfl] at hw200_0);(try rw [show 0 * 1 = 0 from rfl] at hw200_0);(try rw [Addr.add_zero'] at hw200_0);obtain rfl : ad197 = ad200 := (by injection e200);have qi200 : (0 < (zh l1 x9_1).length) = True := eq_true (by omega);(try rw [show ((0 : Int)).toNat = 0 from rfl] at hx200_0);(try rw [Addr.add_zero'] at hx200_0);replace hx200_0 := (HB.out.cell (World.block_lt_of_cell? w _ hx200_0)).trans hx200_0;replace p200 := eq_true p200;replace q200 := eq_true q200;have p202 : 0 ≤ (0 : Int) := (by omega);have q202 : 0 < ((zh l1 x9_1).length : Int) := of_decide_eq_true Zas;obtain ⟨ad202, e202, hx202_0⟩ := Kd.zbq HR196_0.out 0 p202 q202;have hw202_0 := hx202_0;(try rw [show ((0 : Int)).toNat = 0 from rfl] at hw202_0);(try rw [show 0 * 1 = 0 from rfl] at hw202_0);(try rw [Addr.add_zero'] at hw202_0);obtain rfl : ad197 = ad202 := (by injection e202);have qi202 : (0 < (zh l1 x9_1).length) = True := eq_true (by omega);(try rw [show ((0 : Int)).toNat = 0 from rfl] at hx202_0);(try rw [Addr.add_zero'] at hx202_0);replace hx202_0 := (HB.out.cell (World.block_lt_of_cell? w _ hx202_0)).trans hx202_0;replace p202 := eq_true p202;replace q202 := eq_true q202;have p203 : 0 ≤ (1 : Int) := (by omega);have q203 : 1 < ((zh l1 x9_1).length : Int) := of_decide_eq_true Zas;obtain ⟨ad203, e203, hx203_0⟩ := Kd.zbq HR196_0.out 1 p203 q203;have hw203_0 := hx203_0;(try rw [show ((1 : Int)).toNat = 1 from rfl] at hw203_0);(try rw [show 1 * 1 = 1 from rfl] at hw203_0);(try simp only [Nat.reduceMul, Nat.reduceEqDiff, Go.Addr.add, ↓reduceIte] at hw203_0);obtain rfl : ad197 = ad203 := (by injection e203);(try simp only [show (1 : Int).toNat = 1 from rfl, Nat.reduceMul, Nat.reduceEqDiff, Go.Addr.add, ↓reduceIte] at hx203_0);have qi203 : (1 < (zh l1 x9_1).length) = True := eq_true (by omega);(try rw [show ((1 : Int)).toNat = 1 from rfl] at hx203_0);replace hx203_0 := (HB.out.cell (World.block_lt_of_cell? w _ hx203_0)).trans hx203_0;replace p203 := eq_true p203;replace q203 := eq_true q203;refine zdl (n := 35) (S := fun w' => w'.cell? ad197 = some (.int .i64 (rd (zh l1 x9_1) 0)) ∧ w'.cell? ⟨ad197.block, ad197.off + 1, none⟩ = some (.int .i64 (rd (zh l1 x9_1) 1)) ∧ w'.cell? ad197 = some (.int .i64 (rd (zh l1 x9_1) 0)) ∧ w'.cell? ad197 = some (.int .i64 (rd (zh l1 x9_1) 0)) ∧ w'.cell? ⟨ad197.block, ad197.off + 1, none⟩ = some (.int .i64 (rd (zh l1 x9_1) 1))) (ds := []) #[false, false, false, false, false, false, false, false, false, false, false, false, false, false, false, false, false, false, false, false, false, false, false, false, false, false, false, false, false, false, false, false, false, false, false] (by kernel_rfl) rfl rfl ⟨((HB.out.cell (World.block_lt_of_cell? w _ hw197_0)).trans hw197_0), ((HB.out.cell (World.block_lt_of_cell? w _ hw199_0)).trans hw199_0), ((HB.out.cell (World.block_lt_of_cell? w _ hw200_0)).trans hw200_0), ((HB.out.cell (World.block_lt_of_cell? w _ hw202_0)).trans hw202_0), ((HB.out.cell (World.block_lt_of_cell? w _ hw203_0)).trans hw203_0)⟩ (fun hHeld => ?_); refine zb9 zm.tab4 zm.bits4 (fun HT_ HW_ => ?_);generalize wr.drew = w15 at HB hx197_0 hx199_0 hx200_0 hx202_0 hx203_0 hHeld ⊢;refine zi (i := 0) (N := some 13) (v := ?_) (a' := ?_) #[true, false, false, false, false, false, false, false, false, false, false, false, false, false, false, false, false, false, false, false, false, false, false, false, false, false, false, false, false, false, false, false, false, false, false] rfl rfl (zb HT_.out (by kernel_rfl)) (fun _ _ _ h => h) (Or.inl ⟨by rfl, ?_⟩) ?_ ?_;rotate_left
            ·intro w'
             go_simp;with_reducible rfl
            rotate_left
            ·simp only [Act.put, Zs1, Zs2, Zs3, ze, zf]
             rfl
            refine zi (i := 1) (N := some 14) (v := ?_) (a' := ?_) #[true, true, false, false, false, false, false, false, false, false, false, false, false, false, false, false, false, false, false, false, false, false, false, false, false, false, false, false, false, false, false, false, false, false, false] rfl rfl (zb HT_.out (by kernel_rfl)) (fun _ _ _ h => h) (Or.inl ⟨by rfl, ?_⟩) ?_ ?_;rotate_left
            ·intro w'
             go_simp;with_reducible rfl
            rotate_left
            ·simp only [Act.put, Zs1, Zs2, Zs3, ze, zf]
             rfl
            refine zi (i := 2) (N := some 15) (v := ?_) (a' := ?_) #[true, true, true, false, false, false, false, false, false, false, false, false, false, false, false, false, false, false, false, false, false, false, false, false, false, false, false, false, false, false, false, false, false, false, false] rfl rfl (zb HT_.out (by kernel_rfl)) (fun _ _ _ h => h) (Or.inl ⟨by rfl, ?_⟩) ?_ ?_;rotate_left
            ·intro w'
             go_simp;with_reducible rfl
            rotate_left
            ·simp only [Act.put, Zs1, Zs2, Zs3, ze, zf]
             rfl
            refine zi (i := 3) (N := some 16) (v := ?_) (a' := ?_) #[true, true, true, true, false, false, false, false, false, false, false, false, false, false, false, false, false, false, false, false, false, false, false, false, false, false, false, false, false, false, false, false, false, false, false] rfl rfl (zb HT_.out (by kernel_rfl)) (fun _ _ _ h => h) (Or.inl ⟨by rfl, ?_⟩) ?_ ?_;rotate_left
            ·intro w'
             go_simp;with_reducible rfl
            rotate_left
            ·simp only [Act.put, Zs1, Zs2, Zs3, ze, zf]
             rfl
            refine zi (i := 4) (N := some 17) (v := ?_) (a' := ?_) #[true, true, true, true, true, false, false, false, false, false, false, false, false, false, false, false, false, false, false, false, false, false, false, false, false, false, false, false, false, false, false, false, false, false, false] rfl rfl (zb HT_.out (by kernel_rfl)) (fun _ _ _ h => h) (Or.inl ⟨by rfl, ?_⟩) ?_ ?_;rotate_left
            ·intro w'
             go_simp;with_reducible rfl
            rotate_left
            ·simp only [Act.put, Zs1, Zs2, Zs3, ze, zf]
             rfl
            refine zi (i := 5) (N := some 18) (v := ?_) (a' := ?_) #[true, true, true, true, true, true, false, false, false, false, false, false, false, false, false, false, false, false, false, false, false, false, false, false, false, false, false, false, false, false, false, false, false, false, false] rfl rfl (zb HT_.out (by kernel_rfl)) (fun _ _ _ h => h) (Or.inl ⟨by rfl, ?_⟩) ?_ ?_;rotate_left
            ·intro w'
             go_simp;with_reducible rfl
            rotate_left
            ·simp only [Act.put, Zs1, Zs2, Zs3, ze, zf]
             rfl
            refine zi (i := 7) (N := some 20) (v := ?_) (a' := ?_) #[true, true, true, true, true, true, false, true, false, false, false, false, false, false, false, false, false, false, false, false, false, false, false, false, false, false, false, false, false, false, false, false, false, false, false] rfl rfl (zb HT_.out (by kernel_rfl)) (fun _ _ _ h => h) (Or.inl ⟨by rfl, ?_⟩) ?_ ?_;rotate_left
            ·intro w'
             go_simp;with_reducible rfl
            rotate_left
            ·simp only [Act.put, Zs1, Zs2, Zs3, ze, zf]
             rfl
            refine zi (i := 8) (N := some 21) (v := ?_) (a' := ?_) #[true, true, true, true, true, true, false, true, true, false, false, false, false, false, false, false, false, false, false, false, false, false, false, false, false, false, false, false, false, false, false, false, false, false, false] rfl rfl (zb HT_.out (by kernel_rfl)) (fun _ _ _ h => h) (Or.inl ⟨by rfl, ?_⟩) ?_ ?_;rotate_left
            ·intro w'
             go_simp;with_reducible rfl
            rotate_left
            ·simp only [Act.put, Zs1, Zs2, Zs3, ze, zf]
             rfl
            refine zi (i := 9) (N := some 22) (v := ?_) (a' := ?_) #[true, true, true, true, true, true, false, true, true, true, false, false, false, false, false, false, false, false, false, false, false, false, false, false, false, false, false, false, false, false, false, false, false, false, false] rfl rfl (zb HT_.out (by kernel_rfl)) (fun _ _ _ h => h) (Or.inl ⟨by rfl, ?_⟩) ?_ ?_;rotate_left
            ·intro w'
             go_simp;with_reducible rfl
            rotate_left
            ·simp only [Act.put, Zs1, Zs2, Zs3, ze, zf]
             rfl
            refine zb3 (i := 6) (N := some 19) (v := ?_) (a' := ?_) #[true, true, true, true, true, true, true, true, true, true, false, false, false, false, false, false, false, false, false, false, false, false, false, false, false, false, false, false, false, false, false, false, false, false, false] rfl rfl (zbf HT_.out HW_.out (by kernel_rfl)) (fun _ _ _ h => h) (Or.inl ⟨by rfl, ?_⟩) hHeld ?_ ?_;rotate_left
            ·rintro w' ⟨s0, s1, s2, s3, s4⟩
             go_simp;with_reducible rfl
            rotate_left
            ·simp only [Act.put, Zs1, Zs2, Zs3, ze, zf]
             rfl
            refine one_ (i := 10) (N := some 23) #[true, true, true, true, true, true, true, true, true, true, true, false, false, false, false, false, false, false, false, false, false, false, false, false, false, false, false, false, false, false, false, false, false, false, false] rfl rfl (zdb HT_.out (by kernel_rfl)) (by decide) (fun K hK => ?_);refine ze4 Try.func52 (by kernel_rfl) rfl #[.int .i64 (rd (zh l1 x9_1) 0), .int .i64 0, .int .i64 (wrap64 ((l0.length : Int) - 1))] (by rfl) rfl rfl Zmt ?_;with_reducible refine (zb5.calls (rd (zh l1 x9_1) 0) 0 (wrap64 ((l0.length : Int) - 1)) true _ A8.out).mono ?_
            rintro e w' ⟨rfl, ⟨nd, rfl⟩⟩;refine ⟨_, rfl, ?_⟩;refine hK.out _ _ ⟨((HB.out.cell (World.block_lt_of_cell? w _ hw197_0)).trans hw197_0), ((HB.out.cell (World.block_lt_of_cell? w _ hw199_0)).trans hw199_0), ((HB.out.cell (World.block_lt_of_cell? w _ hw200_0)).trans hw200_0), ((HB.out.cell (World.block_lt_of_cell? w _ hw202_0)).trans hw202_0), ((HB.out.cell (World.block_lt_of_cell? w _ hw203_0)).trans hw203_0)⟩ (fun hHeld => ?_);clear hK K;refine zeu (a' := ?_) ?_ ?_;rotate_left
            ·show Act.put _ (some 23) _ = _
             simp only [Act.put, Zs1, Zs2, Zs3, ze, zf];rfl
            refine zi (i := 11) (N := some 24) (v := ?_) (a' := ?_) #[true, true, true, true, true, true, true, true, true, true, true, true, false, false, false, false, false, false, false, false, false, false, false, false, false, false, false, false, false, false, false, false, false, false, false] rfl rfl (zb HT_.out (by kernel_rfl)) (fun _ _ _ h => h) (Or.inl ⟨by rfl, ?_⟩) ?_ ?_;rotate_left
            ·intro w'
             go_simp;with_reducible rfl
            rotate_left
            ·simp only [Act.put, Zs1, Zs2, Zs3, ze, zf]
             rfl
            refine zi (i := 12) (N := some 25) (v := ?_) (a' := ?_) #[true, true, true, true, true, true, true, true, true, true, true, true, true, false, false, false, false, false, false, false, false, false, false, false, false, false, false, false, false, false, false, false, false, false, false] rfl rfl (zb HT_.out (by kernel_rfl)) (fun _ _ _ h => h) (Or.inl ⟨by rfl, ?_⟩) ?_ ?_;rotate_left
            ·intro w'
             go_simp;with_reducible rfl
            rotate_left
            ·simp only [Act.put, Zs1, Zs2, Zs3, ze, zf]
             rfl
            refine zi (i := 13) (N := some 26) (v := ?_) (a' := ?_) #[true, true, true, true, true, true, true, true, true, true, true, true, true, true, false, false, false, false, false, false, false, false, false, false, false, false, false, false, false, false, false, false, false, false, false] rfl rfl (zb HT_.out (by kernel_rfl)) (fun _ _ _ h => h) (Or.inl ⟨by rfl, ?_⟩) ?_ ?_;rotate_left
            ·intro w'
             go_simp;with_reducible rfl
            rotate_left
            ·simp only [Act.put, Zs1, Zs2, Zs3, ze, zf]
             rfl
            refine zi (i := 14) (N := some 27) (v := ?_) (a' := ?_) #[true, true, true, true, true, true, true, true, true, true, true, true, true, true, true, false, false, false, false, false, false, false, false, false, false, false, false, false, false, false, false, false, false, false, false] rfl rfl (zb HT_.out (by kernel_rfl)) (fun _ _ _ h => h) (Or.inl ⟨by rfl, ?_⟩) ?_ ?_;rotate_left
            ·intro w'
             go_simp;with_reducible rfl
            rotate_left
            ·simp only [Act.put, Zs1, Zs2, Zs3, ze, zf]
             rfl
            refine zi (i := 15) (N := some 28) (v := ?_) (a' := ?_) #[true, true, true, true, true, true, true, true, true, true, true, true, true, true, true, true, false, false, false, false, false, false, false, false, false, false, false, false, false, false, false, false, false, false, false] rfl rfl (zb HT_.out (by kernel_rfl)) (fun _ _ _ h => h) (Or.inl ⟨by rfl, ?_⟩) ?_ ?_;rotate_left
            ·intro w'
             go_simp;with_reducible rfl
            rotate_left
            ·simp only [Act.put, Zs1, Zs2, Zs3, ze, zf]
             rfl
            refine zi (i := 17) (N := some 30) (v := ?_) (a' := ?_) #[true, true, true, true, true, true, true, true, true, true, true, true, true, true, true, true, false, true, false, false, false, false, false, false, false, false, false, false, false, false, false, false, false, false, false] rfl rfl (zb HT_.out (by kernel_rfl)) (fun _ _ _ h => h) (Or.inl ⟨by rfl, ?_⟩) ?_ ?_;rotate_left
            ·intro w'
             go_simp;with_reducible rfl
            rotate_left
            ·simp only [Act.put, Zs1, Zs2, Zs3, ze, zf]
             rfl
            refine zi (i := 18) (N := some 31) (v := ?_) (a' := ?_) #[true, true, true, true, true, true, true, true, true, true, true, true, true, true, true, true, false, true, true, false, false, false, false, false, false, false, false, false, false, false, false, false, false, false, false] rfl rfl (zb HT_.out (by kernel_rfl)) (fun _ _ _ h => h) (Or.inl ⟨by rfl, ?_⟩) ?_ ?_;rotate_left
            ·intro w'
             go_simp;with_reducible rfl
            rotate_left
            ·simp only [Act.put, Zs1, Zs2, Zs3, ze, zf]
             rfl
            refine zi (i := 20) (N := some 33) (v := ?_) (a' := ?_) #[true, true, true, true, true, true, true, true, true, true, true, true, true, true, true, true, false, true, true, false, true, false, false, false, false, false, false, false, false, false, false, false, false, false, false] rfl rfl (zb HT_.out (by kernel_rfl)) (fun _ _ _ h => h) (Or.inl ⟨by rfl, ?_⟩) ?_ ?_;rotate_left
            ·intro w'
             go_simp;with_reducible rfl
            rotate_left
            ·simp only [Act.put, Zs1, Zs2, Zs3, ze, zf]
             rfl
            refine zi (i := 21) (N := some 34) (v := ?_) (a' := ?_) #[true, true, true, true, true, true, true, true, true, true, true, true, true, true, true, true, false, true, true, false, true, true, false, false, false, false, false, false, false, false, false, false, false, false, false] rfl rfl (zb HT_.out (by kernel_rfl)) (fun _ _ _ h => h) (Or.inl ⟨by rfl, ?_⟩) ?_ ?_;rotate_left
            ·intro w'
             go_simp;with_reducible rfl
            rotate_left
            ·simp only [Act.put, Zs1, Zs2, Zs3, ze, zf]
             rfl
            refine zi (i := 22) (N := some 35) (v := ?_) (a' := ?_) #[true, true, true, true, true, true, true, true, true, true, true, true, true, true, true, true, false, true, true, false, true, true, true, false, false, false, false, false, false, false, false, false, false, false, false] rfl rfl (zb HT_.out (by kernel_rfl)) (fun _ _ _ h => h) (Or.inl ⟨by rfl, ?_⟩) ?_ ?_;rotate_left
            ·intro w'
             go_simp;with_reducible rfl
            rotate_left
            ·simp only [Act.put, Zs1, Zs2, Zs3, ze, zf]
             rfl
            refine zb3 (i := 16) (N := some 29) (v := ?_) (a' := ?_) #[true, true, true, true, true, true, true, true, true, true, true, true, true, true, true, true, true, true, true, false, true, true, true, false, false, false, false, false, false, false, false, false, false, false, false] rfl rfl (zbf HT_.out HW_.out (by kernel_rfl)) (fun _ _ _ h => h) (Or.inl ⟨by rfl, ?_⟩) hHeld ?_ ?_;rotate_left
            ·rintro w' ⟨s0, s1, s2, s3, s4⟩
             go_simp;with_reducible rfl
            rotate_left
            ·simp only [Act.put, Zs1, Zs2, Zs3, ze, zf]
             rfl
            refine zb3 (i := 19) (N := some 32) (v := ?_) (a' := ?_) #[true, true, true, true, true, true, true, true, true, true, true, true, true, true, true, true, true, true, true, true, true, true, true, false, false, false, false, false, false, false, false, false, false, false, false] rfl rfl (zbf HT_.out HW_.out (by kernel_rfl)) (fun _ _ _ h => h) (Or.inl ⟨by rfl, ?_⟩) hHeld ?_ ?_;rotate_left
            ·rintro w' ⟨s0, s1, s2, s3, s4⟩
             go_simp;with_reducible rfl
            rotate_left
            ·simp only [Act.put, Zs1, Zs2, Zs3, ze, zf]
             rfl
            refine one_ (i := 23) (N := some 36) #[true, true, true, true, true, true, true, true, true, true, true, true, true, true, true, true, true, true, true, true, true, true, true, true, false, false, false, false, false, false, false, false, false, false, false] rfl rfl (zdb HT_.out (by kernel_rfl)) (by decide) (fun K hK => ?_);refine ze4 Try.func52 (by kernel_rfl) rfl #[.int .i64 (rd (zh l1 x9_1) 1), .int .i64 (rd (zh l1 x9_1) 0), .int .i64 (wrap64 ((l0.length : Int) - 1))] (by rfl) rfl rfl Zmt ?_;with_reducible refine (zb5.calls (rd (zh l1 x9_1) 1) (rd (zh l1 x9_1) 0) (wrap64 ((l0.length : Int) - 1)) true _ A11.out).mono ?_
            rintro e w' ⟨rfl, ⟨nd, rfl⟩⟩;refine ⟨_, rfl, ?_⟩;refine hK.out _ _ ⟨((HB.out.cell (World.block_lt_of_cell? w _ hw197_0)).trans hw197_0), ((HB.out.cell (World.block_lt_of_cell? w _ hw199_0)).trans hw199_0), ((HB.out.cell (World.block_lt_of_cell? w _ hw200_0)).trans hw200_0), ((HB.out.cell (World.block_lt_of_cell? w _ hw202_0)).trans hw202_0), ((HB.out.cell (World.block_lt_of_cell? w _ hw203_0)).trans hw203_0)⟩ (fun hHeld => ?_);clear hK K;refine zeu (a' := ?_) ?_ ?_;rotate_left
            ·show Act.put _ (some 36) _ = _
             simp only [Act.put, Zs1, Zs2, Zs3, ze, zf];rfl
            refine zi (i := 24) (N := some 37) (v := ?_) (a' := ?_) #[true, true, true, true, true, true, true, true, true, true, true, true, true, true, true, true, true, true, true, true, true, true, true, true, true, false, false, false, false, false, false, false, false, false, false] rfl rfl (zb HT_.out (by kernel_rfl)) (fun _ _ _ h => h) (Or.inl ⟨by rfl, ?_⟩) ?_ ?_;rotate_left
            ·intro w'
             go_simp;with_reducible rfl
            rotate_left
            ·simp only [Act.put, Zs1, Zs2, Zs3, ze, zf]
             rfl
            refine zi (i := 25) (N := some 38) (v := ?_) (a' := ?_) #[true, true, true, true, true, true, true, true, true, true, true, true, true, true, true, true, true, true, true, true, true, true, true, true, true, true, false, false, false, false, false, false, false, false, false] rfl rfl (zb HT_.out (by kernel_rfl)) (fun _ _ _ h => h) (Or.inl ⟨by rfl, ?_⟩) ?_ ?_;rotate_left
            ·intro w'
             go_simp;with_reducible rfl
            rotate_left
            ·simp only [Act.put, Zs1, Zs2, Zs3, ze, zf]
             rfl
            refine zi (i := 26) (N := some 39) (v := ?_) (a' := ?_) #[true, true, true, true, true, true, true, true, true, true, true, true, true, true, true, true, true, true, true, true, true, true, true, true, true, true, true, false, false, false, false, false, false, false, false] rfl rfl (zb HT_.out (by kernel_rfl)) (fun _ _ _ h => h) (Or.inl ⟨by rfl, ?_⟩) ?_ ?_;rotate_left
            ·intro w'
             go_simp;with_reducible rfl
            rotate_left
            ·simp only [Act.put, Zs1, Zs2, Zs3, ze, zf]
             rfl
            refine zi (i := 27) (N := some 40) (v := ?_) (a' := ?_) #[true, true, true, true, true, true, true, true, true, true, true, true, true, true, true, true, true, true, true, true, true, true, true, true, true, true, true, true, false, false, false, false, false, false, false] rfl rfl (zb HT_.out (by kernel_rfl)) (fun _ _ _ h => h) (Or.inl ⟨by rfl, ?_⟩) ?_ ?_;rotate_left
            ·intro w'
             go_simp;with_reducible rfl
            rotate_left
            ·simp only [Act.put, Zs1, Zs2, Zs3, ze, zf]
             rfl
            refine zi (i := 28) (N := some 41) (v := ?_) (a' := ?_) #[true, true, true, true, true, true, true, true, true, true, true, true, true, true, true, true, true, true, true, true, true, true, true, true, true, true, true, true, true, false, false, false, false, false, false] rfl rfl (zb HT_.out (by kernel_rfl)) (fun _ _ _ h => h) (Or.inl ⟨by rfl, ?_⟩) ?_ ?_;rotate_left
            ·intro w'
             go_simp;with_reducible rfl
            rotate_left
            ·simp only [Act.put, Zs1, Zs2, Zs3, ze, zf]
             rfl
            refine zi (i := 30) (N := some 43) (v := ?_) (a' := ?_) #[true, true, true, true, true, true, true, true, true, true, true, true, true, true, true, true, true, true, true, true, true, true, true, true, true, true, true, true, true, false, true, false, false, false, false] rfl rfl (zb HT_.out (by kernel_rfl)) (fun _ _ _ h => h) (Or.inl ⟨by rfl, ?_⟩) ?_ ?_;rotate_left
            ·intro w'
             go_simp;with_reducible rfl
            rotate_left
            ·simp only [Act.put, Zs1, Zs2, Zs3, ze, zf]
             rfl
            refine zi (i := 31) (N := some 44) (v := ?_) (a' := ?_) #[true, true, true, true, true, true, true, true, true, true, true, true, true, true, true, true, true, true, true, true, true, true, true, true, true, true, true, true, true, false, true, true, false, false, false] rfl rfl (zb HT_.out (by kernel_rfl)) (fun _ _ _ h => h) (Or.inl ⟨by rfl, ?_⟩) ?_ ?_;rotate_left
            ·intro w'
             go_simp;with_reducible rfl
            rotate_left
            ·simp only [Act.put, Zs1, Zs2, Zs3, ze, zf]
             rfl
            refine zb3 (i := 29) (N := some 42) (v := ?_) (a' := ?_) #[true, true, true, true, true, true, true, true, true, true, true, true, true, true, true, true, true, true, true, true, true, true, true, true, true, true, true, true, true, true, true, true, false, false, false] rfl rfl (zbf HT_.out HW_.out (by kernel_rfl)) (fun _ _ _ h => h) (Or.inl ⟨by rfl, ?_⟩) hHeld ?_ ?_;rotate_left
            ·rintro w' ⟨s0, s1, s2, s3, s4⟩
             go_simp;with_reducible rfl
            rotate_left
            ·simp only [Act.put, Zs1, Zs2, Zs3, ze, zf]
             rfl
            refine zb3 (i := 32) (N := some 45) (v := ?_) (a' := ?_) #[true, true, true, true, true, true, true, true, true, true, true, true, true, true, true, true, true, true, true, true, true, true, true, true, true, true, true, true, true, true, true, true, true, false, false] rfl rfl (zbf HT_.out HW_.out (by kernel_rfl)) (fun _ _ _ h => h) (Or.inl ⟨by rfl, ?_⟩) hHeld ?_ ?_;rotate_left
            ·rintro w' ⟨s0, s1, s2, s3, s4⟩
             go_simp;with_reducible rfl
            rotate_left
            ·simp only [Act.put, Zs1, Zs2, Zs3, ze, zf]
             rfl
            refine zi (i := 33) (N := some 46) (v := ?_) (a' := ?_) #[true, true, true, true, true, true, true, true, true, true, true, true, true, true, true, true, true, true, true, true, true, true, true, true, true, true, true, true, true, true, true, true, true, true, false] rfl rfl (zb HT_.out (by kernel_rfl)) (fun _ _ _ h => h) (Or.inl ⟨by rfl, ?_⟩) ?_ ?_;rotate_left
            ·intro w'
             go_simp;with_reducible rfl
            rotate_left
            ·simp only [Act.put, Zs1, Zs2, Zs3, ze, zf]
             rfl
            refine zi (i := 34) (N := some 47) (v := ?_) (a' := ?_) #[true, true, true, true, true, true, true, true, true, true, true, true, true, true, true, true, true, true, true, true, true, true, true, true, true, true, true, true, true, true, true, true, true, true, true] rfl rfl (zb HT_.out (by kernel_rfl)) (fun _ _ _ h => h) (Or.inl ⟨by rfl, ?_⟩) ?_ ?_;rotate_left
            ·intro w'
             go_simp;with_reducible rfl
            rotate_left
            ·simp only [Act.put, Zs1, Zs2, Zs3, ze, zf]
             rfl
            refine zeg (zct HT_.out (by kernel_rfl)) ?_
            try go_wp2
            go_roundg k1
            case measure => have := HK1.out; omega
            case rel => exact ⟨(wrap64 (x9_1 + 1)), Zrs, H', ⟨by have := HK1.out; omega⟩, ⟨Zq1 HB⟩⟩
          ·replace c12 := Bool.eq_false_iff.mpr c12
           subst c12;have H1 : (some false) = some r := by rw [if_neg (show ¬ (false = true) by decide)] at H; exact H
           clear H;have H := H1;clear H1;obtain rfl := Option.some.inj H;have p196 : 0 ≤ (x9_1 : Int) := of_decide_eq_true Zas;have q196 : x9_1 < (l1.length : Int) := of_decide_eq_true Zas;obtain ⟨ad196, A196_0, c196_0, e196, hx196_0, hl196_0, hi196_0⟩ := zc6 HR1.out x9_1 p196 q196
           cases e196
           replace hx196_0 := (HB.out.cell (World.block_lt_of_cell? w _ hx196_0)).trans hx196_0;have HR196_0 := za.mk hi196_0;have HC196_0 := za.mk hl196_0;clear hi196_0 hl196_0;replace p196 := eq_true p196;replace q196 := eq_true q196
           try go_wp2
           have n0_ := za.mk (zbr HB.out);clear HB;have HB := n0_;clear n0_;have p197 : 0 ≤ (0 : Int) := (by omega);have q197 : 0 < ((zh l1 x9_1).length : Int) := of_decide_eq_true Zas;obtain ⟨ad197, e197, hx197_0⟩ := Kd.zbq HR196_0.out 0 p197 q197;have hw197_0 := hx197_0;(try rw [show ((0 : Int)).toNat = 0 from rfl] at hw197_0);(try rw [show 0 * 1 = 0 from rfl] at hw197_0);(try rw [Addr.add_zero'] at hw197_0)
           cases e197
           have qi197 : (0 < (zh l1 x9_1).length) = True := eq_true (by omega);(try rw [show ((0 : Int)).toNat = 0 from rfl] at hx197_0);(try rw [Addr.add_zero'] at hx197_0);replace hx197_0 := (HB.out.cell (World.block_lt_of_cell? w _ hx197_0)).trans hx197_0;replace p197 := eq_true p197;replace q197 := eq_true q197;have p199 : 0 ≤ (1 : Int) := (by omega);have q199 : 1 < ((zh l1 x9_1).length : Int) := of_decide_eq_true Zas;obtain ⟨ad199, e199, hx199_0⟩ := Kd.zbq HR196_0.out 1 p199 q199;have hw199_0 := hx199_0;(try rw [show ((1 : Int)).toNat = 1 from rfl] at hw199_0);(try rw [show 1 * 1 = 1 from rfl] at hw199_0);(try simp only [Nat.reduceMul, Nat.reduceEqDiff, Go.Addr.add, ↓reduceIte] at hw199_0);obtain rfl : ad197 = ad199 := (by injection e199);(try simp only [show (1 : Int).toNat = 1 from rfl, Nat.reduceMul, Nat.reduceEqDiff, Go.Addr.add, ↓reduceIte] at hx199_0);have qi199 : (1 < (zh l1 x9_1).length) = True := eq_true (by omega);(try rw [show ((1 : Int)).toNat = 1 from rfl] at hx199_0);replace hx199_0 := (HB.out.cell (World.block_lt_of_cell? w _ hx199_0)).trans hx199_0;replace p199 := eq_true p199;replace q199 := eq_true q199;have p200 : 0 ≤ (0 : Int) := (by omega);have q200 : 0 < ((zh l1 x9_1).length : Int) := of_decide_eq_true Zas;obtain ⟨ad200, e200, hx200_0⟩ := Kd.zbq HR196_0.out 0 p200 q200;have hw200_0 := hx200_0;(try rw [show ((0 : Int)).toNat = 0 from rfl] at hw200_0);(try rw [show 0 * 1 = 0 from rfl] at hw200_0);(try rw [Addr.add_zero'] at hw200_0);obtain rfl : ad197 = ad200 := (by injection e200);have qi200 : (0 < (zh l1 x9_1).length) = True := eq_true (by omega);(try rw [show ((0 : Int)).toNat = 0 from rfl] at hx200_0);(try rw [Addr.add_zero'] at hx200_0);replace hx200_0 := (HB.out.cell (World.block_lt_of_cell? w _ hx200_0)).trans hx200_0;replace p200 := eq_true p200;replace q200 := eq_true q200;refine zdl (n := 35) (S := fun w' => w'.cell? ad197 = some (.int .i64 (rd (zh l1 x9_1) 0)) ∧ w'.cell? ⟨ad197.block, ad197.off + 1, none⟩ = some (.int .i64 (rd (zh l1 x9_1) 1)) ∧ w'.cell? ad197 = some (.int .i64 (rd (zh l1 x9_1) 0))) (ds := []) #[false, false, false, false, false, false, false, false, false, false, false, false, false, false, false, false, false, false, false, false, false, false, false, false, false, false, false, false, false, false, false, false, false, false, false] (by kernel_rfl) rfl rfl ⟨((HB.out.cell (World.block_lt_of_cell? w _ hw197_0)).trans hw197_0), ((HB.out.cell (World.block_lt_of_cell? w _ hw199_0)).trans hw199_0), ((HB.out.cell (World.block_lt_of_cell? w _ hw200_0)).trans hw200_0)⟩ (fun hHeld => ?_); refine zb9 zm.tab4 zm.bits4 (fun HT_ HW_ => ?_);generalize wr.drew = w16 at HB hx197_0 hx199_0 hx200_0 hHeld ⊢;refine zi (i := 0) (N := some 13) (v := ?_) (a' := ?_) #[true, false, false, false, false, false, false, false, false, false, false, false, false, false, false, false, false, false, false, false, false, false, false, false, false, false, false, false, false, false, false, false, false, false, false] rfl rfl (zb HT_.out (by kernel_rfl)) (fun _ _ _ h => h) (Or.inl ⟨by rfl, ?_⟩) ?_ ?_;rotate_left
           ·intro w'
            go_simp;with_reducible rfl
           rotate_left
           ·simp only [Act.put, Zs1, Zs2, Zs3, ze, zf]
            rfl
           refine zi (i := 1) (N := some 14) (v := ?_) (a' := ?_) #[true, true, false, false, false, false, false, false, false, false, false, false, false, false, false, false, false, false, false, false, false, false, false, false, false, false, false, false, false, false, false, false, false, false, false] rfl rfl (zb HT_.out (by kernel_rfl)) (fun _ _ _ h => h) (Or.inl ⟨by rfl, ?_⟩) ?_ ?_;rotate_left
           ·intro w'
            go_simp;with_reducible rfl
           rotate_left
           ·simp only [Act.put, Zs1, Zs2, Zs3, ze, zf]
            rfl
           refine zi (i := 2) (N := some 15) (v := ?_) (a' := ?_) #[true, true, true, false, false, false, false, false, false, false, false, false, false, false, false, false, false, false, false, false, false, false, false, false, false, false, false, false, false, false, false, false, false, false, false] rfl rfl (zb HT_.out (by kernel_rfl)) (fun _ _ _ h => h) (Or.inl ⟨by rfl, ?_⟩) ?_ ?_;rotate_left
           ·intro w'
            go_simp;with_reducible rfl
           rotate_left
           ·simp only [Act.put, Zs1, Zs2, Zs3, ze, zf]
            rfl
           refine zi (i := 3) (N := some 16) (v := ?_) (a' := ?_) #[true, true, true, true, false, false, false, false, false, false, false, false, false, false, false, false, false, false, false, false, false, false, false, false, false, false, false, false, false, false, false, false, false, false, false] rfl rfl (zb HT_.out (by kernel_rfl)) (fun _ _ _ h => h) (Or.inl ⟨by rfl, ?_⟩) ?_ ?_;rotate_left
           ·intro w'
            go_simp;with_reducible rfl
           rotate_left
           ·simp only [Act.put, Zs1, Zs2, Zs3, ze, zf]
            rfl
           refine zi (i := 4) (N := some 17) (v := ?_) (a' := ?_) #[true, true, true, true, true, false, false, false, false, false, false, false, false, false, false, false, false, false, false, false, false, false, false, false, false, false, false, false, false, false, false, false, false, false, false] rfl rfl (zb HT_.out (by kernel_rfl)) (fun _ _ _ h => h) (Or.inl ⟨by rfl, ?_⟩) ?_ ?_;rotate_left
           ·intro w'
            go_simp;with_reducible rfl
           rotate_left
           ·simp only [Act.put, Zs1, Zs2, Zs3, ze, zf]
            rfl
           refine zi (i := 5) (N := some 18) (v := ?_) (a' := ?_) #[true, true, true, true, true, true, false, false, false, false, false, false, false, false, false, false, false, false, false, false, false, false, false, false, false, false, false, false, false, false, false, false, false, false, false] rfl rfl (zb HT_.out (by kernel_rfl)) (fun _ _ _ h => h) (Or.inl ⟨by rfl, ?_⟩) ?_ ?_;rotate_left
           ·intro w'
            go_simp;with_reducible rfl
           rotate_left
           ·simp only [Act.put, Zs1, Zs2, Zs3, ze, zf]
            rfl
           refine zi (i := 7) (N := some 20) (v := ?_) (a' := ?_) #[true, true, true, true, true, true, false, true, false, false, false, false, false, false, false, false, false, false, false, false, false, false, false, false, false, false, false, false, false, false, false, false, false, false, false] rfl rfl (zb HT_.out (by kernel_rfl)) (fun _ _ _ h => h) (Or.inl ⟨by rfl, ?_⟩) ?_ ?_;rotate_left
           ·intro w'
            go_simp;with_reducible rfl
           rotate_left
           ·simp only [Act.put, Zs1, Zs2, Zs3, ze, zf]
            rfl
           refine zi (i := 8) (N := some 21) (v := ?_) (a' := ?_) #[true, true, true, true, true, true, false, true, true, false, false, false, false, false, false, false, false, false, false, false, false, false, false, false, false, false, false, false, false, false, false, false, false, false, false] rfl rfl (zb HT_.out (by kernel_rfl)) (fun _ _ _ h => h) (Or.inl ⟨by rfl, ?_⟩) ?_ ?_;rotate_left
           ·intro w'
            go_simp;with_reducible rfl
           rotate_left
           ·simp only [Act.put, Zs1, Zs2, Zs3, ze, zf]
            rfl
           refine zi (i := 9) (N := some 22) (v := ?_) (a' := ?_) #[true, true, true, true, true, true, false, true, true, true, false, false, false, false, false, false, false, false, false, false, false, false, false, false, false, false, false, false, false, false, false, false, false, false, false] rfl rfl (zb HT_.out (by kernel_rfl)) (fun _ _ _ h => h) (Or.inl ⟨by rfl, ?_⟩) ?_ ?_;rotate_left
           ·intro w'
            go_simp;with_reducible rfl
           rotate_left
           ·simp only [Act.put, Zs1, Zs2, Zs3, ze, zf]
            rfl
           refine zb3 (i := 6) (N := some 19) (v := ?_) (a' := ?_) #[true, true, true, true, true, true, true, true, true, true, false, false, false, false, false, false, false, false, false, false, false, false, false, false, false, false, false, false, false, false, false, false, false, false, false] rfl rfl (zbf HT_.out HW_.out (by kernel_rfl)) (fun _ _ _ h => h) (Or.inl ⟨by rfl, ?_⟩) hHeld ?_ ?_;rotate_left
           ·rintro w' ⟨s0, s1, s2⟩
            go_simp;with_reducible rfl
           rotate_left
           ·simp only [Act.put, Zs1, Zs2, Zs3, ze, zf]
            rfl
           refine one_ (i := 10) (N := some 23) #[true, true, true, true, true, true, true, true, true, true, true, false, false, false, false, false, false, false, false, false, false, false, false, false, false, false, false, false, false, false, false, false, false, false, false] rfl rfl (zdb HT_.out (by kernel_rfl)) (by decide) (fun K hK => ?_);refine ze4 Try.func52 (by kernel_rfl) rfl #[.int .i64 (rd (zh l1 x9_1) 0), .int .i64 0, .int .i64 (wrap64 ((l0.length : Int) - 1))] (by rfl) rfl rfl Zmt ?_;with_reducible refine (zb5.calls (rd (zh l1 x9_1) 0) 0 (wrap64 ((l0.length : Int) - 1)) true _ A8.out).mono ?_
           rintro e w' ⟨rfl, ⟨nd, rfl⟩⟩;refine ⟨_, rfl, ?_⟩;refine hK.out _ _ ⟨((HB.out.cell (World.block_lt_of_cell? w _ hw197_0)).trans hw197_0), ((HB.out.cell (World.block_lt_of_cell? w _ hw199_0)).trans hw199_0), ((HB.out.cell (World.block_lt_of_cell? w _ hw200_0)).trans hw200_0)⟩ (fun hHeld => ?_);clear hK K;refine zeu (a' := ?_) ?_ ?_;rotate_left
           ·show Act.put _ (some 23) _ = _
            simp only [Act.put, Zs1, Zs2, Zs3, ze, zf];rfl
           refine zi (i := 11) (N := some 24) (v := ?_) (a' := ?_) #[true, true, true, true, true, true, true, true, true, true, true, true, false, false, false, false, false, false, false, false, false, false, false, false, false, false, false, false, false, false, false, false, false, false, false] rfl rfl (zb HT_.out (by kernel_rfl)) (fun _ _ _ h => h) (Or.inl ⟨by rfl, ?_⟩) ?_ ?_;rotate_left
           ·intro w'
            go_simp;with_reducible rfl
           rotate_left
           ·simp only [Act.put, Zs1, Zs2, Zs3, ze, zf]
            rfl
           refine zi (i := 12) (N := some 25) (v := ?_) (a' := ?_) #[true, true, true, true, true, true, true, true, true, true, true, true, true, false, false, false, false, false, false, false, false, false, false, false, false, false, false, false, false, false, false, false, false, false, false] rfl rfl (zb HT_.out (by kernel_rfl)) (fun _ _ _ h => h) (Or.inl ⟨by rfl, ?_⟩) ?_ ?_;rotate_left
           ·intro w'
            go_simp;with_reducible rfl
           rotate_left
           ·simp only [Act.put, Zs1, Zs2, Zs3, ze, zf]
            rfl
           refine zi (i := 13) (N := some 26) (v := ?_) (a' := ?_) #[true, true, true, true, true, true, true, true, true, true, true, true, true, true, false, false, false, false, false, false, false, false, false, false, false, false, false, false, false, false, false, false, false, false, false] rfl rfl (zb HT_.out (by kernel_rfl)) (fun _ _ _ h => h) (Or.inl ⟨by rfl, ?_⟩) ?_ ?_;rotate_left
           ·intro w'
            go_simp;with_reducible rfl
           rotate_left
           ·simp only [Act.put, Zs1, Zs2, Zs3, ze, zf]
            rfl
           refine zi (i := 14) (N := some 27) (v := ?_) (a' := ?_) #[true, true, true, true, true, true, true, true, true, true, true, true, true, true, true, false, false, false, false, false, false, false, false, false, false, false, false, false, false, false, false, false, false, false, false] rfl rfl (zb HT_.out (by kernel_rfl)) (fun _ _ _ h => h) (Or.inl ⟨by rfl, ?_⟩) ?_ ?_;rotate_left
           ·intro w'
            go_simp;with_reducible rfl
           rotate_left
           ·simp only [Act.put, Zs1, Zs2, Zs3, ze, zf]
            rfl
           refine zi (i := 15) (N := some 28) (v := ?_) (a' := ?_) #[true, true, true, true, true, true, true, true, true, true, true, true, true, true, true, true, false, false, false, false, false, false, false, false, false, false, false, false, false, false, false, false, false, false, false] rfl rfl (zb HT_.out (by kernel_rfl)) (fun _ _ _ h => h) (Or.inl ⟨by rfl, ?_⟩) ?_ ?_;rotate_left
           ·intro w'
            go_simp;with_reducible rfl
           rotate_left
           ·simp only [Act.put, Zs1, Zs2, Zs3, ze, zf]
            rfl
           refine zi (i := 17) (N := some 30) (v := ?_) (a' := ?_) #[true, true, true, true, true, true, true, true, true, true, true, true, true, true, true, true, false, true, false, false, false, false, false, false, false, false, false, false, false, false, false, false, false, false, false] rfl rfl (zb HT_.out (by kernel_rfl)) (fun _ _ _ h => h) (Or.inl ⟨by rfl, ?_⟩) ?_ ?_;rotate_left
           ·intro w'
            go_simp;with_reducible rfl
           rotate_left
           ·simp only [Act.put, Zs1, Zs2, Zs3, ze, zf]
            rfl
           refine zi (i := 18) (N := some 31) (v := ?_) (a' := ?_) #[true, true, true, true, true, true, true, true, true, true, true, true, true, true, true, true, false, true, true, false, false, false, false, false, false, false, false, false, false, false, false, false, false, false, false] rfl rfl (zb HT_.out (by kernel_rfl)) (fun _ _ _ h => h) (Or.inl ⟨by rfl, ?_⟩) ?_ ?_;rotate_left
           ·intro w'
            go_simp;with_reducible rfl
           rotate_left
           ·simp only [Act.put, Zs1, Zs2, Zs3, ze, zf]
            rfl
           refine zi (i := 20) (N := some 33) (v := ?_) (a' := ?_) #[true, true, true, true, true, true, true, true, true, true, true, true, true, true, true, true, false, true, true, false, true, false, false, false, false, false, false, false, false, false, false, false, false, false, false] rfl rfl (zb HT_.out (by kernel_rfl)) (fun _ _ _ h => h) (Or.inl ⟨by rfl, ?_⟩) ?_ ?_;rotate_left
           ·intro w'
            go_simp;with_reducible rfl
           rotate_left
           ·simp only [Act.put, Zs1, Zs2, Zs3, ze, zf]
            rfl
           refine zi (i := 21) (N := some 34) (v := ?_) (a' := ?_) #[true, true, true, true, true, true, true, true, true, true, true, true, true, true, true, true, false, true, true, false, true, true, false, false, false, false, false, false, false, false, false, false, false, false, false] rfl rfl (zb HT_.out (by kernel_rfl)) (fun _ _ _ h => h) (Or.inl ⟨by rfl, ?_⟩) ?_ ?_;rotate_left
           ·intro w'
            go_simp;with_reducible rfl
           rotate_left
           ·simp only [Act.put, Zs1, Zs2, Zs3, ze, zf]
            rfl
           refine zi (i := 22) (N := some 35) (v := ?_) (a' := ?_) #[true, true, true, true, true, true, true, true, true, true, true, true, true, true, true, true, false, true, true, false, true, true, true, false, false, false, false, false, false, false, false, false, false, false, false] rfl rfl (zb HT_.out (by kernel_rfl)) (fun _ _ _ h => h) (Or.inl ⟨by rfl, ?_⟩) ?_ ?_;rotate_left
           ·intro w'
            go_simp;with_reducible rfl
           rotate_left
           ·simp only [Act.put, Zs1, Zs2, Zs3, ze, zf]
            rfl
           refine zb3 (i := 16) (N := some 29) (v := ?_) (a' := ?_) #[true, true, true, true, true, true, true, true, true, true, true, true, true, true, true, true, true, true, true, false, true, true, true, false, false, false, false, false, false, false, false, false, false, false, false] rfl rfl (zbf HT_.out HW_.out (by kernel_rfl)) (fun _ _ _ h => h) (Or.inl ⟨by rfl, ?_⟩) hHeld ?_ ?_;rotate_left
           ·rintro w' ⟨s0, s1, s2⟩
            go_simp;with_reducible rfl
           rotate_left
           ·simp only [Act.put, Zs1, Zs2, Zs3, ze, zf]
            rfl
           refine zb3 (i := 19) (N := some 32) (v := ?_) (a' := ?_) #[true, true, true, true, true, true, true, true, true, true, true, true, true, true, true, true, true, true, true, true, true, true, true, false, false, false, false, false, false, false, false, false, false, false, false] rfl rfl (zbf HT_.out HW_.out (by kernel_rfl)) (fun _ _ _ h => h) (Or.inl ⟨by rfl, ?_⟩) hHeld ?_ ?_;rotate_left
           ·rintro w' ⟨s0, s1, s2⟩
            go_simp;with_reducible rfl
           rotate_left
           ·simp only [Act.put, Zs1, Zs2, Zs3, ze, zf]
            rfl
           refine one_ (i := 23) (N := some 36) #[true, true, true, true, true, true, true, true, true, true, true, true, true, true, true, true, true, true, true, true, true, true, true, true, false, false, false, false, false, false, false, false, false, false, false] rfl rfl (zdb HT_.out (by kernel_rfl)) (by decide) (fun K hK => ?_);refine ze4 Try.func52 (by kernel_rfl) rfl #[.int .i64 (rd (zh l1 x9_1) 1), .int .i64 (rd (zh l1 x9_1) 0), .int .i64 (wrap64 ((l0.length : Int) - 1))] (by rfl) rfl rfl Zmt ?_;with_reducible refine (zb5.calls (rd (zh l1 x9_1) 1) (rd (zh l1 x9_1) 0) (wrap64 ((l0.length : Int) - 1)) false _ A11.out).mono ?_
           rintro e w' ⟨rfl, ⟨nd, rfl⟩⟩;refine ⟨_, rfl, ?_⟩;refine hK.out _ _ ⟨((HB.out.cell (World.block_lt_of_cell? w _ hw197_0)).trans hw197_0), ((HB.out.cell (World.block_lt_of_cell? w _ hw199_0)).trans hw199_0), ((HB.out.cell (World.block_lt_of_cell? w _ hw200_0)).trans hw200_0)⟩ (fun hHeld => ?_);clear hK K;refine zeu (a' := ?_) ?_ ?_;rotate_left
           ·show Act.put _ (some 36) _ = _
            simp only [Act.put, Zs1, Zs2, Zs3, ze, zf];rfl
           refine zi (i := 24) (N := some 37) (v := ?_) (a' := ?_) #[true, true, true, true, true, true, true, true, true, true, true, true, true, true, true, true, true, true, true, true, true, true, true, true, true, false, false, false, false, false, false, false, false, false, false] rfl rfl (zb HT_.out (by kernel_rfl)) (fun _ _ _ h => h) (Or.inl ⟨by rfl, ?_⟩) ?_ ?_;rotate_left
           ·intro w'
            go_simp;with_reducible rfl
           rotate_left
           ·simp only [Act.put, Zs1, Zs2, Zs3, ze, zf]
            rfl
           refine zi (i := 25) (N := some 38) (v := ?_) (a' := ?_) #[true, true, true, true, true, true, true, true, true, true, true, true, true, true, true, true, true, true, true, true, true, true, true, true, true, true, false, false, false, false, false, false, false, false, false] rfl rfl (zb HT_.out (by kernel_rfl)) (fun _ _ _ h => h) (Or.inl ⟨by rfl, ?_⟩) ?_ ?_;rotate_left
           ·intro w'
            go_simp;with_reducible rfl
           rotate_left
           ·simp only [Act.put, Zs1, Zs2, Zs3, ze, zf]
            rfl
           refine zi (i := 26) (N := some 39) (v := ?_) (a' := ?_) #[true, true, true, true, true, true, true, true, true, true, true, true, true, true, true, true, true, true, true, true, true, true, true, true, true, true, true, false, false, false, false, false, false, false, false] rfl rfl (zb HT_.out (by kernel_rfl)) (fun _ _ _ h => h) (Or.inl ⟨by rfl, ?_⟩) ?_ ?_;rotate_left
           ·intro w'
            go_simp;with_reducible rfl
           rotate_left
           ·simp only [Act.put, Zs1, Zs2, Zs3, ze, zf]
            rfl
           refine zi (i := 27) (N := some 40) (v := undef) (a' := ?_) #[true, true, true, true, true, true, true, true, true, true, true, true, true, true, true, true, true, true, true, true, true, true, true, true, true, true, true, true, false, false, false, false, false, false, false] rfl rfl (zb HT_.out (by kernel_rfl)) (fun _ _ _ h => h) (Or.inr ⟨by rfl, rfl⟩) ?_ ?_;rotate_left
           ·simp only [Act.put, Zs1, Zs2, Zs3, ze, zf]
            rfl
           refine zi (i := 28) (N := some 41) (v := undef) (a' := ?_) #[true, true, true, true, true, true, true, true, true, true, true, true, true, true, true, true, true, true, true, true, true, true, true, true, true, true, true, true, true, false, false, false, false, false, false] rfl rfl (zb HT_.out (by kernel_rfl)) (fun _ _ _ h => h) (Or.inr ⟨by rfl, rfl⟩) ?_ ?_;rotate_left
           ·simp only [Act.put, Zs1, Zs2, Zs3, ze, zf]
            rfl
           refine zi (i := 29) (N := some 42) (v := undef) (a' := ?_) #[true, true, true, true, true, true, true, true, true, true, true, true, true, true, true, true, true, true, true, true, true, true, true, true, true, true, true, true, true, true, false, false, false, false, false] rfl rfl (zb HT_.out (by kernel_rfl)) (fun _ _ _ h => h) (Or.inr ⟨by rfl, rfl⟩) ?_ ?_;rotate_left
           ·simp only [Act.put, Zs1, Zs2, Zs3, ze, zf]
            rfl
           refine zi (i := 30) (N := some 43) (v := undef) (a' := ?_) #[true, true, true, true, true, true, true, true, true, true, true, true, true, true, true, true, true, true, true, true, true, true, true, true, true, true, true, true, true, true, true, false, false, false, false] rfl rfl (zb HT_.out (by kernel_rfl)) (fun _ _ _ h => h) (Or.inr ⟨by rfl, rfl⟩) ?_ ?_;rotate_left
           ·simp only [Act.put, Zs1, Zs2, Zs3, ze, zf]
            rfl
           refine zi (i := 31) (N := some 44) (v := undef) (a' := ?_) #[true, true, true, true, true, true, true, true, true, true, true, true, true, true, true, true, true, true, true, true, true, true, true, true, true, true, true, true, true, true, true, true, false, false, false] rfl rfl (zb HT_.out (by kernel_rfl)) (fun _ _ _ h => h) (Or.inr ⟨by rfl, rfl⟩) ?_ ?_;rotate_left
           ·simp only [Act.put, Zs1, Zs2, Zs3, ze, zf]
            rfl
           refine zi (i := 32) (N := some 45) (v := undef) (a' := ?_) #[true, true, true, true, true, true, true, true, true, true, true, true, true, true, true, true, true, true, true, true, true, true, true, true, true, true, true, true, true, true, true, true, true, false, false] rfl rfl (zb HT_.out (by kernel_rfl)) (fun _ _ _ h => h) (Or.inr ⟨by rfl, rfl⟩) ?_ ?_;rotate_left
           ·simp only [Act.put, Zs1, Zs2, Zs3, ze, zf]
            rfl
           refine zi (i := 33) (N := some 46) (v := undef) (a' := ?_) #[true, true, true, true, true, true, true, true, true, true, true, true, true, true, true, true, true, true, true, true, true, true, true, true, true, true, true, true, true, true, true, true, true, true, false] rfl rfl (zb HT_.out (by kernel_rfl)) (fun _ _ _ h => h) (Or.inr ⟨by rfl, rfl⟩) ?_ ?_;rotate_left
           ·simp only [Act.put, Zs1, Zs2, Zs3, ze, zf]
            rfl
           refine zi (i := 34) (N := some 47) (v := ?_) (a' := ?_) #[true, true, true, true, true, true, true, true, true, true, true, true, true, true, true, true, true, true, true, true, true, true, true, true, true, true, true, true, true, true, true, true, true, true, true] rfl rfl (zb HT_.out (by kernel_rfl)) (fun _ _ _ h => h) (Or.inl ⟨by rfl, ?_⟩) ?_ ?_;rotate_left
           ·intro w'
            go_simp;with_reducible rfl
           rotate_left
           ·simp only [Act.put, Zs1, Zs2, Zs3, ze, zf]
            rfl
           refine zeg (zct HT_.out (by kernel_rfl)) ?_
           try go_wp2
           go_ret;exact ⟨by first | rfl | (simp [zq, zt] <;> rfl) | (simp [*, zq, zt] <;> rfl), Zq1 HB⟩
         ·rw [if_neg c10] at H
          exact absurd H (by simp)
        ·replace c9 := Bool.eq_false_iff.mpr c9
         subst c9;have H1 : (some false) = some r := by rw [if_neg (show ¬ (false = true) by decide)] at H; exact H
         clear H;have H := H1;clear H1;obtain rfl := Option.some.inj H;have p196 : 0 ≤ (x9_1 : Int) := of_decide_eq_true Zas;have q196 : x9_1 < (l1.length : Int) := of_decide_eq_true Zas;obtain ⟨ad196, A196_0, c196_0, e196, hx196_0, hl196_0, hi196_0⟩ := zc6 HR1.out x9_1 p196 q196
         cases e196
         replace hx196_0 := (HB.out.cell (World.block_lt_of_cell? w _ hx196_0)).trans hx196_0;have HR196_0 := za.mk hi196_0;have HC196_0 := za.mk hl196_0;clear hi196_0 hl196_0;replace p196 := eq_true p196;replace q196 := eq_true q196
         try go_wp2
         have n0_ := za.mk (zbr HB.out);clear HB;have HB := n0_;clear n0_;have p197 : 0 ≤ (0 : Int) := (by omega);have q197 : 0 < ((zh l1 x9_1).length : Int) := of_decide_eq_true Zas;obtain ⟨ad197, e197, hx197_0⟩ := Kd.zbq HR196_0.out 0 p197 q197;have hw197_0 := hx197_0;(try rw [show ((0 : Int)).toNat = 0 from rfl] at hw197_0);(try rw [show 0 * 1 = 0 from rfl] at hw197_0);(try rw [Addr.add_zero'] at hw197_0)
         cases e197
         have qi197 : (0 < (zh l1 x9_1).length) = True := eq_true (by omega);(try rw [show ((0 : Int)).toNat = 0 from rfl] at hx197_0);(try rw [Addr.add_zero'] at hx197_0);replace hx197_0 := (HB.out.cell (World.block_lt_of_cell? w _ hx197_0)).trans hx197_0;replace p197 := eq_true p197;replace q197 := eq_true q197;refine zdl (n := 35) (S := fun w' => w'.cell? ad197 = some (.int .i64 (rd (zh l1 x9_1) 0))) (ds := []) #[false, false, false, false, false, false, false, false, false, false, false, false, false, false, false, false, false, false, false, false, false, false, false, false, false, false, false, false, false, false, false, false, false, false, false] (by kernel_rfl) rfl rfl (((HB.out.cell (World.block_lt_of_cell? w _ hw197_0)).trans hw197_0)) (fun hHeld => ?_); refine zb9 zm.tab4 zm.bits4 (fun HT_ HW_ => ?_);generalize wr.drew = w17 at HB hx197_0 hHeld ⊢;refine zi (i := 0) (N := some 13) (v := ?_) (a' := ?_) #[true, false, false, false, false, false, false, false, false, false, false, false, false, false, false, false, false, false, false, false, false, false, false, false, false, false, false, false, false, false, false, false, false, false, false] rfl rfl (zb HT_.out (by kernel_rfl)) (fun _ _ _ h => h) (Or.inl ⟨by rfl, ?_⟩) ?_ ?_;rotate_left
         ·intro w'
          go_simp;with_reducible rfl
         rotate_left
         ·simp only [Act.put, Zs1, Zs2, Zs3, ze, zf]
          rfl
         refine zi (i := 1) (N := some 14) (v := ?_) (a' := ?_) #[true, true, false, false, false, false, false, false, false, false, false, false, false, false, false, false, false, false, false, false, false, false, false, false, false, false, false, false, false, false, false, false, false, false, false] rfl rfl (zb HT_.out (by kernel_rfl)) (fun _ _ _ h => h) (Or.inl ⟨by rfl, ?_⟩) ?_ ?_;rotate_left
         ·intro w'
          go_simp;with_reducible rfl
         rotate_left
         ·simp only [Act.put, Zs1, Zs2, Zs3, ze, zf]
          rfl
         refine zi (i := 2) (N := some 15) (v := ?_) (a' := ?_) #[true, true, true, false, false, false, false, false, false, false, false, false, false, false, false, false, false, false, false, false, false, false, false, false, false, false, false, false, false, false, false, false, false, false, false] rfl rfl (zb HT_.out (by kernel_rfl)) (fun _ _ _ h => h) (Or.inl ⟨by rfl, ?_⟩) ?_ ?_;rotate_left
         ·intro w'
          go_simp;with_reducible rfl
         rotate_left
         ·simp only [Act.put, Zs1, Zs2, Zs3, ze, zf]
          rfl
         refine zi (i := 3) (N := some 16) (v := ?_) (a' := ?_) #[true, true, true, true, false, false, false, false, false, false, false, false, false, false, false, false, false, false, false, false, false, false, false, false, false, false, false, false, false, false, false, false, false, false, false] rfl rfl (zb HT_.out (by kernel_rfl)) (fun _ _ _ h => h) (Or.inl ⟨by rfl, ?_⟩) ?_ ?_;rotate_left
         ·intro w'
          go_simp;with_reducible rfl
         rotate_left
         ·simp only [Act.put, Zs1, Zs2, Zs3, ze, zf]
          rfl
         refine zi (i := 4) (N := some 17) (v := ?_) (a' := ?_) #[true, true, true, true, true, false, false, false, false, false, false, false, false, false, false, false, false, false, false, false, false, false, false, false, false, false, false, false, false, false, false, false, false, false, false] rfl rfl (zb HT_.out (by kernel_rfl)) (fun _ _ _ h => h) (Or.inl ⟨by rfl, ?_⟩) ?_ ?_;rotate_left
         ·intro w'
          go_simp;with_reducible rfl
         rotate_left
         ·simp only [Act.put, Zs1, Zs2, Zs3, ze, zf]
          rfl
         refine zi (i := 5) (N := some 18) (v := ?_) (a' := ?_) #[true, true, true, true, true, true, false, false, false, false, false, false, false, false, false, false, false, false, false, false, false, false, false, false, false, false, false, false, false, false, false, false, false, false, false] rfl rfl (zb HT_.out (by kernel_rfl)) (fun _ _ _ h => h) (Or.inl ⟨by rfl, ?_⟩) ?_ ?_;rotate_left
         ·intro w'
          go_simp;with_reducible rfl
         rotate_left
         ·simp only [Act.put, Zs1, Zs2, Zs3, ze, zf]
          rfl
         refine zi (i := 7) (N := some 20) (v := ?_) (a' := ?_) #[true, true, true, true, true, true, false, true, false, false, false, false, false, false, false, false, false, false, false, false, false, false, false, false, false, false, false, false, false, false, false, false, false, false, false] rfl rfl (zb HT_.out (by kernel_rfl)) (fun _ _ _ h => h) (Or.inl ⟨by rfl, ?_⟩) ?_ ?_;rotate_left
         ·intro w'
          go_simp;with_reducible rfl
         rotate_left
         ·simp only [Act.put, Zs1, Zs2, Zs3, ze, zf]
          rfl
         refine zi (i := 8) (N := some 21) (v := ?_) (a' := ?_) #[true, true, true, true, true, true, false, true, true, false, false, false, false, false, false, false, false, false, false, false, false, false, false, false, false, false, false, false, false, false, false, false, false, false, false] rfl rfl (zb HT_.out (by kernel_rfl)) (fun _ _ _ h => h) (Or.inl ⟨by rfl, ?_⟩) ?_ ?_;rotate_left
         ·intro w'
          go_simp;with_reducible rfl
         rotate_left
         ·simp only [Act.put, Zs1, Zs2, Zs3, ze, zf]
          rfl
         refine zi (i := 9) (N := some 22) (v := ?_) (a' := ?_) #[true, true, true, true, true, true, false, true, true, true, false, false, false, false, false, false, false, false, false, false, false, false, false, false, false, false, false, false, false, false, false, false, false, false, false] rfl rfl (zb HT_.out (by kernel_rfl)) (fun _ _ _ h => h) (Or.inl ⟨by rfl, ?_⟩) ?_ ?_;rotate_left
         ·intro w'
          go_simp;with_reducible rfl
         rotate_left
         ·simp only [Act.put, Zs1, Zs2, Zs3, ze, zf]
          rfl
         refine zb3 (i := 6) (N := some 19) (v := ?_) (a' := ?_) #[true, true, true, true, true, true, true, true, true, true, false, false, false, false, false, false, false, false, false, false, false, false, false, false, false, false, false, false, false, false, false, false, false, false, false] rfl rfl (zbf HT_.out HW_.out (by kernel_rfl)) (fun _ _ _ h => h) (Or.inl ⟨by rfl, ?_⟩) hHeld ?_ ?_;rotate_left
         ·intro w' s0
          go_simp;with_reducible rfl
         rotate_left
         ·simp only [Act.put, Zs1, Zs2, Zs3, ze, zf]
          rfl
         refine one_ (i := 10) (N := some 23) #[true, true, true, true, true, true, true, true, true, true, true, false, false, false, false, false, false, false, false, false, false, false, false, false, false, false, false, false, false, false, false, false, false, false, false] rfl rfl (zdb HT_.out (by kernel_rfl)) (by decide) (fun K hK => ?_);refine ze4 Try.func52 (by kernel_rfl) rfl #[.int .i64 (rd (zh l1 x9_1) 0), .int .i64 0, .int .i64 (wrap64 ((l0.length : Int) - 1))] (by rfl) rfl rfl Zmt ?_;with_reducible refine (zb5.calls (rd (zh l1 x9_1) 0) 0 (wrap64 ((l0.length : Int) - 1)) false _ A8.out).mono ?_
         rintro e w' ⟨rfl, ⟨nd, rfl⟩⟩;refine ⟨_, rfl, ?_⟩;refine hK.out _ _ (((HB.out.cell (World.block_lt_of_cell? w _ hw197_0)).trans hw197_0)) (fun hHeld => ?_);clear hK K;refine zeu (a' := ?_) ?_ ?_;rotate_left
         ·show Act.put _ (some 23) _ = _
          simp only [Act.put, Zs1, Zs2, Zs3, ze, zf];rfl
         refine zi (i := 11) (N := some 24) (v := ?_) (a' := ?_) #[true, true, true, true, true, true, true, true, true, true, true, true, false, false, false, false, false, false, false, false, false, false, false, false, false, false, false, false, false, false, false, false, false, false, false] rfl rfl (zb HT_.out (by kernel_rfl)) (fun _ _ _ h => h) (Or.inl ⟨by rfl, ?_⟩) ?_ ?_;rotate_left
         ·intro w'
          go_simp;with_reducible rfl
         rotate_left
         ·simp only [Act.put, Zs1, Zs2, Zs3, ze, zf]
          rfl
         refine zi (i := 12) (N := some 25) (v := ?_) (a' := ?_) #[true, true, true, true, true, true, true, true, true, true, true, true, true, false, false, false, false, false, false, false, false, false, false, false, false, false, false, false, false, false, false, false, false, false, false] rfl rfl (zb HT_.out (by kernel_rfl)) (fun _ _ _ h => h) (Or.inl ⟨by rfl, ?_⟩) ?_ ?_;rotate_left
         ·intro w'
          go_simp;with_reducible rfl
         rotate_left
         ·simp only [Act.put, Zs1, Zs2, Zs3, ze, zf]
          rfl
         refine zi (i := 13) (N := some 26) (v := ?_) (a' := ?_) #[true, true, true, true, true, true, true, true, true, true, true, true, true, true, false, false, false, false, false, false, false, false, false, false, false, false, false, false, false, false, false, false, false, false, false] rfl rfl (zb HT_.out (by kernel_rfl)) (fun _ _ _ h => h) (Or.inl ⟨by rfl, ?_⟩) ?_ ?_;rotate_left
         ·intro w'
          go_simp;with_reducible rfl
         rotate_left
         ·simp only [Act.put, Zs1, Zs2, Zs3, ze, zf]
          rfl
         refine zi (i := 14) (N := some 27) (v := undef) (a' := ?_) #[true, true, true, true, true, true, true, true, true, true, true, true, true, true, true, false, false, false, false, false, false, false, false, false, false, false, false, false, false, false, false, false, false, false, false] rfl rfl (zb HT_.out (by kernel_rfl)) (fun _ _ _ h => h) (Or.inr ⟨by rfl, rfl⟩) ?_ ?_;rotate_left
         ·simp only [Act.put, Zs1, Zs2, Zs3, ze, zf]
          rfl
         refine zi (i := 15) (N := some 28) (v := undef) (a' := ?_) #[true, true, true, true, true, true, true, true, true, true, true, true, true, true, true, true, false, false, false, false, false, false, false, false, false, false, false, false, false, false, false, false, false, false, false] rfl rfl (zb HT_.out (by kernel_rfl)) (fun _ _ _ h => h) (Or.inr ⟨by rfl, rfl⟩) ?_ ?_;rotate_left
         ·simp only [Act.put, Zs1, Zs2, Zs3, ze, zf]
          rfl
         refine zi (i := 16) (N := some 29) (v := undef) (a' := ?_) #[true, true, true, true, true, true, true, true, true, true, true, true, true, true, true, true, true, false, false, false, false, false, false, false, false, false, false, false, false, false, false, false, false, false, false] rfl rfl (zb HT_.out (by kernel_rfl)) (fun _ _ _ h => h) (Or.inr ⟨by rfl, rfl⟩) ?_ ?_;rotate_left
         ·simp only [Act.put, Zs1, Zs2, Zs3, ze, zf]
          rfl
         refine zi (i := 17) (N := some 30) (v := undef) (a' := ?_) #[true, true, true, true, true, true, true, true, true, true, true, true, true, true, true, true, true, true, false, false, false, false, false, false, false, false, false, false, false, false, false, false, false, false, false] rfl rfl (zb HT_.out (by kernel_rfl)) (fun _ _ _ h => h) (Or.inr ⟨by rfl, rfl⟩) ?_ ?_;rotate_left
         ·simp only [Act.put, Zs1, Zs2, Zs3, ze, zf]
          rfl
         refine zi (i := 18) (N := some 31) (v := undef) (a' := ?_) #[true, true, true, true, true, true, true, true, true, true, true, true, true, true, true, true, true, true, true, false, false, false, false, false, false, false, false, false, false, false, false, false, false, false, false] rfl rfl (zb HT_.out (by kernel_rfl)) (fun _ _ _ h => h) (Or.inr ⟨by rfl, rfl⟩) ?_ ?_;rotate_left
         ·simp only [Act.put, Zs1, Zs2, Zs3, ze, zf]
          rfl
         refine zi (i := 19) (N := some 32) (v := undef) (a' := ?_) #[true, true, true, true, true, true, true, true, true, true, true, true, true, true, true, true, true, true, true, true, false, false, false, false, false, false, false, false, false, false, false, false, false, false, false] rfl rfl (zb HT_.out (by kernel_rfl)) (fun _ _ _ h => h) (Or.inr ⟨by rfl, rfl⟩) ?_ ?_;rotate_left
         ·simp only [Act.put, Zs1, Zs2, Zs3, ze, zf]
          rfl
         refine zi (i := 20) (N := some 33) (v := undef) (a' := ?_) #[true, true, true, true, true, true, true, true, true, true, true, true, true, true, true, true, true, true, true, true, true, false, false, false, false, false, false, false, false, false, false, false, false, false, false] rfl rfl (zb HT_.out (by kernel_rfl)) (fun _ _ _ h => h) (Or.inr ⟨by rfl, rfl⟩) ?_ ?_;rotate_left
         ·simp only [Act.put, Zs1, Zs2, Zs3, ze, zf]
          rfl
         refine zi (i := 21) (N := some 34) (v := undef) (a' := ?_) #[true, true, true, true, true, true, true, true, true, true, true, true, true, true, true, true, true, true, true, true, true, true, false, false, false, false, false, false, false, false, false, false, false, false, false] rfl rfl (zb HT_.out (by kernel_rfl)) (fun _ _ _ h => h) (Or.inr ⟨by rfl, rfl⟩) ?_ ?_;rotate_left
         ·simp only [Act.put, Zs1, Zs2, Zs3, ze, zf]
          rfl
         refine zi (i := 22) (N := some 35) (v := undef) (a' := ?_) #[true, true, true, true, true, true, true, true, true, true, true, true, true, true, true, true, true, true, true, true, true, true, true, false, false, false, false, false, false, false, false, false, false, false, false] rfl rfl (zb HT_.out (by kernel_rfl)) (fun _ _ _ h => h) (Or.inr ⟨by rfl, rfl⟩) ?_ ?_;rotate_left
         ·simp only [Act.put, Zs1, Zs2, Zs3, ze, zf]
          rfl
         refine zi (i := 23) (N := some 36) (v := undef) (a' := ?_) #[true, true, true, true, true, true, true, true, true, true, true, true, true, true, true, true, true, true, true, true, true, true, true, true, false, false, false, false, false, false, false, false, false, false, false] rfl rfl (zb HT_.out (by kernel_rfl)) (fun _ _ _ h => h) (Or.inr ⟨by rfl, rfl⟩) ?_ ?_;rotate_left
         ·simp only [Act.put, Zs1, Zs2, Zs3, ze, zf]
          rfl
         refine zi (i := 24) (N := some 37) (v := undef) (a' := ?_) #[true, true, true, true, true, true, true, true, true, true, true, true, true, true, true, true, true, true, true, true, true, true, true, true, true, false, false, false, false, false, false, false, false, false, false] rfl rfl (zb HT_.out (by kernel_rfl)) (fun _ _ _ h => h) (Or.inr ⟨by rfl, rfl⟩) ?_ ?_;rotate_left
         ·simp only [Act.put, Zs1, Zs2, Zs3, ze, zf]
          rfl
         refine zi (i := 25) (N := some 38) (v := ?_) (a' := ?_) #[true, true, true, true, true, true, true, true, true, true, true, true, true, true, true, true, true, true, true, true, true, true, true, true, true, true, false, false, false, false, false, false, false, false, false] rfl rfl (zb HT_.out (by kernel_rfl)) (fun _ _ _ h => h) (Or.inl ⟨by rfl, ?_⟩) ?_ ?_;rotate_left
         ·intro w'
          go_simp;with_reducible rfl
         rotate_left
         ·simp only [Act.put, Zs1, Zs2, Zs3, ze, zf]
          rfl
         refine zi (i := 26) (N := some 39) (v := ?_) (a' := ?_) #[true, true, true, true, true, true, true, true, true, true, true, true, true, true, true, true, true, true, true, true, true, true, true, true, true, true, true, false, false, false, false, false, false, false, false] rfl rfl (zb HT_.out (by kernel_rfl)) (fun _ _ _ h => h) (Or.inl ⟨by rfl, ?_⟩) ?_ ?_;rotate_left
         ·intro w'
          go_simp;with_reducible rfl
         rotate_left
         ·simp only [Act.put, Zs1, Zs2, Zs3, ze, zf]
          rfl
         refine zi (i := 27) (N := some 40) (v := undef) (a' := ?_) #[true, true, true, true, true, true, true, true, true, true, true, true, true, true, true, true, true, true, true, true, true, true, true, true, true, true, true, true, false, false, false, false, false, false, false] rfl rfl (zb HT_.out (by kernel_rfl)) (fun _ _ _ h => h) (Or.inr ⟨by rfl, rfl⟩) ?_ ?_;rotate_left
         ·simp only [Act.put, Zs1, Zs2, Zs3, ze, zf]
          rfl
         refine zi (i := 28) (N := some 41) (v := undef) (a' := ?_) #[true, true, true, true, true, true, true, true, true, true, true, true, true, true, true, true, true, true, true, true, true, true, true, true, true, true, true, true, true, false, false, false, false, false, false] rfl rfl (zb HT_.out (by kernel_rfl)) (fun _ _ _ h => h) (Or.inr ⟨by rfl, rfl⟩) ?_ ?_;rotate_left
         ·simp only [Act.put, Zs1, Zs2, Zs3, ze, zf]
          rfl
         refine zi (i := 29) (N := some 42) (v := undef) (a' := ?_) #[true, true, true, true, true, true, true, true, true, true, true, true, true, true, true, true, true, true, true, true, true, true, true, true, true, true, true, true, true, true, false, false, false, false, false] rfl rfl (zb HT_.out (by kernel_rfl)) (fun _ _ _ h => h) (Or.inr ⟨by rfl, rfl⟩) ?_ ?_;rotate_left
         ·simp only [Act.put, Zs1, Zs2, Zs3, ze, zf]
          rfl
         refine zi (i := 30) (N := some 43) (v := undef) (a' := ?_) #[true, true, true, true, true, true, true, true, true, true, true, true, true, true, true, true, true, true, true, true, true, true, true, true, true, true, true, true, true, true, true, false, false, false, false] rfl rfl (zb HT_.out (by kernel_rfl)) (fun _ _ _ h => h) (Or.inr ⟨by rfl, rfl⟩) ?_ ?_;rotate_left
         ·simp only [Act.put, Zs1, Zs2, Zs3, ze, zf]
          rfl
         refine zi (i := 31) (N := some 44) (v := undef) (a' := ?_) #[true, true, true, true, true, true, true, true, true, true, true, true, true, true, true, true, true, true, true, true, true, true, true, true, true, true, true, true, true, true, true, true, false, false, false] rfl rfl (zb HT_.out (by kernel_rfl)) (fun _ _ _ h => h) (Or.inr ⟨by rfl, rfl⟩) ?_ ?_;rotate_left
         ·simp only [Act.put, Zs1, Zs2, Zs3, ze, zf]
          rfl
         refine zi (i := 32) (N := some 45) (v := undef) (a' := ?_) #[true, true, true, true, true, true, true, true, true, true, true, true, true, true, true, true, true, true, true, true, true, true, true, true, true, true, true, true, true, true, true, true, true, false, false] rfl rfl (zb HT_.out (by kernel_rfl)) (fun _ _ _ h => h) (Or.inr ⟨by rfl, rfl⟩) ?_ ?_;rotate_left
         ·simp only [Act.put, Zs1, Zs2, Zs3, ze, zf]
          rfl
         refine zi (i := 33) (N := some 46) (v := undef) (a' := ?_) #[true, true, true, true, true, true, true, true, true, true, true, true, true, true, true, true, true, true, true, true, true, true, true, true, true, true, true, true, true, true, true, true, true, true, false] rfl rfl (zb HT_.out (by kernel_rfl)) (fun _ _ _ h => h) (Or.inr ⟨by rfl, rfl⟩) ?_ ?_;rotate_left
         ·simp only [Act.put, Zs1, Zs2, Zs3, ze, zf]
          rfl
         refine zi (i := 34) (N := some 47) (v := ?_) (a' := ?_) #[true, true, true, true, true, true, true, true, true, true, true, true, true, true, true, true, true, true, true, true, true, true, true, true, true, true, true, true, true, true, true, true, true, true, true] rfl rfl (zb HT_.out (by kernel_rfl)) (fun _ _ _ h => h) (Or.inl ⟨by rfl, ?_⟩) ?_ ?_;rotate_left
         ·intro w'
          go_simp;with_reducible rfl
         rotate_left
         ·simp only [Act.put, Zs1, Zs2, Zs3, ze, zf]
          rfl
         refine zeg (zct HT_.out (by kernel_rfl)) ?_
         try go_wp2
         go_ret;exact ⟨by first | rfl | (simp [zq, zt] <;> rfl) | (simp [*, zq, zt] <;> rfl), Zq1 HB⟩
       ·rw [if_neg c7] at H
        exact absurd H (by simp)
      ·rw [if_neg c6] at H
       have c6b0 : (((zh l1 x9_1).length : Int) == 2) = false := beq_eq_false_iff_ne.mpr c6;have c6b1 : (((zh l1 x9_1).length : Int) != 2) = true := bne_iff_ne.mpr c6;obtain rfl := Option.some.inj H;have p196 : 0 ≤ (x9_1 : Int) := of_decide_eq_true Zas;have q196 : x9_1 < (l1.length : Int) := of_decide_eq_true Zas;obtain ⟨ad196, A196_0, c196_0, e196, hx196_0, hl196_0, hi196_0⟩ := zc6 HR1.out x9_1 p196 q196
       cases e196
       replace hx196_0 := (HB.out.cell (World.block_lt_of_cell? w _ hx196_0)).trans hx196_0;have HR196_0 := za.mk hi196_0;have HC196_0 := za.mk hl196_0;clear hi196_0 hl196_0;replace p196 := eq_true p196;replace q196 := eq_true q196
       try go_wp2
       have n0_ := za.mk (zbr HB.out);clear HB;have HB := n0_;clear n0_;refine zdl (n := 35) (S := fun w' => True) (ds := []) #[false, false, false, false, false, false, false, false, false, false, false, false, false, false, false, false, false, false, false, false, false, false, false, false, false, false, false, false, false, false, false, false, false, false, false] (by kernel_rfl) rfl rfl trivial (fun hHeld => ?_); refine zb9 zm.tab4 zm.bits4 (fun HT_ HW_ => ?_);generalize wr.drew = w18 at HB hHeld ⊢;refine zi (i := 0) (N := some 13) (v := ?_) (a' := ?_) #[true, false, false, false, false, false, false, false, false, false, false, false, false, false, false, false, false, false, false, false, false, false, false, false, false, false, false, false, false, false, false, false, false, false, false] rfl rfl (zb HT_.out (by kernel_rfl)) (fun _ _ _ h => h) (Or.inl ⟨by rfl, ?_⟩) ?_ ?_;rotate_left
       ·intro w'
        go_simp;with_reducible rfl
       rotate_left
       ·simp only [Act.put, Zs1, Zs2, Zs3, ze, zf]
        rfl
       refine zi (i := 1) (N := some 14) (v := ?_) (a' := ?_) #[true, true, false, false, false, false, false, false, false, false, false, false, false, false, false, false, false, false, false, false, false, false, false, false, false, false, false, false, false, false, false, false, false, false, false] rfl rfl (zb HT_.out (by kernel_rfl)) (fun _ _ _ h => h) (Or.inl ⟨by rfl, ?_⟩) ?_ ?_;rotate_left
       ·intro w'
        go_simp;with_reducible rfl
       rotate_left
       ·simp only [Act.put, Zs1, Zs2, Zs3, ze, zf]
        rfl
       refine zi (i := 2) (N := some 15) (v := ?_) (a' := ?_) #[true, true, true, false, false, false, false, false, false, false, false, false, false, false, false, false, false, false, false, false, false, false, false, false, false, false, false, false, false, false, false, false, false, false, false] rfl rfl (zb HT_.out (by kernel_rfl)) (fun _ _ _ h => h) (Or.inl ⟨by rfl, ?_⟩) ?_ ?_;rotate_left
       ·intro w'
        go_simp;with_reducible rfl
       rotate_left
       ·simp only [Act.put, Zs1, Zs2, Zs3, ze, zf]
        rfl
       refine zi (i := 3) (N := some 16) (v := ?_) (a' := ?_) #[true, true, true, true, false, false, false, false, false, false, false, false, false, false, false, false, false, false, false, false, false, false, false, false, false, false, false, false, false, false, false, false, false, false, false] rfl rfl (zb HT_.out (by kernel_rfl)) (fun _ _ _ h => h) (Or.inl ⟨by rfl, ?_⟩) ?_ ?_;rotate_left
       ·intro w'
        go_simp;with_reducible rfl
       rotate_left
       ·simp only [Act.put, Zs1, Zs2, Zs3, ze, zf]
        rfl
       refine zi (i := 4) (N := some 17) (v := undef) (a' := ?_) #[true, true, true, true, true, false, false, false, false, false, false, false, false, false, false, false, false, false, false, false, false, false, false, false, false, false, false, false, false, false, false, false, false, false, false] rfl rfl (zb HT_.out (by kernel_rfl)) (fun _ _ _ h => h) (Or.inr ⟨by rfl, rfl⟩) ?_ ?_;rotate_left
       ·simp only [Act.put, Zs1, Zs2, Zs3, ze, zf]
        rfl
       refine zi (i := 5) (N := some 18) (v := undef) (a' := ?_) #[true, true, true, true, true, true, false, false, false, false, false, false, false, false, false, false, false, false, false, false, false, false, false, false, false, false, false, false, false, false, false, false, false, false, false] rfl rfl (zb HT_.out (by kernel_rfl)) (fun _ _ _ h => h) (Or.inr ⟨by rfl, rfl⟩) ?_ ?_;rotate_left
       ·simp only [Act.put, Zs1, Zs2, Zs3, ze, zf]
        rfl
       refine zi (i := 6) (N := some 19) (v := undef) (a' := ?_) #[true, true, true, true, true, true, true, false, false, false, false, false, false, false, false, false, false, false, false, false, false, false, false, false, false, false, false, false, false, false, false, false, false, false, false] rfl rfl (zb HT_.out (by kernel_rfl)) (fun _ _ _ h => h) (Or.inr ⟨by rfl, rfl⟩) ?_ ?_;rotate_left
       ·simp only [Act.put, Zs1, Zs2, Zs3, ze, zf]
        rfl
       refine zi (i := 7) (N := some 20) (v := undef) (a' := ?_) #[true, true, true, true, true, true, true, true, false, false, false, false, false, false, false, false, false, false, false, false, false, false, false, false, false, false, false, false, false, false, false, false, false, false, false] rfl rfl (zb HT_.out (by kernel_rfl)) (fun _ _ _ h => h) (Or.inr ⟨by rfl, rfl⟩) ?_ ?_;rotate_left
       ·simp only [Act.put, Zs1, Zs2, Zs3, ze, zf]
        rfl
       refine zi (i := 8) (N := some 21) (v := undef) (a' := ?_) #[true, true, true, true, true, true, true, true, true, false, false, false, false, false, false, false, false, false, false, false, false, false, false, false, false, false, false, false, false, false, false, false, false, false, false] rfl rfl (zb HT_.out (by kernel_rfl)) (fun _ _ _ h => h) (Or.inr ⟨by rfl, rfl⟩) ?_ ?_;rotate_left
       ·simp only [Act.put, Zs1, Zs2, Zs3, ze, zf]
        rfl
       refine zi (i := 9) (N := some 22) (v := undef) (a' := ?_) #[true, true, true, true, true, true, true, true, true, true, false, false, false, false, false, false, false, false, false, false, false, false, false, false, false, false, false, false, false, false, false, false, false, false, false] rfl rfl (zb HT_.out (by kernel_rfl)) (fun _ _ _ h => h) (Or.inr ⟨by rfl, rfl⟩) ?_ ?_;rotate_left
       ·simp only [Act.put, Zs1, Zs2, Zs3, ze, zf]
        rfl
       refine zi (i := 10) (N := some 23) (v := undef) (a' := ?_) #[true, true, true, true, true, true, true, true, true, true, true, false, false, false, false, false, false, false, false, false, false, false, false, false, false, false, false, false, false, false, false, false, false, false, false] rfl rfl (zb HT_.out (by kernel_rfl)) (fun _ _ _ h => h) (Or.inr ⟨by rfl, rfl⟩) ?_ ?_;rotate_left
       ·simp only [Act.put, Zs1, Zs2, Zs3, ze, zf]
        rfl
       refine zi (i := 11) (N := some 24) (v := undef) (a' := ?_) #[true, true, true, true, true, true, true, true, true, true, true, true, false, false, false, false, false, false, false, false, false, false, false, false, false, false, false, false, false, false, false, false, false, false, false] rfl rfl (zb HT_.out (by kernel_rfl)) (fun _ _ _ h => h) (Or.inr ⟨by rfl, rfl⟩) ?_ ?_;rotate_left
       ·simp only [Act.put, Zs1, Zs2, Zs3, ze, zf]
        rfl
       refine zi (i := 12) (N := some 25) (v := ?_) (a' := ?_) #[true, true, true, true, true, true, true, true, true, true, true, true, true, false, false, false, false, false, false, false, false, false, false, false, false, false, false, false, false, false, false, false, false, false, false] rfl rfl (zb HT_.out (by kernel_rfl)) (fun _ _ _ h => h) (Or.inl ⟨by rfl, ?_⟩) ?_ ?_;rotate_left
       ·intro w'
        go_simp;with_reducible rfl
       rotate_left
       ·simp only [Act.put, Zs1, Zs2, Zs3, ze, zf]
        rfl
       refine zi (i := 13) (N := some 26) (v := ?_) (a' := ?_) #[true, true, true, true, true, true, true, true, true, true, true, true, true, true, false, false, false, false, false, false, false, false, false, false, false, false, false, false, false, false, false, false, false, false, false] rfl rfl (zb HT_.out (by kernel_rfl)) (fun _ _ _ h => h) (Or.inl ⟨by rfl, ?_⟩) ?_ ?_;rotate_left
       ·intro w'
        go_simp;with_reducible rfl
       rotate_left
       ·simp only [Act.put, Zs1, Zs2, Zs3, ze, zf]
        rfl
       refine zi (i := 14) (N := some 27) (v := undef) (a' := ?_) #[true, true, true, true, true, true, true, true, true, true, true, true, true, true, true, false, false, false, false, false, false, false, false, false, false, false, false, false, false, false, false, false, false, false, false] rfl rfl (zb HT_.out (by kernel_rfl)) (fun _ _ _ h => h) (Or.inr ⟨by rfl, rfl⟩) ?_ ?_;rotate_left
       ·simp only [Act.put, Zs1, Zs2, Zs3, ze, zf]
        rfl
       refine zi (i := 15) (N := some 28) (v := undef) (a' := ?_) #[true, true, true, true, true, true, true, true, true, true, true, true, true, true, true, true, false, false, false, false, false, false, false, false, false, false, false, false, false, false, false, false, false, false, false] rfl rfl (zb HT_.out (by kernel_rfl)) (fun _ _ _ h => h) (Or.inr ⟨by rfl, rfl⟩) ?_ ?_;rotate_left
       ·simp only [Act.put, Zs1, Zs2, Zs3, ze, zf]
        rfl
       refine zi (i := 16) (N := some 29) (v := undef) (a' := ?_) #[true, true, true, true, true, true, true, true, true, true, true, true, true, true, true, true, true, false, false, false, false, false, false, false, false, false, false, false, false, false, false, false, false, false, false] rfl rfl (zb HT_.out (by kernel_rfl)) (fun _ _ _ h => h) (Or.inr ⟨by rfl, rfl⟩) ?_ ?_;rotate_left
       ·simp only [Act.put, Zs1, Zs2, Zs3, ze, zf]
        rfl
       refine zi (i := 17) (N := some 30) (v := undef) (a' := ?_) #[true, true, true, true, true, true, true, true, true, true, true, true, true, true, true, true, true, true, false, false, false, false, false, false, false, false, false, false, false, false, false, false, false, false, false] rfl rfl (zb HT_.out (by kernel_rfl)) (fun _ _ _ h => h) (Or.inr ⟨by rfl, rfl⟩) ?_ ?_;rotate_left
       ·simp only [Act.put, Zs1, Zs2, Zs3, ze, zf]
        rfl
       refine zi (i := 18) (N := some 31) (v := undef) (a' := ?_) #[true, true, true, true, true, true, true, true, true, true, true, true, true, true, true, true, true, true, true, false, false, false, false, false, false, false, false, false, false, false, false, false, false, false, false] rfl rfl (zb HT_.out (by kernel_rfl)) (fun _ _ _ h => h) (Or.inr ⟨by rfl, rfl⟩) ?_ ?_;rotate_left
       ·simp only [Act.put, Zs1, Zs2, Zs3, ze, zf]
        rfl
       refine zi (i := 19) (N := some 32) (v := undef) (a' := ?_) #[true, true, true, true, true, true, true, true, true, true, true, true, true, true, true, true, true, true, true, true, false, false, false, false, false, false, false, false, false, false, false, false, false, false, false] rfl rfl (zb HT_.out (by kernel_rfl)) (fun _ _ _ h => h) (Or.inr ⟨by rfl, rfl⟩) ?_ ?_;rotate_left
       ·simp only [Act.put, Zs1, Zs2, Zs3, ze, zf]
        rfl
       refine zi (i := 20) (N := some 33) (v := undef) (a' := ?_) #[true, true, true, true, true, true, true, true, true, true, true, true, true, true, true, true, true, true, true, true, true, false, false, false, false, false, false, false, false, false, false, false, false, false, false] rfl rfl (zb HT_.out (by kernel_rfl)) (fun _ _ _ h => h) (Or.inr ⟨by rfl, rfl⟩) ?_ ?_;rotate_left
       ·simp only [Act.put, Zs1, Zs2, Zs3, ze, zf]
        rfl
       refine zi (i := 21) (N := some 34) (v := undef) (a' := ?_) #[true, true, true, true, true, true, true, true, true, true, true, true, true, true, true, true, true, true, true, true, true, true, false, false, false, false, false, false, false, false, false, false, false, false, false] rfl rfl (zb HT_.out (by kernel_rfl)) (fun _ _ _ h => h) (Or.inr ⟨by rfl, rfl⟩) ?_ ?_;rotate_left
       ·simp only [Act.put, Zs1, Zs2, Zs3, ze, zf]
        rfl
       refine zi (i := 22) (N := some 35) (v := undef) (a' := ?_) #[true, true, true, true, true, true, true, true, true, true, true, true, true, true, true, true, true, true, true, true, true, true, true, false, false, false, false, false, false, false, false, false, false, false, false] rfl rfl (zb HT_.out (by kernel_rfl)) (fun _ _ _ h => h) (Or.inr ⟨by rfl, rfl⟩) ?_ ?_;rotate_left
       ·simp only [Act.put, Zs1, Zs2, Zs3, ze, zf]
        rfl
       refine zi (i := 23) (N := some 36) (v := undef) (a' := ?_) #[true, true, true, true, true, true, true, true, true, true, true, true, true, true, true, true, true, true, true, true, true, true, true, true, false, false, false, false, false, false, false, false, false, false, false] rfl rfl (zb HT_.out (by kernel_rfl)) (fun _ _ _ h => h) (Or.inr ⟨by rfl, rfl⟩) ?_ ?_;rotate_left
       ·simp only [Act.put, Zs1, Zs2, Zs3, ze, zf]
        rfl
       refine zi (i := 24) (N := some 37) (v := undef) (a' := ?_) #[true, true, true, true, true, true, true, true, true, true, true, true, true, true, true, true, true, true, true, true, true, true, true, true, true, false, false, false, false, false, false, false, false, false, false] rfl rfl (zb HT_.out (by kernel_rfl)) (fun _ _ _ h => h) (Or.inr ⟨by rfl, rfl⟩) ?_ ?_;rotate_left
       ·simp only [Act.put, Zs1, Zs2, Zs3, ze, zf]
        rfl
       refine zi (i := 25) (N := some 38) (v := ?_) (a' := ?_) #[true, true, true, true, true, true, true, true, true, true, true, true, true, true, true, true, true, true, true, true, true, true, true, true, true, true, false, false, false, false, false, false, false, false, false] rfl rfl (zb HT_.out (by kernel_rfl)) (fun _ _ _ h => h) (Or.inl ⟨by rfl, ?_⟩) ?_ ?_;rotate_left
       ·intro w'
        go_simp;with_reducible rfl
       rotate_left
       ·simp only [Act.put, Zs1, Zs2, Zs3, ze, zf]
        rfl
       refine zi (i := 26) (N := some 39) (v := ?_) (a' := ?_) #[true, true, true, true, true, true, true, true, true, true, true, true, true, true, true, true, true, true, true, true, true, true, true, true, true, true, true, false, false, false, false, false, false, false, false] rfl rfl (zb HT_.out (by kernel_rfl)) (fun _ _ _ h => h) (Or.inl ⟨by rfl, ?_⟩) ?_ ?_;rotate_left
       ·intro w'
        go_simp;with_reducible rfl
       rotate_left
       ·simp only [Act.put, Zs1, Zs2, Zs3, ze, zf]
        rfl
       refine zi (i := 27) (N := some 40) (v := undef) (a' := ?_) #[true, true, true, true, true, true, true, true, true, true, true, true, true, true, true, true, true, true, true, true, true, true, true, true, true, true, true, true, false, false, false, false, false, false, false] rfl rfl (zb HT_.out (by kernel_rfl)) (fun _ _ _ h => h) (Or.inr ⟨by rfl, rfl⟩) ?_ ?_;rotate_left
       ·simp only [Act.put, Zs1, Zs2, Zs3, ze, zf]
        rfl
       refine zi (i := 28) (N := some 41) (v := undef) (a' := ?_) #[true, true, true, true, true, true, true, true, true, true, true, true, true, true, true, true, true, true, true, true, true, true, true, true, true, true, true, true, true, false, false, false, false, false, false] rfl rfl (zb HT_.out (by kernel_rfl)) (fun _ _ _ h => h) (Or.inr ⟨by rfl, rfl⟩) ?_ ?_;rotate_left
       ·simp only [Act.put, Zs1, Zs2, Zs3, ze, zf]
        rfl
       refine zi (i := 29) (N := some 42) (v := undef) (a' := ?_) #[true, true, true, true, true, true, true, true, true, true, true, true, true, true, true, true, true, true, true, true, true, true, true, true, true, true, true, true, true, true, false, false, false, false, false] rfl rfl (zb HT_.out (by kernel_rfl)) (fun _ _ _ h => h) (Or.inr ⟨by rfl, rfl⟩) ?_ ?_;rotate_left
       ·simp only [Act.put, Zs1, Zs2, Zs3, ze, zf]
        rfl
       refine zi (i := 30) (N := some 43) (v := undef) (a' := ?_) #[true, true, true, true, true, true, true, true, true, true, true, true, true, true, true, true, true, true, true, true, true, true, true, true, true, true, true, true, true, true, true, false, false, false, false] rfl rfl (zb HT_.out (by kernel_rfl)) (fun _ _ _ h => h) (Or.inr ⟨by rfl, rfl⟩) ?_ ?_;rotate_left
       ·simp only [Act.put, Zs1, Zs2, Zs3, ze, zf]
        rfl
       refine zi (i := 31) (N := some 44) (v := undef) (a' := ?_) #[true, true, true, true, true, true, true, true, true, true, true, true, true, true, true, true, true, true, true, true, true, true, true, true, true, true, true, true, true, true, true, true, false, false, false] rfl rfl (zb HT_.out (by kernel_rfl)) (fun _ _ _ h => h) (Or.inr ⟨by rfl, rfl⟩) ?_ ?_;rotate_left
       ·simp only [Act.put, Zs1, Zs2, Zs3, ze, zf]
        rfl
       refine zi (i := 32) (N := some 45) (v := undef) (a' := ?_) #[true, true, true, true, true, true, true, true, true, true, true, true, true, true, true, true, true, true, true, true, true, true, true, true, true, true, true, true, true, true, true, true, true, false, false] rfl rfl (zb HT_.out (by kernel_rfl)) (fun _ _ _ h => h) (Or.inr ⟨by rfl, rfl⟩) ?_ ?_;rotate_left
       ·simp only [Act.put, Zs1, Zs2, Zs3, ze, zf]
        rfl
       refine zi (i := 33) (N := some 46) (v := undef) (a' := ?_) #[true, true, true, true, true, true, true, true, true, true, true, true, true, true, true, true, true, true, true, true, true, true, true, true, true, true, true, true, true, true, true, true, true, true, false] rfl rfl (zb HT_.out (by kernel_rfl)) (fun _ _ _ h => h) (Or.inr ⟨by rfl, rfl⟩) ?_ ?_;rotate_left
       ·simp only [Act.put, Zs1, Zs2, Zs3, ze, zf]
        rfl
       refine zi (i := 34) (N := some 47) (v := ?_) (a' := ?_) #[true, true, true, true, true, true, true, true, true, true, true, true, true, true, true, true, true, true, true, true, true, true, true, true, true, true, true, true, true, true, true, true, true, true, true] rfl rfl (zb HT_.out (by kernel_rfl)) (fun _ _ _ h => h) (Or.inl ⟨by rfl, ?_⟩) ?_ ?_;rotate_left
       ·intro w'
        go_simp;with_reducible rfl
       rotate_left
       ·simp only [Act.put, Zs1, Zs2, Zs3, ze, zf]
        rfl
       refine zeg (zct HT_.out (by kernel_rfl)) ?_
       try go_wp2
       go_ret;exact ⟨by first | rfl | (simp [zq, zt] <;> rfl) | (simp [*, zq, zt] <;> rfl), Zq1 HB⟩
     ·rw [if_neg c5] at H
      exact absurd H (by simp)
    ·rw [if_neg c4] at H
     exact absurd H (by simp)
   ·rw [if_neg c3] at H
    have c3b0 : decide (x9_1 < (l1.length : Int)) = false := decide_eq_false c3;clear c3;by_cases c19 : (l0.length : Int) ≤ 8
    ·rw [if_pos c19] at H
     have c19b0 : decide ((l0.length : Int) ≤ 8) = true := decide_eq_true c19;have c19b1 : decide (l0.length ≤ 8) = true := decide_eq_true (by omega);clear c19;by_cases c20 : (l1.length : Int) ≤ 64
     ·rw [if_pos c20] at H
      have c20b0 : decide ((l1.length : Int) ≤ 64) = true := decide_eq_true c20;have c20b1 : decide (l1.length ≤ 64) = true := decide_eq_true (by omega);clear c20;replace H := Option.bind_eq_some_iff.mp H;obtain ⟨t195, A210, H⟩ := H;replace H : (some (!t195)) = some r := H;have A21 := za.mk A210;clear A210;obtain rfl := Option.some.inj H;go_wp2_with (first | (go_at_call 53; (with_reducible refine (zcl.calls _ _ l0  t195 _ ?side1 ?side2 A21.out).mono ?_); (case side1 => exact Zq12 (Kd.zci HR0.out HB.out)); (case side2 => exact HC0.out); rintro e w22 ⟨rfl, hb⟩; have n0_ := za.mk (zbi (Zq1 HB) hb); clear HB; have HB := n0_; clear n0_; (try clear hb); (try clear hb2); (try clear hk); (try clear hi)));go_ret;exact ⟨by first | rfl | (simp [zq, zt] <;> rfl) | (simp [*, zq, zt] <;> rfl), Zq1 HB⟩
     ·rw [if_neg c20] at H
      have c20b0 : decide ((l1.length : Int) ≤ 64) = false := decide_eq_false c20;have c20b1 : decide (l1.length ≤ 64) = false := decide_eq_false (by omega);clear c20;obtain rfl := Option.some.inj H;go_wp2;go_ret;exact ⟨by first | rfl | (simp [zq, zt] <;> rfl) | (simp [*, zq, zt] <;> rfl), Zq1 HB⟩
    ·rw [if_neg c19] at H
     have c19b0 : decide ((l0.length : Int) ≤ 8) = false := decide_eq_false c19;have c19b1 : decide (l0.length ≤ 8) = false := decide_eq_false (by omega);clear c19;obtain rfl := Option.some.inj H;go_wp2;go_ret;exact ⟨by first | rfl | (simp [zq, zt] <;> rfl) | (simp [*, zq, zt] <;> rfl), Zq1 HB⟩
def zcz.f (a0 : Int) : Option (Bool) := (zb5.f a0 1 5).bind fun t204 => (some t204)
set_option maxHeartbeats 8000000 in
theorem zcz.calls (a0 : Int) (r : Bool) (w : World) (h : zcz.f a0 = some r) :
  Calls Try.prog 31 #[.int .i64 a0] w fun e w' => e = .returned (.bool r) ∧ zbj w w' := by
 have H : ((zb5.f a0 1 5).bind fun t204 => (some t204)) = some r := h
 clear h
 replace H := Option.bind_eq_some_iff.mp H
 obtain ⟨t204, A20, H⟩ := H
 replace H : (some t204) = some r := H
 have A2 := za.mk A20
 clear A20
 obtain rfl := Option.some.inj H
 go_enter Try.func31, Try.ntmps31
 go_wp2_with (first | ((with_reducible refine zbd (f := 52) rfl ?_); refine zb7 (some 4) rfl rfl Try.func52 (by kernel_rfl) rfl #[.int .i64 a0, .int .i64 1, .int .i64 5] rfl Zmt ?_; (with_reducible refine (zb5.calls a0 1 5 t204 _ A2.out).mono ?_); rintro e w' ⟨rfl, ⟨nd, rfl⟩⟩; refine ⟨_, rfl, ?_⟩))
 go_ret
 exact ⟨by first | rfl | (simp; done) | (simp [*]; done), by repeat (first | exact zbj.refl _ | apply zbj.step)⟩
def bits_Mul64.f (a0 : Int) (a1 : Int) : Option (Int × Int) := some (IntKind.u64.wrap ((IntKind.u64.wrap ((IntKind.u64.wrap ((a0 / 4294967296) * (a1 / 4294967296))) + ((IntKind.u64.wrap ((IntKind.u64.wrap ((a0 / 4294967296) * (Go.bits .and .u64 a1 4294967295))) + ((IntKind.u64.wrap ((Go.bits .and .u64 a0 4294967295) * (Go.bits .and .u64 a1 4294967295))) / 4294967296))) / 4294967296))) + ((IntKind.u64.wrap ((Go.bits .and .u64 (IntKind.u64.wrap ((IntKind.u64.wrap ((a0 / 4294967296) * (Go.bits .and .u64 a1 4294967295))) + ((IntKind.u64.wrap ((Go.bits .and .u64 a0 4294967295) * (Go.bits .and .u64 a1 4294967295))) / 4294967296))) 4294967295) + (IntKind.u64.wrap ((Go.bits .and .u64 a0 4294967295) * (a1 / 4294967296))))) / 4294967296)), IntKind.u64.wrap (a0 * a1))
set_option maxHeartbeats 8000000 in
theorem bits_Mul64.calls (a0 : Int) (a1 : Int) (r1 : Int) (r2 : Int) (w : World) (h : bits_Mul64.f a0 a1 = some (r1, r2)) :
  Calls Try.prog 65 #[.int .u64 a0, .int .u64 a1] w fun e w' => e = .returned (.tuple #[.int .u64 r1, .int .u64 r2]) ∧ zbj w w' := by
 have H : (some (IntKind.u64.wrap ((IntKind.u64.wrap ((IntKind.u64.wrap ((a0 / 4294967296) * (a1 / 4294967296))) + ((IntKind.u64.wrap ((IntKind.u64.wrap ((a0 / 4294967296) * (Go.bits .and .u64 a1 4294967295))) + ((IntKind.u64.wrap ((Go.bits .and .u64 a0 4294967295) * (Go.bits .and .u64 a1 4294967295))) / 4294967296))) / 4294967296))) + ((IntKind.u64.wrap ((Go.bits .and .u64 (IntKind.u64.wrap ((IntKind.u64.wrap ((a0 / 4294967296) * (Go.bits .and .u64 a1 4294967295))) + ((IntKind.u64.wrap ((Go.bits .and .u64 a0 4294967295) * (Go.bits .and .u64 a1 4294967295))) / 4294967296))) 4294967295) + (IntKind.u64.wrap ((Go.bits .and .u64 a0 4294967295) * (a1 / 4294967296))))) / 4294967296)), IntKind.u64.wrap (a0 * a1))) = some (r1, r2) := h
 clear h
 simp only [Option.some.injEq, Prod.mk.injEq] at H
 obtain ⟨rfl, rfl⟩ := H
 go_enter Try.func65, Try.ntmps65
 go_wp2
 go_ret2
 exact ⟨by first | rfl | (simp; done) | (simp [*]; done), by repeat (first | exact zbj.refl _ | apply zbj.step)⟩
def bits_Mul.f (a0 : Int) (a1 : Int) : Option (Int × Int) := (bits_Mul64.f a0 a1).bind fun bt205 => (some (bt205.1, bt205.2))
set_option maxHeartbeats 8000000 in
theorem bits_Mul.calls (a0 : Int) (a1 : Int) (r1 : Int) (r2 : Int) (w : World) (h : bits_Mul.f a0 a1 = some (r1, r2)) :
  Calls Try.prog 63 #[.int .u64 a0, .int .u64 a1] w fun e w' => e = .returned (.tuple #[.int .u64 r1, .int .u64 r2]) ∧ zbj w w' := by
 have H : ((bits_Mul64.f a0 a1).bind fun bt205 => (some (bt205.1, bt205.2))) = some (r1, r2) := h
 clear h
 replace H := Option.bind_eq_some_iff.mp H
 obtain ⟨⟨t205, t206⟩, A30, H⟩ := H
 replace H : (some (t205, t206)) = some (r1, r2) := H
 have A3 := za.mk A30
 clear A30
 simp only [Option.some.injEq, Prod.mk.injEq] at H
 obtain ⟨rfl, rfl⟩ := H
 go_enter Try.func63, Try.ntmps63
 go_wp2_with (first | ((with_reducible refine zbd (f := 65) rfl ?_); refine zb7 (some 25) rfl rfl Try.func65 (by kernel_rfl) rfl #[.int .u64 a0, .int .u64 a1] rfl Zmt ?_; (with_reducible refine (bits_Mul64.calls a0 a1 t205 t206 _ A3.out).mono ?_); rintro e w' ⟨rfl, ⟨nd, rfl⟩⟩; refine ⟨_, rfl, ?_⟩))
 go_ret2
 exact ⟨by first | rfl | (simp; done) | (simp [*]; done), by repeat (first | exact zbj.refl _ | apply zbj.step)⟩
theorem and_lo (x : Int) (h0 : 0 ≤ x) (h1 : x < 4294967296) : Go.bits .and .u64 x 4294967295 = x := by
  obtain ⟨a, rfl⟩ := Int.eq_ofNat_of_zero_le h0
  have ha : a < 4294967296 := by omega
  have hb : (4294967295 : Int) = ((4294967295 : Nat) : Int) := rfl
  simp only [Go.bits]
  rw [show IntKind.u64.bits = 64 from rfl, hb, BitVec.toNat_and, BitVec.ofInt_natCast, BitVec.ofInt_natCast, BitVec.toNat_ofNat, BitVec.toNat_ofNat, Nat.mod_eq_of_lt (show a < 2 ^ 64 by omega), Nat.mod_eq_of_lt (show 4294967295 < 2 ^ 64 by omega)]
  rw [show (4294967295 : Nat) = 2 ^ 32 - 1 by decide, Nat.and_two_pow_sub_one_eq_mod, Nat.mod_eq_of_lt (by omega)]
  rw [IntKind.wrap_u64]
  omega
theorem zh1 (n : Int) (h0 : 0 ≤ n) (h1 : n ≤ 1000000) : bits_Mul.f 1 n = some (0, n) := by
  have hd : n / 4294967296 = 0 := Int.ediv_eq_zero_of_lt h0 (by omega)
  have w0 : ∀ x : Int, 0 ≤ x → x ≤ 1000000 → IntKind.u64.wrap x = x := fun x h h' => by rw [IntKind.wrap_u64]; omega
  unfold bits_Mul.f bits_Mul64.f
  rw [and_lo 1 (by omega) (by omega), and_lo n h0 (by omega), hd]
  simp only [Int.one_mul, show (1 : Int) / 4294967296 = 0 by decide, Int.zero_mul, w0 0 (by omega) (by omega), w0 n h0 h1, hd, Int.add_zero, Int.mul_zero, and_lo 0 (by omega) (by omega), show (0 : Int) / 4294967296 = 0 by decide, Option.bind_some]
def rowAt (n m : Nat) : List Int := List.replicate m (-1) ++ List.replicate (n - m) 0
theorem rowAt_set (n m : Nat) (h : m < n) : (rowAt n m).set m (-1) = rowAt n (m + 1) := by
  unfold rowAt
  rw [List.set_append_right _ _ (by simp), List.length_replicate, Nat.sub_self, show n - m = (n - (m + 1)) + 1 by omega, List.replicate_succ, List.set_cons_zero, List.replicate_succ', List.append_assoc, List.singleton_append]
theorem rowAt_rd (n m i : Nat) (h : i < m) (hm : m ≤ n) : rdOf 0 (rowAt n m) (i : Int) = -1 := by
  unfold rdOf rowAt
  rw [List.getD_eq_getElem?_getD, Int.toNat_natCast, List.getElem?_append_left (by simpa using h), List.getElem?_replicate, if_pos h]
  rfl
theorem R_rowAt {e base : Nat} {ok : Nat → Prop} {g n cap : Nat} : ∀ (q m : Nat) (W : World), m + q ≤ n → Kd.R (Kd.int .i64) e W base ok (.slice (some ⟨g, 0, none⟩) n cap) (rowAt n m) → Kd.R (Kd.int .i64) e (W.setCells g m (List.replicate q (.int .i64 (-1)))) base ok (.slice (some ⟨g, 0, none⟩) n cap) (rowAt n (m + q))
  | 0, m, W, _, h => h
  | q + 1, m, W, hq, h => by
    rw [List.replicate_succ, World.setCells]
    have h1 := (Kd.zfr h (m : Int) (-1)).1
    rw [Int.toNat_natCast, rowAt_set n m (by omega)] at h1
    have := R_rowAt q (m + 1) _ (by omega) h1
    rwa [show m + 1 + q = m + (q + 1) by omega] at this
theorem below_setCells {base : Nat} {w : World} {g : Nat} (hg : base ≤ g) : ∀ (vs : List Value) (o : Nat) (W : World), Below base w W → Below base w (W.setCells g o vs)
  | [], _, _, h => h
  | v :: vs, o, W, h => below_setCells hg vs (o + 1) _ (h.setCell hg _)
theorem self_copy {base : Nat} {ok : Nat → Prop} {g n cap m : Nat} {W : World} (hm : 1 ≤ m) (hmn : m ≤ n) (h : Kd.R (Kd.int .i64) 3 W base ok (.slice (some ⟨g, 0, none⟩) n cap) (rowAt n m)) (ty dc sc : Nat) :
    (Builtin.copy_ #[23, 23] ty #[.slice (some ⟨g, m, none⟩) (n - m) dc, .slice (some ⟨g, 0, none⟩) m sc]).run Try.prog W = .ok (goInt ((List.replicate (min m (n - m)) (Value.int .i64 (-1))).length)) (W.setCells g m (List.replicate (min m (n - m)) (.int .i64 (-1)))) := by
  have hc := fun (i : Nat) (hi : i < n) => Kd.zeb 0 h (i : Int) (by omega) (by omega)
  refine run_copy_cells W 23 23 ty 3 g m (n - m) dc ⟨g, 0, none⟩ m sc _ Try.underlying23 (by kernel_rfl) (by rw [List.length_replicate]) (fun j v hj => ?_) (fun j hj => ?_) (fun j hj => ?_) (fun v hv => ?_)
  · rw [List.getElem?_replicate] at hj
    split at hj
    · rename_i hlt
      have := (hc j (by omega)).1
      rw [rowAt_rd n m j (by omega) hmn, Int.toNat_natCast] at this
      injection hj with hj
      rw [← hj, ← this]
      simp only [Addr.add]
      split
      · rename_i h0; subst h0; rfl
      · simp
    · cases hj
  · rw [List.length_replicate] at hj
    have := (hc (m + j) (by omega)).1
    rw [Int.toNat_natCast] at this
    rw [this]; rfl
  · rw [List.length_replicate] at hj
    have := (hc (m + j) (by omega)).2
    rwa [Int.toNat_natCast] at this
  · rw [List.eq_of_mem_replicate hv]; rfl
theorem zh2 {P : Program} (w : World) {o : Oper} {a : Act} {K : Act → World → Prop} {Q : Exit → Act → World → Prop} (d s : Operand) (t t' : TypeId)
    (ho : o.op = .call { callee := .builtin .copy, args := #[d, s], argTypes := #[t, t'] }) (v u : Value) (hd : a.eval d = v) (hs : a.eval s = u) {v' : Value} {w' : World}
    (hr : (Builtin.copy_ #[t, t'] o.type #[v, u]).run P w = .ok v' w') (h : K (a.put o.dst v') w') : o.wp P a w K Q := by
  unfold Oper.wp execOp
  simp only [ho, resolve, invoke, builtin, Sem.run_bind, Sem.run_pure, Result.andThen_ok, List.map_toArray, List.map_cons, List.map_nil, hd, hs, hr]
  exact h
theorem zgq {P : Program} {ops : Array Oper} {o : Oper} {a : Act} {w : World} {K : Act → World → Prop} {Q : Exit → Act → World → Prop} {E : Prop}
    (hg : o.guard = none) (d x : Operand) (dT sT : TypeId) (hop : o.op = Op.call { callee := Callee.builtin Builtin.copy, args := #[d, x], argTypes := #[dT, sT] })
    (v u : Value) (hd : a.eval d = v) (hx : a.eval x = u) {v' : Value} {w' : World} (hr : (Builtin.copy_ #[dT, sT] o.type #[v, u]).run P w = .ok v' w') (hK : K (a.put o.dst v') w') :
    if Region.wanted o (yielded ops a.tmps) = true then Oper.wp P o a w K Q else E := by
  have hw : Region.wanted o (yielded ops a.tmps) = true := by simp [Region.wanted, hg]
  rw [if_pos hw]
  exact zh2 w d x dT sT hop v u hd hx hr hK
set_option maxHeartbeats 4000000 in
theorem zh3 (n : Nat) (hn : n ≤ 1000000) (hpos : 0 < n) (A : Option Addr) (c : Nat) (w : World) (hr : Kd.C (Kd.int .i64) w A 1 [-1]) :
    Calls Try.prog 55 #[.slice A 1 c, .int .i64 n] w fun e w' => ∃ v0_ : Value, e = .returned v0_ ∧ Kd.R (Kd.int .i64) 3 w' w.heap.size (fun _ => True) v0_ (List.replicate n (-1)) ∧ Below w.heap.size w w' := by
  have HR := za.mk hr
  clear hr
  have hM := za.mk (zh1 (n : Int) (by omega) (by omega))
  have hn0 : ¬ (n : Int) < 0 := by omega
  have hn1 : IntKind.u64.wrap (n : Int) = (n : Int) := by rw [IntKind.wrap_u64]; omega
  have hn2 : IntKind.i64.wrap (n : Int) = (n : Int) := by rw [IntKind.wrap_i64]; omega
  have hn3 : ¬ (n : Int) > 9223372036854775807 := by omega
  have hn4 : decide ((n : Int) > 9223372036854775807) = false := decide_eq_false (by omega)
  go_enter Try.func55, Try.ntmps55
  go_wp2_with (first
    | (go_at_call 63; refine (bits_Mul.calls 1 (n : Int) 0 (n : Int) _ hM.out).mono ?_; rintro e w' ⟨rfl, ⟨nq, rfl⟩⟩)
    | ((with_reducible refine zb8 (N := 30) rfl ?_); refine Kd.R_make (Kd.int .i64) _ 3 rfl (N := 30) rfl 23 _ _ rfl (n : Int) rfl rfl Try.underlying23 (.int .i64 0) 8 info3 rfl (by decide) (by omega) 0 (ok := fun _ => True) (okp := fun _ => True) rfl (fun _ hk => hk) trivial (by omega) (by omega) (Below.refl _ _) (Nat.le_refl _) ?_; intro v w4 ho5 hb hg_ hnew_; rw [Int.toNat_natCast] at ho5; obtain ⟨gb, cap, ev, hgb, _, _, _⟩ := Kd.zf4 ho5 (by rw [List.length_replicate]; exact hpos); subst ev; rw [List.length_replicate] at ho5; have HO := za.mk ho5; have HB := za.mk hb; have GB := za.mk hgb; clear hg_ hnew_ ho5 hb hgb)
    | ((with_reducible refine zb8 (N := 33) rfl ?_); refine Kd.R_copy (0 : Int) (w.drewN nq).heap.size rfl _ _ 23 23 3 rfl Try.underlying23 (by kernel_rfl) _ _ [-1] A 1 c (fun _ => True) rfl rfl HO.out (Kd.zci HR.out ((zbk (Below.refl _ _) nq).trans HB.out)) HB.out HB.out.size ?_; intro w5 ho6 hb6 hg6; rw [show [(-1 : Int)].take (min 1 (List.replicate n (0 : Int)).length) ++ (List.replicate n (0 : Int)).drop (min 1 (List.replicate n (0 : Int)).length) = rowAt n 1 by rw [List.length_replicate, Nat.min_eq_left hpos]; simp [rowAt]] at ho6; have HO6 : za (Kd.R (Kd.int .i64) 3 w5 (w.drewN nq).heap.size (fun _ => True) (.slice (some ⟨gb, 0, none⟩) n cap) (rowAt n 1)) := ⟨ho6⟩; have HB6 := za.mk hb6; clear ho6 hb6 hg6))
  go_loopg [8] n (fun gg v8 wr => ∃ m : Nat, v8 = .int .i64 m ∧ 1 ≤ m ∧ m ≤ n ∧ n - m ≤ gg ∧ za (Kd.R (Kd.int .i64) 3 wr (w.drewN nq).heap.size (fun _ => True) (.slice (some ⟨gb, 0, none⟩) n cap) (rowAt n m)) ∧ za (Below (w.drewN nq).heap.size (w.drewN nq) wr))
  case atStart => exact ⟨1, by rw [Nat.min_eq_left hpos], by omega, by omega, by omega, HO6, HB6⟩
  case round =>
    obtain ⟨m, rfl, hm1, hmn, hgg, R7, B7⟩ := hrel
    by_cases hlt : m < n
    · have hltz : (m : Int) < (n : Int) := by omega
      have hmz : (m : Int) ≤ (n : Int) := by omega
      have hm0 : (0 : Int) ≤ (m : Int) := by omega
      have hcap : n ≤ cap := (Kd.zcj R7.out).2.1
      have hmc : m ≤ cap := by omega
      have hcm : ¬ cap = m := by omega
      go_wp2_with fail
      go_region_law (refine zgq rfl _ _ 23 23 rfl (.slice (some ⟨gb, m, none⟩) (n - m) (cap - m)) (.slice (some ⟨gb, 0, none⟩) m cap) (by simp [Act.eval, Act.put]) (by simp [Act.eval, Act.put]) (self_copy hm1 hmn (Kd.zd8 R7.out) _ _ _) ?_)
      all_goals go_wp2
      go_roundg (n - (m + min m (n - m)))
      case measure => omega
      case rel =>
        refine ⟨m + min m (n - m), ?_, by omega, by omega, Nat.le_refl _, ⟨R_rowAt _ _ _ (by omega) (Kd.zd8 R7.out)⟩, ⟨below_setCells GB.out _ _ _ (zbr B7.out)⟩⟩
        first | rfl | (congr 1; unfold wrap64; omega) | (congr 1; rw [IntKind.wrap_i64]; omega)
    · have hltz : ¬ (m : Int) < (n : Int) := by omega
      go_wp2
      go_ret
      refine ⟨_, rfl, ?_, ?_⟩
      · have := R7.out
        rw [show m = n by omega] at this
        unfold rowAt at this
        rw [Nat.sub_self, List.replicate_zero, List.append_nil] at this
        exact Kd.zcg this (Nat.le_refl _)
      · exact zcq (zbk (Below.refl _ _) nq) (Nat.le_refl _) B7.out
set_option maxHeartbeats 4000000 in
theorem zio (A : Option Addr) (c : Nat) (w : World) (hr : Kd.C (Kd.int .i64) w A 1 [-1]) :
    Calls Try.prog 55 #[.slice A 1 c, .int .i64 0] w fun e w' => ∃ v0_ : Value, e = .returned v0_ ∧ Kd.R (Kd.int .i64) 3 w' w.heap.size (fun _ => True) v0_ [] ∧ Below w.heap.size w w' := by
  have HR := za.mk hr
  clear hr
  have hM := za.mk (zh1 0 (by omega) (by omega))
  go_enter Try.func55, Try.ntmps55
  go_wp2_with (first
    | (go_at_call 63; refine (bits_Mul.calls 1 0 0 0 _ hM.out).mono ?_; rintro e w' ⟨rfl, ⟨nq, rfl⟩⟩)
    | ((with_reducible refine zb8 (N := 30) rfl ?_); refine Kd.R_make (Kd.int .i64) _ 3 rfl (N := 30) rfl 23 _ _ rfl 0 rfl rfl Try.underlying23 (.int .i64 0) 8 info3 rfl (by decide) (by omega) 0 (ok := fun _ => True) (okp := fun _ => True) rfl (fun _ hk => hk) trivial (by omega) (by omega) (Below.refl _ _) (Nat.le_refl _) ?_; intro v w4 ho5 hb hg_ hnew_; have HO := za.mk ho5; have HB := za.mk hb; clear hg_ hnew_ ho5 hb; obtain ⟨A2, c2, ev⟩ := Kd.zce HO.out; subst ev)
    | ((with_reducible refine zb8 (N := 33) rfl ?_); refine Kd.R_copy (0 : Int) (w.drewN nq).heap.size rfl _ _ 23 23 3 rfl Try.underlying23 (by kernel_rfl) _ _ [-1] A 1 c (fun _ => True) rfl rfl HO.out (Kd.zci HR.out ((zbk (Below.refl _ _) nq).trans HB.out)) HB.out HB.out.size ?_; intro w5 ho6 hb6 hg6; have HO6 : za (Kd.R (Kd.int .i64) 3 w5 (w.drewN nq).heap.size (fun _ => True) (.slice A2 0 c2) []) := ⟨ho6⟩; have HB6 := za.mk hb6; clear ho6 hb6 hg6))
  go_loopg [8] 0 (fun gg v8 wr => v8 = .int .i64 0 ∧ za (Kd.R (Kd.int .i64) 3 wr (w.drewN nq).heap.size (fun _ => True) (.slice A2 0 c2) []) ∧ za (Below (w.drewN nq).heap.size (w.drewN nq) wr))
  case atStart => exact ⟨rfl, HO6, HB6⟩
  case round =>
    obtain ⟨rfl, R7, B7⟩ := hrel
    go_wp2
    go_ret
    exact ⟨_, rfl, Kd.zcg R7.out (Nat.le_refl _), zcq (zbk (Below.refl _ _) nq) (Nat.le_refl _) B7.out⟩
theorem repeat_any (n : Nat) (hn : n ≤ 1000000) (A : Option Addr) (c : Nat) (w : World) (hr : Kd.C (Kd.int .i64) w A 1 [-1]) :
    Calls Try.prog 55 #[.slice A 1 c, .int .i64 n] w fun e w' => ∃ v0_ : Value, e = .returned v0_ ∧ Kd.R (Kd.int .i64) 3 w' w.heap.size (fun _ => True) v0_ (List.replicate n (-1)) ∧ Below w.heap.size w w' := by
  rcases Nat.eq_zero_or_pos n with rfl | h
  · exact zio A c w hr
  · exact zh3 n hn h A c w hr
def zey.f (a0 : Int) : Option (List Int) := if 0 ≤ a0 ∧ a0 ≤ 1000000 then (some (List.replicate a0.toNat (-1))) else (none)
set_option maxHeartbeats 4000000 in
theorem zey.calls (a0 : Int) (r : List Int) (w : World) (h : zey.f a0 = some r) :
    Calls Try.prog 32 #[.int .i64 a0] w fun e w' => ∃ v0_ : Value, e = .returned (v0_) ∧ Kd.R (Kd.int .i64) 3 w' w.heap.size (fun _ => True) v0_ r ∧ Below w.heap.size w w' := by
  unfold zey.f at h
  by_cases hc : 0 ≤ a0 ∧ a0 ≤ 1000000
  · rw [if_pos hc] at h
    obtain rfl := Option.some.inj h
    clear h
    obtain ⟨n, rfl⟩ := Int.eq_ofNat_of_zero_le hc.1
    rw [Int.toNat_natCast]
    have hn : n ≤ 1000000 := by omega
    clear hc
    go_enter Try.func32, Try.ntmps32
    go_wp2_with (go_at_call 55; refine (repeat_any n hn _ _ _ ?_).mono ?_)
    · refine ⟨rfl, by omega, fun _ => ⟨_, rfl, fun j p hj => ?_⟩⟩
      match j, hj with
      | 0, hj =>
        injection hj with hj
        subst hj
        refine ⟨[.int .i64 (-1)], rfl, rfl, fun i u hi => ?_⟩
        match i, hi with
        | 0, hi =>
          injection hi with hi
          subst hi
          show (w.alloc _).cell? (Addr.add _ 0) = _
          rw [Addr.add_zero']
          simp
        | i + 1, hi => simp at hi
      | j + 1, hj => simp at hj
    · rintro e w' ⟨v0_, rfl, hR, hB⟩
      have HR := za.mk hR
      have HB := za.mk hB
      clear hR hB
      go_wp2
      go_ret
      exact ⟨_, rfl, Kd.zcg HR.out (by simp), zc4 (zbo (Below.refl _ _) _) (by simp) HB.out⟩
  · rw [if_neg hc] at h
    cases h
def zn.l0 : Nat → List Int → Int → Int → Int → Option (Int)
 | 0, _, _, _, _ => none
 | k + 1, x0, x1, x7, x8 => if x8 < x7 then (if 0 ≤ x8 then (if x8 < (x0.length : Int) then (if x1 = (rd x0 x8) then (some x8) else (zn.l0 k x0 x1 x7 (wrap64 (x8 + 1)))) else (none)) else (none)) else (some (-1))
def zn.f (k : Nat) (l0 : List Int) (a1 : Int) : Option (Int) := zn.l0 k l0 a1 (l0.length : Int) 0
theorem zn.zhx : ∀ k, (∀ y0 y1 y2 y3, LeO (zn.l0 k y0 y1 y2 y3) (zn.l0 (k + 1) y0 y1 y2 y3))
 | 0 => fun _ _ _ _ r h => by simp [zn.l0] at h
 | k + 1 => by
  have ih0 := zn.zhx k
  ·intro y0 y1 y2 y3
   unfold zn.l0
   repeat' first
   | (with_reducible exact ih0 _ _ _ _)
   | (with_reducible exact LeO.refl _)
   | (with_reducible exact LeO.none _)
   | (with_reducible refine LeO.ite ?_ ?_)
   | (with_reducible refine LeO.bind ?_ (fun _ => ?_))
   | exact ih0 _ _ _ _
   | exact LeO.none _
   | refine LeO.ite ?_ ?_
   | refine LeO.bind ?_ (fun _ => ?_)
theorem zn.mono : ∀ a0 a1 k, LeO (zn.f k a0 a1) (zn.f (k + 1) a0 a1) := by
 intro a0 a1 k
 have ih0 := zn.zhx k
 unfold zn.f
 repeat' first
   | (with_reducible exact ih0 _ _ _ _)
   | (with_reducible exact LeO.refl _)
   | (with_reducible exact LeO.none _)
   | (with_reducible refine LeO.ite ?_ ?_)
   | (with_reducible refine LeO.bind ?_ (fun _ => ?_))
   | exact ih0 _ _ _ _
   | exact LeO.none _
   | refine LeO.ite ?_ ?_
   | refine LeO.bind ?_ (fun _ => ?_)
set_option maxHeartbeats 8000000 in
theorem zn.calls (k : Nat) (A0 : Option Addr) (c0 : Nat) (l0 : List Int) (a1 : Int) (r : Int) (w : World) (hr0 : Kd.C (Kd.int .i64) w A0 l0.length l0) (hc0 : l0.length ≤ c0) (h : zn.f k l0 a1 = some r) :
  Calls Try.prog 57 #[.slice A0 l0.length c0, .int .i64 a1] w fun e w' => e = .returned (.int .i64 r) ∧ zbj w w' := by
 have HR0 := za.mk hr0
 have HC0 := za.mk hc0
 clear hr0 hc0
 have H : (zn.l0 k l0 a1 (l0.length : Int) 0) = some r := h
 clear h
 have H' := za.mk H
 clear H
 go_enter Try.func57, Try.ntmps57
 go_wp2
 go_loopg [8] k (fun kq v8 w' => ∃ (x8_1 : Int), v8 = .int .i64 x8_1 ∧ za (zn.l0 kq l0 a1 (l0.length : Int) x8_1 = some r) ∧ za (kq ≤ k) ∧ zbj w w')
 case atStart => exact ⟨(0), Zrs, H', ⟨Nat.le_refl _⟩, by repeat (first | exact zbj.refl _ | apply zbj.step)⟩
 case round =>
  clear H'
  try clear p2
  obtain ⟨x8_1, rfl, HA, HK1, ⟨m1, rfl⟩⟩ := hrel
  cases gk with
  | zero => exact absurd HA.out (by simp [zn.l0])
  | succ k1 =>
   have H := HA.out;clear HA;simp only [zn.l0] at H;by_cases c3 : x8_1 < (l0.length : Int)
   ·rw [if_pos c3] at H
    have c3b0 : decide (x8_1 < (l0.length : Int)) = true := decide_eq_true c3;clear c3;by_cases c4 : 0 ≤ x8_1
    ·rw [if_pos c4] at H
     have c4b0 : decide (0 ≤ x8_1) = true := decide_eq_true c4;clear c4;by_cases c5 : x8_1 < (l0.length : Int)
     ·rw [if_pos c5] at H
      have c5b0 : decide (x8_1 < (l0.length : Int)) = true := decide_eq_true c5;clear c5;by_cases c6 : a1 = (rd l0 x8_1)
      ·rw [if_pos c6] at H
       have c6b0 : (a1 == (rd l0 x8_1)) = true := beq_iff_eq.mpr c6;have c6b1 : (a1 != (rd l0 x8_1)) = false := bne_eq_false_iff_eq.mpr c6;clear c6;obtain rfl := Option.some.inj H;have p207 : 0 ≤ (x8_1 : Int) := of_decide_eq_true Zas;have q207 : x8_1 < (l0.length : Int) := of_decide_eq_true Zas;obtain ⟨ad207, e207, hx207_0⟩ := Kd.zbq HR0.out x8_1 p207 q207
       cases e207
       replace p207 := eq_true p207;replace q207 := eq_true q207;go_wp2;go_ret;exact ⟨by first | rfl | (simp; done) | (simp [*]; done), by repeat (first | exact zbj.refl _ | apply zbj.step)⟩
      ·rw [if_neg c6] at H
       have c6b0 : (a1 == (rd l0 x8_1)) = false := beq_eq_false_iff_ne.mpr c6;have c6b1 : (a1 != (rd l0 x8_1)) = true := bne_iff_ne.mpr c6;have H' := za.mk H;clear H;have p207 : 0 ≤ (x8_1 : Int) := of_decide_eq_true Zas;have q207 : x8_1 < (l0.length : Int) := of_decide_eq_true Zas;obtain ⟨ad207, e207, hx207_0⟩ := Kd.zbq HR0.out x8_1 p207 q207
       cases e207
       replace p207 := eq_true p207;replace q207 := eq_true q207;go_wp2;go_roundg k1
       case measure => have := HK1.out; omega
       case rel => exact ⟨(wrap64 (x8_1 + 1)), Zrs, H', ⟨by have := HK1.out; omega⟩, by repeat (first | exact zbj.refl _ | apply zbj.step)⟩
     ·rw [if_neg c5] at H
      exact absurd H (by simp)
    ·rw [if_neg c4] at H
     exact absurd H (by simp)
   ·rw [if_neg c3] at H
    have c3b0 : decide (x8_1 < (l0.length : Int)) = false := decide_eq_false c3;clear c3;obtain rfl := Option.some.inj H;go_wp2;go_ret;exact ⟨by first | rfl | (simp; done) | (simp [*]; done), by repeat (first | exact zbj.refl _ | apply zbj.step)⟩
def zbl.f (k : Nat) (l0 : List Int) (a1 : Int) : Option (Bool) := (zn.f k l0 a1).bind fun t208 => (some (decide (t208 ≥ 0)))
theorem zbl.mono : ∀ a0 a1 k, LeO (zbl.f k a0 a1) (zbl.f (k + 1) a0 a1) := by
 intro a0 a1 k
 unfold zbl.f
 repeat' first
   | (with_reducible exact zn.mono _ _ _)
   | (with_reducible exact LeO.refl _)
   | (with_reducible exact LeO.none _)
   | (with_reducible refine LeO.ite ?_ ?_)
   | (with_reducible refine LeO.bind ?_ (fun _ => ?_))
   | exact zn.mono _ _ _
   | exact LeO.none _
   | refine LeO.ite ?_ ?_
   | refine LeO.bind ?_ (fun _ => ?_)
set_option maxHeartbeats 8000000 in
theorem zbl.calls (k : Nat) (A0 : Option Addr) (c0 : Nat) (l0 : List Int) (a1 : Int) (r : Bool) (w : World) (hr0 : Kd.C (Kd.int .i64) w A0 l0.length l0) (hc0 : l0.length ≤ c0) (h : zbl.f k l0 a1 = some r) :
  Calls Try.prog 34 #[.slice A0 l0.length c0, .int .i64 a1] w fun e w' => e = .returned (.bool r) ∧ zbj w w' := by
 have HR0 := za.mk hr0
 have HC0 := za.mk hc0
 clear hr0 hc0
 have H : ((zn.f k l0 a1).bind fun t208 => (some (decide (t208 ≥ 0)))) = some r := h
 clear h
 replace H := Option.bind_eq_some_iff.mp H
 obtain ⟨t208, A30, H⟩ := H
 replace H : (some (decide (t208 ≥ 0))) = some r := H
 have A3 := za.mk A30
 clear A30
 obtain rfl := Option.some.inj H
 go_enter Try.func34, Try.ntmps34
 go_wp2_with (first | ((with_reducible refine zbd (f := 57) rfl ?_); refine zb7 (some 7) rfl rfl Try.func57 (by kernel_rfl) rfl #[.slice A0 l0.length c0, .int .i64 a1] rfl Zmt ?_; (with_reducible refine (zn.calls k _ _ l0 a1 t208 _ ?side1 ?side2 A3.out).mono ?_); (case side1 => exact Zq11 HR0); (case side2 => exact HC0.out); rintro e w' ⟨rfl, ⟨nd, rfl⟩⟩; refine ⟨_, rfl, ?_⟩))
 go_ret
 exact ⟨by first | rfl | (simp; done) | (simp [*]; done), by repeat (first | exact zbj.refl _ | apply zbj.step)⟩
theorem Kd.Qc_of_S {α : Type} {d : Kd α} {e e1 base : Nat} {w : World} {ok : Nat → Prop} {v : Value} {xs : List (List α)} (h : Kd.S (Kd.slice e d) e1 w base ok v xs) : Kd.Qc (Kd.cut e d) e1 w base ok v xs := Kd.zgc (Kd.cut_of (Kd.S_R h))
section
variable {α : Type} {d : Kd α} {e base m : Nat} {w w' w1 W : World} {ok : Nat → Prop} {u v v1 : Value} {xs : List α}
theorem Kd.ze3 {ad : Addr} {n cap : Nat} (h : Kd.Qc d e W base ok (.slice (some ad) n cap) xs) (z : α) (i : Int) (h0 : 0 ≤ i) (h1 : i < n) :
    ∃ c, c.length = d.sz ∧ d.M W base (fun k => ok k ∧ some k ≠ (Value.slice (some ad) n cap).ownBlock) (xs.getD i.toNat z) c ∧ ∀ j u, c[j]? = some u → W.cell? (ad.add (i.toNat * d.sz + j)) = some u := by
  obtain ⟨v', hc, h⟩ := h
  rcases hc with rfl | ⟨ad2, n2, c2, c', he, rfl, h3, h4⟩
  · exact Kd.R_getA h z i h0 h1
  · injection he with e1 e2 e3
    injection e1 with e1
    subst e1 e2 e3
    exact Kd.R_getA h z i h0 h1
theorem Kd.zdf (h : Kd.Qc d e W base (fun k => ok k ∧ some k ≠ v.ownBlock) u xs) (hg : W.grownBy w1 v.ownBlock) (hat : v1.ownBlock = v.ownBlock ∨ ∃ b, v1.ownBlock = some b ∧ W.heap.size ≤ b) : Kd.Qc d e w1 base (fun k => ok k ∧ some k ≠ v1.ownBlock) u xs := let ⟨v', hc, h⟩ := h; ⟨v', hc, Kd.zid h hg hat⟩
end
def zcm (es : List (List Int)) (left : List Int) (m : Int) : Nat → List Int
  | 0 => []
  | i + 1 => if rd left (i : Int) > 0 then (if es.any (blkE left i) = true then zcm es left m i else (if ((zcm es left m i).length : Int) < m then zcm es left m i ++ [(i : Int)] else zcm es left m i)) else zcm es left m i
def zeq (now : Int) (p : List Int × List Int) (i : Int) : List Int × List Int := (p.1.set i.toNat (wrap64 (rd p.1 i - 1)), if wrap64 (rd p.1 i - 1) = 0 then p.2.set i.toNat (wrap64 (now + 1)) else p.2)
def zbg.l0 (c : List Int) (es : List (List Int)) (m : Int) : Nat → Int → List Int → List Int → List (List Int) → Option (List (List Int) × List Int)
  | 0, _, _, _, _ => none
  | k + 1, now, left, fin, rows => (zbl.f k fin (-1)).bind fun t => (if t = true then (if rows.length < 1000000 then (zbg.l0 c es m k (wrap64 (now + 1)) ((zcm es left m c.length).foldl (zeq now) (left, fin)).1 ((zcm es left m c.length).foldl (zeq now) (left, fin)).2 (rows ++ [zcm es left m c.length])) else (none)) else (some (rows, fin)))
def zbg.f (k : Nat) (l0 : List Int) (l1 : List (List Int)) (a2 : Int) : Option (List (List Int) × List Int) := (zm.f k l0 l1).bind fun t => (if t = true then ((zcz.f a2).bind fun u => (if u = true then (if l0.length ≤ 1000 ∧ ∀ e ∈ l1, e.length = 2 ∧ 0 ≤ rd e 0 ∧ rd e 0 < (l0.length : Int) then (zbg.l0 l0 l1 a2 k 0 l0 (List.replicate l0.length (-1)) []) else (none)) else (some ([], [])))) else (some ([], [])))
theorem gpick_mem (es : List (List Int)) (left : List Int) (m : Int) : ∀ n, ∀ x ∈ zcm es left m n, ∃ i : Nat, i < n ∧ x = (i : Int) := by
  intro n
  induction n with
  | zero => intro x hx; simp [zcm] at hx
  | succ n ih =>
    intro x hx
    have old : x ∈ zcm es left m n → ∃ i : Nat, i < n + 1 ∧ x = (i : Int) := fun h => by
      obtain ⟨i, h1, h2⟩ := ih x h
      exact ⟨i, by omega, h2⟩
    rw [zcm] at hx
    split at hx
    · split at hx
      · exact old hx
      · split at hx
        · rcases List.mem_append.1 hx with h | h
          · exact old h
          · exact ⟨n, by omega, by simpa using h⟩
        · exact old hx
    · exact old hx
theorem zh4 (es : List (List Int)) (left : List Int) (m : Int) : ∀ n, (zcm es left m n).length ≤ n := by
  intro n
  induction n with
  | zero => exact Nat.le_refl _
  | succ n ih =>
    rw [zcm]
    split
    · split
      · omega
      · split
        · rw [List.length_append, List.length_singleton]; omega
        · omega
    · omega
theorem zgf (now : Int) : ∀ (l : List Int) (p : List Int × List Int), (l.foldl (zeq now) p).1.length = p.1.length ∧ (l.foldl (zeq now) p).2.length = p.2.length := by
  intro l
  induction l with
  | nil => intro p; exact ⟨rfl, rfl⟩
  | cons a l ih =>
    intro p
    have := ih (zeq now p a)
    rw [List.foldl_cons, this.1, this.2]
    unfold zeq
    refine ⟨by simp, ?_⟩
    simp only
    split <;> simp
theorem Q_addr {e base n c : Nat} {W : World} {ok : Nat → Prop} {A : Option Addr} {xs : List Int} (h : Kd.Qc (Kd.int .i64) e W base ok (.slice A n c) xs) (hn : 0 < n) : ∃ g, A = some ⟨g, 0, none⟩ := by
  obtain ⟨v', hc, h⟩ := h
  obtain ⟨_, inner, ho, _⟩ := h
  rcases ho.2 with ⟨hv, hz⟩ | ⟨g, cap, cur, hv, _⟩
  · rcases hc with rfl | ⟨ad, n1, c1, c', he, rfl, _, _⟩
    · injection hv with _ h2; omega
    · injection hv with h1; cases h1
  · rcases hc with rfl | ⟨ad, n1, c1, c', he, rfl, _, _⟩
    · injection hv with h1; exact ⟨g, h1⟩
    · injection hv with h1; injection he with h2; exact ⟨g, h2.trans h1⟩
def zbg.T23 : Bool × List (List Nat × List Nat) := (true, [([], []), ([0], [0]), ([], []), ([2], [2]), ([3], [3]), ([1, 4, 3], [1, 4]), ([0, 1, 2, 3, 4, 5], []), ([6, 5, 5, 0, 1, 2, 3, 4, 5], [5, 6])])
def zbg.B23 : List Nat := [0, 1, 0, 4, 12, 31, 63, 127]
theorem zbg.tab23 : rtab .any (opsOf Try.f9 23) = zbg.T23 := by kernel_rfl
theorem zbg.zh5 : zdw zbg.T23.2 zbg.B23 = true := by kernel_rfl
structure GrW (w : World) (n gl go : Nat) (L F : Option Addr) (cl cf : Nat) (vr : Value) (left fin : List Int) (rows : List (List Int)) (W : World) : Prop where
  lv : W.cell? ⟨gl, 0, none⟩ = some (.slice L n cl)
  o0 : W.cell? ⟨go, 0, none⟩ = some vr
  f0 : W.frozen? ⟨go, 0, none⟩ = false
  o1 : W.cell? ⟨go, 1, none⟩ = some (.slice F n cf)
  lR : Kd.Qc (Kd.int .i64) 3 W w.heap.size (fun k => some k = (Value.slice L n cl).ownBlock) (.slice L n cl) left
  fR : Kd.R (Kd.int .i64) 3 W w.heap.size (fun k => some k = (Value.slice F n cf).ownBlock) (.slice F n cf) fin
  rR : Kd.R (Kd.cut 3 (Kd.int .i64)) 23 W w.heap.size (fun k => k ≠ gl ∧ k ≠ go ∧ some k ≠ (Value.slice L n cl).ownBlock ∧ some k ≠ (Value.slice F n cf).ownBlock) vr rows
  bel : Below w.heap.size w W
structure GrNe (w : World) (n gl go : Nat) (L F : Option Addr) (cl cf : Nat) : Prop where
  gn : w.heap.size ≤ gl
  gon : w.heap.size ≤ go
  ggo : gl ≠ go
  gL : ∀ k, (Value.slice L n cl).ownBlock = some k → w.heap.size ≤ k ∧ k ≠ gl ∧ k ≠ go
  gF : ∀ k, (Value.slice F n cf).ownBlock = some k → w.heap.size ≤ k ∧ k ≠ gl ∧ k ≠ go
  LF : ∀ k, (Value.slice L n cl).ownBlock = some k → some k ≠ (Value.slice F n cf).ownBlock
section
variable {w W W1 : World} {n gl go : Nat} {L F : Option Addr} {cl cf : Nat} {vr : Value} {left fin : List Int} {rows : List (List Int)}
theorem GrW.below (h : GrW w n gl go L F cl cf vr left fin rows W) (hb : Below W.heap.size W W1) : GrW w n gl go L F cl cf vr left fin rows W1 :=
  ⟨(hb.cell (World.block_lt_of_cell? _ _ h.lv)).trans h.lv, (hb.cell (World.block_lt_of_cell? _ _ h.o0)).trans h.o0, (hb.frozen (World.block_lt_of_cell? _ _ h.o0)).trans h.f0, (hb.cell (World.block_lt_of_cell? _ _ h.o1)).trans h.o1,
   Kd.zbt h.lR hb, Kd.zc3 h.fR hb, Kd.zc3 h.rR hb, zbi h.bel hb⟩
theorem GrW.zhi {g : Nat} (h : GrW w n gl go (some ⟨g, 0, none⟩) F cl cf vr left fin rows W) (ne : GrNe w n gl go (some ⟨g, 0, none⟩) F cl cf) (i : Nat) (x : Int) :
    GrW w n gl go (some ⟨g, 0, none⟩) F cl cf vr (left.set i x) fin rows (W.setCell ⟨g, i, none⟩ (.int .i64 x)) := by
  have ho : (Value.slice (some ⟨g, 0, none⟩) n cl).ownBlock = some g := rfl
  have hg := ne.gL g ho
  have h1 := (Kd.zil h.lR (i : Int) x).1
  rw [Int.toNat_natCast] at h1
  refine ⟨?_, ?_, by rw [World.frozen?_setCell]; exact h.f0, ?_, h1, Kd.zdo h.fR (fun k hk e => ne.LF g ho (by rw [← hk]; exact congrArg some e.symm)) _, Kd.zdo h.rR (fun k hk e => hk.2.2.1 (by rw [ho]; exact congrArg some e)) _, h.bel.setCell hg.1 _⟩
  · rw [World.cell?_setCell_far _ _ _ _ hg.2.1]; exact h.lv
  · rw [World.cell?_setCell_far _ _ _ _ hg.2.2]; exact h.o0
  · rw [World.cell?_setCell_far _ _ _ _ hg.2.2]; exact h.o1
theorem GrW.setFin {g : Nat} (h : GrW w n gl go L (some ⟨g, 0, none⟩) cl cf vr left fin rows W) (ne : GrNe w n gl go L (some ⟨g, 0, none⟩) cl cf) (i : Nat) (x : Int) :
    GrW w n gl go L (some ⟨g, 0, none⟩) cl cf vr left (fin.set i x) rows (W.setCell ⟨g, i, none⟩ (.int .i64 x)) := by
  have ho : (Value.slice (some ⟨g, 0, none⟩) n cf).ownBlock = some g := rfl
  have hg := ne.gF g ho
  have h1 := (Kd.zfr h.fR (i : Int) x).1
  rw [Int.toNat_natCast] at h1
  refine ⟨?_, ?_, by rw [World.frozen?_setCell]; exact h.f0, ?_, Kd.zbm h.lR (fun k hk e => ne.LF k hk.symm (by rw [ho]; exact congrArg some e)) _, h1, Kd.zdo h.rR (fun k hk e => hk.2.2.2 (by rw [ho]; exact congrArg some e)) _, h.bel.setCell hg.1 _⟩
  · rw [World.cell?_setCell_far _ _ _ _ hg.2.1]; exact h.lv
  · rw [World.cell?_setCell_far _ _ _ _ hg.2.2]; exact h.o0
  · rw [World.cell?_setCell_far _ _ _ _ hg.2.2]; exact h.o1
end
theorem GrW.setRows {w W W1 : World} {n gl go : Nat} {L F : Option Addr} {cl cf : Nat} {vr v1 : Value} {left fin : List Int} {rows rows1 : List (List Int)} (h : GrW w n gl go L F cl cf vr left fin rows W) (ne : GrNe w n gl go L F cl cf) (hg : W.grownBy W1 vr.ownBlock) (hb : Below w.heap.size w W1)
    (hr : Kd.R (Kd.cut 3 (Kd.int .i64)) 23 W1 w.heap.size (fun k => k ≠ gl ∧ k ≠ go ∧ some k ≠ (Value.slice L n cl).ownBlock ∧ some k ≠ (Value.slice F n cf).ownBlock) v1 rows1) : GrW w n gl go L F cl cf v1 left fin rows1 (W1.setCell ⟨go, 0, none⟩ v1) := by
  have hv := h.rR.1
  have hgl : some gl ≠ vr.ownBlock := fun e => (hv gl e.symm).1 rfl
  have hgo : some go ≠ vr.ownBlock := fun e => (hv go e.symm).2.1 rfl
  have c0 := hg.cell h.o0 hgo
  have c1 := hg.cell h.o1 hgo
  have fz : W1.frozen? ⟨go, 0, none⟩ = false := (World.frozen?_of_block (hg.block go (World.block_lt_of_cell? _ _ h.o0) hgo)).trans h.f0
  refine ⟨?_, World.cell?_setCell_same _ _ _ c0, by rw [World.frozen?_setCell]; exact fz, ?_, ?_, ?_, Kd.zdo hr (fun k hk e => hk.2.1 e) _, hb.setCell ne.gon _⟩
  · rw [World.cell?_setCell_far _ _ _ _ (fun e => ne.ggo e.symm)]; exact hg.cell h.lv hgl
  · rw [World.cell?_setCell_other _ _ _ _ (by simp)]; exact c1
  · obtain ⟨v', hc, hR⟩ := h.lR
    exact Kd.zbm ⟨v', hc, Kd.zg3 hR hg (fun k hk e => (hv k e.symm).2.2.1 hk)⟩ (fun k hk e => (ne.gL k hk.symm).2.2 e) _
  · exact Kd.zdo (Kd.zg3 h.fR hg (fun k hk e => (hv k e.symm).2.2.2 hk)) (fun k hk e => (ne.gF k hk.symm).2.2 e) _
set_option maxHeartbeats 16000000 in
theorem zbg.calls (k : Nat) (A0 : Option Addr) (c0 : Nat) (l0 : List Int) (A1 : Option Addr) (c1 : Nat) (l1 : List (List Int)) (a2 : Int) (r1 : List (List Int)) (r2 : List Int) (w : World) (hr0 : Kd.C (Kd.int .i64) w A0 l0.length l0) (hc0 : l0.length ≤ c0) (hr1 : Kd.C (Kd.slice 3 (Kd.int .i64)) w A1 l1.length l1) (hc1 : l1.length ≤ c1) (h : zbg.f k l0 l1 a2 = some (r1, r2)) :
    Calls Try.prog 9 #[.slice A0 l0.length c0, .slice A1 l1.length c1, .int .i64 a2] w fun e w' => ∃ v0_ v1_ : Value, e = .returned (.agg #[v0_, v1_]) ∧ Kd.Qc (Kd.cut 3 (Kd.int .i64)) 23 w' w.heap.size (fun k_ => some k_ ≠ (v1_ : Value).ownBlock) v0_ r1 ∧ Kd.Qc (Kd.int .i64) 3 w' w.heap.size (fun k_ => some k_ ≠ (v0_ : Value).ownBlock) v1_ r2 ∧ Below w.heap.size w w' := by
  unfold zbg.f at h
  have B0 := za.mk (zbo (Below.refl w.heap.size w) (.cells #[.slice none 0 0, .slice none 0 0] 28))
  have K0 := za.mk (zdi w (.cells #[.slice none 0 0, .slice none 0 0] 28))
  have S0 := za.mk (show w.heap.size < (w.alloc (.cells #[.slice none 0 0, .slice none 0 0] 28)).heap.size by simp)
  generalize hW0 : w.alloc (.cells #[.slice none 0 0, .slice none 0 0] 28) = W0 at B0 K0 S0
  have HW := za.mk hW0
  have HR0 := za.mk (Kd.zci hr0 B0.out)
  have HC0 := za.mk hc0
  have HR1 := za.mk (Kd.zci hr1 B0.out)
  have HC1 := za.mk hc1
  clear hr0 hc0 hr1 hc1 hW0
  cases hs : zm.f k l0 l1 with
  | none => rw [hs] at h; simp at h
  | some t =>
    rw [hs] at h
    have HS := za.mk hs
    clear hs
    cases t with
    | false =>
      simp at h
      obtain ⟨rfl, rfl⟩ := h
      go_enter Try.func9, Try.ntmps9
      go_wp2_with (go_at_call 30; (try rw [HW.out]); refine (zm.calls k A0 c0 l0 A1 c1 l1 false _ HR0.out HC0.out HR1.out HC1.out HS.out).mono ?_; rintro e w1 ⟨rfl, hb⟩; have BK1 := zb1 K0.out hb; have r0 := (z8 BK1 0); have r1 := (z8 BK1 1); have f0 := zy BK1 0; have f1 := zy BK1 1; have BK := za.mk BK1; have HB := za.mk (zbi B0.out hb); clear hb BK1)
      refine bodyPost_ret (results_cell_row rfl _ _ w.heap.size 28 #[.slice none 0 0, .slice none 0 0] (0, 0) _ rfl (by first | exact BK.out | (refine zcr (cs := #[.slice none 0 0, .slice none 0 0]) ?_ 1 _ rfl; refine zcr (cs := #[.slice none 0 0, .slice none 0 0]) ?_ 0 _ rfl; exact BK.out)) Try.underlying28 rfl (by kernel_rfl)) rfl ?_
      exact ⟨_, _, rfl, Kd.ze2 _ _ _ _ _, Kd.ze2 _ _ _ _ _, by first | exact HB.out | exact (HB.out.setCell (Nat.le_refl _) _).setCell (Nat.le_refl _) _⟩
    | true =>
      simp only [Option.bind_some, if_true] at h
      cases hu : zcz.f a2 with
      | none => rw [hu] at h; simp at h
      | some u =>
        rw [hu] at h
        have HU := za.mk hu
        clear hu
        cases u with
        | false =>
          simp at h
          obtain ⟨rfl, rfl⟩ := h
          go_enter Try.func9, Try.ntmps9
          go_wp2_with (first | (go_at_call 30; (try rw [HW.out]); refine (zm.calls k A0 c0 l0 A1 c1 l1 true _ HR0.out HC0.out HR1.out HC1.out HS.out).mono ?_; rintro e w1 ⟨rfl, hb⟩; have BK1 := zb1 K0.out hb; have r0 := (z8 BK1 0); have r1 := (z8 BK1 1); have f0 := zy BK1 0; have f1 := zy BK1 1; have BK := za.mk BK1; have HB := za.mk (zbi B0.out hb); clear hb BK1) | (go_at_call 31; refine (zcz.calls a2 false _ HU.out).mono ?_; rintro e w2 ⟨rfl, ⟨q2, rfl⟩⟩))
          refine bodyPost_ret (results_cell_row rfl _ _ w.heap.size 28 #[.slice none 0 0, .slice none 0 0] (0, 0) _ rfl (by first | exact zbw BK.out _ | (refine zcr (cs := #[.slice none 0 0, .slice none 0 0]) ?_ 1 _ rfl; refine zcr (cs := #[.slice none 0 0, .slice none 0 0]) ?_ 0 _ rfl; exact zbw BK.out _)) Try.underlying28 rfl (by kernel_rfl)) rfl ?_
          exact ⟨_, _, rfl, Kd.ze2 _ _ _ _ _, Kd.ze2 _ _ _ _ _, by first | exact zbk HB.out _ | exact ((zbk HB.out _).setCell (Nat.le_refl _) _).setCell (Nat.le_refl _) _⟩
        | true =>
          simp only [Option.bind_some, if_true] at h
          by_cases hh : l0.length ≤ 1000 ∧ ∀ e ∈ l1, e.length = 2 ∧ 0 ≤ rd e 0 ∧ rd e 0 < (l0.length : Int)
          · rw [if_pos hh] at h
            have HN := za.mk hh.1
            have HE := za.mk hh.2
            have H := za.mk h
            clear hh h
            go_enter Try.func9, Try.ntmps9
            go_wp2_with (first
              | (go_at_call 30; (try rw [HW.out]); refine (zm.calls k A0 c0 l0 A1 c1 l1 true _ HR0.out HC0.out HR1.out HC1.out HS.out).mono ?_; rintro e w1 ⟨rfl, hb⟩; have BK := za.mk (zb1 K0.out hb); have HB := za.mk (zbi B0.out hb); have HB1 := za.mk hb; clear hb)
              | (go_at_call 31; refine (zcz.calls a2 true _ HU.out).mono ?_; rintro e w2 ⟨rfl, ⟨q2, rfl⟩⟩)
              | (go_at_call 32; refine (zey.calls (l0.length : Int) (List.replicate l0.length (-1)) _ (by unfold zey.f; rw [if_pos ⟨by omega, by have := HN.out; omega⟩, Int.toNat_natCast])).mono ?_; rintro e w3 ⟨vF, rfl, hF, hb3⟩; obtain ⟨F, cf, eF⟩ := Kd.zce hF; rw [List.length_replicate] at eF; subst eF; have RF := za.mk hF; have B3 := za.mk hb3; clear hF hb3)
              | (go_at_call 33; refine (zin A0 c0 l0 (by have := HN.out; omega) _ (Kd.zdj (Kd.zci (Kd.zdc (Kd.zci HR0.out HB1.out) _) B3.out) _)).mono ?_; rintro e w4 ⟨vL, rfl, hL, hb4⟩; obtain ⟨L, cl, eL⟩ := Kd.zde hL; subst eL; have RL := za.mk hL; have B4 := za.mk hb4; clear hL hb4))
            obtain ⟨go, hgo⟩ : ∃ go, go = w3.heap.size := ⟨_, rfl⟩
            obtain ⟨gl, hgl⟩ : ∃ gl, gl = w4.heap.size := ⟨_, rfl⟩
            have s1 := B0.out.size
            have s2 : W0.heap.size ≤ w1.heap.size := HB1.out.size
            have s3 : (w1.drewN q2).heap.size ≤ w3.heap.size := B3.out.size
            have s3' : (w1.drewN q2).heap.size = w1.heap.size := rfl
            have s4 := B4.out.size
            have s4' : (w3.alloc (.cells #[.slice none 0 0, .slice F l0.length cf] 28)).heap.size = w3.heap.size + 1 := by simp
            have NE := za.mk (show GrNe W0 l0.length gl go L F cl cf from ⟨by omega, by omega, by omega, fun k hk => by
              have h1 := Kd.zcd RL.out k hk
              have h2 := Kd.zdz RL.out k hk
              omega, fun k hk => by
              have h1 := Kd.zd5 RF.out k hk
              have h2 := Kd.R_lt RF.out k hk
              omega, fun k hk e => by
              have h1 := Kd.zcd RL.out k hk
              have h2 := Kd.R_lt RF.out k e.symm
              omega⟩)
            have BKo := zb0 (zb1 (zdi w3 (.cells #[.slice none 0 0, .slice F l0.length cf] 28)) B4.out) (.cells #[.slice L l0.length cl] 23)
            have BKl := zdi w4 (.cells #[.slice L l0.length cl] 23)
            have BELL : Below W0.heap.size W0 (w4.alloc (.cells #[.slice L l0.length cl] 23)) := zbo (zbi (zbo (zbi (zbk HB1.out _) B3.out) _) B4.out) _
            have GW := za.mk (show GrW W0 l0.length gl go L F cl cf (.slice none 0 0) l0 (List.replicate l0.length (-1)) [] (w4.alloc (.cells #[.slice L l0.length cl] 23)) from ⟨by rw [hgl]; exact (z8 BKl 0).trans rfl, by rw [hgo]; exact (z8 BKo 0).trans rfl, by rw [hgo]; exact zy BKo 0, by rw [hgo]; exact (z8 BKo 1).trans rfl,
              Kd.Qc_tight rfl (Kd.zc9 (Kd.zbb RL.out _) (by omega)), Kd.zew rfl (Kd.zcg (Kd.zdm (Kd.zc3 (Kd.zdm RF.out _) B4.out) _) (by omega)), Kd.R_nil _ _ _ _ _, BELL⟩)
            clear BKo BKl BELL s1 s2 s3 s3' s4 s4'
            generalize w4.alloc (.cells #[.slice L l0.length cl] 23) = W5 at GW ⊢
            rw [← hgo, ← hgl]
            clear hgo hgl
            go_loopg [9] k (fun gg v9 wr => ∃ (k2 : Nat) (now : Int) (left fin : List Int) (rows : List (List Int)) (vr : Value), v9 = .int .i64 now ∧ k2 ≤ gg ∧ k2 ≤ k ∧ left.length = l0.length ∧ fin.length = l0.length ∧ za (zbg.l0 l0 l1 a2 k2 now left fin rows = some (r1, r2)) ∧ za (GrW W0 l0.length gl go L F cl cf vr left fin rows wr))
            case atStart => exact ⟨k, 0, l0, List.replicate l0.length (-1), [], .slice none 0 0, rfl, Nat.le_refl _, Nat.le_refl _, rfl, List.length_replicate, H, GW⟩
            case round =>
              obtain ⟨k2, now, left, fin, rows, vr, rfl, hg, hk2, hll, hfl, HL, GR⟩ := hrel
              clear GW H
              cases k2 with
              | zero => exact absurd HL.out (by simp [zbg.l0])
              | succ k3 =>
                have hL := HL.out
                rw [zbg.l0] at hL
                clear HL
                cases hct : zbl.f k3 fin (-1) with
                | none => rw [hct] at hL; simp at hL
                | some tc =>
                  rw [hct] at hL
                  have FR := Kd.zcj GR.out.fR
                  have hcon := zbl.calls k3 F cf fin (-1) tc wr FR.2.2 (by omega) hct
                  rw [hfl] at hcon
                  have HCON := za.mk hcon
                  have cO1 := GR.out.o1
                  have HLL := za.mk hll
                  have HFL := za.mk hfl
                  clear hct hcon FR hll hfl
                  cases tc with
                  | false =>
                    simp at hL
                    obtain ⟨rfl, rfl⟩ := hL
                    obtain ⟨X, cr, ev⟩ := Kd.zce GR.out.rR
                    subst ev
                    have cO0 := GR.out.o0
                    have fO0 := GR.out.f0
                    have BKr : wr.heap[w.heap.size]? = some (.cells #[.slice none 0 0, .slice none 0 0] 28 (0, 0)) := (GR.out.bel.block w.heap.size S0.out).trans K0.out
                    have d0 : wr.cell? ⟨w.heap.size, 0, none⟩ = some (.slice none 0 0) := (z8 BKr 0).trans rfl
                    have d1 : wr.cell? ⟨w.heap.size, 1, none⟩ = some (.slice none 0 0) := (z8 BKr 1).trans rfl
                    have f0 := zy BKr 0
                    have f1 := zy BKr 1
                    have BK := za.mk BKr
                    have ngo := NE.out.gon
                    have hs0 := S0.out
                    have ngo1 : go ≠ w.heap.size := by omega
                    clear BKr ngo hs0
                    obtain ⟨c2, HCL⟩ : ∃ c2, za ((∀ W : World, Calls Try.prog 38 #[.slice X rows.length cr] W fun e w' => e = .returned (.slice X rows.length c2) ∧ zbj W w') ∧ Kd.Qc (Kd.cut 3 (Kd.int .i64)) 23 wr W0.heap.size (fun k => k ≠ gl ∧ k ≠ go ∧ some k ≠ (Value.slice L l0.length cl).ownBlock ∧ some k ≠ (Value.slice F l0.length cf).ownBlock) (.slice X rows.length c2) rows) := clipR_own GR.out.rR
                    go_wp2_with (first | (go_at_call 34; refine HCON.out.mono ?_; rintro e w6 ⟨rfl, ⟨q6, rfl⟩⟩) | (go_at_call 38; refine (HCL.out.1 _).mono ?_; rintro e w7 ⟨rfl, ⟨q7, rfl⟩⟩))
                    refine bodyPost_ret (results_cell_row rfl _ _ w.heap.size 28 #[.slice X rows.length c2, .slice F l0.length cf] (0, 0) _ rfl (by refine zcr (cs := #[.slice X rows.length c2, .slice none 0 0]) ?_ 1 _ rfl; refine zcr (cs := #[.slice none 0 0, .slice none 0 0]) ?_ 0 _ rfl; exact (Below.heap_setCell _ _ _ _ (by exact ngo1.symm)).trans (zbw BK.out _)) Try.underlying28 rfl (by kernel_rfl)) rfl ?_
                    have hs0 := S0.out
                    have hfb : ∀ k, (Value.slice F l0.length cf).ownBlock = some k → W0.heap.size ≤ k ∧ k ≠ gl ∧ k ≠ go := NE.out.gF
                    have hxb := Kd.Qc_1 HCL.out.2
                    have hgo := NE.out.gon
                    refine ⟨_, _, rfl, ?_, ?_, ?_⟩
                    · exact Kd.zbh (Kd.zc9 (Kd.zbm (Kd.zbm (Kd.zbm (Kd.Qc_bnd (Kd.zba HCL.out.2 _)) (fun k hk e => hk.1.2.1 e) _) (fun k hk e => by simp only at e; omega) _) (fun k hk e => by simp only at e; omega) _) (by omega)) (fun k hk => hk.1.2.2.2)
                    · exact Kd.zgc (Kd.zbz (Kd.zcg (Kd.zdo (Kd.zdo (Kd.zdo (Kd.zdv GR.out.fR _) (fun k hk e => (hfb k hk.symm).2.2 e) _) (fun k hk e => by have := hfb k hk.symm; simp only at e; omega) _) (fun k hk e => by have := hfb k hk.symm; simp only at e; omega) _) (by omega)) (fun k hk e => (hxb k e.symm).2.2.2 hk))
                    · exact (((zbk (zcq B0.out B0.out.size GR.out.bel) _).setCell (by show w.heap.size ≤ go; omega) _).setCell (Nat.le_refl _) _).setCell (Nat.le_refl _) _
                  | true =>
                    simp only [Option.bind_some, if_true] at hL
                    by_cases hrl : rows.length < 1000000
                    · rw [if_pos hrl] at hL
                      have HL := za.mk hL
                      have HRL := za.mk hrl
                      clear hL hrl
                      go_wp2_with (go_at_call 34; refine HCON.out.mono ?_; rintro e w6 ⟨rfl, ⟨q6, rfl⟩⟩)
                      have G6 := za.mk (GR.out.below (zbk (Below.refl _ _) q6))
                      clear GR HCON cO1
                      generalize wr.drewN q6 = w6 at G6 ⊢
                      go_loopg [10, 38] l0.length (fun gg v10 v38 wr => ∃ i : Nat, v38 = .int .i64 i ∧ i ≤ l0.length ∧ l0.length - i ≤ gg ∧ za (Kd.R (Kd.int .i64) 3 wr w6.heap.size (fun _ => True) v10 (zcm l1 left a2 i)) ∧ za (Below w6.heap.size w6 wr))
                      case atStart => exact ⟨0, by go_num, Nat.zero_le _, by omega, ⟨Kd.R_nil _ _ _ _ _⟩, ⟨Below.refl _ _⟩⟩
                      case round =>
                        obtain ⟨i, rfl, hil, hgi, RP, BP⟩ := hrel
                        by_cases hlt : i < l0.length
                        · have hltz : (i : Int) < (l0.length : Int) := by omega
                          have GI := za.mk (G6.out.below BP.out)
                          obtain ⟨P, cp, eP⟩ := Kd.zce RP.out
                          subst eP
                          have hN := HN.out
                          have hlp := zh4 l1 left a2 i
                          have HLP := za.mk hlp
                          obtain ⟨ad, ea, hx⟩ := Kd.zbq (Kd.zw GI.out.lR).2.2 (i : Int) (by omega) (by have := HLL.out; omega)
                          cases ea
                          rw [Int.toNat_natCast] at hx
                          have HCF : za (∀ W : World, Below (wr.alloc (.cells #[.int .i64 (i : Int)] 3)).heap.size (wr.alloc (.cells #[.int .i64 (i : Int)] 3)) W → Calls Try.prog 35 #[.slice A1 l1.length c1, .func (.func 36) #[] #[.pointer (some ⟨wr.heap.size, 0, none⟩), .pointer (some ⟨gl, 0, none⟩)]] W fun e w' => e = .returned (.bool (l1.any (blkE left i))) ∧ Below W.heap.size W w') := ⟨fun W hW => by
                            have hcell : (wr.alloc (.cells #[.int .i64 (i : Int)] 3)).cell? ⟨wr.heap.size, 0, none⟩ = some (.int .i64 (i : Int)) := (z8 (zdi wr _) 0).trans rfl
                            have GA := (GI.out.below (zbo (Below.refl _ _) (.cells #[.int .i64 (i : Int)] 3))).below hW
                            refine zhh (blkE left i) 36 #[.pointer (some ⟨wr.heap.size, 0, none⟩), .pointer (some ⟨gl, 0, none⟩)] (enters_of Try.func36 (by kernel_rfl) rfl) A1 c1 l1 W (fun W2 x B cb hx hB hC => ?_) (Kd.zci HR1.out GA.bel)
                            have hE := HE.out x hx
                            have G2 := GA.below hB
                            exact blkE_calls wr.heap.size gl i _ cl left B cb x W2 ((hB.cell (World.block_lt_of_cell? _ _ ((hW.cell (World.block_lt_of_cell? _ _ hcell)).trans hcell))).trans ((hW.cell (World.block_lt_of_cell? _ _ hcell)).trans hcell)) (by rw [HLL.out]; exact G2.lv) (Kd.zw G2.lR).2.2 hC hE.1 hE.2.1 (by rw [HLL.out]; exact hE.2.2)⟩
                          obtain ⟨x, hxx⟩ : ∃ x, rd left (i : Int) = x := ⟨_, rfl⟩
                          rw [hxx] at hx
                          have HX := za.mk (show (wr.alloc (.cells #[.int .i64 (i : Int)] 3)).cell? (ad.add i) = some (.int .i64 x) from ((zbo (Below.refl _ _) _).cell (World.block_lt_of_cell? _ _ hx)).trans hx)
                          obtain ⟨bq, hbq⟩ : ∃ b, l1.any (blkE left i) = b := ⟨_, rfl⟩
                          rw [hbq] at HCF
                          clear hx hlp
                          by_cases h1 : x > 0
                          · have h1b : decide (x > 0) = true := decide_eq_true h1
                            cases bq with
                            | true =>
                                have PK := za.mk (show zcm l1 left a2 (i + 1) = zcm l1 left a2 i by rw [zcm, hxx, if_pos h1, if_pos hbq])
                                clear hxx hbq
                                go_wp2_with (first
                                  | (go_at_call 35; refine (HCF.out _ (Below.refl _ _)).mono ?_; rintro e w7 ⟨rfl, hb7⟩; have G7 := za.mk ((GI.out.below (zbo (Below.refl _ _) (.cells #[.int .i64 (i : Int)] 3))).below hb7); have cgl := G7.out.lv; have cgi : w7.cell? ⟨wr.heap.size, 0, none⟩ = some (.int .i64 (i : Int)) := (hb7.cell (World.block_lt_of_cell? _ _ ((z8 (zdi wr (.cells #[.int .i64 (i : Int)] 3)) 0).trans rfl))).trans ((z8 (zdi wr (.cells #[.int .i64 (i : Int)] 3)) 0).trans rfl); have cx : w7.cell? (ad.add i) = some (.int .i64 x) := (hb7.cell (World.block_lt_of_cell? _ _ (HX.out))).trans HX.out; have R7 := za.mk (Kd.zc3 (Kd.zdm RP.out (.cells #[.int .i64 (i : Int)] 3)) hb7); have B7 := za.mk (zbi (zbo BP.out (.cells #[.int .i64 (i : Int)] 3)) hb7); clear hb7)
                                  | ((with_reducible refine zb4 (b := .append) (xs := #[.tmp 59, .tmp 61]) rfl ?_); at_builtin; refine Kd.zds (Kd.int .i64) (w0 := w6) w6.heap.size rfl (.tmp 59) (.tmp 61) 23 3 (.int .i64 0) 8 rfl Try.underlying23 info3 rfl (by decide) (by omega) (.slice P (zcm l1 left a2 i).length cp) (zcm l1 left a2 i) (i : Int) [.int .i64 (i : Int)] (fun _ => True) (fun _ => False) rfl rfl ?aP (fun _ hk => hk.elim) ?aF ?aO ?aB ?aS ?aL ?_; (case aP => exact rfl); (case aB => exact B7.out); (case aF => exact (fun _ _ => trivial)); (case aO => exact R7.out); (case aS => exact B7.out.size); (case aL => have := HLP.out; have := HN.out; omega); intro v8 w8 ho hb hg hat; have R8 := za.mk ho; have B8 := za.mk hb; clear ho hb hg hat))
                                go_roundg (l0.length - (i + 1))
                                case measure => omega
                                case rel => exact ⟨i + 1, by have := HN.out; go_num, by omega, by omega, ⟨by rw [PK.out]; exact R7.out⟩, B7⟩
                            | false =>
                              by_cases h2 : ((zcm l1 left a2 i).length : Int) < a2
                              · have h2b : decide (((zcm l1 left a2 i).length : Int) < a2) = true := decide_eq_true h2
                                have PK := za.mk (show zcm l1 left a2 (i + 1) = zcm l1 left a2 i ++ [(i : Int)] by rw [zcm, hxx, if_pos h1, if_neg (by rw [hbq]; decide), if_pos h2])
                                clear hxx hbq
                                go_wp2_with (first
                                  | (go_at_call 35; refine (HCF.out _ (Below.refl _ _)).mono ?_; rintro e w7 ⟨rfl, hb7⟩; have G7 := za.mk ((GI.out.below (zbo (Below.refl _ _) (.cells #[.int .i64 (i : Int)] 3))).below hb7); have cgl := G7.out.lv; have cgi : w7.cell? ⟨wr.heap.size, 0, none⟩ = some (.int .i64 (i : Int)) := (hb7.cell (World.block_lt_of_cell? _ _ ((z8 (zdi wr (.cells #[.int .i64 (i : Int)] 3)) 0).trans rfl))).trans ((z8 (zdi wr (.cells #[.int .i64 (i : Int)] 3)) 0).trans rfl); have cx : w7.cell? (ad.add i) = some (.int .i64 x) := (hb7.cell (World.block_lt_of_cell? _ _ (HX.out))).trans HX.out; have R7 := za.mk (Kd.zc3 (Kd.zdm RP.out (.cells #[.int .i64 (i : Int)] 3)) hb7); have B7 := za.mk (zbi (zbo BP.out (.cells #[.int .i64 (i : Int)] 3)) hb7); clear hb7)
                                  | ((with_reducible refine zb4 (b := .append) (xs := #[.tmp 59, .tmp 61]) rfl ?_); at_builtin; refine Kd.zds (Kd.int .i64) (w0 := w6) w6.heap.size rfl (.tmp 59) (.tmp 61) 23 3 (.int .i64 0) 8 rfl Try.underlying23 info3 rfl (by decide) (by omega) (.slice P (zcm l1 left a2 i).length cp) (zcm l1 left a2 i) (i : Int) [.int .i64 (i : Int)] (fun _ => True) (fun _ => False) rfl rfl ?aP (fun _ hk => hk.elim) ?aF ?aO ?aB ?aS ?aL ?_; (case aP => exact rfl); (case aB => exact B7.out); (case aF => exact (fun _ _ => trivial)); (case aO => exact R7.out); (case aS => exact B7.out.size); (case aL => have := HLP.out; have := HN.out; omega); intro v8 w8 ho hb hg hat; have R8 := za.mk ho; have B8 := za.mk hb; clear ho hb hg hat))
                                go_roundg (l0.length - (i + 1))
                                case measure => omega
                                case rel => exact ⟨i + 1, by have := HN.out; go_num, by omega, by omega, ⟨by rw [PK.out]; exact R8.out⟩, B8⟩
                              · have h2b : decide (((zcm l1 left a2 i).length : Int) < a2) = false := decide_eq_false h2
                                have PK := za.mk (show zcm l1 left a2 (i + 1) = zcm l1 left a2 i by rw [zcm, hxx, if_pos h1, if_neg (by rw [hbq]; decide), if_neg h2])
                                clear hxx hbq
                                go_wp2_with (first
                                  | (go_at_call 35; refine (HCF.out _ (Below.refl _ _)).mono ?_; rintro e w7 ⟨rfl, hb7⟩; have G7 := za.mk ((GI.out.below (zbo (Below.refl _ _) (.cells #[.int .i64 (i : Int)] 3))).below hb7); have cgl := G7.out.lv; have cgi : w7.cell? ⟨wr.heap.size, 0, none⟩ = some (.int .i64 (i : Int)) := (hb7.cell (World.block_lt_of_cell? _ _ ((z8 (zdi wr (.cells #[.int .i64 (i : Int)] 3)) 0).trans rfl))).trans ((z8 (zdi wr (.cells #[.int .i64 (i : Int)] 3)) 0).trans rfl); have cx : w7.cell? (ad.add i) = some (.int .i64 x) := (hb7.cell (World.block_lt_of_cell? _ _ (HX.out))).trans HX.out; have R7 := za.mk (Kd.zc3 (Kd.zdm RP.out (.cells #[.int .i64 (i : Int)] 3)) hb7); have B7 := za.mk (zbi (zbo BP.out (.cells #[.int .i64 (i : Int)] 3)) hb7); clear hb7)
                                  | ((with_reducible refine zb4 (b := .append) (xs := #[.tmp 59, .tmp 61]) rfl ?_); at_builtin; refine Kd.zds (Kd.int .i64) (w0 := w6) w6.heap.size rfl (.tmp 59) (.tmp 61) 23 3 (.int .i64 0) 8 rfl Try.underlying23 info3 rfl (by decide) (by omega) (.slice P (zcm l1 left a2 i).length cp) (zcm l1 left a2 i) (i : Int) [.int .i64 (i : Int)] (fun _ => True) (fun _ => False) rfl rfl ?aP (fun _ hk => hk.elim) ?aF ?aO ?aB ?aS ?aL ?_; (case aP => exact rfl); (case aB => exact B7.out); (case aF => exact (fun _ _ => trivial)); (case aO => exact R7.out); (case aS => exact B7.out.size); (case aL => have := HLP.out; have := HN.out; omega); intro v8 w8 ho hb hg hat; have R8 := za.mk ho; have B8 := za.mk hb; clear ho hb hg hat))
                                go_roundg (l0.length - (i + 1))
                                case measure => omega
                                case rel => exact ⟨i + 1, by have := HN.out; go_num, by omega, by omega, ⟨by rw [PK.out]; exact R7.out⟩, B7⟩
                          · have h1b : decide (x > 0) = false := decide_eq_false h1
                            have PK := za.mk (show zcm l1 left a2 (i + 1) = zcm l1 left a2 i by rw [zcm, hxx, if_neg h1])
                            clear hxx hbq
                            go_wp2_with (first
                                  | (go_at_call 35; refine (HCF.out _ (Below.refl _ _)).mono ?_; rintro e w7 ⟨rfl, hb7⟩; have G7 := za.mk ((GI.out.below (zbo (Below.refl _ _) (.cells #[.int .i64 (i : Int)] 3))).below hb7); have cgl := G7.out.lv; have cgi : w7.cell? ⟨wr.heap.size, 0, none⟩ = some (.int .i64 (i : Int)) := (hb7.cell (World.block_lt_of_cell? _ _ ((z8 (zdi wr (.cells #[.int .i64 (i : Int)] 3)) 0).trans rfl))).trans ((z8 (zdi wr (.cells #[.int .i64 (i : Int)] 3)) 0).trans rfl); have cx : w7.cell? (ad.add i) = some (.int .i64 x) := (hb7.cell (World.block_lt_of_cell? _ _ (HX.out))).trans HX.out; have R7 := za.mk (Kd.zc3 (Kd.zdm RP.out (.cells #[.int .i64 (i : Int)] 3)) hb7); have B7 := za.mk (zbi (zbo BP.out (.cells #[.int .i64 (i : Int)] 3)) hb7); clear hb7)
                                  | ((with_reducible refine zb4 (b := .append) (xs := #[.tmp 59, .tmp 61]) rfl ?_); at_builtin; refine Kd.zds (Kd.int .i64) (w0 := w6) w6.heap.size rfl (.tmp 59) (.tmp 61) 23 3 (.int .i64 0) 8 rfl Try.underlying23 info3 rfl (by decide) (by omega) (.slice P (zcm l1 left a2 i).length cp) (zcm l1 left a2 i) (i : Int) [.int .i64 (i : Int)] (fun _ => True) (fun _ => False) rfl rfl ?aP (fun _ hk => hk.elim) ?aF ?aO ?aB ?aS ?aL ?_; (case aP => exact rfl); (case aB => exact B7.out); (case aF => exact (fun _ _ => trivial)); (case aO => exact R7.out); (case aS => exact B7.out.size); (case aL => have := HLP.out; have := HN.out; omega); intro v8 w8 ho hb hg hat; have R8 := za.mk ho; have B8 := za.mk hb; clear ho hb hg hat))
                            go_roundg (l0.length - (i + 1))
                            case measure => omega
                            case rel => exact ⟨i + 1, by have := HN.out; go_num, by omega, by omega, ⟨by rw [PK.out]; exact R7.out⟩, B7⟩
                        · have hltz : ¬ (i : Int) < (l0.length : Int) := by omega
                          obtain rfl : i = l0.length := by omega
                          have GI := za.mk (G6.out.below BP.out)
                          obtain ⟨X, cr, ev⟩ := Kd.zce G6.out.rR
                          subst ev
                          have XLT := za.mk (fun k hk => Kd.R_lt G6.out.rR k hk)
                          have GLT := za.mk (show gl < w6.heap.size from World.block_lt_of_cell? _ _ G6.out.lv)
                          have GOT := za.mk (show go < w6.heap.size from World.block_lt_of_cell? _ _ G6.out.o0)
                          have W6S := za.mk BP.out.size
                          have LLT := za.mk (fun k hk => Kd.zdz G6.out.lR k hk)
                          have FLT := za.mk (fun k hk => Kd.R_lt G6.out.fR k hk)
                          obtain ⟨P, cp, eP⟩ := Kd.zce RP.out
                          subst eP
                          have hlp := zh4 l1 left a2 l0.length
                          have PM := za.mk (gpick_mem l1 left a2 l0.length)
                          obtain ⟨pl, hpl⟩ : ∃ pl, zcm l1 left a2 l0.length = pl := ⟨_, rfl⟩
                          rw [hpl] at RP HL PM hlp
                          rw [hpl]
                          have HLP := za.mk hlp
                          have RP1 := za.mk (Kd.zbz (Kd.zc2 RP.out) (ok' := fun k => w6.heap.size ≤ k) (fun _ hk => hk.2.1))
                          have hN := HN.out
                          clear hpl RP BP G6
                          go_wp2
                          go_loopg [66] pl.length (fun gg v66 wr => ∃ j : Nat, v66 = .int .i64 j ∧ j ≤ pl.length ∧ pl.length - j ≤ gg ∧ za (w6.heap.size ≤ wr.heap.size) ∧ za (GrW W0 l0.length gl go L F cl cf (.slice X rows.length cr) ((pl.take j).foldl (zeq now) (left, fin)).1 ((pl.take j).foldl (zeq now) (left, fin)).2 rows wr) ∧ za (Kd.R (Kd.int .i64) 3 wr w6.heap.size (fun k => w6.heap.size ≤ k) (.slice P pl.length cp) pl))
                          case atStart => exact ⟨0, by go_num, Nat.zero_le _, by omega, W6S, ⟨GI.out⟩, RP1⟩
                          case round =>
                            obtain ⟨j, rfl, hjl, hgj, WS, GJ, RJ⟩ := hrel
                            clear GI RP1
                            by_cases hlt : j < pl.length
                            · have hltz : (j : Int) < (pl.length : Int) := by omega
                              obtain ⟨adp, eap, hxp⟩ := Kd.zbq (Kd.zcj RJ.out).2.2 (j : Int) (by omega) hltz
                              cases eap
                              rw [Int.toNat_natCast] at hxp
                              obtain ⟨a, ha, hxa⟩ := PM.out pl[j] (List.getElem_mem hlt)
                              rw [show rd pl (j : Int) = (a : Int) by rw [rd, List.getD_eq_getElem?_getD, Int.toNat_natCast, List.getElem?_eq_getElem hlt]; exact hxa] at hxp
                              have haz : (a : Int) < (l0.length : Int) := by omega
                              obtain ⟨gL, eL⟩ := Q_addr GJ.out.lR (by omega)
                              subst eL
                              have hfl := (zgf now (pl.take j) (left, fin)).2
                              obtain ⟨gF, capF, eF, _⟩ := Kd.zf4 GJ.out.fR (by rw [hfl]; have := HFL.out; simp only; omega)
                              injection eF with eF1 eF2 eF3
                              subst eF1
                              clear eF2 eF3 hfl
                              obtain ⟨p, hp⟩ : ∃ p, (pl.take j).foldl (zeq now) (left, fin) = p := ⟨_, rfl⟩
                              rw [hp] at GJ
                              obtain ⟨x, hx⟩ : ∃ x, rd p.1 (a : Int) = x := ⟨_, rfl⟩
                              have hstep : (pl.take (j + 1)).foldl (zeq now) (left, fin) = (p.1.set a (wrap64 (x - 1)), if wrap64 (x - 1) = 0 then p.2.set a (wrap64 (now + 1)) else p.2) := by
                                rw [List.take_succ_eq_append_getElem hlt, List.foldl_append, hp, hxa]
                                show zeq now p (a : Int) = _
                                unfold zeq
                                rw [hx, Int.toNat_natCast]
                              have lv := GJ.out.lv
                              obtain ⟨cd, fd⟩ := Q_celln GJ.out.lR (a : Int) (by omega) haz
                              rw [Int.toNat_natCast] at cd fd
                              rw [show rdOf 0 p.1 (a : Int) = x from hx] at cd
                              have G7 := za.mk (GJ.out.zhi NE.out a (wrap64 (x - 1)))
                              have R7 := za.mk (Kd.zdo (p := ⟨gL, a, none⟩) RJ.out (fun k hk e => by have := LLT.out gL rfl; simp only at e; omega) (.int .i64 (wrap64 (x - 1))))
                              have lv7 := G7.out.lv
                              have o17 := G7.out.o1
                              have cd7 := World.cell?_setCell_same wr ⟨gL, a, none⟩ (.int .i64 (wrap64 (x - 1))) cd
                              obtain ⟨cf7, ff7⟩ := Kd.zeb 0 G7.out.fR (a : Int) (by omega) haz
                              rw [Int.toNat_natCast] at cf7 ff7
                              have HST := za.mk hstep
                              have HXX := za.mk hx
                              have HPP := za.mk hp
                              have HXA := za.mk hxa
                              clear hstep hx hp hxa
                              by_cases hq : wrap64 (x - 1) = 0
                              · have hq2 : (wrap64 (x - 1) == 0) = true := by simpa using hq
                                rw [if_pos hq] at HST
                                have G8 := za.mk (G7.out.setFin NE.out a (wrap64 (now + 1)))
                                have R8 := za.mk (Kd.zdo (p := ⟨gF, a, none⟩) R7.out (fun k hk e => by have := FLT.out gF rfl; simp only at e; omega) (.int .i64 (wrap64 (now + 1))))
                                have HQ := za.mk hq
                                clear hq
                                go_wp2
                                go_roundg (pl.length - (j + 1))
                                case measure => omega
                                case rel => exact ⟨j + 1, by go_num, by omega, by omega, ⟨by simpa using WS.out⟩, ⟨by rw [HST.out]; exact G8.out⟩, R8⟩
                              · have hq2 : (wrap64 (x - 1) == 0) = false := by simpa using hq
                                rw [if_neg hq] at HST
                                have HQ := za.mk hq
                                clear hq
                                go_wp2
                                go_roundg (pl.length - (j + 1))
                                case measure => omega
                                case rel => exact ⟨j + 1, by go_num, by omega, by omega, ⟨by simpa using WS.out⟩, ⟨by rw [HST.out]; exact G7.out⟩, R7⟩
                            · have hltz : ¬ (j : Int) < (pl.length : Int) := by omega
                              obtain rfl : j = pl.length := by omega
                              rw [List.take_length] at GJ
                              obtain ⟨c2, HCL⟩ := clip_own RJ.out
                              have cO0 := GJ.out.o0
                              go_wp2_with fail
                              refine zdl (n := 8) (S := fun w' => w'.cell? ⟨go, 0, none⟩ = some (.slice X rows.length cr)) (ds := [7]) #[false, false, false, false, false, false, false, false] (by kernel_rfl) rfl rfl cO0 (fun hHeld => ?_); refine zb9 zbg.tab23 zbg.zh5 (fun HT_ HW_ => ?_)
                              have G9 := za.mk (GJ.out.below (zbr (Below.refl _ _)))
                              have Q9 := za.mk (Kd.zu HCL.out.2)
                              have WS9 := za.mk (show w6.heap.size ≤ wr.drew.heap.size from WS.out)
                              clear cO0 GJ RJ WS
                              generalize wr.drew = w9 at G9 Q9 WS9 hHeld ⊢
                              refine zi (i := 0) (N := some 88) (v := ?_) (a' := ?_) #[true, false, false, false, false, false, false, false] rfl rfl (zb HT_.out (by kernel_rfl)) (fun _ _ _ h => h) (Or.inl ⟨by rfl, ?_⟩) ?_ ?_
                              rotate_left
                              · intro w'
                                go_simp
                                with_reducible rfl
                              rotate_left
                              · simp only [Act.put, List.setIfInBounds_toArray, List.set_cons_zero, List.set_cons_succ, ze, zf]
                                rfl
                              refine zi (i := 2) (N := some 90) (v := ?_) (a' := ?_) #[true, false, true, false, false, false, false, false] rfl rfl (zb HT_.out (by kernel_rfl)) (fun _ _ _ h => h) (Or.inl ⟨by rfl, ?_⟩) ?_ ?_
                              rotate_left
                              · intro w'
                                go_simp
                                with_reducible rfl
                              rotate_left
                              · simp only [Act.put, List.setIfInBounds_toArray, List.set_cons_zero, List.set_cons_succ, ze, zf]
                                rfl
                              refine zb3 (i := 1) (N := some 89) (v := ?_) (a' := ?_) #[true, true, true, false, false, false, false, false] rfl rfl (zbf HT_.out HW_.out (by kernel_rfl)) (fun _ _ _ h => h) (Or.inl ⟨by rfl, ?_⟩) hHeld ?_ ?_
                              rotate_left
                              · intro w' s0
                                go_simp
                                with_reducible rfl
                              rotate_left
                              · simp only [Act.put, List.setIfInBounds_toArray, List.set_cons_zero, List.set_cons_succ, ze, zf]
                                rfl
                              refine one_ (i := 3) (N := some 91) #[true, true, true, true, false, false, false, false] rfl rfl (zdb HT_.out (by kernel_rfl)) (by decide) (fun K hK => ?_)
                              refine ze4 Try.func37 (by kernel_rfl) rfl #[.slice P pl.length cp] (by rfl) rfl rfl (by (try simp only [List.map_toArray, List.map_cons, List.map_nil]); first | done | rfl) ?_
                              refine (HCL.out.1 _).mono ?_
                              rintro e w10 ⟨rfl, ⟨q10, rfl⟩⟩
                              refine ⟨_, rfl, ?_⟩
                              refine hK.out _ _ hHeld (fun hHeld => ?_)
                              clear hK K
                              refine zeu (a' := ?_) ?_ ?_
                              rotate_left
                              · show Act.put _ (some 91) _ = _
                                simp only [Act.put, List.setIfInBounds_toArray, List.set_cons_zero, List.set_cons_succ, ze, zf]
                                rfl
                              have G10 := za.mk (G9.out.below (zbk (Below.refl _ _) q10))
                              have Q10 := za.mk (Kd.zba Q9.out q10)
                              have WS10 := za.mk (show w6.heap.size ≤ (w9.drewN q10).heap.size from WS9.out)
                              clear G9 Q9 WS9
                              generalize w9.drewN q10 = w11 at G10 Q10 WS10 hHeld ⊢
                              refine one_ (i := 4) (N := some 92) #[true, true, true, true, true, false, false, false] rfl rfl (zdb HT_.out (by kernel_rfl)) (by decide) (fun K hK => ?_)
                              refine value_ (w1 := w11.alloc (.cells #[.slice P pl.length c2] 23)) (v := .slice (some ⟨w11.heap.size, 0, none⟩) 1 1) (by rfl) rfl ?_ ?_
                              · go_simp
                              refine hK.out _ _ ((Lib.cell?_alloc_some _ hHeld)) (fun hHeld => ?_)
                              clear hK K
                              refine zeu (a' := ?_) ?_ ?_
                              rotate_left
                              · show Act.put _ (some 92) _ = _
                                simp only [Act.put, List.setIfInBounds_toArray, List.set_cons_zero, List.set_cons_succ, ze, zf]
                                rfl
                              refine one_ (i := 5) (N := some 93) #[true, true, true, true, true, true, false, false] rfl rfl (zdb HT_.out (by kernel_rfl)) (by decide) (fun K hK => ?_)
                              refine Kd.zg5 (Kd.cut 3 (Kd.int .i64)) (w0 := W0) (W := w11) W0.heap.size (by rfl) (.tmp 89) (.tmp 92) 24 23 (.slice none 0 0) 24 rfl Try.underlying24 zgb rfl (by decide) (by omega) (.slice X rows.length cr) rows pl [.slice P pl.length c2] (fun k => k ≠ gl ∧ k ≠ go ∧ some k ≠ (Value.slice L l0.length cl).ownBlock ∧ some k ≠ (Value.slice F l0.length cf).ownBlock) (fun k => w6.heap.size ≤ k) rfl rfl ⟨_, rfl, Kd.zc9 Q10.out ?hb0⟩ ?hp0 ?hf0 G10.out.rR G10.out.bel G10.out.bel.size ?hl0 ?_
                              case hb0 => exact Nat.le_of_lt (Nat.lt_of_le_of_lt NE.out.gn GLT.out)
                              case hp0 =>
                                intro k hk
                                have h1 := GLT.out
                                have h2 := GOT.out
                                exact ⟨⟨by omega, by omega, fun e => by have := LLT.out k e.symm; omega, fun e => by have := FLT.out k e.symm; omega⟩, fun e => by have := XLT.out k e.symm; omega⟩
                              case hf0 =>
                                intro k hk
                                have h1 := GLT.out
                                have h2 := GOT.out
                                have h3 := WS10.out
                                exact ⟨by omega, by omega, fun e => by have := LLT.out k e.symm; omega, fun e => by have := FLT.out k e.symm; omega⟩
                              case hl0 => have := HRL.out; omega
                              intro v12 w12 ho12 hb12 hg12 hat12
                              clear hat12
                              obtain ⟨V, cv, ev⟩ := Kd.zce ho12
                              obtain ⟨nv, hnv⟩ : ∃ n, n = (rows ++ [pl]).length := ⟨_, rfl⟩
                              rw [← hnv] at ev
                              subst ev
                              clear hnv
                              have G12 := za.mk (G10.out.setRows NE.out hg12 hb12 ho12)
                              have c12 := hg12.cell G10.out.o0 (fun e => (G10.out.rR.1 go e.symm).2.1 rfl)
                              have z12 : w12.frozen? ⟨go, 0, none⟩ = false := (World.frozen?_of_block (hg12.block go (World.block_lt_of_cell? _ _ G10.out.o0) (fun e => (G10.out.rR.1 go e.symm).2.1 rfl))).trans G10.out.f0
                              clear ho12 hb12 hg12
                              refine hK.out _ _ c12 (fun hHeld => ?_)
                              clear hK K
                              refine zeu (a' := ?_) ?_ ?_
                              rotate_left
                              · show Act.put _ (some 93) _ = _
                                simp only [Act.put, List.setIfInBounds_toArray, List.set_cons_zero, List.set_cons_succ, ze, zf]
                                rfl
                              refine zi (i := 6) (N := some 94) (v := ?_) (a' := ?_) #[true, true, true, true, true, true, true, false] rfl rfl (zb HT_.out (by kernel_rfl)) (fun _ _ _ h => h) (Or.inl ⟨by rfl, ?_⟩) ?_ ?_
                              rotate_left
                              · intro w'
                                go_simp
                                with_reducible rfl
                              rotate_left
                              · simp only [Act.put, List.setIfInBounds_toArray, List.set_cons_zero, List.set_cons_succ, ze, zf]
                                rfl
                              refine last_ (i := 7) (N := none) #[true, true, true, true, true, true, true, true] rfl rfl (zdb HT_.out (by kernel_rfl)) (by decide) (fun K hK => ?_)
                              refine skip_ (w1 := ?_) (by rfl) rfl ?_ ?_
                              rotate_left
                              · go_simp
                                rfl
                              refine hK.out _ _ ?_
                              clear hK K
                              refine zeg (zct HT_.out (by kernel_rfl)) ?_
                              clear c12 z12
                              generalize w12.setCell ⟨go, 0, none⟩ (.slice V nv cv) = w13 at G12 ⊢
                              go_wp2
                              go_roundg k3
                              case measure => omega
                              case rel => exact ⟨k3, _, _, _, _, _, rfl, Nat.le_refl _, by omega, by rw [(zgf now pl (left, fin)).1]; exact HLL.out, by rw [(zgf now pl (left, fin)).2]; exact HFL.out, HL, G12⟩
                    · rw [if_neg hrl] at hL
                      simp at hL
          · rw [if_neg hh] at h
            simp at h
def zcb.f (a0 : Int) (a1 : Int) (a2 : Int) : Option (Bool) := if a0 ≥ a1 then (some (decide (a0 ≤ a2))) else (some false)
set_option maxHeartbeats 8000000 in
theorem zcb.calls (a0 : Int) (a1 : Int) (a2 : Int) (r : Bool) (w : World) (h : zcb.f a0 a1 a2 = some r) :
  Calls Try.prog 39 #[.int .i64 a0, .int .i64 a1, .int .i64 a2] w fun e w' => e = .returned (.bool r) ∧ zbj w w' := by
 have H : (if a0 ≥ a1 then (some (decide (a0 ≤ a2))) else (some false)) = some r := h
 clear h
 by_cases c4 : a0 ≥ a1
 ·rw [if_pos c4] at H
  have c4b0 : decide (a1 ≤ a0) = true := decide_eq_true c4;clear c4;obtain rfl := Option.some.inj H;go_enter Try.func39, Try.ntmps39;go_wp2;go_ret;exact ⟨by first | rfl | (simp; done) | (simp [*]; done), by repeat (first | exact zbj.refl _ | apply zbj.step)⟩
 ·rw [if_neg c4] at H
  have c4b0 : decide (a1 ≤ a0) = false := decide_eq_false c4;clear c4;obtain rfl := Option.some.inj H;go_enter Try.func39, Try.ntmps39;go_wp2;go_ret;exact ⟨by first | rfl | (simp; done) | (simp [*]; done), by repeat (first | exact zbj.refl _ | apply zbj.step)⟩
end Go.Proofs.Ytebgfobjhlcopaa.P
