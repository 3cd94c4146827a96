/- The head of the translation: a cut, with nothing lifted. No condition. -/
import Derived.Test.YtooabmmnbifclaaRows
import Derived.JoinedOf
import Derived.KernelRfl
namespace Go.Proofs.Ytooabmmnbifclaa.Head
open Go
def chars (l : List Nat) : List Char := l.map Char.ofNat
def w1 : List Nat := [104, 97, 114, 110, 101, 115, 115]
def w2 : List Nat := [52, 97, 48, 55, 50, 100, 57, 57, 51, 101, 97, 57, 52, 48, 102, 99, 98, 49, 98, 98, 97, 51, 102, 51, 56, 48, 55, 101, 48, 53, 100, 55, 97, 56, 97, 57, 48, 54, 57, 101, 99, 97, 50, 54, 48, 98, 54, 51, 97, 56, 48, 102, 57, 56, 100, 102, 100, 97, 100, 98, 51, 56, 54, 100]
def w3 : List Nat := [99, 117, 116]
def w4 : List Nat := [97, 116, 32, 108, 111, 111, 112, 46, 101, 120, 97, 109, 112, 108, 101, 47, 100, 101, 97, 100, 108, 105, 110, 101, 115, 99, 104, 101, 100, 117, 108, 101, 114, 47, 108, 97, 119, 115, 46, 70, 110, 69, 120, 97, 99, 116, 70, 108, 111, 119, 86, 97, 108, 105, 100, 32, 108, 111, 111, 112, 46, 101, 120, 97, 109, 112, 108, 101, 47, 100, 101, 97, 100, 108, 105, 110, 101, 115, 99, 104, 101, 100, 117, 108, 101, 114, 47, 108, 97, 119, 115, 46, 70, 110, 69, 120, 97, 99, 116, 76, 105, 110, 107, 86, 97, 108, 105, 100, 32, 108, 111, 111, 112, 46, 101, 120, 97, 109, 112, 108, 101, 47, 100, 101, 97, 100, 108, 105, 110, 101, 115, 99, 104, 101, 100, 117, 108, 101, 114, 47, 108, 97, 119, 115, 46, 70, 110, 69, 120, 97, 99, 116, 83, 117, 112, 112, 108, 121, 86, 97, 108, 105, 100, 32, 108, 111, 111, 112, 46, 101, 120, 97, 109, 112, 108, 101, 47, 100, 101, 97, 100, 108, 105, 110, 101, 115, 99, 104, 101, 100, 117, 108, 101, 114, 47, 108, 97, 119, 115, 46, 70, 110, 69, 120, 97, 99, 116, 67, 111, 110, 99, 97, 116, 101, 110, 97, 116, 101, 32, 108, 111, 111, 112, 46, 101, 120, 97, 109, 112, 108, 101, 47, 100, 101, 97, 100, 108, 105, 110, 101, 115, 99, 104, 101, 100, 117, 108, 101, 114, 47, 108, 97, 119, 115, 46, 70, 110, 69, 120, 97, 99, 116, 66, 97, 99, 107, 108, 111, 103, 66, 111, 117, 110, 100, 32, 108, 111, 111, 112, 46, 101, 120, 97, 109, 112, 108, 101, 47, 100, 101, 97, 100, 108, 105, 110, 101, 115, 99, 104, 101, 100, 117, 108, 101, 114, 47, 108, 97, 119, 115, 46, 70, 110, 69, 120, 97, 99, 116, 68, 101, 108, 97, 121, 66, 111, 117, 110, 100, 32, 108, 111, 111, 112, 46, 101, 120, 97, 109, 112, 108, 101, 47, 100, 101, 97, 100, 108, 105, 110, 101, 115, 99, 104, 101, 100, 117, 108, 101, 114, 47, 108, 97, 119, 115, 46, 70, 110, 69, 120, 97, 99, 116, 83, 117, 112, 112, 108, 121, 66, 111, 117, 110, 100, 32, 108, 111, 111, 112, 46, 101, 120, 97, 109, 112, 108, 101, 47, 100, 101, 97, 100, 108, 105, 110, 101, 115, 99, 104, 101, 100, 117, 108, 101, 114, 47, 108, 97, 119, 115, 46, 70, 110, 83, 117, 112, 112, 108, 121, 86, 97, 108, 105, 100, 32, 108, 111, 111, 112, 46, 101, 120, 97, 109, 112, 108, 101, 47, 100, 101, 97, 100, 108, 105, 110, 101, 115, 99, 104, 101, 100, 117, 108, 101, 114, 47, 108, 97, 119, 115, 46, 70, 110, 70, 108, 111, 119, 76, 105, 110, 107, 32, 108, 111, 111, 112, 46, 101, 120, 97, 109, 112, 108, 101, 47, 100, 101, 97, 100, 108, 105, 110, 101, 115, 99, 104, 101, 100, 117, 108, 101, 114, 47, 108, 97, 119, 115, 46, 70, 110, 83, 117, 112, 112, 108, 121, 66, 111, 117, 110, 100, 32, 108, 111, 111, 112, 46, 101, 120, 97, 109, 112, 108, 101, 47, 100, 101, 97, 100, 108, 105, 110, 101, 115, 99, 104, 101, 100, 117, 108, 101, 114, 47, 108, 97, 119, 115, 46, 70, 110, 67, 111, 110, 99, 97, 116, 101, 110, 97, 116, 101, 32, 108, 111, 111, 112, 46, 101, 120, 97, 109, 112, 108, 101, 47, 100, 101, 97, 100, 108, 105, 110, 101, 115, 99, 104, 101, 100, 117, 108, 101, 114, 47, 108, 97, 119, 115, 46, 70, 110, 66, 111, 117, 110, 100, 115, 32, 108, 111, 111, 112, 46, 101, 120, 97, 109, 112, 108, 101, 47, 100, 101, 97, 100, 108, 105, 110, 101, 115, 99, 104, 101, 100, 117, 108, 101, 114, 47, 108, 97, 119, 115, 46, 70, 110, 69, 120, 97, 99, 116, 80, 97, 116, 116, 101, 114, 110, 86, 97, 108, 105, 100, 32, 108, 111, 111, 112, 46, 101, 120, 97, 109, 112, 108, 101, 47, 100, 101, 97, 100, 108, 105, 110, 101, 115, 99, 104, 101, 100, 117, 108, 101, 114, 47, 108, 97, 119, 115, 46, 70, 110, 83, 117, 112, 112, 108, 121, 87, 111, 114, 115, 116]
theorem io_eq : Try.prog.initOrder = String.ofList (chars (w1 ++ 32 :: (w2 ++ 32 :: (w3 ++ 32 :: w4)))) := by kernel_rfl
theorem io_list : Try.prog.initOrder.toList = chars (w1 ++ 32 :: (w2 ++ 32 :: (w3 ++ 32 :: w4))) := by rw [io_eq, String.toList_ofList]
theorem ws_one (c : Char) (r w : List Char) (ws : List (List Char)) (hc : c ≠ Char.ofNat 32) (h : wordsSigns r = w :: ws) : wordsSigns (c :: r) = (c :: w) :: ws := by
  have e : wordsSigns (c :: r) = match wordsSigns r with
    | w :: ws => (c :: w) :: ws
    | [] => [[c]] := by
    rw [wordsSigns]
    · rfl
    · exact hc
  rw [e, h]
theorem ws_word (w : List Char) (h : ∀ c ∈ w, c ≠ Char.ofNat 32) (r : List Char) : wordsSigns (w ++ Char.ofNat 32 :: r) = w :: wordsSigns r := by
  induction w with
  | nil => rfl
  | cons c w ih => exact ws_one _ _ _ _ (h c (by simp)) (ih (fun x hx => h x (by simp [hx])))
theorem ws_nat (w r : List Nat) (h : w.all (fun n => !(Char.ofNat n == Char.ofNat 32)) = true) : wordsSigns (chars (w ++ 32 :: r)) = chars w :: wordsSigns (chars r) := by
  have e : chars (w ++ 32 :: r) = chars w ++ Char.ofNat 32 :: chars r := by simp [chars]
  rw [e]
  refine ws_word _ (fun c hc => ?_) _
  obtain ⟨n, hn, rfl⟩ := List.mem_map.1 hc
  have := List.all_eq_true.1 h n hn
  simpa using this
theorem io_words : behindMainWord (wordsSigns Try.prog.initOrder.toList) = chars w3 :: wordsSigns (chars w4) := by
  rw [io_list, ws_nat _ _ (by kernel_rfl), ws_nat _ _ (by kernel_rfl), ws_nat _ _ (by kernel_rfl)]
  generalize wordsSigns (chars w4) = R
  kernel_rfl
theorem make_gen (P : Program) (c : List Char) (R : List (List Char)) (h : behindMainWord (wordsSigns P.initOrder.toList) = c :: R) (h1 : (c == "gc".toList || c == "spec".toList) = false) (h2 : (c == "cut".toList) = true) : P.make = some .cut := by
  unfold Program.make
  rw [h]
  simp only [h1, h2, Bool.true_or, if_true, Bool.false_eq_true, if_false]
theorem make : Try.prog.make = some .cut := make_gen _ _ _ io_words (by kernel_rfl) (by kernel_rfl)
theorem enter_gen (P : Program) (c : List Char) (R : List (List Char)) (h : behindMainWord (wordsSigns P.initOrder.toList) = c :: R) (h1 : ∀ R, stripLifts liftWords (c :: R) = ([], c :: R)) (h2 : (some c == some "cut".toList) = true)
    (h3 : P.laysLater = false) (h4 : P.bearsReflect = false) (h5 : P.doorFits [] = true) : P.mayEnter = true := by
  unfold Program.mayEnter
  rw [h]
  simp only [h1, h2, h3, h4, h5, List.head?_cons, Bool.not_false, Bool.or_true, Bool.and_true, List.contains_nil]
theorem enter : Try.prog.mayEnter = true := enter_gen _ _ _ io_words (fun R => by kernel_rfl) (by kernel_rfl) (by kernel_rfl) (by kernel_rfl) (by kernel_rfl)
theorem lifts : Try.prog.liftsFinal = false := by
  unfold Program.liftsFinal Program.headLifts
  simp only [io_words]
  generalize wordsSigns (chars w4) = R
  kernel_rfl
end Go.Proofs.Ytooabmmnbifclaa.Head
