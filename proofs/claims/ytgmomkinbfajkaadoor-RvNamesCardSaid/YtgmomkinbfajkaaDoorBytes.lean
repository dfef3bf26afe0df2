/-
  Bytes as words, in plain Lean: four bytes, the highest first.
-/
import Derived.Test.YtgmomkinbfajkaaDoorMem
set_option linter.unusedSimpArgs false
set_option linter.unusedVariables false
namespace Go.Proofs.YtgmomkinbfajkaaDoor
open Go.RowKit

/-- Four bytes as a word, the highest first. -/
def be4 (a b c d : Nat) : Nat := ((a * 256 + b) * 256 + c) * 256 + d
theorem be4_lt {a b c d : Nat} (ha : a < 256) (hb : b < 256) (hc : c < 256) (hd : d < 256) : be4 a b c d < 4294967296 := by unfold be4; omega
theorem or_add {x y i : Nat} (h : y < 2 ^ i) : (2 ^ i * x) ||| y = 2 ^ i * x + y := (Nat.two_pow_add_eq_or_of_lt h x).symm
theorem be4_or {a b c d : Nat} (hb : b < 256) (hc : c < 256) (hd : d < 256) : ((a * 16777216 ||| b * 65536) ||| c * 256) ||| d = be4 a b c d := by
  have e1 : (a * 16777216 ||| b * 65536) = 65536 * (256 * a + b) := by
    have := or_add (x := a) (y := b * 65536) (i := 24) (by omega)
    rw [show a * 16777216 = 2 ^ 24 * a by omega, this]; omega
  have e2 : (65536 * (256 * a + b) ||| c * 256) = 256 * (256 * (256 * a + b) + c) := by
    have := or_add (x := 256 * a + b) (y := c * 256) (i := 16) (by omega)
    rw [show 65536 * (256 * a + b) = 2 ^ 16 * (256 * a + b) by omega, this]; omega
  have e3 : (256 * (256 * (256 * a + b) + c) ||| d) = be4 a b c d := by
    have := or_add (x := 256 * (256 * a + b) + c) (y := d) (i := 8) (by omega)
    rw [show 256 * (256 * (256 * a + b) + c) = 2 ^ 8 * (256 * (256 * a + b) + c) by omega, this]; unfold be4; omega
  rw [e1, e2, e3]
/-- The words of a list of bytes, four by four; what is left over is dropped. -/
def words4 : List Nat → List Nat
  | a :: b :: c :: d :: r => be4 a b c d :: words4 r
  | _ => []
theorem words4_length : ∀ l : List Nat, (words4 l).length = l.length / 4
  | a :: b :: c :: d :: r => by
    simp only [words4, List.length_cons, words4_length r]
    omega
  | [] => by simp [words4]
  | [_] => by simp [words4]
  | [_, _] => by simp [words4]
  | [_, _, _] => by simp [words4]
theorem words4_lt : ∀ l : List Nat, (∀ x ∈ l, x < 256) → ∀ x ∈ words4 l, x < 4294967296
  | a :: b :: c :: d :: r, h, x, hx => by
    simp only [words4, List.mem_cons] at hx
    rcases hx with rfl | hx
    · exact be4_lt (h a (by simp)) (h b (by simp)) (h c (by simp)) (h d (by simp))
    · exact words4_lt r (fun y hy => h y (by simp [hy])) x hx
  | [], _, x, hx => by simp [words4] at hx
  | [_], _, x, hx => by simp [words4] at hx
  | [_, _], _, x, hx => by simp [words4] at hx
  | [_, _, _], _, x, hx => by simp [words4] at hx
theorem words4_four (l r : List Nat) (i : Nat) (h : l.length = 4 * i) : words4 (l ++ r) = words4 l ++ words4 r := by
  induction i generalizing l with
  | zero => have : l = [] := List.eq_nil_of_length_eq_zero (by omega); subst this; simp [words4]
  | succ i ih =>
    match l, h with
    | a :: b :: c :: d :: l', h =>
      simp only [List.length_cons] at h
      simp only [List.cons_append, words4, ih l' (by omega)]
    | [], h => simp at h
    | [_], h => simp at h; omega
    | [_, _], h => simp at h; omega
    | [_, _, _], h => simp at h; omega
theorem words4_get : ∀ (l : List Nat) (i a b c d : Nat), l[4 * i]? = some a → l[4 * i + 1]? = some b → l[4 * i + 2]? = some c → l[4 * i + 3]? = some d → (words4 l)[i]? = some (be4 a b c d)
  | x0 :: x1 :: x2 :: x3 :: r, 0, a, b, c, d, h0, h1, h2, h3 => by
    simp at h0 h1 h2 h3
    subst h0; subst h1; subst h2; subst h3
    simp [words4]
  | x0 :: x1 :: x2 :: x3 :: r, i + 1, a, b, c, d, h0, h1, h2, h3 => by
    rw [words4, List.getElem?_cons_succ]
    refine words4_get r i a b c d ?_ ?_ ?_ ?_
    · rw [show 4 * (i + 1) = 4 * i + 4 by omega] at h0; simpa using h0
    · rw [show 4 * (i + 1) + 1 = 4 * i + 1 + 4 by omega] at h1; simpa using h1
    · rw [show 4 * (i + 1) + 2 = 4 * i + 2 + 4 by omega] at h2; simpa using h2
    · rw [show 4 * (i + 1) + 3 = 4 * i + 3 + 4 by omega] at h3; simpa using h3
  | [], i, a, b, c, d, h0, _, _, _ => by simp at h0
  | [_], i, a, b, c, d, _, h1, _, _ => by simp at h1
  | [_, _], i, a, b, c, d, _, _, h2, _ => by simp at h2
  | [_, _, _], i, a, b, c, d, _, _, _, h3 => by simp at h3
theorem words4_take_snoc (l : List Nat) (i a b c d : Nat) (h0 : l[4 * i]? = some a) (h1 : l[4 * i + 1]? = some b) (h2 : l[4 * i + 2]? = some c) (h3 : l[4 * i + 3]? = some d) :
    words4 (l.take (4 * (i + 1))) = words4 (l.take (4 * i)) ++ [be4 a b c d] := by
  have hl : 4 * i + 3 < l.length := (List.getElem?_eq_some_iff.1 h3).1
  have e : l.take (4 * (i + 1)) = l.take (4 * i) ++ [a, b, c, d] := by
    rw [show 4 * (i + 1) = 4 * i + 3 + 1 by omega, take_snoc h3, show 4 * i + 3 = 4 * i + 2 + 1 by omega, take_snoc h2, show 4 * i + 2 = 4 * i + 1 + 1 by omega, take_snoc h1, take_snoc h0]
    simp
  rw [e, words4_four _ _ i (by rw [List.length_take]; omega)]
  simp [words4]
end Go.Proofs.YtgmomkinbfajkaaDoor
