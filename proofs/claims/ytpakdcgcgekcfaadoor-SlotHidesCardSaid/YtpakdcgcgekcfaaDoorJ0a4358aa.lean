/-
  Texts of this claim, joined: AesFld, AesLaw, AesMul, Cells, TwoRow, AesBox, AesBack, AesKey, RelLate, AesNew.
-/
import Derived.Test.YtpakdcgcgekcfaaDoorJ81216201
import Derived.Test.YtpakdcgcgekcfaaDoorProg
import Derived.Test.YtpakdcgcgekcfaaDoorJfa020c09
import Derived.Deep.LoopGhost
import Derived.Laws.BitsAllLaws
import Derived.IntWalk
import Derived.Laws.Rows
import Derived.Laws.ResultCell
import Derived.Laws.Tables
import Derived.Laws.CopyOwn
import Derived.RegionTactic
import Derived.Test.YtpakdcgcgekcfaaDoorJ80e8084e
import Derived.Test.YtpakdcgcgekcfaaDoorJ788900e0
import Derived.Laws.AppendOwn
set_option linter.unusedVariables false
/-
  AES in plain Lean: the field.
-/
set_option linter.unusedSimpArgs false
set_option linter.unusedVariables false
namespace Go.Proofs.YtpakdcgcgekcfaaDoor
open Go.RowKit

namespace Aes
/-- A byte times x. -/
def xt (a : Nat) : Nat := (a * 2 % 256) ^^^ (a / 128 * 27)
/-- The product: the program's road. -/
def mulP : Nat → Nat → Nat → Nat → Nat
  | 0, p, _, _ => p
  | f + 1, p, a, b => mulP f (p ^^^ (a * (b % 2))) (xt a) (b / 2)
def gm (a b : Nat) : Nat := mulP 8 0 a b
/-- The product: the reference's road. -/
def rm1 (a b : Nat) : Nat → Nat
  | 0 => 0
  | i + 1 => if b / 2 ^ i % 2 = 1 then rm1 a b i ^^^ (a * 2 ^ i) else rm1 a b i
def red (p : Nat) : Nat → Nat
  | 0 => p
  | k + 1 => if red p k / 2 ^ (14 - k) % 2 = 1 then red p k ^^^ (283 * 2 ^ (6 - k)) else red p k
def rmul (a b : Nat) : Nat := red (rm1 a b 8) 7 % 256
def sbox : List Nat := [99, 124, 119, 123, 242, 107, 111, 197, 48, 1, 103, 43, 254, 215, 171, 118, 202, 130, 201, 125, 250, 89, 71, 240, 173, 212, 162, 175, 156, 164, 114, 192, 183, 253, 147, 38, 54, 63, 247, 204, 52, 165, 229, 241, 113, 216, 49, 21, 4, 199, 35, 195, 24, 150, 5, 154, 7, 18, 128, 226, 235, 39, 178, 117, 9, 131, 44, 26, 27, 110, 90, 160, 82, 59, 214, 179, 41, 227, 47, 132, 83, 209, 0, 237, 32, 252, 177, 91, 106, 203, 190, 57, 74, 76, 88, 207, 208, 239, 170, 251, 67, 77, 51, 133, 69, 249, 2, 127, 80, 60, 159, 168, 81, 163, 64, 143, 146, 157, 56, 245, 188, 182, 218, 33, 16, 255, 243, 210, 205, 12, 19, 236, 95, 151, 68, 23, 196, 167, 126, 61, 100, 93, 25, 115, 96, 129, 79, 220, 34, 42, 144, 136, 70, 238, 184, 20, 222, 94, 11, 219, 224, 50, 58, 10, 73, 6, 36, 92, 194, 211, 172, 98, 145, 149, 228, 121, 231, 200, 55, 109, 141, 213, 78, 169, 108, 86, 244, 234, 101, 122, 174, 8, 186, 120, 37, 46, 28, 166, 180, 198, 232, 221, 116, 31, 75, 189, 139, 138, 112, 62, 181, 102, 72, 3, 246, 14, 97, 53, 87, 185, 134, 193, 29, 158, 225, 248, 152, 17, 105, 217, 142, 148, 155, 30, 135, 233, 206, 85, 40, 223, 140, 161, 137, 13, 191, 230, 66, 104, 65, 153, 45, 15, 176, 84, 187, 22]
def ibox : List Nat := [82, 9, 106, 213, 48, 54, 165, 56, 191, 64, 163, 158, 129, 243, 215, 251, 124, 227, 57, 130, 155, 47, 255, 135, 52, 142, 67, 68, 196, 222, 233, 203, 84, 123, 148, 50, 166, 194, 35, 61, 238, 76, 149, 11, 66, 250, 195, 78, 8, 46, 161, 102, 40, 217, 36, 178, 118, 91, 162, 73, 109, 139, 209, 37, 114, 248, 246, 100, 134, 104, 152, 22, 212, 164, 92, 204, 93, 101, 182, 146, 108, 112, 72, 80, 253, 237, 185, 218, 94, 21, 70, 87, 167, 141, 157, 132, 144, 216, 171, 0, 140, 188, 211, 10, 247, 228, 88, 5, 184, 179, 69, 6, 208, 44, 30, 143, 202, 63, 15, 2, 193, 175, 189, 3, 1, 19, 138, 107, 58, 145, 17, 65, 79, 103, 220, 234, 151, 242, 207, 206, 240, 180, 230, 115, 150, 172, 116, 34, 231, 173, 53, 133, 226, 249, 55, 232, 28, 117, 223, 110, 71, 241, 26, 113, 29, 41, 197, 137, 111, 183, 98, 14, 170, 24, 190, 27, 252, 86, 62, 75, 198, 210, 121, 32, 154, 219, 192, 254, 120, 205, 90, 244, 31, 221, 168, 51, 136, 7, 199, 49, 177, 18, 16, 89, 39, 128, 236, 95, 96, 81, 127, 169, 25, 181, 74, 13, 45, 229, 122, 159, 147, 201, 156, 239, 160, 224, 59, 77, 174, 42, 245, 176, 200, 235, 187, 60, 131, 83, 153, 97, 23, 43, 4, 126, 186, 119, 214, 38, 225, 105, 20, 99, 85, 33, 12, 125]
theorem all256 {p : Nat → Bool} (h : (List.range 256).all p = true) {x : Nat} (hx : x < 256) : p x = true := List.all_eq_true.1 h x (List.mem_range.2 hx)
theorem all65536 {p : Nat → Nat → Bool} (h : ((List.range 256).all fun x => (List.range 256).all fun y => p x y) = true) {x y : Nat} (hx : x < 256) (hy : y < 256) : p x y = true := all256 (all256 h hx) hy
/-! Both roads are linear. -/
theorem mul2_xor (x y n : Nat) : (x ^^^ y) * 2 ^ n = x * 2 ^ n ^^^ y * 2 ^ n := by
  rw [← Nat.shiftLeft_eq, ← Nat.shiftLeft_eq, ← Nat.shiftLeft_eq]
  exact Nat.shiftLeft_xor_distrib
theorem div2_xor (x y n : Nat) : (x ^^^ y) / 2 ^ n = x / 2 ^ n ^^^ y / 2 ^ n := by
  rw [← Nat.shiftRight_eq_div_pow, ← Nat.shiftRight_eq_div_pow, ← Nat.shiftRight_eq_div_pow]
  exact Nat.shiftRight_xor_distrib
theorem mod2_xor (x y n : Nat) : (x ^^^ y) % 2 ^ n = x % 2 ^ n ^^^ y % 2 ^ n := Nat.xor_mod_two_pow
theorem bit_xor (x y n : Nat) : (x ^^^ y) / 2 ^ n % 2 = (x / 2 ^ n % 2) ^^^ (y / 2 ^ n % 2) := by
  rw [div2_xor]
  exact mod2_xor _ _ 1
theorem xor8 {x y : Nat} (hx : x < 256) (hy : y < 256) : x ^^^ y < 256 := Nat.xor_lt_two_pow (n := 8) hx hy
theorem xt_xor {x y : Nat} (hx : x < 256) (hy : y < 256) : xt (x ^^^ y) = xt x ^^^ xt y := by
  unfold xt
  have h1 : (x ^^^ y) * 2 % 256 = (x * 2 % 256) ^^^ (y * 2 % 256) := by
    rw [show (x ^^^ y) * 2 = x * 2 ^^^ y * 2 from mul2_xor x y 1]
    exact mod2_xor _ _ 8
  have h2 : (x ^^^ y) / 128 = x / 128 ^^^ y / 128 := div2_xor x y 7
  have h3 : x / 128 = 0 ∨ x / 128 = 1 := by omega
  have h4 : y / 128 = 0 ∨ y / 128 = 1 := by omega
  rw [h1, h2]
  have h5 : (x / 128 ^^^ y / 128) * 27 = (x / 128 * 27) ^^^ (y / 128 * 27) := by
    rcases h3 with h3 | h3 <;> rcases h4 with h4 | h4 <;> rw [h3, h4] <;> rfl
  rw [h5]
  ac_rfl
theorem xt_lt {x : Nat} (hx : x < 256) : xt x < 256 := by
  unfold xt
  exact xor8 (Nat.mod_lt _ (by decide)) (by omega)
theorem mulP_xor : ∀ (f p q a c b : Nat), a < 256 → c < 256 → mulP f (p ^^^ q) (a ^^^ c) b = mulP f p a b ^^^ mulP f q c b
  | 0, p, q, a, c, b, _, _ => rfl
  | f + 1, p, q, a, c, b, ha, hc => by
    rw [mulP, mulP, mulP, xt_xor ha hc, ← mulP_xor f _ _ _ _ _ (xt_lt ha) (xt_lt hc)]
    congr 1
    rcases Nat.mod_two_eq_zero_or_one b with h | h <;> rw [h]
    · simp
    · simp only [Nat.mul_one]
      ac_rfl
theorem mulP_lt : ∀ (f p a b : Nat), p < 256 → a < 256 → mulP f p a b < 256
  | 0, p, _, _, hp, _ => hp
  | f + 1, p, a, b, hp, ha => by
    rw [mulP]
    refine mulP_lt f _ _ _ (xor8 hp ?_) (xt_lt ha)
    rcases Nat.mod_two_eq_zero_or_one b with h | h <;> rw [h] <;> omega
theorem gm_xor {x y : Nat} (b : Nat) (hx : x < 256) (hy : y < 256) : gm (x ^^^ y) b = gm x b ^^^ gm y b := by
  have := mulP_xor 8 0 0 x y b hx hy
  rwa [Nat.xor_self] at this
theorem gm_lt {a b : Nat} (ha : a < 256) (_hb : b < 256) : gm a b < 256 := mulP_lt 8 0 a b (by decide) ha
theorem rm1_xorA (a c b : Nat) : ∀ i, rm1 (a ^^^ c) b i = rm1 a b i ^^^ rm1 c b i
  | 0 => (Nat.xor_self 0).symm
  | i + 1 => by
    rw [rm1, rm1, rm1]
    split
    · rw [rm1_xorA a c b i, mul2_xor]
      ac_rfl
    · exact rm1_xorA a c b i
theorem bit01 (b i : Nat) : b / 2 ^ i % 2 = 0 ∨ b / 2 ^ i % 2 = 1 := Nat.mod_two_eq_zero_or_one _
theorem xor_xor_same (x y z : Nat) : x ^^^ z ^^^ (y ^^^ z) = x ^^^ y := by
  have : x ^^^ z ^^^ (y ^^^ z) = x ^^^ y ^^^ (z ^^^ z) := by ac_rfl
  rw [this, Nat.xor_self, Nat.xor_zero]
theorem rm1_xorB (a b c : Nat) : ∀ i, rm1 a (b ^^^ c) i = rm1 a b i ^^^ rm1 a c i
  | 0 => (Nat.xor_self 0).symm
  | i + 1 => by
    rw [rm1, rm1, rm1, bit_xor, rm1_xorB a b c i]
    rcases bit01 b i with h | h <;> rcases bit01 c i with h' | h' <;> rw [h, h']
    · rfl
    · rw [if_pos (by decide), if_neg (by decide), if_pos rfl]
      ac_rfl
    · rw [if_pos (by decide), if_pos rfl, if_neg (by decide)]
      ac_rfl
    · rw [if_neg (by decide), if_pos rfl, if_pos rfl, xor_xor_same]
theorem red_xor (p q : Nat) : ∀ k, red (p ^^^ q) k = red p k ^^^ red q k
  | 0 => rfl
  | k + 1 => by
    rw [red, red, red, red_xor p q k, bit_xor]
    rcases bit01 (red p k) (14 - k) with h | h <;> rcases bit01 (red q k) (14 - k) with h' | h' <;> rw [h, h']
    · rfl
    · rw [if_pos (by decide), if_neg (by decide), if_pos rfl]
      ac_rfl
    · rw [if_pos (by decide), if_pos rfl, if_neg (by decide)]
      ac_rfl
    · rw [if_neg (by decide), if_pos rfl, if_pos rfl, xor_xor_same]
theorem rmul_xorA (a c b : Nat) : rmul (a ^^^ c) b = rmul a b ^^^ rmul c b := by
  unfold rmul
  rw [rm1_xorA, red_xor]
  exact mod2_xor _ _ 8
theorem rmul_xorB (a b c : Nat) : rmul a (b ^^^ c) = rmul a b ^^^ rmul a c := by
  unfold rmul
  rw [rm1_xorB, red_xor]
  exact mod2_xor _ _ 8
theorem pow_all : ((List.range 8).all fun k => (List.range 256).all fun y => decide (y < 2 ^ k → (2 ^ k ^^^ y) = 2 ^ k + y)) = true := by decide +kernel
/-- A byte is made of its bits. -/
theorem byte_ind (p : Nat → Prop) (h0 : p 0) (hx : ∀ x y, x < 256 → y < 256 → p x → p y → p (x ^^^ y)) (hb : ∀ k, k < 8 → p (2 ^ k)) {x : Nat} (h : x < 256) : p x := by
  have key : ∀ k, k ≤ 8 → ∀ x, x < 2 ^ k → p x := by
    intro k
    induction k with
    | zero =>
      intro _ x hx
      obtain rfl : x = 0 := by simpa using hx
      exact h0
    | succ k ih =>
      intro hk x hx1
      have h2 : (2 : Nat) ^ k * 2 = 2 ^ (k + 1) := (Nat.pow_succ ..).symm
      have hle : 2 ^ (k + 1) ≤ 2 ^ 8 := Nat.pow_le_pow_right (by decide) hk
      by_cases hlt : x < 2 ^ k
      · exact ih (by omega) x hlt
      · have hy : x - 2 ^ k < 2 ^ k := by omega
        have hy2 : x - 2 ^ k < 256 := by
          have : (2 : Nat) ^ 8 = 256 := by decide
          omega
        have hp2 : 2 ^ k < 256 := by
          have : (2 : Nat) ^ 8 = 256 := by decide
          have : 0 < (2 : Nat) ^ k := Nat.pow_pos (by decide)
          omega
        have h3 := all256 (List.all_eq_true.1 pow_all k (List.mem_range.2 (by omega))) hy2
        have h4 := (of_decide_eq_true h3) hy
        have h5 : x = 2 ^ k ^^^ (x - 2 ^ k) := by omega
        rw [h5]
        exact hx _ _ hp2 hy2 (hb k (by omega)) (ih (by omega) _ hy)
  exact key 8 (Nat.le_refl _) x h
theorem rmul_base : ((List.range 8).all fun k => (List.range 256).all fun b => rmul (2 ^ k) b == gm (2 ^ k) b) = true := by decide +kernel
theorem gm_zero_all : ((List.range 256).all fun b => (gm 0 b == 0) && (rmul 0 b == 0) && (rmul b 0 == 0)) = true := by decide +kernel
theorem gm_zero {b : Nat} (hb : b < 256) : gm 0 b = 0 ∧ rmul 0 b = 0 ∧ rmul b 0 = 0 := by
  have := all256 gm_zero_all hb
  simp only [Bool.and_eq_true, beq_iff_eq] at this
  exact ⟨this.1.1, this.1.2, this.2⟩
theorem rmul_gm {a b : Nat} (ha : a < 256) (hb : b < 256) : rmul a b = gm a b := by
  refine byte_ind (fun a => rmul a b = gm a b) ?_ (fun x y hx hy h1 h2 => ?_) (fun k hk => ?_) ha
  · rw [(gm_zero hb).1, (gm_zero hb).2.1]
  · show rmul (x ^^^ y) b = gm (x ^^^ y) b
    rw [rmul_xorA, gm_xor b hx hy, h1, h2]
  · have := all256 (List.all_eq_true.1 rmul_base k (List.mem_range.2 hk)) hb
    simpa using this
theorem rmul_lt (a b : Nat) : rmul a b < 256 := Nat.mod_lt _ (by decide)
/-- The inverses. -/
def ivt : List Nat := [0, 1, 141, 246, 203, 82, 123, 209, 232, 79, 41, 192, 176, 225, 229, 199, 116, 180, 170, 75, 153, 43, 96, 95, 88, 63, 253, 204, 255, 64, 238, 178, 58, 110, 90, 241, 85, 77, 168, 201, 193, 10, 152, 21, 48, 68, 162, 194, 44, 69, 146, 108, 243, 57, 102, 66, 242, 53, 32, 111, 119, 187, 89, 25, 29, 254, 55, 103, 45, 49, 245, 105, 167, 100, 171, 19, 84, 37, 233, 9, 237, 92, 5, 202, 76, 36, 135, 191, 24, 62, 34, 240, 81, 236, 97, 23, 22, 94, 175, 211, 73, 166, 54, 67, 244, 71, 145, 223, 51, 147, 33, 59, 121, 183, 151, 133, 16, 181, 186, 60, 182, 112, 208, 6, 161, 250, 129, 130, 131, 126, 127, 128, 150, 115, 190, 86, 155, 158, 149, 217, 247, 2, 185, 164, 222, 106, 50, 109, 216, 138, 132, 114, 42, 20, 159, 136, 249, 220, 137, 154, 251, 124, 46, 195, 143, 184, 101, 72, 38, 200, 18, 74, 206, 231, 210, 98, 12, 224, 31, 239, 17, 117, 120, 113, 165, 142, 118, 61, 189, 188, 134, 87, 11, 40, 47, 163, 218, 212, 228, 15, 169, 39, 83, 4, 27, 252, 172, 230, 122, 7, 174, 99, 197, 219, 226, 234, 148, 139, 196, 213, 157, 248, 144, 107, 177, 13, 214, 235, 198, 14, 207, 173, 8, 78, 215, 227, 93, 80, 30, 179, 91, 35, 56, 52, 104, 70, 3, 140, 221, 156, 125, 160, 205, 26, 65, 28]
def iv (b : Nat) : Nat := ivt[b]?.getD 0
theorem ivt_len : ivt.length = 256 := by decide +kernel
theorem iv_all : ((List.range 256).all fun b => b == 0 || (rmul b (iv b) == 1 && ((List.range 8).all fun k => rmul (iv b) (rmul b (2 ^ k)) == 2 ^ k))) = true := by decide +kernel
theorem iv_lt_all : ((List.range 256).all fun b => decide (iv b < 256)) = true := by decide +kernel
theorem iv_lt {b : Nat} (hb : b < 256) : iv b < 256 := of_decide_eq_true (all256 iv_lt_all hb)
theorem iv_mul {b : Nat} (hb : b < 256) (h0 : b ≠ 0) : rmul b (iv b) = 1 := by
  have := all256 iv_all hb
  simp only [Bool.or_eq_true, Bool.and_eq_true, beq_iff_eq] at this
  exact (this.resolve_left h0).1
theorem iv_back {b x : Nat} (hb : b < 256) (h0 : b ≠ 0) (hx : x < 256) : rmul (iv b) (rmul b x) = x := by
  refine byte_ind (fun x => rmul (iv b) (rmul b x) = x) ?_ (fun x y _ _ h1 h2 => ?_) (fun k hk => ?_) hx
  · show rmul (iv b) (rmul b 0) = 0
    rw [(gm_zero hb).2.2, (gm_zero (iv_lt hb)).2.2]
  · show rmul (iv b) (rmul b (x ^^^ y)) = x ^^^ y
    rw [rmul_xorB, rmul_xorB, h1, h2]
  · have := all256 iv_all hb
    simp only [Bool.or_eq_true, Bool.and_eq_true, beq_iff_eq] at this
    have := List.all_eq_true.1 (this.resolve_left h0).2 k (List.mem_range.2 hk)
    simpa using this
theorem rmul_one_all : ((List.range 256).all fun b => rmul b 1 == b) = true := by decide +kernel
theorem iv_only {b i : Nat} (hb : b < 256) (h0 : b ≠ 0) (hi : i < 256) (h : rmul b i = 1) : i = iv b := by
  have h1 := iv_back hb h0 hi
  rw [h] at h1
  have h2 := all256 rmul_one_all (iv_lt hb)
  simp only [beq_iff_eq] at h2
  rw [h2] at h1
  exact h1.symm
/-- The inverse, found by trying. -/
def invR (b : Nat) : Nat → Nat
  | 0 => 0
  | i + 1 => if rmul b i = 1 then i else invR b i
theorem invR_zero : ∀ i, i ≤ 256 → invR 0 i = 0
  | 0, _ => rfl
  | i + 1, h => by
    rw [invR, (gm_zero (show i < 256 by omega)).2.1, if_neg (by decide)]
    exact invR_zero i (by omega)
theorem invR_eq {b : Nat} (hb : b < 256) (h0 : b ≠ 0) : ∀ i, i ≤ 256 → invR b i = if iv b < i then iv b else 0
  | 0, _ => rfl
  | i + 1, h => by
    rw [invR, invR_eq hb h0 i (by omega)]
    by_cases hi : rmul b i = 1
    · obtain rfl := iv_only hb h0 (by omega) hi
      rw [if_pos hi, if_pos (Nat.lt_succ_self _)]
    · rw [if_neg hi]
      have hne : iv b ≠ i := by
        intro h
        rw [← h] at hi
        exact hi (iv_mul hb h0)
      by_cases hlt : iv b < i
      · rw [if_pos hlt, if_pos (by omega)]
      · rw [if_neg hlt, if_neg (by omega)]
theorem invR_all {b : Nat} (hb : b < 256) : invR b 256 = iv b := by
  by_cases h0 : b = 0
  · subst h0
    rw [invR_zero _ (Nat.le_refl _)]
    rfl
  · rw [invR_eq hb h0 _ (Nat.le_refl _), if_pos (iv_lt hb)]
end Aes
end Go.Proofs.YtpakdcgcgekcfaaDoor

/-
  AES in plain Lean: the boxes, a block's rounds, forth and back.
-/
set_option linter.unusedSimpArgs false
set_option linter.unusedVariables false
namespace Go.Proofs.YtpakdcgcgekcfaaDoor
open Go.RowKit

namespace Aes
/-- Bit by bit. -/
def bitR (v i : Nat) : Nat := (v / 2 ^ (i % 8) % 2 + v / 2 ^ ((i + 4) % 8) % 2 + v / 2 ^ ((i + 5) % 8) % 2 + v / 2 ^ ((i + 6) % 8) % 2 + v / 2 ^ ((i + 7) % 8) % 2 + 99 / 2 ^ i % 2) % 2
def affR (v : Nat) : Nat → Nat
  | 0 => 0
  | i + 1 => affR v i + bitR v i * 2 ^ i
def boxR (b : Nat) : Nat := affR (invR b 256) 8
theorem box_all : ((List.range 256).all fun b => some (affR (iv b) 8) == sbox[b]?) = true := by decide +kernel
theorem box_at {b : Nat} (hb : b < 256) : sbox[b]? = some (boxR b) := by
  have := all256 box_all hb
  simp only [beq_iff_eq] at this
  rw [boxR, invR_all hb]
  exact this.symm
theorem sbox_len : sbox.length = 256 := by decide +kernel
theorem ibox_len : ibox.length = 256 := by decide +kernel
theorem sbox_byte : ∀ x ∈ sbox, x < 256 := by decide +kernel
theorem ibox_byte : ∀ x ∈ ibox, x < 256 := by decide +kernel
def sb (x : Nat) : Nat := sbox[x]?.getD 0
def ib (x : Nat) : Nat := ibox[x]?.getD 0
theorem back_all : ((List.range 256).all fun b => (ib (sb b) == b) && (sb (ib b) == b)) = true := by decide +kernel
theorem ib_sb {b : Nat} (hb : b < 256) : ib (sb b) = b := by
  have := all256 back_all hb
  simp only [Bool.and_eq_true, beq_iff_eq] at this
  exact this.1
theorem sb_lt (x : Nat) : sb x < 256 := by
  unfold sb
  cases h : sbox[x]? with
  | none => decide
  | some y => exact sbox_byte y (List.mem_of_getElem? h)
theorem ib_lt (x : Nat) : ib x < 256 := by
  unfold ib
  cases h : ibox[x]? with
  | none => decide
  | some y => exact ibox_byte y (List.mem_of_getElem? h)
theorem sb_at {x : Nat} (hx : x < 256) : sbox[x]? = some (sb x) := by
  unfold sb
  rw [List.getElem?_eq_getElem (by rw [sbox_len]; exact hx)]
  rfl
theorem ib_at {x : Nat} (hx : x < 256) : ibox[x]? = some (ib x) := by
  unfold ib
  rw [List.getElem?_eq_getElem (by rw [ibox_len]; exact hx)]
  rfl
/-- The program's boxes: powers of three, and of its inverse. -/
def rot8 (x n : Nat) : Nat := (x * 2 ^ n % 256) ||| (x / 2 ^ (8 - n))
def nextP (p : Nat) : Nat := p ^^^ xt p
def nextQ (q : Nat) : Nat :=
  let a := q ^^^ (q * 2 % 256)
  let b := a ^^^ (a * 4 % 256)
  let c := b ^^^ (b * 16 % 256)
  c ^^^ (c / 128 * 9)
/-- So many turns of a byte, laid over. -/
def affP (q : Nat) : Nat → Nat
  | 0 => 99
  | t + 1 => affP q t ^^^ rot8 q t
/-- The powers, by turns. -/
def pqs : Nat → Nat × Nat
  | 0 => (1, 1)
  | i + 1 => (nextP (pqs i).1, nextQ (pqs i).2)
def pP (i : Nat) : Nat := (pqs i).1
def qQ (i : Nat) : Nat := (pqs i).2
def bxP : Nat → List Nat
  | 0 => List.replicate 256 0
  | i + 1 => (bxP i).set (pP (i + 1)) (affP (qQ (i + 1)) 5)
def pList : List Nat := [1, 3, 5, 15, 17, 51, 85, 255, 26, 46, 114, 150, 161, 248, 19, 53, 95, 225, 56, 72, 216, 115, 149, 164, 247, 2, 6, 10, 30, 34, 102, 170, 229, 52, 92, 228, 55, 89, 235, 38, 106, 190, 217, 112, 144, 171, 230, 49, 83, 245, 4, 12, 20, 60, 68, 204, 79, 209, 104, 184, 211, 110, 178, 205, 76, 212, 103, 169, 224, 59, 77, 215, 98, 166, 241, 8, 24, 40, 120, 136, 131, 158, 185, 208, 107, 189, 220, 127, 129, 152, 179, 206, 73, 219, 118, 154, 181, 196, 87, 249, 16, 48, 80, 240, 11, 29, 39, 105, 187, 214, 97, 163, 254, 25, 43, 125, 135, 146, 173, 236, 47, 113, 147, 174, 233, 32, 96, 160, 251, 22, 58, 78, 210, 109, 183, 194, 93, 231, 50, 86, 250, 21, 63, 65, 195, 94, 226, 61, 71, 201, 64, 192, 91, 237, 44, 116, 156, 191, 218, 117, 159, 186, 213, 100, 172, 239, 42, 126, 130, 157, 188, 223, 122, 142, 137, 128, 155, 182, 193, 88, 232, 35, 101, 175, 234, 37, 111, 177, 200, 67, 197, 84, 252, 31, 33, 99, 165, 244, 7, 9, 27, 45, 119, 153, 176, 203, 70, 202, 69, 207, 74, 222, 121, 139, 134, 145, 168, 227, 62, 66, 198, 81, 243, 14, 18, 54, 90, 238, 41, 123, 141, 140, 143, 138, 133, 148, 167, 242, 13, 23, 57, 75, 221, 124, 132, 151, 162, 253, 28, 36, 108, 180, 199, 82, 246, 1]
def qList : List Nat := [1, 246, 82, 199, 180, 108, 36, 28, 253, 162, 151, 132, 124, 221, 75, 57, 23, 13, 242, 167, 148, 133, 138, 143, 140, 141, 123, 41, 238, 90, 54, 18, 14, 243, 81, 198, 66, 62, 227, 168, 145, 134, 139, 121, 222, 74, 207, 69, 202, 70, 203, 176, 153, 119, 45, 27, 9, 7, 244, 165, 99, 33, 31, 252, 84, 197, 67, 200, 177, 111, 37, 234, 175, 101, 35, 232, 88, 193, 182, 155, 128, 137, 142, 122, 223, 188, 157, 130, 126, 42, 239, 172, 100, 213, 186, 159, 117, 218, 191, 156, 116, 44, 237, 91, 192, 64, 201, 71, 61, 226, 94, 195, 65, 63, 21, 250, 86, 50, 231, 93, 194, 183, 109, 210, 78, 58, 22, 251, 160, 96, 32, 233, 174, 147, 113, 47, 236, 173, 146, 135, 125, 43, 25, 254, 163, 97, 214, 187, 105, 39, 29, 11, 240, 80, 48, 16, 249, 87, 196, 181, 154, 118, 219, 73, 206, 179, 152, 129, 127, 220, 189, 107, 208, 185, 158, 131, 136, 120, 40, 24, 8, 241, 166, 98, 215, 77, 59, 224, 169, 103, 212, 76, 205, 178, 110, 211, 184, 104, 209, 79, 204, 68, 60, 20, 12, 4, 245, 83, 49, 230, 171, 144, 112, 217, 190, 106, 38, 235, 89, 55, 228, 92, 52, 229, 170, 102, 34, 30, 10, 6, 2, 247, 164, 149, 115, 216, 72, 56, 225, 95, 53, 19, 248, 161, 150, 114, 46, 26, 255, 85, 51, 17, 15, 5, 3, 1]
theorem pq_step : ((List.range 255).all fun i => (nextP (pList[i]?.getD 0) == pList[i + 1]?.getD 0) && (nextQ (qList[i]?.getD 0) == qList[i + 1]?.getD 0)) = true := by decide +kernel
theorem pq_at : ∀ i, i < 256 → pqs i = (pList[i]?.getD 0, qList[i]?.getD 0)
  | 0, _ => rfl
  | i + 1, h => by
    have := List.all_eq_true.1 pq_step i (List.mem_range.2 (by omega))
    simp only [Bool.and_eq_true, beq_iff_eq] at this
    rw [pqs, pq_at i (by omega), ← this.1, ← this.2]
def bxL : Nat → List Nat
  | 0 => List.replicate 256 0
  | i + 1 => (bxL i).set (pList[i + 1]?.getD 0) (affP (qList[i + 1]?.getD 0) 5)
theorem bxL_at : ∀ i, i < 256 → bxP i = bxL i
  | 0, _ => rfl
  | i + 1, h => by
    rw [bxP, bxL, pP, qQ, pq_at _ h, bxL_at i (by omega)]
theorem bxL_eq : (bxL 255).set 0 99 = sbox := by decide +kernel
theorem bxP_eq : (bxP 255).set 0 99 = sbox := by rw [bxL_at 255 (by decide)]; exact bxL_eq
theorem pList_all : ((List.range 256).all fun i => decide (pList[i]?.getD 0 < 256) && decide (qList[i]?.getD 0 < 256)) = true := by decide +kernel
theorem pP_lt {i : Nat} (h : i < 256) : pP i < 256 := by
  have := all256 pList_all h
  simp only [Bool.and_eq_true, decide_eq_true_eq] at this
  rw [pP, pq_at i h]
  exact this.1
theorem qQ_lt {i : Nat} (h : i < 256) : qQ i < 256 := by
  have := all256 pList_all h
  simp only [Bool.and_eq_true, decide_eq_true_eq] at this
  rw [qQ, pq_at i h]
  exact this.2
def bkP : Nat → List Nat
  | 0 => List.replicate 256 0
  | i + 1 => (bkP i).set (sb i) i
theorem bkP_eq : bkP 256 = ibox := by decide +kernel
theorem bxP_length : ∀ i, (bxP i).length = 256
  | 0 => List.length_replicate
  | i + 1 => by rw [bxP, List.length_set]; exact bxP_length i
theorem bkP_length : ∀ i, (bkP i).length = 256
  | 0 => List.length_replicate
  | i + 1 => by rw [bkP, List.length_set]; exact bkP_length i
/-- The key's words, four bytes each. -/
def xorL (a b : List Nat) : List Nat := List.zipWith (· ^^^ ·) a b
def kw0 (key : List Nat) (n : Nat) : List (List Nat) := (List.range n).map fun i => (key.drop (4 * i)).take 4
def conA : Nat → Nat
  | 0 => 1
  | i + 1 => xt (conA i)
def kTurn (n i : Nat) (t : List Nat) : List Nat :=
  if i % n = 0 then [sb (t[1]?.getD 0) ^^^ conA (i / n - 1), sb (t[2]?.getD 0), sb (t[3]?.getD 0), sb (t[0]?.getD 0)]
  else if 6 < n ∧ i % n = 4 then t.map sb else t
def kNext (n : Nat) (w : List (List Nat)) : List (List Nat) :=
  w ++ [xorL (kTurn n w.length (w[w.length - 1]?.getD [])) (w[w.length - n]?.getD [])]
def kGo (n : Nat) (w : List (List Nat)) : Nat → List (List Nat)
  | 0 => w
  | k + 1 => kNext n (kGo n w k)
def kWords (key : List Nat) : List (List Nat) := kGo (key.length / 4) (kw0 key (key.length / 4)) (3 * (key.length / 4) + 28)
def rounds (key : List Nat) : Nat := key.length / 4 + 6
/-- A round's key. -/
def kRound (key : List Nat) (r : Nat) : List Nat := ((kWords key).drop (4 * r)).take 4 |>.flatten
/-- A block's steps. -/
def at0 (b : List Nat) (i : Nat) : Nat := b[i]?.getD 0
def shiftF (b : List Nat) : List Nat := (List.range 16).map fun i => sb (at0 b ((i + 4 * (i % 4)) % 16))
def shiftB (b : List Nat) : List Nat := (List.range 16).map fun i => ib (at0 b ((i + 12 * (i % 4)) % 16))
def mixA (b : List Nat) (by4 : List Nat) (i : Nat) : Nat → Nat
  | 0 => 0
  | j + 1 => mixA b by4 i j ^^^ gm (at0 b (i - i % 4 + (i + j) % 4)) (at0 by4 j)
def mix (by4 : List Nat) (b : List Nat) : List Nat := (List.range 16).map fun i => mixA b by4 i 4
def encGo (key : List Nat) (b : List Nat) : Nat → List Nat
  | 0 => xorL b (kRound key 0)
  | r + 1 => xorL (mix [2, 3, 1, 1] (shiftF (encGo key b r))) (kRound key (r + 1))
def encB (key b : List Nat) : List Nat := xorL (shiftF (encGo key b (rounds key - 1))) (kRound key (rounds key))
/-- Behind so many rounds back, from the last one on. -/
def decGo (key : List Nat) (b : List Nat) : Nat → List Nat
  | 0 => shiftB (xorL b (kRound key (rounds key)))
  | r + 1 => shiftB (mix [14, 11, 13, 9] (xorL (decGo key b r) (kRound key (rounds key - 1 - r))))
def decB (key b : List Nat) : List Nat := xorL (decGo key b (rounds key - 1)) (kRound key 0)
end Aes
end Go.Proofs.YtpakdcgcgekcfaaDoor

/-
  Package aes: twice, Mul, boxes.
-/
set_option linter.unusedSimpArgs false
set_option linter.unusedVariables false
namespace Go.Proofs.YtpakdcgcgekcfaaDoor
open Go.RowKit

namespace Aes
set_option maxHeartbeats 1000000 in
theorem twice_any (a : Int) (x : Nat) (w : World) (ha : a = x) (hx : x < 256) : Calls Tryd.prog 112 #[.int .u8 a] w (fun e w' => e = .returned (.int .u8 (xt x : Int)) ∧ w = w') := by
  subst ha
  have h1 : bits .xor .u8 ((x : Int) * 2 % 256) ((x : Int) / 128 * 27) = ((xt x : Nat) : Int) := by
    rw [show (x : Int) * 2 % 256 = ((x * 2 % 256 : Nat) : Int) by simp, show (x : Int) / 128 * 27 = ((x / 128 * 27 : Nat) : Int) by simp, u8_xor_nat _ _ (Nat.mod_lt _ (by decide)) (by omega)]
    rfl
  go_enter Tryd.func112, Tryd.ntmps112
  go_wp2_with fail
  go_light
  go_ret
  exact ⟨by rw [← h1]; rfl, rfl⟩
theorem mulP_zero : ∀ (f p a : Nat), mulP f p a 0 = p
  | 0, _, _ => rfl
  | f + 1, p, a => by
    rw [mulP, show (0 : Nat) % 2 = 0 from rfl, Nat.mul_zero, Nat.xor_zero, show (0 : Nat) / 2 = 0 from rfl]
    exact mulP_zero f p _
set_option maxHeartbeats 1000000 in
theorem mul_any (a b : Int) (x y : Nat) (w : World) (ha : a = x) (hb : b = y) (hx : x < 256) (hy : y < 256) : Calls Tryd.prog 132 #[.int .u8 a, .int .u8 b] w (fun e w' => e = .returned (.int .u8 (gm x y : Int)) ∧ w = w') := by
  subst ha hb
  obtain ⟨R, hR⟩ : ∃ R, gm x y = R := ⟨_, rfl⟩
  rw [hR]
  have HR := Lib.hid hR
  clear hR
  go_enter Tryd.func132, Tryd.ntmps132
  go_wp2_with fail
  go_loopg [0, 1, 5] 8 (fun g s0 s1 s5 wr => ∃ (p a b : Nat), s5 = .int .u8 (p : Int) ∧ s0 = .int .u8 (a : Int) ∧ s1 = .int .u8 (b : Int) ∧ p < 256 ∧ a < 256 ∧ b < 256 ∧ Hid (b < 2 ^ g) ∧ Hid (mulP g p a b = R) ∧ wr = w)
  case atStart => exact ⟨0, x, y, rfl, rfl, rfl, by decide, hx, hy, Lib.hid hy, HR, rfl⟩
  case round =>
    obtain ⟨p, a, b, rfl, rfl, rfl, hp, ha, hb, HB, HM, rfl⟩ := hrel
    by_cases h0 : b = 0
    · subst h0
      have HP := Lib.hid (show p = R by have := HM.out; rwa [mulP_zero] at this)
      go_wp2_with fail
      go_light
      go_ret
      exact ⟨by rw [HP.out]; rfl, rfl⟩
    · obtain ⟨g', rfl⟩ : ∃ g', gk = g' + 1 := by
        cases gk with
        | zero => have := HB.out; simp at this; omega
        | succ g => exact ⟨g, rfl⟩
      obtain ⟨q, hq⟩ : ∃ q, b % 2 = q := ⟨_, rfl⟩
      obtain ⟨m, hm⟩ : ∃ m, a * q = m := ⟨_, rfl⟩
      obtain ⟨p', hp'⟩ : ∃ z, p ^^^ m = z := ⟨_, rfl⟩
      have hq2 : q < 2 := by omega
      have hm2 : m < 256 := by
        rcases (show q = 0 ∨ q = 1 by omega) with h | h <;> subst h <;> omega
      have hpp : p' < 256 := by rw [← hp']; exact xor8 hp hm2
      have e1 : bits .and .u8 (b : Int) 1 = (q : Int) := by
        rw [show (1 : Int) = ((1 : Nat) : Int) from rfl, u8_and_nat _ _ hb (by decide), Nat.and_one_is_mod, hq]
      have e2 : IntKind.u8.wrap ((a : Int) * (q : Int)) = (m : Int) := by
        rw [← Int.natCast_mul, hm]
        exact IntWalk.u8_in _ (by omega)
      have e3 : bits .xor .u8 (p : Int) (m : Int) = (p' : Int) := by rw [u8_xor_nat _ _ hp hm2, hp']
      have HB' := Lib.hid (show b / 2 < 2 ^ g' by have := HB.out; rw [Nat.pow_succ] at this; omega)
      have HM' := Lib.hid (show mulP g' p' (xt a) (b / 2) = R by have := HM.out; rw [mulP, hq, hm, hp'] at this; exact this)
      have hbne : ((b : Int) != 0) = true := by rw [bne_iff_ne]; omega
      clear hq hm hp' HB HM
      go_wp2_with fail
      (with_reducible refine (twice_any _ a _ rfl ha).mono ?_); rintro e w2 ⟨rfl, rfl⟩
      go_wp2_with fail
      go_light
      go_roundg g'
      case measure => omega
      case rel => exact ⟨p', xt a, b / 2, rfl, rfl, by go_num, hpp, xt_lt ha, by omega, HB', HM', rfl⟩
end Aes
end Go.Proofs.YtpakdcgcgekcfaaDoor

/-
  Results in cells: two; one and two slots.
-/
set_option linter.unusedSimpArgs false
set_option linter.unusedVariables false
namespace Go.Proofs.YtpakdcgcgekcfaaDoor
open Go.RowKit

section
variable {P : Program}
theorem results_two {fn : Func} {p q : Tmp} {ty tz : TypeId} (h : fn.results = #[.cell p ty, .cell q tz]) (tmps : Array Value) (w : World) (g k : Nat) (t u : TypeId) (cs ds : Array Value) (d e : TypeDesc)
    (hp : tmps.getD p undef = .pointer (some ⟨g, 0, none⟩)) (hq : tmps.getD q undef = .pointer (some ⟨k, 0, none⟩)) (hg : Blk w g t cs) (hk : Blk w k u ds)
    (hu : P.underlying ty = some d) (hd : (match d with | .struct _ | .array _ _ => true | _ => false) = true) (hi : (P.info? ty).map (·.size) = some cs.size)
    (hv : P.underlying tz = some e) (he : (match e with | .struct _ | .array _ _ => true | _ => false) = true) (hj : (P.info? tz).map (·.size) = some ds.size) :
    (results fn tmps).run P w = .ok (.tuple #[.agg cs, .agg ds]) w := by
  have hp' : tmps[p]?.getD undef = .pointer (some ⟨g, 0, none⟩) := by simpa using hp
  have hq' : tmps[q]?.getD undef = .pointer (some ⟨k, 0, none⟩) := by simpa using hq
  simp [results, h, hp', hq', asAddr, Sem.run_bind, Result.andThen, run_loadVar_row w g t ty cs (0, 0) d hg hu hd hi, run_loadVar_row w k u tz ds (0, 0) e hk hv he hj]
theorem results_one_slot {fn : Func} {p q : Tmp} {ty : TypeId} (h : fn.results = #[.cell p ty, .tmp q]) (tmps : Array Value) (w : World) (g : Nat) (t : TypeId) (cs : Array Value) (d : TypeDesc) (v : Value)
    (hp : tmps.getD p undef = .pointer (some ⟨g, 0, none⟩)) (hq : tmps.getD q undef = v) (hg : Blk w g t cs)
    (hu : P.underlying ty = some d) (hd : (match d with | .struct _ | .array _ _ => true | _ => false) = true) (hi : (P.info? ty).map (·.size) = some cs.size) :
    (results fn tmps).run P w = .ok (.tuple #[.agg cs, v]) w := by
  have hp' : tmps[p]?.getD undef = .pointer (some ⟨g, 0, none⟩) := by simpa using hp
  have hq' : tmps[q]?.getD undef = v := by simpa using hq
  simp [results, h, hp', hq', asAddr, Sem.run_bind, Result.andThen, run_loadVar_row w g t ty cs (0, 0) d hg hu hd hi]
theorem results_two_slots {fn : Func} {p q r : Tmp} {ty : TypeId} (h : fn.results = #[.cell p ty, .tmp q, .tmp r]) (tmps : Array Value) (w : World) (g : Nat) (t : TypeId) (cs : Array Value) (d : TypeDesc) (v u : Value)
    (hp : tmps.getD p undef = .pointer (some ⟨g, 0, none⟩)) (hq : tmps.getD q undef = v) (hr : tmps.getD r undef = u) (hg : Blk w g t cs)
    (hu : P.underlying ty = some d) (hd : (match d with | .struct _ | .array _ _ => true | _ => false) = true) (hi : (P.info? ty).map (·.size) = some cs.size) :
    (results fn tmps).run P w = .ok (.tuple #[.agg cs, v, u]) w := by
  have hp' : tmps[p]?.getD undef = .pointer (some ⟨g, 0, none⟩) := by simpa using hp
  have hq' : tmps[q]?.getD undef = v := by simpa using hq
  have hr' : tmps[r]?.getD undef = u := by simpa using hr
  simp [results, h, hp', hq', hr', asAddr, Sem.run_bind, Result.andThen, run_loadVar_row w g t ty cs (0, 0) d hg hu hd hi]
end
end Go.Proofs.YtpakdcgcgekcfaaDoor

/-
  A drawn region of two loads and two stores of rows (the second load may come behind the first store): whatever the order, the same. No program in sight.
-/
set_option linter.unusedSimpArgs false
set_option linter.unusedVariables false
namespace Go.Proofs.YtpakdcgcgekcfaaDoor
open Go Go.RowKit

def rowB (d : TypeDesc) : Bool := match d with
  | .struct _ | .array _ _ => true
  | _ => false
theorem put_comm {a : Act} {i j : Tmp} {u v : Value} (h : i ≠ j) : (a.put (some i) u).put (some j) v = (a.put (some j) v).put (some i) u := by
  unfold Act.put
  simp only
  rw [Array.setIfInBounds_comm _ _ h]
theorem wanted_none {o : Oper} {f : Nat → Option Bool} (h : o.guard = none) : Region.wanted o f = true := by
  unfold Region.wanted
  rw [h]
def readyB (ops : Array Oper) (l : List (List Bool × List Nat)) : Bool := l.all fun p => Region.ready .any ops p.1.toArray == p.2
theorem readyB_at {ops : Array Oper} {l : List (List Bool × List Nat)} (h : readyB ops l = true) {s : List Bool} {r : List Nat} (hm : (s, r) ∈ l) : Region.ready .any ops s.toArray = r := by
  have := List.all_eq_true.1 h _ hm
  simpa using this
section
variable {P : Program}
theorem wp_load_in {o : Oper} {a : Act} {w : World} {K : Act → World → Prop} {Q : Exit → Act → World → Prop} {f : Nat → Option Bool} (hgd : o.guard = none) (ty : TypeId) (x : Operand) (ho : o.op = .load ty x)
    (g : Nat) (hx : a.eval x = .pointer (some ⟨g, 0, none⟩)) (t : TypeId) (cs : Array Value) (d : TypeDesc) (hg : Blk w g t cs)
    (hu : P.underlying ty = some d) (hd : rowB d = true) (hi : (P.info? ty).map (·.size) = some cs.size)
    (h : K (a.put o.dst (.agg cs)) w) : if Region.wanted o f = true then Oper.wp P o a w K Q else K (a.put o.dst undef) w := by
  rw [if_pos (wanted_none hgd)]
  exact wp_load_row ty x ho g hx t cs (0, 0) d hg hu (by cases d <;> first | rfl | (simp [rowB] at hd)) hi h
theorem wp_store_in {o : Oper} {a : Act} {w : World} {K : Act → World → Prop} {Q : Exit → Act → World → Prop} {f : Nat → Option Bool} (hgd : o.guard = none) (ty : TypeId) (x y : Operand) (ho : o.op = .store ty x y) (hdst : o.dst = none)
    (g : Nat) (cells : Array Value) (hx : a.eval x = .pointer (some ⟨g, 0, none⟩)) (hy : a.eval y = .agg cells)
    (t : TypeId) (old : Array Value) (hg : Blk w g t old) (hi : (P.info? ty).map (·.size) = some cells.size) (hold : old.size = cells.size) (h1 : cells.all (·.oneCell') = true)
    (h : ∀ w', Blk w' g t cells → Frm [g] w w' → K a w') : if Region.wanted o f = true then Oper.wp P o a w K Q else K (a.put o.dst undef) w := by
  rw [if_pos (wanted_none hgd)]
  refine wp_store_row ty x y ho g cells hx hy t old hg hi hold h1 ?_
  rw [hdst]
  exact h _ (setRow_heap _ _ _ cells _ _ hg) (frm_setRow w cells)
theorem wp_two_rows {id : Nat} {Q : Exit → Act → World → Prop} {a : Act} {w : World} {o0 o1 o2 o3 : Oper} (hm : P.follows .mixedOrders = true)
    (hr : readyB [o0, o1, o2, o3].toArray [([false, false, false, false], [0, 1]), ([true, false, false, false], [1, 2]), ([false, true, false, false], [0]), ([true, true, false, false], [2]), ([true, false, true, false], [1]), ([true, true, true, false], [3]), ([true, true, true, true], [])] = true)
    (g0 : o0.guard = none) (g1 : o1.guard = none) (g2 : o2.guard = none) (g3 : o3.guard = none) (n2 : o2.dst = none) (n3 : o3.dst = none)
    (t0 t1 : TypeId) (x y p q : Operand) (i j : Tmp) (hij : i ≠ j) (p0 : o0.op = .load t0 x) (p1 : o1.op = .load t1 y) (p2 : o2.op = .store t0 p (.tmp i)) (p3 : o3.op = .store t1 q (.tmp j)) (d0 : o0.dst = some i) (d1 : o1.dst = some j)
    (gx gy gp gq : Nat) (ca cb : Array Value) (kx ky kp kq : TypeId) (cp cq : Array Value) (e0 e1 : TypeDesc)
    (hx : a.eval x = .pointer (some ⟨gx, 0, none⟩)) (hx' : (a.put (some j) (.agg cb)).eval x = .pointer (some ⟨gx, 0, none⟩))
    (hy : a.eval y = .pointer (some ⟨gy, 0, none⟩)) (hy' : (a.put (some i) (.agg ca)).eval y = .pointer (some ⟨gy, 0, none⟩))
    (hp : (a.put (some i) (.agg ca)).eval p = .pointer (some ⟨gp, 0, none⟩)) (hp' : ((a.put (some i) (.agg ca)).put (some j) (.agg cb)).eval p = .pointer (some ⟨gp, 0, none⟩))
    (hs : (a.put (some i) (.agg ca)).eval (.tmp i) = .agg ca) (hs' : ((a.put (some i) (.agg ca)).put (some j) (.agg cb)).eval (.tmp i) = .agg ca)
    (hq : ((a.put (some i) (.agg ca)).put (some j) (.agg cb)).eval q = .pointer (some ⟨gq, 0, none⟩)) (ht : ((a.put (some i) (.agg ca)).put (some j) (.agg cb)).eval (.tmp j) = .agg cb)
    (bx : Blk w gx kx ca) (bY : Blk w gy ky cb) (bp : Blk w gp kp cp) (bq : Blk w gq kq cq) (npy : gy ≠ gp) (npq : gq ≠ gp)
    (u0 : P.underlying t0 = some e0) (r0 : rowB e0 = true) (z0 : (P.info? t0).map (·.size) = some ca.size) (s0 : cp.size = ca.size) (c0 : ca.all (·.oneCell') = true)
    (u1 : P.underlying t1 = some e1) (r1 : rowB e1 = true) (z1 : (P.info? t1).map (·.size) = some cb.size) (s1 : cq.size = cb.size) (c1 : cb.all (·.oneCell') = true)
    (h : ∀ w', Blk w' gp kp ca → Blk w' gq kq cb → Frm [gp, gq] w w' → Q .normal ((a.put (some i) (.agg ca)).put (some j) (.agg cb)) w') :
    (Code.region id [o0, o1, o2, o3].toArray true).wp P Q a w := by
  have R : ∀ s r, (s, r) ∈ _ → _ := fun s r hm => readyB_at hr (s := s) (r := r) hm
  have fin : ∀ w', Blk w' gp kp ca → Blk w' gq kq cb → Frm [gp, gq] w w' → ∀ f, wpAny P .any [o0, o1, o2, o3].toArray Q f #[true, true, true, true] ((a.put (some i) (.agg ca)).put (some j) (.agg cb)) w' := fun w' k1 k2 k3 f =>
    wpAny_done (R [true, true, true, true] [] (by simp)) (h w' k1 k2 k3) f
  -- behind the first store and both loads
  have last : ∀ w', Blk w' gp kp ca → Blk w' gq kq cq → Frm [gp] w w' → wpAny P .any [o0, o1, o2, o3].toArray Q 1 #[true, true, true, false] ((a.put (some i) (.agg ca)).put (some j) (.agg cb)) w' := fun w' k1 k2 k3 => by
    refine wpAny_ready (rs := [3]) (R [true, true, true, false] [3] (by simp)) (by simp) (AllReady.cons (o := o3) rfl (fun K hK => ?_) AllReady.nil)
    refine wp_store_in g3 t1 q (.tmp j) p3 n3 gq cb hq ht kq cq k2 z1 s1 c1 (fun w2 k4 k5 => hK _ _ ?_)
    refine fin w2 (k1.frm k5 (by simp; exact fun h => npq h.symm)) k4 ?_ 0
    exact (k3.mono (T := [gp, gq]) (fun x hx _ => by simp at hx ⊢; exact .inl hx)).trans (k5.mono (fun x hx _ => by simp at hx ⊢; exact .inr hx))
  -- both loads are done
  have both : ∀ w1, (∀ b t c, Blk w b t c → Blk w1 b t c) → Frm [gp] w w1 → wpAny P .any [o0, o1, o2, o3].toArray Q 2 #[true, true, false, false] ((a.put (some i) (.agg ca)).put (some j) (.agg cb)) w1 := fun w1 hb hf => by
    refine wpAny_ready (rs := [2]) (R [true, true, false, false] [2] (by simp)) (by simp) (AllReady.cons (o := o2) rfl (fun K hK => ?_) AllReady.nil)
    refine wp_store_in g2 t0 p (.tmp i) p2 n2 gp ca hp' hs' kp cp (hb _ _ _ bp) z0 s0 c0 (fun w2 k4 k5 => hK _ _ ?_)
    exact last w2 k4 ((hb _ _ _ bq).frm k5 (by simp; exact npq)) (hf.trans k5)
  refine wp_region_any hm ?_
  change wpAny P .any [o0, o1, o2, o3].toArray Q 4 #[false, false, false, false] a w.drew
  have hdr : ∀ b t c, Blk w b t c → Blk w.drew b t c := fun b t c h => h.drew
  have hfd : Frm [gp] w w.drew := (Frm.refl _ _).drew
  refine wpAny_ready (rs := [0, 1]) (R [false, false, false, false] [0, 1] (by simp)) (by simp) (AllReady.cons (o := o0) rfl (fun K hK => ?_) (AllReady.cons (o := o1) rfl (fun K hK => ?_) AllReady.nil))
  · refine wp_load_in g0 t0 x p0 gx hx kx ca e0 bx.drew u0 r0 z0 (hK _ _ ?_)
    rw [d0]
    refine wpAny_ready (rs := [1, 2]) (R [true, false, false, false] [1, 2] (by simp)) (by simp) (AllReady.cons (o := o1) rfl (fun K hK => ?_) (AllReady.cons (o := o2) rfl (fun K hK => ?_) AllReady.nil))
    · refine wp_load_in g1 t1 y p1 gy hy' ky cb e1 bY.drew u1 r1 z1 (hK _ _ ?_)
      rw [d1]
      exact both w.drew hdr hfd
    · refine wp_store_in g2 t0 p (.tmp i) p2 n2 gp ca hp hs kp cp bp.drew z0 s0 c0 (fun w2 k4 k5 => hK _ _ ?_)
      refine wpAny_ready (rs := [1]) (R [true, false, true, false] [1] (by simp)) (by simp) (AllReady.cons (o := o1) rfl (fun K hK => ?_) AllReady.nil)
      refine wp_load_in g1 t1 y p1 gy hy' ky cb e1 (bY.drew.frm k5 (by simp; exact npy)) u1 r1 z1 (hK _ _ ?_)
      rw [d1]
      exact last w2 k4 (bq.drew.frm k5 (by simp; exact npq)) (hfd.trans k5)
  · refine wp_load_in g1 t1 y p1 gy hy ky cb e1 bY.drew u1 r1 z1 (hK _ _ ?_)
    rw [d1]
    refine wpAny_ready (rs := [0]) (R [false, true, false, false] [0] (by simp)) (by simp) (AllReady.cons (o := o0) rfl (fun K hK => ?_) AllReady.nil)
    refine wp_load_in g0 t0 x p0 gx hx' kx ca e0 bx.drew u0 r0 z0 (hK _ _ ?_)
    rw [d0, ← put_comm hij]
    exact both w.drew hdr hfd
end
end Go.Proofs.YtpakdcgcgekcfaaDoor

/-
  Package aes: boxes.
-/
set_option linter.unusedSimpArgs false
set_option linter.unusedVariables false
namespace Go.Proofs.YtpakdcgcgekcfaaDoor
open Go.RowKit

namespace Aes
open Otp R1
set_option maxHeartbeats 1000000 in
theorem rot8_any (a k : Int) (x t : Nat) (w : World) (ha : a = x) (hk : k = t) (hx : x < 256) (ht : t < 5) : Calls Tryd.prog 128 #[.int .u8 a, .int .i64 k] w (fun e w' => e = .returned (.int .u8 (rot8 x t : Int)) ∧ w = w') := by
  subst ha hk
  have a0 : bits .and .u64 0 7 = 0 := by decide +kernel
  have a1 : bits .and .u64 1 7 = 1 := by decide +kernel
  have a2 : bits .and .u64 2 7 = 2 := by decide +kernel
  have a3 : bits .and .u64 3 7 = 3 := by decide +kernel
  have a4 : bits .and .u64 4 7 = 4 := by decide +kernel
  have hor : ∀ p q : Nat, p < 256 → q < 256 → bits .or .u8 (p : Int) (q : Int) = ((p ||| q : Nat) : Int) := u8_or_nat
  rcases (show t = 0 ∨ t = 1 ∨ t = 2 ∨ t = 3 ∨ t = 4 by omega) with h | h | h | h | h
  all_goals
    subst h
    go_enter Tryd.func128, Tryd.ntmps128
    go_wp2_with fail
    go_light
    go_ret
    refine ⟨ret1i ?_, rfl⟩
    rw [rot8, ← hor _ _ (Nat.mod_lt _ (by decide)) (Nat.lt_of_le_of_lt (Nat.div_le_self _ _) hx)]
    congr 1 <;> omega
theorem box_info : (Tryd.prog.info? 92).map (·.size) = some 256 := by kernel_rfl
theorem affP_lt {q : Nat} (hq : q < 256) : ∀ t, t ≤ 5 → affP q t < 256
  | 0, _ => (by decide : 99 < 256)
  | t + 1, h => by
    rw [affP]
    refine xor8 (affP_lt hq t (by omega)) ?_
    unfold rot8
    exact Nat.or_lt_two_pow (n := 8) (Nat.mod_lt _ (by decide)) (Nat.lt_of_le_of_lt (Nat.div_le_self _ _) hq)
def z256 : List Nat := List.replicate 256 0
theorem b8_put (l : List Nat) (i y : Nat) : (b8 l).setIfInBounds i (.int .u8 (y : Int)) = b8 (l.set i y) := by
  simp [b8, List.map_set]
/-- The four arrays of boxes, since a world W. -/
structure Bx (W : World) (g1 g2 g3 : Nat) (l2 l3 : List Nat) (w : World) : Prop where
  ka : Blk w W.heap.size 92 (b8 z256)
  kb : Blk w g1 92 (b8 z256)
  kc : Blk w g2 92 (b8 l2)
  kd : Blk w g3 92 (b8 l3)
  bel : Below W.heap.size W w
  o1 : W.heap.size < g1
  o2 : g1 < g2
  o3 : g2 < g3
section
variable {W w w' : World} {g1 g2 g3 : Nat} {l2 l3 : List Nat}
theorem Bx.old (h : Bx W g1 g2 g3 l2 l3 w) (hb : Below w.heap.size w w') : Bx W g1 g2 g3 l2 l3 w' :=
  ⟨h.ka.next hb rfl, h.kb.next hb rfl, h.kc.next hb rfl, h.kd.next hb rfl, below_then h.bel hb (Nat.le_refl _), h.o1, h.o2, h.o3⟩
theorem Bx.set2 (h : Bx W g1 g2 g3 l2 l3 w) (i x : Nat) : Bx W g1 g2 g3 (l2.set i x) l3 (w.setCell ⟨g2, i, none⟩ (.int .u8 (x : Int))) := by
  have o1 := h.o1
  have o2 := h.o2
  have o3 := h.o3
  refine ⟨h.ka.far' _ _ (by omega) _, h.kb.far' _ _ (by omega) _, ?_, h.kd.far' _ _ (by omega) _, h.bel.setCell (by simp only; omega) _, o1, o2, o3⟩
  rw [← b8_put]
  exact h.kc.set _ _
theorem Bx.set3 (h : Bx W g1 g2 g3 l2 l3 w) (i x : Nat) : Bx W g1 g2 g3 l2 (l3.set i x) (w.setCell ⟨g3, i, none⟩ (.int .u8 (x : Int))) := by
  have o1 := h.o1
  have o2 := h.o2
  have o3 := h.o3
  refine ⟨h.ka.far' _ _ (by omega) _, h.kb.far' _ _ (by omega) _, h.kc.far' _ _ (by omega) _, ?_, h.bel.setCell (by simp only; omega) _, o1, o2, o3⟩
  rw [← b8_put]
  exact h.kd.set _ _
end
theorem quiet_const {P : Program} {f : FuncId} {args : Array Value} {W : World} {c : Value} (h : Calls P f args W (fun e w' => e = .returned c ∧ W = w')) : Calls P f args W (fun e w'' => ∃ v, e = .returned v ∧ Rel.Grow W w'' ∧ v = c) :=
  h.mono fun _ _ ⟨h1, h2⟩ => by subst h2; exact ⟨c, h1, Rel.Grow.refl _, rfl⟩
set_option maxRecDepth 100000 in
set_option maxHeartbeats 4000000 in
theorem boxes_any (w : World) : Calls Tryd.prog 109 #[] w (fun e w' => e = .returned (.tuple #[.agg (b8 sbox), .agg (b8 ibox)]) ∧ Below w.heap.size w w') := by
  obtain ⟨w1, hw1⟩ : ∃ W, W = (((w.alloc (.cells (b8 z256) 92)).alloc (.cells (b8 z256) 92)).alloc (.cells (b8 z256) 92)).alloc (.cells (b8 z256) 92) := ⟨_, rfl⟩
  have HW := Lib.hid hw1
  have HX := Lib.hid (show Bx w (w.heap.size + 1) (w.heap.size + 1 + 1) (w.heap.size + 1 + 1 + 1) z256 z256 w1 by
    rw [hw1]
    exact ⟨(((Blk.new w _ _).alloc _).alloc _).alloc _, ((blk_new' (by simp)).alloc _).alloc _, (blk_new' (by simp)).alloc _, blk_new' (by simp),
      ((((Below.refl _ w).alloc (Nat.le_refl _) _).alloc (by simp) _).alloc (by simp; omega) _).alloc (by simp; omega) _, by omega, by omega, by omega⟩)
  clear hw1
  go_enter Tryd.func109, Tryd.ntmps109
  go_upto_region 2 with fail
  change Code.wp _ _ _ _ ((((w.alloc (.cells (b8 z256) 92)).alloc (.cells (b8 z256) 92)).alloc (.cells (b8 z256) 92)).alloc (.cells (b8 z256) 92))
  rw [← HW.out]
  clear HW
  obtain ⟨g3, hg3⟩ : ∃ x, x = w.heap.size + 1 + 1 + 1 := ⟨_, rfl⟩
  rw [← hg3] at HX
  rw [← hg3]
  clear hg3
  obtain ⟨g2, hg2⟩ : ∃ x, x = w.heap.size + 1 + 1 := ⟨_, rfl⟩
  rw [← hg2] at HX
  rw [← hg2]
  clear hg2
  obtain ⟨g1, hg1⟩ : ∃ x, x = w.heap.size + 1 := ⟨_, rfl⟩
  rw [← hg1] at HX
  rw [← hg1]
  clear hg1
  go_wp2_with fail
  go_loopg [4, 5, 9] 255 (fun g s4 s5 s9 wr => ∃ i : Nat, i + g = 255 ∧ s9 = .int .i64 (i : Int) ∧ s4 = .int .u8 (pP i : Int) ∧ s5 = .int .u8 (qQ i : Int) ∧ Hid (Bx w g1 g2 g3 (bxP i) z256 wr))
  case atStart => exact ⟨0, by omega, rfl, rfl, rfl, HX⟩
  case round =>
    obtain ⟨i, hg, rfl, rfl, rfl, HK⟩ := hrel
    have HG := Lib.hid hg
    have hi : i ≤ 255 := by omega
    clear hg HX
    by_cases hlt : i < 255
    · obtain ⟨p, hp⟩ : ∃ p, pP i = p := ⟨_, rfl⟩
      obtain ⟨q, hq⟩ : ∃ q, qQ i = q := ⟨_, rfl⟩
      have hpl : p < 256 := by rw [← hp]; exact pP_lt (by omega)
      have hql : q < 256 := by rw [← hq]; exact qQ_lt (by omega)
      obtain ⟨p1, hp1⟩ : ∃ z, p ^^^ xt p = z := ⟨_, rfl⟩
      obtain ⟨a, ha⟩ : ∃ z, q ^^^ (q * 2 % 256) = z := ⟨_, rfl⟩
      obtain ⟨b, hb⟩ : ∃ z, a ^^^ (a * 4 % 256) = z := ⟨_, rfl⟩
      obtain ⟨c, hc⟩ : ∃ z, b ^^^ (b * 16 % 256) = z := ⟨_, rfl⟩
      obtain ⟨q1, hq1⟩ : ∃ z, c ^^^ (c / 128 * 9) = z := ⟨_, rfl⟩
      have hp1l : p1 < 256 := by rw [← hp1]; exact xor8 hpl (xt_lt hpl)
      have hal : a < 256 := by rw [← ha]; exact xor8 hql (Nat.mod_lt _ (by decide))
      have hbl : b < 256 := by rw [← hb]; exact xor8 hal (Nat.mod_lt _ (by decide))
      have hcl : c < 256 := by rw [← hc]; exact xor8 hbl (Nat.mod_lt _ (by decide))
      have hq1l : q1 < 256 := by rw [← hq1]; exact xor8 hcl (by omega)
      obtain ⟨xp, hxp⟩ : ∃ z, xt p = z := ⟨_, rfl⟩
      have hxl : xp < 256 := by rw [← hxp]; exact xt_lt hpl
      have e0 : bits .xor .u8 (p : Int) (xp : Int) = (p1 : Int) := by rw [u8_xor_nat _ _ hpl hxl, ← hxp, hp1]
      have e1 : bits .xor .u8 (q : Int) ((q : Int) * 2 % 256) = (a : Int) := by
        rw [show (q : Int) * 2 % 256 = ((q * 2 % 256 : Nat) : Int) by simp, u8_xor_nat _ _ hql (Nat.mod_lt _ (by decide)), ha]
      have e2 : bits .xor .u8 (a : Int) ((a : Int) * 4 % 256) = (b : Int) := by
        rw [show (a : Int) * 4 % 256 = ((a * 4 % 256 : Nat) : Int) by simp, u8_xor_nat _ _ hal (Nat.mod_lt _ (by decide)), hb]
      have e3 : bits .xor .u8 (b : Int) ((b : Int) * 16 % 256) = (c : Int) := by
        rw [show (b : Int) * 16 % 256 = ((b * 16 % 256 : Nat) : Int) by simp, u8_xor_nat _ _ hbl (Nat.mod_lt _ (by decide)), hc]
      have e4 : bits .xor .u8 (c : Int) ((c : Int) / 128 * 9) = (q1 : Int) := by
        rw [show (c : Int) / 128 * 9 = ((c / 128 * 9 : Nat) : Int) by simp, u8_xor_nat _ _ hcl (by omega), hq1]
      have HP := Lib.hid (show pP (i + 1) = p1 by rw [← hp1, ← hp]; rfl)
      have HQ := Lib.hid (show qQ (i + 1) = q1 by rw [← hq1, ← hc, ← hb, ← ha, ← hq]; rfl)
      have HTW := Lib.hid (twice_any p p wr rfl hpl)
      rw [hxp] at HTW
      obtain ⟨l, hl⟩ : ∃ l, bxP i = l := ⟨_, rfl⟩
      rw [hl] at HK
      rw [hp, hq]
      have HL := Lib.hid (show l.length = 256 by rw [← hl]; exact bxP_length i)
      have HLE := Lib.hid hl
      have HN := Lib.hid (show (bxP (i + 1)) = l.set p1 (affP q1 5) by rw [bxP, HP.out, HQ.out, hl])
      clear hp hq hp1 ha hb hc hq1 hxp hl
      obtain ⟨old, hold⟩ : ∃ x, l[p1]? = some x := ⟨_, List.getElem?_eq_getElem (by rw [HL.out]; exact hp1l)⟩
      have hcc : wr.cell? ⟨g2, p1, none⟩ = some (.int .u8 (old : Int)) := by rw [HK.out.kc.cell]; exact b8_at hold
      have hcf : wr.frozen? ⟨g2, p1, none⟩ = false := HK.out.kc.frozen _
      have hcs : g2 < wr.heap.size := HK.out.kc.lt
      have HK1 := Lib.hid (HK.out.set2 p1 99)
      clear hold HK
      go_wp2_with fail
      (with_reducible refine HTW.out.mono ?_); rintro e w2 ⟨rfl, rfl⟩
      go_wp2_with fail
      change Code.wp _ _ _ _ (wr.setCell ⟨g2, p1, none⟩ (.int .u8 ((99 : Nat) : Int)))
      generalize wr.setCell ⟨g2, p1, none⟩ (.int .u8 ((99 : Nat) : Int)) = w3 at *
      clear hcc hcf hcs HTW
      obtain ⟨gO, rfl⟩ : ∃ x, x = gk := ⟨_, rfl⟩
      go_loopg [34] 5 (fun g s34 wr2 => ∃ t : Nat, t + g = 5 ∧ s34 = .int .i64 (t : Int) ∧ Hid (Bx w g1 g2 g3 (l.set p1 (affP q1 t)) z256 wr2))
      case atStart => exact ⟨0, by omega, rfl, HK1⟩
      case round =>
        obtain ⟨t, hg, rfl, HT⟩ := hrel
        have HGT := Lib.hid hg
        have ht : t ≤ 5 := by omega
        clear hg HK1
        by_cases htl : t < 5
        · obtain ⟨y, hy⟩ : ∃ y, affP q1 t = y := ⟨_, rfl⟩
          obtain ⟨r, hr⟩ : ∃ r, rot8 q1 t = r := ⟨_, rfl⟩
          obtain ⟨y1, hy1⟩ : ∃ z, affP q1 (t + 1) = z := ⟨_, rfl⟩
          have hyl : y < 256 := by rw [← hy]; exact affP_lt hq1l t ht
          have hrl : r < 256 := by
            rw [← hr]
            exact Nat.or_lt_two_pow (n := 8) (Nat.mod_lt _ (by decide)) (Nat.lt_of_le_of_lt (Nat.div_le_self _ _) hq1l)
          have ex : bits .xor .u8 (y : Int) (r : Int) = (y1 : Int) := by rw [u8_xor_nat _ _ hyl hrl, ← hy1, ← hy, ← hr]; rfl
          have HRT := Lib.hid (fun W => rot8_any (q1 : Int) (t : Int) q1 t W rfl rfl hq1l htl)
          rw [hr] at HRT
          rw [hy] at HT
          have hcn : wr.drew.cell? ⟨g2, p1, none⟩ = some (.int .u8 (y : Int)) := by
            rw [HT.out.kc.drew.cell]
            refine b8_at ?_
            rw [List.getElem?_set_self (by rw [HL.out]; exact hp1l)]
          have hcr := fun d os => Go.cell_regrown hcn d os
          have HNX := Lib.hid (show (l.set p1 y).set p1 y1 = l.set p1 (affP q1 (t + 1)) by rw [List.set_set, hy1])
          clear hy hr hy1
          go_wp2_with fail
          refine Rel.wp_region_rel 8 [(42, .const (.int .u8 (r : Int)))] (by kernel_rfl) (by kernel_rfl) ?_
          simp only [List.take_succ_cons, List.take_zero, List.drop_succ_cons, List.drop_zero, Act.put, List.setIfInBounds_toArray, List.set_cons_zero, List.set_cons_succ]
          repeat (refine Rel.tree_quiet rfl rfl rfl (fun K hK => ?_); go_big_quiet_op; refine hK _ ?_; clear hK K)
          refine Rel.tree_const rfl (.int .u8 (r : Int)) rfl (fun W hW _ => ?_) ?_
          · unfold Rel.relAt; go_simp; show Calls _ _ _ _ _
            exact quiet_const (HRT.out W)
          simp only [Act.put, List.setIfInBounds_toArray, List.set_cons_zero, List.set_cons_succ]
          repeat (refine Rel.tree_quiet rfl rfl rfl (fun K hK => ?_); go_big_quiet_op; refine hK _ ?_; clear hK K)
          intro W hW _
          have HX := Lib.hid (HT.out.old hW.undrew)
          have HX2 := Lib.hid (HX.out.set2 p1 y1)
          rw [HNX.out] at HX2
          have hcc : W.cell? ⟨g2, p1, none⟩ = some (.int .u8 (y : Int)) := by
            rw [HX.out.kc.cell]
            refine b8_at ?_
            rw [List.getElem?_set_self (by rw [HL.out]; exact hp1l)]
          have hcf : W.frozen? ⟨g2, p1, none⟩ = false := HX.out.kc.frozen _
          have hcs : g2 < W.heap.size := HX.out.kc.lt
          clear hW hcn hcr HRT HT HX HNX
          go_wp2_with fail
          go_light
          go_roundg (5 - (t + 1))
          case measure => have := HGT.out; omega
          case rel => exact ⟨t + 1, by omega, by go_num, HX2⟩
        · have htt : t = 5 := by omega
          rw [htt] at HT
          rw [← HN.out] at HT
          go_wp2_with fail
          go_light
          go_roundg (255 - (i + 1))
          case measure => have := HG.out; omega
          case rel => exact ⟨i + 1, by omega, by go_num, by rw [HP.out], by rw [HQ.out], HT⟩
    · have hil : i = 255 := by omega
      subst hil
      have HKC := Lib.hid HK.out.kc
      obtain ⟨old, hold⟩ : ∃ x, (bxP 255)[0]? = some x := ⟨_, List.getElem?_eq_getElem (by rw [bxP_length]; decide)⟩
      have hcc : wr.cell? ⟨g2, 0, none⟩ = some (.int .u8 (old : Int)) := by rw [HK.out.kc.cell]; exact b8_at hold
      have hcf : wr.frozen? ⟨g2, 0, none⟩ = false := HK.out.kc.frozen _
      have hcs : g2 < wr.heap.size := HK.out.kc.lt
      have HK1 := Lib.hid (HK.out.set2 0 99)
      rw [bxP_eq] at HK1
      clear hold HK HKC HG hi hlt
      go_upto_region 18 with fail
      change Code.wp _ _ _ _ (wr.setCell ⟨g2, 0, none⟩ (.int .u8 ((99 : Nat) : Int)))
      generalize wr.setCell ⟨g2, 0, none⟩ (.int .u8 ((99 : Nat) : Int)) = w3 at *
      have HSZ := Lib.hid (fun l (h : l.length = 256) => show (Tryd.prog.info? 92).map (·.size) = some (b8 l).size by rw [b8_size, h]; exact box_info)
      clear hcc hcf hcs
      go_wp2_with (refine wpList_load_row rfl 92 _ rfl g2 rfl 92 (b8 sbox) (0, 0) _ HK1.out.kc Tryd.underlying92 rfl (HSZ.out _ sbox_len) ?_)
      go_loopg [49] 256 (fun g s49 wr2 => ∃ j : Nat, j + g = 256 ∧ s49 = .int .i64 (j : Int) ∧ Hid (Bx w g1 g2 g3 sbox (bkP j) wr2))
      case atStart => exact ⟨0, by omega, rfl, HK1⟩
      case round =>
        clear HK1
        obtain ⟨j, hg, rfl, HT⟩ := hrel
        have HGT := Lib.hid hg
        have ht : j ≤ 256 := by omega
        clear hg
        by_cases hjl : j < 256
        · obtain ⟨y, hy⟩ : ∃ y, sb j = y := ⟨_, rfl⟩
          have hyl : y < 256 := by rw [← hy]; exact sb_lt j
          have hix := run_index_arr (P := Tryd.prog) 92 5 256 Tryd.underlying92 (fun _ => by kernel_rfl) (fun _ => by kernel_rfl) (b8 sbox) .i64 (j : Int) j rfl hjl (.int .u8 (y : Int)) (by rw [← hy]; exact b8_at (sb_at hjl))
          have hw8 : IntKind.u8.wrap (j : Int) = j := IntWalk.u8_in _ (by omega)
          obtain ⟨old, hold⟩ : ∃ x, (bkP j)[y]? = some x := ⟨_, List.getElem?_eq_getElem (by rw [bkP_length]; exact hyl)⟩
          have hcc : wr.cell? ⟨g3, y, none⟩ = some (.int .u8 (old : Int)) := by rw [HT.out.kd.cell]; exact b8_at hold
          have hcf : wr.frozen? ⟨g3, y, none⟩ = false := HT.out.kd.frozen _
          have hcs : g3 < wr.heap.size := HT.out.kd.lt
          have HX := Lib.hid (show Bx w g1 g2 g3 sbox (bkP (j + 1)) (wr.setCell ⟨g3, y, none⟩ (.int .u8 (j : Int))) by rw [bkP, hy]; exact HT.out.set3 y j)
          clear hold hy HT
          go_wp2_with fail
          go_light
          go_roundg (256 - (j + 1))
          case measure => have := HGT.out; omega
          case rel => exact ⟨j + 1, by omega, by go_num, HX⟩
        · have hj : j = 256 := by omega
          rw [hj, bkP_eq] at HT
          subst hj
          go_wp2_with fail
          have ho1 := HT.out.o1
          have ho2 := HT.out.o2
          have ho3 := HT.out.o3
          refine wp_two_rows (by kernel_rfl) (by kernel_rfl) rfl rfl rfl rfl rfl rfl 92 92 _ _ _ _ 58 59 (by decide) rfl rfl rfl rfl rfl rfl g2 g3 w.heap.size g1 (b8 sbox) (b8 ibox) 92 92 92 92 (b8 z256) (b8 z256) _ _ rfl rfl rfl rfl rfl rfl rfl rfl rfl rfl
            HT.out.kc HT.out.kd HT.out.ka HT.out.kb (by omega) (by omega) Tryd.underlying92 rfl (HSZ.out _ sbox_len) (by rw [b8_size, b8_size, sbox_len]; rfl) (b8_one _) Tryd.underlying92 rfl (HSZ.out _ ibox_len) (by rw [b8_size, b8_size, ibox_len]; rfl) (b8_one _) ?_
          intro w8 HKA KB8 F8
          have hB := HT.out.bel.trans (Frm.below F8 HT.out.bel.size (fun x hx => by simp at hx; omega))
          have HKA := Lib.hid HKA
          have KB8 := Lib.hid KB8
          have hB := Lib.hid hB
          clear F8 HT
          go_wp2_with fail
          go_light
          exact bodyPost_ret (v := .tuple #[.agg (b8 sbox), .agg (b8 ibox)]) (results_two Tryd.results109 _ _ w.heap.size g1 92 92 (b8 sbox) (b8 ibox) _ _ rfl rfl HKA.out KB8.out Tryd.underlying92 rfl (HSZ.out _ sbox_len) Tryd.underlying92 rfl (HSZ.out _ ibox_len)) rfl ⟨rfl, hB.out⟩
end Aes
end Go.Proofs.YtpakdcgcgekcfaaDoor

/-
  AES in plain Lean: forth and back is what it was, and back and forth.
-/
set_option linter.unusedSimpArgs false
set_option linter.unusedVariables false
namespace Go.Proofs.YtpakdcgcgekcfaaDoor
open Go.RowKit

namespace Aes
/-- One byte of a column by a row of factors. -/
def col (m : Nat → Nat) (x0 x1 x2 x3 : Nat) : Nat := gm x0 (m 0) ^^^ gm x1 (m 1) ^^^ gm x2 (m 2) ^^^ gm x3 (m 3)
def f4 (a b c d : Nat) : Nat → Nat
  | 0 => a
  | 1 => b
  | 2 => c
  | _ => d
def mF := f4 2 3 1 1
def mB := f4 14 11 13 9
/-- What a byte adds, d places on. -/
def cf (m n : Nat → Nat) (x d : Nat) : Nat := gm (gm x (m (d % 4))) (n 0) ^^^ gm (gm x (m ((d + 3) % 4))) (n 1) ^^^ gm (gm x (m ((d + 2) % 4))) (n 2) ^^^ gm (gm x (m ((d + 1) % 4))) (n 3)
theorem cf_FB : ((List.range 256).all fun x => (cf mF mB x 0 == x) && (cf mF mB x 1 == 0) && (cf mF mB x 2 == 0) && (cf mF mB x 3 == 0)) = true := by decide +kernel
theorem cf_BF : ((List.range 256).all fun x => (cf mB mF x 0 == x) && (cf mB mF x 1 == 0) && (cf mB mF x 2 == 0) && (cf mB mF x 3 == 0)) = true := by decide +kernel
theorem col_lt {m : Nat → Nat} (hm : ∀ i, m i < 256) {x0 x1 x2 x3 : Nat} (h0 : x0 < 256) (h1 : x1 < 256) (h2 : x2 < 256) (h3 : x3 < 256) : col m x0 x1 x2 x3 < 256 :=
  xor8 (xor8 (xor8 (gm_lt h0 (hm 0)) (gm_lt h1 (hm 1))) (gm_lt h2 (hm 2))) (gm_lt h3 (hm 3))
theorem f4_lt {a b c d : Nat} (ha : a < 256) (hb : b < 256) (hc : c < 256) (hd : d < 256) : ∀ i, f4 a b c d i < 256
  | 0 => ha
  | 1 => hb
  | 2 => hc
  | _ + 3 => hd
theorem mF_lt : ∀ i, mF i < 256 := f4_lt (by decide) (by decide) (by decide) (by decide)
theorem mB_lt : ∀ i, mB i < 256 := f4_lt (by decide) (by decide) (by decide) (by decide)
theorem gm_xor4 (b : Nat) {x0 x1 x2 x3 : Nat} (h0 : x0 < 256) (h1 : x1 < 256) (h2 : x2 < 256) (h3 : x3 < 256) : gm (x0 ^^^ x1 ^^^ x2 ^^^ x3) b = gm x0 b ^^^ gm x1 b ^^^ gm x2 b ^^^ gm x3 b := by
  rw [gm_xor b (xor8 (xor8 h0 h1) h2) h3, gm_xor b (xor8 h0 h1) h2, gm_xor b h0 h1]
theorem xor_group (a0 a1 a2 a3 b0 b1 b2 b3 c0 c1 c2 c3 d0 d1 d2 d3 : Nat) :
    (a0 ^^^ b0 ^^^ c0 ^^^ d0) ^^^ (a1 ^^^ b1 ^^^ c1 ^^^ d1) ^^^ (a2 ^^^ b2 ^^^ c2 ^^^ d2) ^^^ (a3 ^^^ b3 ^^^ c3 ^^^ d3) = (a0 ^^^ a1 ^^^ a2 ^^^ a3) ^^^ (b0 ^^^ b1 ^^^ b2 ^^^ b3) ^^^ (c0 ^^^ c1 ^^^ c2 ^^^ c3) ^^^ (d0 ^^^ d1 ^^^ d2 ^^^ d3) := by ac_rfl
theorem col_col {m n : Nat → Nat} (hm : ∀ i, m i < 256) (h : ((List.range 256).all fun x => (cf m n x 0 == x) && (cf m n x 1 == 0) && (cf m n x 2 == 0) && (cf m n x 3 == 0)) = true)
    {x0 x1 x2 x3 : Nat} (h0 : x0 < 256) (h1 : x1 < 256) (h2 : x2 < 256) (h3 : x3 < 256) :
    col n (col m x0 x1 x2 x3) (col m x1 x2 x3 x0) (col m x2 x3 x0 x1) (col m x3 x0 x1 x2) = x0 := by
  have e : ∀ {x}, x < 256 → cf m n x 0 = x ∧ cf m n x 1 = 0 ∧ cf m n x 2 = 0 ∧ cf m n x 3 = 0 := fun hx => by
    have := all256 h hx
    simp only [Bool.and_eq_true, beq_iff_eq] at this
    exact ⟨this.1.1.1, this.1.1.2, this.1.2, this.2⟩
  have g : ∀ {x} i, x < 256 → gm x (m i) < 256 := fun i hx => gm_lt hx (hm i)
  have k0 := (e h0).1
  have k1 := (e h1).2.1
  have k2 := (e h2).2.2.1
  have k3 := (e h3).2.2.2
  unfold cf at k0 k1 k2 k3
  simp only [Nat.reduceMod, Nat.reduceAdd] at k0 k1 k2 k3
  unfold col
  rw [gm_xor4 (n 0) (g 0 h0) (g 1 h1) (g 2 h2) (g 3 h3), gm_xor4 (n 1) (g 0 h1) (g 1 h2) (g 2 h3) (g 3 h0), gm_xor4 (n 2) (g 0 h2) (g 1 h3) (g 2 h0) (g 3 h1), gm_xor4 (n 3) (g 0 h3) (g 1 h0) (g 2 h1) (g 3 h2)]
  calc _ = (gm (gm x0 (m 0)) (n 0) ^^^ gm (gm x0 (m 3)) (n 1) ^^^ gm (gm x0 (m 2)) (n 2) ^^^ gm (gm x0 (m 1)) (n 3)) ^^^ (gm (gm x1 (m 1)) (n 0) ^^^ gm (gm x1 (m 0)) (n 1) ^^^ gm (gm x1 (m 3)) (n 2) ^^^ gm (gm x1 (m 2)) (n 3)) ^^^ (gm (gm x2 (m 2)) (n 0) ^^^ gm (gm x2 (m 1)) (n 1) ^^^ gm (gm x2 (m 0)) (n 2) ^^^ gm (gm x2 (m 3)) (n 3)) ^^^ (gm (gm x3 (m 3)) (n 0) ^^^ gm (gm x3 (m 2)) (n 1) ^^^ gm (gm x3 (m 1)) (n 2) ^^^ gm (gm x3 (m 0)) (n 3)) := by ac_rfl
    _ = x0 := by rw [k0, k1, k2, k3]; simp
theorem sixteen {l : List Nat} (h : l.length = 16) : ∃ a b c d e f g i j k m n o p q r, l = [a, b, c, d, e, f, g, i, j, k, m, n, o, p, q, r] := by
  match l, h with
  | [a, b, c, d, e, f, g, i, j, k, m, n, o, p, q, r], _ => exact ⟨a, b, c, d, e, f, g, i, j, k, m, n, o, p, q, r, rfl⟩
theorem zx (x : Nat) : 0 ^^^ x = x := Nat.zero_xor x
def mixC (m : Nat → Nat) : List Nat → List Nat
  | [a, b, c, d, e, f, g, i, j, k, l, n, o, p, q, r] => [col m a b c d, col m b c d a, col m c d a b, col m d a b c, col m e f g i, col m f g i e, col m g i e f, col m i e f g, col m j k l n, col m k l n j, col m l n j k, col m n j k l, col m o p q r, col m p q r o, col m q r o p, col m r o p q]
  | _ => []
theorem mix_F {l : List Nat} (h : l.length = 16) : mix [2, 3, 1, 1] l = mixC mF l := by
  obtain ⟨a, b, c, d, e, f, g, i, j, k, m, n, o, p, q, r, rfl⟩ := sixteen h
  simp only [mix, List.range, List.range.loop, List.map, mixA, zx]
  rfl
theorem mix_B {l : List Nat} (h : l.length = 16) : mix [14, 11, 13, 9] l = mixC mB l := by
  obtain ⟨a, b, c, d, e, f, g, i, j, k, m, n, o, p, q, r, rfl⟩ := sixteen h
  simp only [mix, List.range, List.range.loop, List.map, mixA, zx]
  rfl
theorem mixC_back {m n : Nat → Nat} (hm : ∀ i, m i < 256) (hc : ((List.range 256).all fun x => (cf m n x 0 == x) && (cf m n x 1 == 0) && (cf m n x 2 == 0) && (cf m n x 3 == 0)) = true)
    {l : List Nat} (h : l.length = 16) (hb : ∀ x ∈ l, x < 256) : mixC n (mixC m l) = l := by
  obtain ⟨a, b, c, d, e, f, g, i, j, k, t, u, o, p, q, r, rfl⟩ := sixteen h
  simp only [List.mem_cons, List.not_mem_nil, or_false, forall_eq_or_imp, forall_eq] at hb
  obtain ⟨ha, hb, hcc, hd, he, hf, hg, hi, hj, hk, ht, hu, ho, hp, hq, hr⟩ := hb
  simp only [mixC]
  rw [col_col hm hc ha hb hcc hd, col_col hm hc hb hcc hd ha, col_col hm hc hcc hd ha hb, col_col hm hc hd ha hb hcc,
    col_col hm hc he hf hg hi, col_col hm hc hf hg hi he, col_col hm hc hg hi he hf, col_col hm hc hi he hf hg,
    col_col hm hc hj hk ht hu, col_col hm hc hk ht hu hj, col_col hm hc ht hu hj hk, col_col hm hc hu hj hk ht,
    col_col hm hc ho hp hq hr, col_col hm hc hp hq hr ho, col_col hm hc hq hr ho hp, col_col hm hc hr ho hp hq]
theorem mixC_length (m : Nat → Nat) {l : List Nat} (h : l.length = 16) : (mixC m l).length = 16 := by
  obtain ⟨a, b, c, d, e, f, g, i, j, k, t, u, o, p, q, r, rfl⟩ := sixteen h
  rfl
theorem mixC_byte {m : Nat → Nat} (hm : ∀ i, m i < 256) {l : List Nat} (h : l.length = 16) (hb : ∀ x ∈ l, x < 256) : ∀ x ∈ mixC m l, x < 256 := by
  obtain ⟨a, b, c, d, e, f, g, i, j, k, t, u, o, p, q, r, rfl⟩ := sixteen h
  simp only [List.mem_cons, List.not_mem_nil, or_false, forall_eq_or_imp, forall_eq] at hb
  obtain ⟨ha, hb, hcc, hd, he, hf, hg, hi, hj, hk, ht, hu, ho, hp, hq, hr⟩ := hb
  intro x hx
  simp only [mixC, List.mem_cons, List.not_mem_nil, or_false] at hx
  rcases hx with rfl | rfl | rfl | rfl | rfl | rfl | rfl | rfl | rfl | rfl | rfl | rfl | rfl | rfl | rfl | rfl <;> exact col_lt hm (by assumption) (by assumption) (by assumption) (by assumption)
theorem shift_FB {l : List Nat} (h : l.length = 16) (hb : ∀ x ∈ l, x < 256) : shiftB (shiftF l) = l := by
  obtain ⟨a, b, c, d, e, f, g, i, j, k, t, u, o, p, q, r, rfl⟩ := sixteen h
  simp only [List.mem_cons, List.not_mem_nil, or_false, forall_eq_or_imp, forall_eq] at hb
  obtain ⟨ha, hb, hcc, hd, he, hf, hg, hi, hj, hk, ht, hu, ho, hp, hq, hr⟩ := hb
  show [ib (sb a), ib (sb b), ib (sb c), ib (sb d), ib (sb e), ib (sb f), ib (sb g), ib (sb i), ib (sb j), ib (sb k), ib (sb t), ib (sb u), ib (sb o), ib (sb p), ib (sb q), ib (sb r)] = _
  rw [ib_sb ha, ib_sb hb, ib_sb hcc, ib_sb hd, ib_sb he, ib_sb hf, ib_sb hg, ib_sb hi, ib_sb hj, ib_sb hk, ib_sb ht, ib_sb hu, ib_sb ho, ib_sb hp, ib_sb hq, ib_sb hr]
theorem sb_ib {b : Nat} (hb : b < 256) : sb (ib b) = b := by
  have := all256 back_all hb
  simp only [Bool.and_eq_true, beq_iff_eq] at this
  exact this.2
theorem shift_BF {l : List Nat} (h : l.length = 16) (hb : ∀ x ∈ l, x < 256) : shiftF (shiftB l) = l := by
  obtain ⟨a, b, c, d, e, f, g, i, j, k, t, u, o, p, q, r, rfl⟩ := sixteen h
  simp only [List.mem_cons, List.not_mem_nil, or_false, forall_eq_or_imp, forall_eq] at hb
  obtain ⟨ha, hb, hcc, hd, he, hf, hg, hi, hj, hk, ht, hu, ho, hp, hq, hr⟩ := hb
  show [sb (ib a), sb (ib b), sb (ib c), sb (ib d), sb (ib e), sb (ib f), sb (ib g), sb (ib i), sb (ib j), sb (ib k), sb (ib t), sb (ib u), sb (ib o), sb (ib p), sb (ib q), sb (ib r)] = _
  rw [sb_ib ha, sb_ib hb, sb_ib hcc, sb_ib hd, sb_ib he, sb_ib hf, sb_ib hg, sb_ib hi, sb_ib hj, sb_ib hk, sb_ib ht, sb_ib hu, sb_ib ho, sb_ib hp, sb_ib hq, sb_ib hr]
theorem shiftF_length (l : List Nat) : (shiftF l).length = 16 := by simp [shiftF]
theorem shiftB_length (l : List Nat) : (shiftB l).length = 16 := by simp [shiftB]
theorem shiftF_byte (l : List Nat) : ∀ x ∈ shiftF l, x < 256 := fun x hx => by
  obtain ⟨_, _, rfl⟩ := List.mem_map.1 hx
  exact sb_lt _
theorem shiftB_byte (l : List Nat) : ∀ x ∈ shiftB l, x < 256 := fun x hx => by
  obtain ⟨_, _, rfl⟩ := List.mem_map.1 hx
  exact ib_lt _
theorem xorL_length {a b : List Nat} {n : Nat} (ha : a.length = n) (hb : b.length = n) : (xorL a b).length = n := by simp [xorL, ha, hb]
theorem xorL_byte {a b : List Nat} (ha : ∀ x ∈ a, x < 256) (hb : ∀ x ∈ b, x < 256) : ∀ x ∈ xorL a b, x < 256 := fun x hx => by
  obtain ⟨i, hi⟩ := List.mem_iff_getElem?.1 hx
  simp only [xorL, List.getElem?_zipWith] at hi
  split at hi
  · rename_i y z hy hz
    cases hi
    exact xor8 (ha _ (List.mem_of_getElem? hy)) (hb _ (List.mem_of_getElem? hz))
  · cases hi
theorem xorL_back : ∀ (a b : List Nat), a.length = b.length → xorL (xorL a b) b = a
  | [], [], _ => rfl
  | x :: a, y :: b, h => by
    have := xorL_back a b (by simpa using h)
    simp only [xorL, List.zipWith_cons_cons] at this ⊢
    rw [this, Nat.xor_assoc, Nat.xor_self, Nat.xor_zero]
/-- What a key's rounds are: sixteen bytes each. -/
def KeyOk (key : List Nat) : Prop := 1 ≤ rounds key ∧ ∀ r, r ≤ rounds key → (kRound key r).length = 16 ∧ ∀ x ∈ kRound key r, x < 256
section
variable {key : List Nat}
theorem encGo_ok (hk : KeyOk key) {b : List Nat} (h : b.length = 16) (hb : ∀ x ∈ b, x < 256) : ∀ r, r ≤ rounds key → (encGo key b r).length = 16 ∧ ∀ x ∈ encGo key b r, x < 256
  | 0, _ => by
    obtain ⟨h1, h2⟩ := hk.2 0 (Nat.zero_le _)
    exact ⟨xorL_length h h1, xorL_byte hb h2⟩
  | r + 1, hr => by
    obtain ⟨h1, h2⟩ := hk.2 (r + 1) hr
    rw [encGo, mix_F (shiftF_length _)]
    exact ⟨xorL_length (mixC_length _ (shiftF_length _)) h1, xorL_byte (mixC_byte mF_lt (shiftF_length _) (shiftF_byte _)) h2⟩
theorem encB_ok (hk : KeyOk key) (b : List Nat) : (encB key b).length = 16 ∧ ∀ x ∈ encB key b, x < 256 := by
  obtain ⟨h1, h2⟩ := hk.2 (rounds key) (Nat.le_refl _)
  exact ⟨xorL_length (shiftF_length _) h1, xorL_byte (shiftF_byte _) h2⟩
theorem decGo_ok (b : List Nat) : ∀ r, (decGo key b r).length = 16 ∧ ∀ x ∈ decGo key b r, x < 256
  | 0 => ⟨shiftB_length _, shiftB_byte _⟩
  | r + 1 => ⟨shiftB_length _, shiftB_byte _⟩
theorem decB_ok (hk : KeyOk key) (b : List Nat) : (decB key b).length = 16 ∧ ∀ x ∈ decB key b, x < 256 := by
  obtain ⟨h1, h2⟩ := hk.2 0 (Nat.zero_le _)
  obtain ⟨h3, h4⟩ := decGo_ok (key := key) b (rounds key - 1)
  exact ⟨xorL_length h3 h1, xorL_byte h4 h2⟩
theorem dec_enc_go (hk : KeyOk key) {b : List Nat} (h : b.length = 16) (hb : ∀ x ∈ b, x < 256) : ∀ r, r ≤ rounds key - 1 → decGo key (encB key b) r = encGo key b (rounds key - 1 - r)
  | 0, _ => by
    obtain ⟨h1, h2⟩ := hk.2 (rounds key) (Nat.le_refl _)
    obtain ⟨h3, h4⟩ := encGo_ok hk h hb (rounds key - 1) (by omega)
    rw [decGo, encB, xorL_back _ _ (by rw [shiftF_length, h1]), shift_FB h3 h4]
    rfl
  | r + 1, hr => by
    obtain ⟨s, hs⟩ : ∃ s, rounds key - 1 - r = s + 1 := ⟨rounds key - 1 - (r + 1), by omega⟩
    have hs' : rounds key - 1 - (r + 1) = s := by omega
    obtain ⟨h1, h2⟩ := hk.2 (s + 1) (by omega)
    obtain ⟨h3, h4⟩ := encGo_ok hk h hb s (by omega)
    rw [decGo, dec_enc_go hk h hb r (by omega), hs, hs', encGo, mix_F (shiftF_length _), xorL_back _ _ (by rw [mixC_length _ (shiftF_length _), h1]), mix_B (mixC_length _ (shiftF_length _)),
      mixC_back mF_lt cf_FB (shiftF_length _) (shiftF_byte _), shift_FB h3 h4]
theorem dec_enc (hk : KeyOk key) {b : List Nat} (h : b.length = 16) (hb : ∀ x ∈ b, x < 256) : decB key (encB key b) = b := by
  obtain ⟨h1, h2⟩ := hk.2 0 (Nat.zero_le _)
  rw [decB, dec_enc_go hk h hb _ (Nat.le_refl _), Nat.sub_self, encGo, xorL_back _ _ (by rw [h, h1])]
theorem enc_dec_go (hk : KeyOk key) (c : List Nat) : ∀ r, r ≤ rounds key - 1 → encGo key (decB key c) r = decGo key c (rounds key - 1 - r)
  | 0, _ => by
    obtain ⟨h1, h2⟩ := hk.2 0 (Nat.zero_le _)
    rw [encGo, decB, xorL_back _ _ (by rw [(decGo_ok c _).1, h1])]
    rfl
  | r + 1, hr => by
    obtain ⟨s, hs⟩ : ∃ s, rounds key - 1 - r = s + 1 := ⟨rounds key - 1 - (r + 1), by omega⟩
    have hs' : rounds key - 1 - (r + 1) = s := by omega
    have hs2 : rounds key - 1 - s = r + 1 := by omega
    obtain ⟨h1, h2⟩ := hk.2 (r + 1) (by omega)
    obtain ⟨h3, h4⟩ := decGo_ok (key := key) c s
    have h5 : (xorL (decGo key c s) (kRound key (r + 1))).length = 16 := xorL_length h3 h1
    have h6 := xorL_byte h4 h2
    rw [encGo, enc_dec_go hk c r (by omega), hs, hs', decGo, hs2, mix_B h5, shift_BF (mixC_length _ h5) (mixC_byte mB_lt h5 h6), mix_F (mixC_length _ h5),
      mixC_back mB_lt cf_BF h5 h6, xorL_back _ _ (by rw [h3, h1])]
theorem enc_dec (hk : KeyOk key) {c : List Nat} (h : c.length = 16) (hb : ∀ x ∈ c, x < 256) : encB key (decB key c) = c := by
  obtain ⟨h1, h2⟩ := hk.2 (rounds key) (Nat.le_refl _)
  have h5 : (xorL c (kRound key (rounds key))).length = 16 := xorL_length h h1
  rw [encB, enc_dec_go hk c _ (Nat.le_refl _), Nat.sub_self, decGo, shift_BF h5 (xorL_byte hb h2), xorL_back _ _ (by rw [h, h1])]
end
end Aes
end Go.Proofs.YtpakdcgcgekcfaaDoor

/-
  Package aes: a key's words; sub.
-/
set_option linter.unusedSimpArgs false
set_option linter.unusedVariables false
namespace Go.Proofs.YtpakdcgcgekcfaaDoor
open Go.RowKit

namespace Aes
open Otp R1
/-- A key's cells. -/
def kC (v : Value) : List Value := v :: ((sbox.map fun x => Value.int .u8 ((x : Nat) : Int)) ++ (ibox.map fun x => Value.int .u8 ((x : Nat) : Int)))
theorem kC_length (v : Value) : (kC v).length = 513 := by simp [kC, sbox_len, ibox_len]
theorem kC_box (v : Value) {x : Nat} (hx : x < 256) : (kC v)[1 + x]? = some (.int .u8 (sb x : Int)) := by
  rw [kC, Nat.add_comm, List.getElem?_cons_succ, List.getElem?_append_left (by rw [List.length_map, sbox_len]; exact hx), List.getElem?_map, sb_at hx]
  rfl
theorem kC_back (v : Value) {x : Nat} (hx : x < 256) : (kC v)[257 + x]? = some (.int .u8 (ib x : Int)) := by
  rw [kC, show 257 + x = 256 + x + 1 by omega, List.getElem?_cons_succ, List.getElem?_append_right (by rw [List.length_map, sbox_len]; omega), List.length_map, sbox_len, show 256 + x - 256 = x by omega, List.getElem?_map, ib_at hx]
  rfl
theorem key_info : (Tryd.prog.info? 94).map (·.size) = some 513 := by kernel_rfl
set_option maxHeartbeats 1000000 in
theorem sub_any (g : Nat) (v : Value) (a b c d : Nat) (w : World) (hK : Blk w g 94 (kC v).toArray) (ha : a < 256) (hb : b < 256) (hc : c < 256) (hd : d < 256) :
    Calls Tryd.prog 110 #[.pointer (some ⟨g, 0, none⟩), .int .u32 ((be4 a b c d : Nat) : Int)] w (fun e w' => e = .returned (.int .u32 ((be4 (sb a) (sb b) (sb c) (sb d) : Nat) : Int)) ∧ ∃ n, w' = w.drewN n) := by
  obtain ⟨W, hW⟩ : ∃ W, be4 a b c d = W := ⟨_, rfl⟩
  rw [hW]
  have hcell : ∀ x, x < 256 → w.cell? ⟨g, 1 + x, none⟩ = some (.int .u8 (sb x : Int)) := fun x hx => by
    rw [hK.cell]
    simpa using kC_box v hx
  have hgl := hK.lt
  have h0 : IntKind.u8.wrap ((W : Int) / 16777216) = (a : Int) := by rw [IntKind.wrap_u8, ← hW]; unfold be4; omega
  have h1 : IntKind.u8.wrap ((W : Int) / 65536) = (b : Int) := by rw [IntKind.wrap_u8, ← hW]; unfold be4; omega
  have h2 : IntKind.u8.wrap ((W : Int) / 256) = (c : Int) := by rw [IntKind.wrap_u8, ← hW]; unfold be4; omega
  have h3 : IntKind.u8.wrap (W : Int) = (d : Int) := by rw [IntKind.wrap_u8, ← hW]; unfold be4; omega
  have c0 := hcell a ha
  have c1 := hcell b hb
  have c2 := hcell c hc
  have c3 := hcell d hd
  have l0 := sb_lt a
  have l1 := sb_lt b
  have l2 := sb_lt c
  have l3 := sb_lt d
  generalize sb a = x0 at *
  generalize sb b = x1 at *
  generalize sb c = x2 at *
  generalize sb d = x3 at *
  have HO := Lib.hid (u32_be4 l0 l1 l2 l3)
  clear hcell hW hK
  go_enter Tryd.func110, Tryd.ntmps110
  go_wp2_with fail
  go_quiet (fail)
  go_wp2_with fail
  go_light
  go_ret
  exact ⟨by rw [← HO.out]; rfl, _, rfl⟩
end Aes
end Go.Proofs.YtpakdcgcgekcfaaDoor

/-
  Rel, its tail in whatever order: the head's walk hands the rest over as it stands; the rest is taken (what looks at no memory), or forced.
-/
set_option linter.unusedSimpArgs false
set_option linter.unusedVariables false
namespace Go.Proofs.YtpakdcgcgekcfaaDoor
open Go Go.RowKit

namespace Rel
section
variable {P : Program} {ops : Array Oper} {md : Region.Mode}
def lateB (md : Region.Mode) (ops : Array Oper) (n : Nat) : Bool := Region.sinkB md ops n && (List.range ops.size).all fun t => decide (t ≤ n) || (List.range n).all fun i => Region.waitsFor md ops t i
def lateOk (md : Region.Mode) (ops : Array Oper) (n : Nat) : Bool := Region.noSelect ops && headB md ops n && decide (n < ops.size) && lateB md ops n
theorem sink_waits {n : Nat} {listed : Array Bool} (hs : Region.sinkB md ops n = true) (inv : HeadInv md ops n listed) (hn : n < ops.size) :
    ∀ (d i : Nat), n - i = d → i < n → listed.getD i true = false → n ∉ Region.ready md ops listed := by
  intro d
  induction d using Nat.strongRecOn with
  | _ d ih =>
    intro i hd hi hun hr
    obtain ⟨_, ot, hot, hall⟩ := mem_ready.1 hr
    have h1 := List.all_eq_true.1 hs i (List.mem_range.2 hi)
    obtain ⟨j, hj, hj2⟩ := List.any_eq_true.1 h1
    simp only [Bool.and_eq_true, decide_eq_true_eq] at hj2
    obtain ⟨oj, hoj, e, he, hb, hon⟩ := Region.waitsFor_spec hj2.2
    have hjle : j ≤ n := by have := List.mem_range.1 hj; omega
    by_cases hjt : j = n
    · subst hjt
      have : oj = ot := Option.some.inj (hoj.symm.trans hot)
      subst this
      have h2 := hall e he hb
      rw [hon, getD_both hun] at h2
      cases h2
    · cases hl : listed.getD j false with
      | true =>
        have h2 := inv.closed j oj hoj hl e he hb
        rw [hon, getD_both hun] at h2
        cases h2
      | false =>
        have hjs : j < listed.size := by rw [inv.size]; omega
        exact ih (n - j) (by omega) j rfl (by omega) (getD_in hjs hl) hr
theorem late_waits {n : Nat} {listed : Array Bool} (hl : lateB md ops n = true) (inv : HeadInv md ops n listed) (hn : n < ops.size) (i : Nat) (hi : i < n) (hun : listed.getD i true = false) (t : Nat) (ht : n ≤ t) : t ∉ Region.ready md ops listed := by
  simp only [lateB, Bool.and_eq_true] at hl
  by_cases htn : t = n
  · subst htn
    exact sink_waits hl.1 inv hn _ i rfl hi hun
  · intro hr
    obtain ⟨_, ot, hot, hall⟩ := mem_ready.1 hr
    have htlt : t < ops.size := (Array.getElem?_eq_some_iff.1 hot).1
    have h1 := List.all_eq_true.1 hl.2 t (List.mem_range.2 htlt)
    simp only [Bool.or_eq_true, decide_eq_true_eq] at h1
    rcases h1 with h1 | h1
    · omega
    · obtain ⟨o', ho', e, he, hb, hon⟩ := Region.waitsFor_spec (List.all_eq_true.1 h1 i (List.mem_range.2 hi))
      have : o' = ot := Option.some.inj (ho'.symm.trans hot)
      subst this
      have h2 := hall e he hb
      rw [hon, getD_both hun] at h2
      cases h2
theorem wp_region_rel_late {id : Nat} {Q : Exit → Act → World → Prop} {a : Act} {w : World} {l : List Oper} (n : Nat) (ks : List (Tmp × Kind)) (hm : P.follows .mixedOrders = true) (hB : lateOk .any l.toArray n = true)
    (h : tree P l.toArray ks w.drew (fun a' W => wpAny P .any l.toArray Q (l.length - n) (canon n l.length) a' W) (l.take n) bare a) : (Code.region id l.toArray true).wp P Q a w := by
  simp only [lateOk, Bool.and_eq_true, decide_eq_true_eq] at hB
  obtain ⟨⟨⟨hsel, hhead⟩, hlt⟩, hlate⟩ := hB
  have hsz : l.toArray.size = l.length := by simp
  have hnl : n ≤ l.length := by omega
  have hT : ∀ s, HeadInv .any l.toArray n s → ∀ i, i < n → s.getD i true = false → ∀ t, t ∈ Region.ready .any l.toArray s → t < n := fun s inv i hi hun t ht => by
    rcases Nat.lt_or_ge t n with h4 | h4
    · exact h4
    · exact absurd ht (late_waits hlate inv hlt i hi hun t h4)
  have inv0 : Inv P l.toArray .any n ks w.drew a (Array.replicate l.toArray.size false) a w.drew (fun _ => undef) :=
    ⟨⟨by simp, fun j oj _ hl => (by rw [getD_replicate_false] at hl; cases hl), fun t _ ht => getD_in (by simpa using ht) (getD_replicate_false _ _)⟩, Grow.refl _, rfl, rfl, fun _ _ => rfl, fun j o d _ _ hl => (by rw [getD_replicate_false] at hl; cases hl), fun j o _ _ hl => (by rw [getD_replicate_false] at hl; cases hl)⟩
  have hc : ∀ m, cnt (Array.replicate l.toArray.size false) m = m := fun m => by
    induction m with
    | zero => rfl
    | succ m ih => rw [cnt, ih, getD_replicate_false]; rfl
  refine wp_region_any hm ?_
  have := tree_any (g := l.length - n) (R := Q) hsel hhead (by omega) hT (L := l.take n) (fun j hj => by simp [hj]) (by simp; omega) h (fun a' w' hq => by rw [hsz]; exact hq) n _ _ _ _ inv0 (hc n)
  rw [show n + (l.length - n) = l.toArray.size by omega] at this
  exact this
def seqI (md : Region.Mode) (ops : Array Oper) : List Nat → Array Bool → Bool
  | [], s => (Region.ready md ops s).isEmpty
  | i :: r, s => decide (Region.ready md ops s = [i]) && seqI md ops r (s.setIfInBounds i true)
theorem wpAny_of_idx {Q' : Exit → Act → World → Prop} : ∀ (L : List (Nat × Oper)) (listed : Array Bool) (a : Act) (w : World), (∀ p ∈ L, ops[p.1]? = some p.2) →
    seqI md ops (L.map (·.1)) listed = true → wpList P ops Q' (L.map (·.2)) a w → wpAny P md ops Q' L.length listed a w
  | [], _, _, _, _, hB, h => ⟨by simpa [seqI] using hB, h⟩
  | (k, o) :: l, listed, a, w, hl, hB, h => by
    have h0 : ops[k]? = some o := hl (k, o) (by simp)
    simp only [List.map_cons, seqI, Bool.and_eq_true, decide_eq_true_eq] at hB
    refine ⟨fun h1 => (by rw [hB.1] at h1; cases h1), fun i hi => ?_⟩
    rw [hB.1] at hi
    have hik : i = k := by simpa using hi
    subst hik
    have hw : wpOp P ops Q' i (wpList P ops Q' (l.map (·.2))) a w := by unfold wpOp; simp only [h0]; exact h
    exact wpOp_mono (fun a' w' h' => wpAny_of_idx l _ a' w' (fun p hp => hl p (by simp [hp])) hB.2 h') hw
/-- A tail of three: the middle one looks at no memory and is taken first. -/
theorem tail_mid {Q : Exit → Act → World → Prop} {a : Act} {w : World} {s : Array Bool} {i j k : Nat} {oi oj ok : Oper} (v : Value) (hi : ops[i]? = some oi) (hj : ops[j]? = some oj) (hk : ops[k]? = some ok) (hs : Region.noSelect ops = true)
    (hf : Region.free md ops s j = true) (hr : (Region.ready md ops s).contains j = true) (hq : seqI md ops [i, k] (s.setIfInBounds j true) = true) (hQ : ∀ c a w, Q (.panic c) (a.put oj.dst v) w → Q (.panic c) a w)
    (hw : Region.wanted oj (yielded ops a.tmps) = true) (hy : ∀ w, (execOp a.eval oj).run P w = .ok (.value v) w) (h : wpList P ops Q [oi, ok] (a.put oj.dst v) w) : wpAny P md ops Q 3 s a w :=
  wpAny_take hj hs hf hr hQ (.inl ⟨hw, hy⟩) (wpAny_of_idx [(i, oi), (k, ok)] _ _ _ (fun p hp => by simp at hp; rcases hp with rfl | rfl; exact hi; exact hk) hq h)
end
end Rel
end Go.Proofs.YtpakdcgcgekcfaaDoor

/-
  Package aes: New: a key's words.
-/
set_option linter.unusedSimpArgs false
set_option linter.unusedVariables false
namespace Go.Proofs.YtpakdcgcgekcfaaDoor
open Go.RowKit

namespace Aes
open Otp R1 Fuse
/-- Four bytes as a word. -/
def wd (l : List Nat) : Nat := be4 (at0 l 0) (at0 l 1) (at0 l 2) (at0 l 3)
def zK : List Value := .slice none 0 0 :: ((List.replicate 256 0).map fun x => Value.int .u8 ((x : Nat) : Int)) ++ ((List.replicate 256 0).map fun x => Value.int .u8 ((x : Nat) : Int))
theorem zK_eq : zK.toArray = Tryd.zeroCells94 := by kernel_rfl
theorem zK_length : zK.length = 513 := by kernel_rfl
theorem own32_next {w w' : World} {B : Nat} {v : Value} {l : List Nat} (h : Own32 w B v l) (hb : Below w.heap.size w w') : Own32 w' B v l := by
  refine ⟨h.1, ?_⟩
  rcases h.2 with h0 | ⟨g, cap, cur, hv, hg, hh, rest⟩
  · exact .inl h0
  · exact .inr ⟨g, cap, cur, hv, hg, Blk.next (w := w) (t := 43) (cs := cur) hh hb rfl, rest⟩
theorem own32_far {w : World} {B : Nat} {v : Value} {l : List Nat} (h : Own32 w B v l) {g : Nat} (hg : g < B) (i : Nat) (u : Value) : Own32 (w.setCell ⟨g, i, none⟩ u) B v l := by
  refine ⟨h.1, ?_⟩
  rcases h.2 with h0 | ⟨k, cap, cur, hv, hk, hh, rest⟩
  · exact .inl h0
  · exact .inr ⟨k, cap, cur, hv, hk, Blk.far' (w := w) (t := 43) (cs := cur) hh _ _ (by omega) _, rest⟩
/-- A key under way: its cells (the slice u), its words (the slice v). -/
structure Ks (W : World) (g0 gk : Nat) (u v : Value) (ws : List Nat) (w : World) : Prop where
  kr : Blk w g0 94 zK.toArray
  kk : Blk w gk 94 (kC u).toArray
  own : Own32 w (gk + 1) v ws
  bel : Below W.heap.size W w
  o0 : W.heap.size ≤ g0
  o1 : g0 < gk
section
variable {W w w' : World} {g0 gk : Nat} {u v v' : Value} {ws ws' : List Nat}
theorem Ks.lt (h : Ks W g0 gk u v ws w) : gk + 1 ≤ w.heap.size := h.kk.lt
theorem Ks.old (h : Ks W g0 gk u v ws w) (hb : Below w.heap.size w w') : Ks W g0 gk u v ws w' :=
  ⟨h.kr.next hb rfl, h.kk.next hb rfl, own32_next h.own hb, below_then h.bel hb (Nat.le_refl _), h.o0, h.o1⟩
theorem Ks.drewN (h : Ks W g0 gk u v ws w) (n : Nat) : Ks W g0 gk u v ws (w.drewN n) := ⟨h.kr.drewN n, h.kk.drewN n, h.own.drewN n, Below.drewN h.bel n, h.o0, h.o1⟩
theorem Ks.grown (h : Ks W g0 gk u v ws w) (hg : w.grownBy w' v.ownBlock) (ho : Own32 w' (gk + 1) v' ws') : Ks W g0 gk u v' ws' w' := by
  have o0 := h.o0
  have o1 := h.o1
  have hk : ∀ k, v.ownBlock = some k → gk + 1 ≤ k := fun k hk => (World.ownsRow.lt h.own k hk).1
  have hlt := h.lt
  have hf : Frm [] w w' → True := fun _ => trivial
  have hB : Below (gk + 1) w w' := (Below.refl _ w).grown hg hlt hk
  exact ⟨h.kr.below hB (by omega), h.kk.below hB (by omega), ho, h.bel.trans (hB.mono (by omega)), o0, o1⟩
theorem Ks.put (h : Ks W g0 gk u v ws w) : Ks W g0 gk v v ws (w.setCell ⟨gk, 0, none⟩ v) := by
  have o0 := h.o0
  have o1 := h.o1
  have e : (kC u).toArray.setIfInBounds 0 v = (kC v).toArray := by
    rw [List.setIfInBounds_toArray, kC, List.set_cons_zero]
    rfl
  exact ⟨h.kr.far' _ _ (by omega) _, e ▸ h.kk.set 0 v, own32_far h.own (by omega) _ _, h.bel.setCell (by simp only; omega) _, o0, o1⟩
end
theorem be4_xor {a b c d a' b' c' d' : Nat} (ha : a < 256) (hb : b < 256) (hc : c < 256) (hd : d < 256) (ha' : a' < 256) (hb' : b' < 256) (hc' : c' < 256) (hd' : d' < 256) :
    be4 a b c d ^^^ be4 a' b' c' d' = be4 (a ^^^ a') (b ^^^ b') (c ^^^ c') (d ^^^ d') := by
  obtain ⟨X, hX⟩ : ∃ X, be4 a b c d = X := ⟨_, rfl⟩
  obtain ⟨Y, hY⟩ : ∃ Y, be4 a' b' c' d' = Y := ⟨_, rfl⟩
  have p : ∀ n, (X ^^^ Y) / 2 ^ n % 2 ^ 8 = (X / 2 ^ n % 2 ^ 8) ^^^ (Y / 2 ^ n % 2 ^ 8) := fun n => by rw [div2_xor, mod2_xor]
  have hlt : X ^^^ Y < 2 ^ 32 := Nat.xor_lt_two_pow (by rw [← hX]; exact be4_lt ha hb hc hd) (by rw [← hY]; exact be4_lt ha' hb' hc' hd')
  have p0 := p 24
  have p1 := p 16
  have p2 := p 8
  have p3 := p 0
  rw [hX, hY]
  have x0 : X / 2 ^ 24 % 2 ^ 8 = a := by rw [← hX]; unfold be4; omega
  have x1 : X / 2 ^ 16 % 2 ^ 8 = b := by rw [← hX]; unfold be4; omega
  have x2 : X / 2 ^ 8 % 2 ^ 8 = c := by rw [← hX]; unfold be4; omega
  have x3 : X / 2 ^ 0 % 2 ^ 8 = d := by rw [← hX]; unfold be4; omega
  have y0 : Y / 2 ^ 24 % 2 ^ 8 = a' := by rw [← hY]; unfold be4; omega
  have y1 : Y / 2 ^ 16 % 2 ^ 8 = b' := by rw [← hY]; unfold be4; omega
  have y2 : Y / 2 ^ 8 % 2 ^ 8 = c' := by rw [← hY]; unfold be4; omega
  have y3 : Y / 2 ^ 0 % 2 ^ 8 = d' := by rw [← hY]; unfold be4; omega
  rw [x0, y0] at p0
  rw [x1, y1] at p1
  rw [x2, y2] at p2
  rw [x3, y3] at p3
  rw [← p0, ← p1, ← p2, ← p3]
  unfold be4
  omega
theorem turn8_any (a b c d : Nat) (w : World) (ha : a < 256) (hb : b < 256) (hc : c < 256) (hd : d < 256) : Calls Tryd.prog 111 #[.int .u32 ((be4 a b c d : Nat) : Int), .int .i64 8] w (fun e w' => e = .returned (.int .u32 ((be4 b c d a : Nat) : Int)) ∧ w = w') := by
  obtain ⟨X, hX⟩ : ∃ X, be4 a b c d = X := ⟨_, rfl⟩
  have hXl : X < 4294967296 := by rw [← hX]; exact be4_lt ha hb hc hd
  have a8 : bits .and .u64 8 31 = 8 := by decide +kernel
  have hor : bits .or .u32 ((X : Int) * 256 % 4294967296) ((X : Int) / 16777216) = ((be4 b c d a : Nat) : Int) := by
    rw [show (X : Int) * 256 % 4294967296 = ((X * 256 % 4294967296 : Nat) : Int) by simp, show (X : Int) / 16777216 = ((X / 16777216 : Nat) : Int) by simp, u32_or_nat _ _ (Nat.mod_lt _ (by decide)) (by omega)]
    have e1 : X * 256 % 4294967296 = 2 ^ 8 * ((b * 256 + c) * 256 + d) := by rw [← hX]; unfold be4; omega
    have e2 : X / 16777216 = a := by rw [← hX]; unfold be4; omega
    rw [e1, e2, or_add (i := 8) ha]
    unfold be4
    congr 1
    omega
  rw [hX]
  go_enter Tryd.func111, Tryd.ntmps111
  go_wp2_with fail
  go_light
  go_ret
  exact ⟨by rw [← hor]; rfl, rfl⟩
/-! The words, plain. -/
theorem kw0_length (key : List Nat) (n : Nat) : (kw0 key n).length = n := by rw [kw0, List.length_map, List.length_range]
theorem kGo_length (n : Nat) (w : List (List Nat)) : ∀ k, (kGo n w k).length = w.length + k
  | 0 => rfl
  | k + 1 => by rw [kGo, kNext, List.length_append, kGo_length n w k]; rfl
/-- Four bytes. -/
def W4 (t : List Nat) : Prop := t.length = 4 ∧ ∀ x ∈ t, x < 256
theorem W4.four {t : List Nat} (h : W4 t) : ∃ a b c d, t = [a, b, c, d] ∧ a < 256 ∧ b < 256 ∧ c < 256 ∧ d < 256 := by
  obtain ⟨h1, h2⟩ := h
  match t, h1 with
  | [a, b, c, d], _ => exact ⟨a, b, c, d, rfl, h2 a (by simp), h2 b (by simp), h2 c (by simp), h2 d (by simp)⟩
theorem w4_of {a b c d : Nat} (ha : a < 256) (hb : b < 256) (hc : c < 256) (hd : d < 256) : W4 [a, b, c, d] := ⟨rfl, fun x hx => by
  simp only [List.mem_cons, List.not_mem_nil, or_false] at hx
  rcases hx with rfl | rfl | rfl | rfl <;> assumption⟩
theorem conA_lt : ∀ i, conA i < 256
  | 0 => (by decide : 1 < 256)
  | i + 1 => xt_lt (conA_lt i)
theorem kTurn_ok {n i : Nat} {t : List Nat} (h : W4 t) : W4 (kTurn n i t) := by
  unfold kTurn
  split
  · exact w4_of (xor8 (sb_lt _) (conA_lt _)) (sb_lt _) (sb_lt _) (sb_lt _)
  · split
    · exact ⟨by rw [List.length_map]; exact h.1, fun x hx => by
        obtain ⟨_, _, rfl⟩ := List.mem_map.1 hx
        exact sb_lt _⟩
    · exact h
theorem xorL_ok {a b : List Nat} (ha : W4 a) (hb : W4 b) : W4 (xorL a b) := ⟨xorL_length ha.1 hb.1, xorL_byte ha.2 hb.2⟩
theorem kGo_ok {n : Nat} {w : List (List Nat)} (hn : 0 < n) (hl : w.length = n) (hw : ∀ t ∈ w, W4 t) : ∀ k, ∀ t ∈ kGo n w k, W4 t
  | 0, t, ht => hw t ht
  | k + 1, t, ht => by
    rw [kGo, kNext] at ht
    have ih := kGo_ok hn hl hw k
    rcases List.mem_append.1 ht with h | h
    · exact ih t h
    · rw [List.mem_singleton] at h
      subst h
      have hlen := kGo_length n w k
      have g : ∀ j, j < (kGo n w k).length → W4 ((kGo n w k)[j]?.getD []) := fun j hj => by
        rw [List.getElem?_eq_getElem hj]
        exact ih _ (List.getElem_mem hj)
      exact xorL_ok (kTurn_ok (g _ (by omega))) (g _ (by omega))
theorem kw0_ok {key : List Nat} {n : Nat} (hl : key.length = 4 * n) (hb : ∀ x ∈ key, x < 256) : ∀ t ∈ kw0 key n, W4 t := fun t ht => by
  obtain ⟨i, hi, rfl⟩ := List.mem_map.1 ht
  have := List.mem_range.1 hi
  refine ⟨by rw [List.length_take, List.length_drop]; omega, fun x hx => hb x (List.mem_of_mem_drop (List.mem_of_mem_take hx))⟩
theorem kGo_next (n : Nat) (w : List (List Nat)) (k : Nat) {t o : List Nat} (ht : (kGo n w k)[w.length + k - 1]? = some t) (ho : (kGo n w k)[w.length + k - n]? = some o) : kGo n w (k + 1) = kGo n w k ++ [xorL (kTurn n (w.length + k) t) o] := by
  rw [kGo, kNext, kGo_length, ht, ho]
  rfl
theorem con_same {n i : Nat} (hn : 0 < n) (hi : 0 < i) (h : i % n ≠ 0) : (i - 1) / n = i / n := by
  have h1 := Nat.div_add_mod i n
  have h2 := Nat.mod_lt i hn
  rw [Nat.div_eq_iff hn]
  have : n * (i / n) = i / n * n := Nat.mul_comm _ _
  omega
theorem con_less {n i : Nat} (hn : 0 < n) (hi : n ≤ i) (h : i % n = 0) : (i - 1) / n = i / n - 1 := by
  have h1 := Nat.div_add_mod i n
  have h3 : 1 ≤ i / n := (Nat.one_le_div_iff hn).2 hi
  obtain ⟨q, hq⟩ : ∃ q, i / n = q + 1 := ⟨i / n - 1, by omega⟩
  rw [hq, Nat.div_eq_iff hn]
  rw [hq, Nat.mul_add] at h1
  have : n * q = (q + 1 - 1) * n := by rw [Nat.mul_comm]; rfl
  omega
end Aes
end Go.Proofs.YtpakdcgcgekcfaaDoor
