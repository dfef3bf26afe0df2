/-
  Texts of this claim, joined: ShaRot, ShaLaw, ShaSum, ShaPut.
-/
import Derived.Test.YtmiaabpnolebhaaGreatDoorJ44805549
import Derived.IntWalk
set_option linter.unusedSimpArgs false
set_option linter.unusedVariables false
/-
  Turning a word: math/bits.RotateLeft32, and the reference's turn.
-/
namespace Go.Proofs.YtmiaabpnolebhaaGreatDoor
open Go.RowKit

namespace Sha
open Otp
/-- To the right, round. -/
def rotr (x n : Nat) : Nat := x / 2 ^ n + (x % 2 ^ n) * 2 ^ (32 - n)
theorem rotr_lt {x n : Nat} (hx : x < 4294967296) (hn : n ≤ 32) : rotr x n < 4294967296 := by
  unfold rotr
  have h1 : x / 2 ^ n < 2 ^ (32 - n) := by
    rw [Nat.div_lt_iff_lt_mul (Nat.two_pow_pos n), ← Nat.pow_add, show 32 - n + n = 32 by omega]
    exact hx
  have h2 : x % 2 ^ n < 2 ^ n := Nat.mod_lt _ (Nat.two_pow_pos n)
  have h3 : (x % 2 ^ n + 1) * 2 ^ (32 - n) ≤ 2 ^ n * 2 ^ (32 - n) := Nat.mul_le_mul_right _ h2
  rw [← Nat.pow_add, show n + (32 - n) = 32 by omega, Nat.add_mul] at h3
  omega
theorem shl_mod {x n : Nat} (hn : n ≤ 32) : x * 2 ^ (32 - n) % 4294967296 = (x % 2 ^ n) * 2 ^ (32 - n) := by
  have e : 4294967296 = 2 ^ n * 2 ^ (32 - n) := by rw [← Nat.pow_add, show n + (32 - n) = 32 by omega]
  rw [e, Nat.mul_mod_mul_right]
theorem rot_or {x n : Nat} (hx : x < 4294967296) (hn : n ≤ 32) : (x * 2 ^ (32 - n) % 4294967296) ||| (x / 2 ^ n) = rotr x n := by
  have h1 : x / 2 ^ n < 2 ^ (32 - n) := by
    rw [Nat.div_lt_iff_lt_mul (Nat.two_pow_pos n), ← Nat.pow_add, show 32 - n + n = 32 by omega]
    exact hx
  rw [shl_mod hn, Nat.mul_comm, or_add h1, rotr, Nat.mul_comm]
  omega
theorem rot_add {x n : Nat} (hx : x < 4294967296) (hn : n ≤ 32) : (x / 2 ^ n + x * 2 ^ (32 - n) % 4294967296) % 4294967296 = rotr x n := by
  rw [shl_mod hn]
  exact Nat.mod_eq_of_lt (rotr_lt hx hn)
theorem rot_amount : ∀ n : Fin 32, 0 < n.val → bits .and .u64 (IntKind.u64.wrap (-((n.val : Nat) : Int))) 31 = ((32 - n.val : Nat) : Int) := by decide +kernel
set_option maxHeartbeats 1000000 in
theorem rot_any (k x : Int) (n y : Nat) (w : World) (hk : k = -(n : Int)) (hx : x = y) (hy : y < 4294967296) (h0 : 0 < n) (h1 : n < 32) :
    Calls Tryz.prog 263 #[.int .u32 x, .int .i64 k] w fun e w' => e = .returned (.int .u32 ((rotr y n : Nat) : Int)) ∧ w = w' := by
  have hb := rot_amount ⟨n, h1⟩ h0
  simp only at hb
  have HR := Lib.hid (rot_or (x := y) (n := n) hy (by omega))
  obtain ⟨m, hm⟩ : ∃ m, 32 - n = m := ⟨_, rfl⟩
  rw [hm] at hb HR
  subst hk hx
  have hmn : m + n = 32 := by omega
  clear hm
  go_enter Tryz.func263, Tryz.ntmps263
  go_wp2_with fail
  go_light
  go_ret
  refine ⟨ret1i ?_, rfl⟩
  have e1 : ((y : Int) * 2 ^ m % 4294967296) = ((y * 2 ^ m % 4294967296 : Nat) : Int) := by simp
  have e2 : ((y : Int) / 2 ^ (32 - m)) = ((y / 2 ^ n : Nat) : Int) := by rw [show 32 - m = n by omega]; simp
  rw [e1, e2, u32_or_nat _ _ (Nat.mod_lt _ (by decide)) (Nat.lt_of_le_of_lt (Nat.div_le_self _ _) hy), HR.out]
set_option maxHeartbeats 1000000 in
theorem turn_any (k x : Int) (n y : Nat) (w : World) (hk : k = (n : Int)) (hx : x = y) (hy : y < 4294967296) (h0 : 0 < n) (h1 : n < 32) :
    Calls Tryz.prog 157 #[.int .u32 x, .int .i64 k] w fun e w' => e = .returned (.int .u32 ((rotr y n : Nat) : Int)) ∧ ∃ d, w' = w.drewN d := by
  have HR := Lib.hid (rot_add (x := y) (n := n) hy (by omega))
  obtain ⟨m, hm⟩ : ∃ m, 32 - n = m := ⟨_, rfl⟩
  rw [hm] at HR
  subst hk hx
  have hmn : m + n = 32 := by omega
  have hs : IntKind.i64.wrap (32 - (n : Int)) = (m : Int) := by rw [IntWalk.i64_in _ (by omega)]; omega
  clear hm
  go_enter Tryz.func157, Tryz.ntmps157
  go_wp2_with fail
  go_quiet (fail)
  go_wp2_with fail
  go_light
  go_ret
  refine ⟨ret1i ?_, nq, rfl⟩
  rw [← HR.out]
  simp
end Sha
end Go.Proofs.YtmiaabpnolebhaaGreatDoor

/-
  SHA-256, in plain Lean: words of a block, a block's rounds.
-/
namespace Go.Proofs.YtmiaabpnolebhaaGreatDoor
open Go.RowKit

namespace Sha
open Otp
def s0 (x : Nat) : Nat := rotr x 7 ^^^ rotr x 18 ^^^ (x / 2 ^ 3)
def s1 (x : Nat) : Nat := rotr x 17 ^^^ rotr x 19 ^^^ (x / 2 ^ 10)
def S0 (x : Nat) : Nat := rotr x 2 ^^^ rotr x 13 ^^^ rotr x 22
def S1 (x : Nat) : Nat := rotr x 6 ^^^ rotr x 11 ^^^ rotr x 25
def ch (e f g : Nat) : Nat := (e &&& f) ^^^ ((4294967295 - e) &&& g)
def maj (a b c : Nat) : Nat := (a &&& b) ^^^ (a &&& c) ^^^ (b &&& c)
/-- The next word. -/
def nxt (a b c d : Nat) : Nat := (a + s0 b + c + s1 d) % 4294967296
/-- So many words more. -/
def sc (ws : List Nat) : Nat → List Nat
  | 0 => ws
  | k + 1 => sc ws k ++ [nxt ((sc ws k)[k]?.getD 0) ((sc ws k)[k + 1]?.getD 0) ((sc ws k)[k + 9]?.getD 0) ((sc ws k)[k + 14]?.getD 0)]
def sched (b : List Nat) : List Nat := sc (words4 b) 48
theorem sched_eq (b : List Nat) : sched b = sc (words4 b) 48 := rfl
theorem sc_length (ws : List Nat) : ∀ k, (sc ws k).length = ws.length + k
  | 0 => rfl
  | k + 1 => by rw [sc, List.length_append, sc_length ws k]; rfl
theorem xor_lt {x y : Nat} (hx : x < 4294967296) (hy : y < 4294967296) : x ^^^ y < 4294967296 := Nat.xor_lt_two_pow (n := 32) hx hy
theorem nxt_lt (a b c d : Nat) : nxt a b c d < 4294967296 := Nat.mod_lt _ (by decide)
theorem sc_word (ws : List Nat) (hw : ∀ x ∈ ws, x < 4294967296) : ∀ k, ∀ x ∈ sc ws k, x < 4294967296
  | 0 => hw
  | k + 1 => fun x hx => by
    rw [sc] at hx
    rcases List.mem_append.1 hx with h | h
    · exact sc_word ws hw k x h
    · simp only [List.mem_cons, List.not_mem_nil, or_false] at h
      rw [h]
      exact nxt_lt _ _ _ _
theorem sc_next {ws : List Nat} {k a b c d : Nat} (ha : (sc ws k)[k]? = some a) (hb : (sc ws k)[k + 1]? = some b) (hc : (sc ws k)[k + 9]? = some c) (hd : (sc ws k)[k + 14]? = some d) : sc ws (k + 1) = sc ws k ++ [nxt a b c d] := by
  rw [sc, ha, hb, hc, hd]
  rfl
theorem sched_length {b : List Nat} (h : b.length = 64) : (sched b).length = 64 := by
  unfold sched
  rw [sc_length, words4_length, h]
theorem sched_word {b : List Nat} (h : ∀ x ∈ b, x < 256) : ∀ x ∈ sched b, x < 4294967296 := sc_word _ (words4_lt b h) 48
def rK : List Nat := [1116352408, 1899447441, 3049323471, 3921009573, 961987163, 1508970993, 2453635748, 2870763221, 3624381080, 310598401, 607225278, 1426881987, 1925078388, 2162078206, 2614888103, 3248222580, 3835390401, 4022224774, 264347078, 604807628, 770255983, 1249150122, 1555081692, 1996064986, 2554220882, 2821834349, 2952996808, 3210313671, 3336571891, 3584528711, 113926993, 338241895, 666307205, 773529912, 1294757372, 1396182291, 1695183700, 1986661051, 2177026350, 2456956037, 2730485921, 2820302411, 3259730800, 3345764771, 3516065817, 3600352804, 4094571909, 275423344, 430227734, 506948616, 659060556, 883997877, 958139571, 1322822218, 1537002063, 1747873779, 1955562222, 2024104815, 2227730452, 2361852424, 2428436474, 2756734187, 3204031479, 3329325298]
def rH : List Nat := [1779033703, 3144134277, 1013904242, 2773480762, 1359893119, 2600822924, 528734635, 1541459225]
/-- The eight words of a round. -/
structure St where
  a : Nat
  b : Nat
  c : Nat
  d : Nat
  e : Nat
  f : Nat
  g : Nat
  h : Nat
def St.list (s : St) : List Nat := [s.a, s.b, s.c, s.d, s.e, s.f, s.g, s.h]
def t1 (s : St) (k w : Nat) : Nat := (s.h + S1 s.e + ch s.e s.f s.g + k + w) % 4294967296
def St.round (s : St) (k w : Nat) : St := ⟨(t1 s k w + S0 s.a + maj s.a s.b s.c) % 4294967296, s.a, s.b, s.c, (s.d + t1 s k w) % 4294967296, s.e, s.f, s.g⟩
def St.ok (s : St) : Prop := s.a < 4294967296 ∧ s.b < 4294967296 ∧ s.c < 4294967296 ∧ s.d < 4294967296 ∧ s.e < 4294967296 ∧ s.f < 4294967296 ∧ s.g < 4294967296 ∧ s.h < 4294967296
theorem St.ok_round {s : St} (h : s.ok) (k w : Nat) : (s.round k w).ok := by
  obtain ⟨h1, h2, h3, h4, h5, h6, h7, h8⟩ := h
  exact ⟨Nat.mod_lt _ (by decide), h1, h2, h3, Nat.mod_lt _ (by decide), h5, h6, h7⟩
/-- So many rounds. -/
def St.run (s : St) (ws : List Nat) : Nat → St
  | 0 => s
  | i + 1 => (s.run ws i).round (rK[i]?.getD 0) (ws[i]?.getD 0)
theorem St.ok_run {s : St} (h : s.ok) (ws : List Nat) : ∀ i, (s.run ws i).ok
  | 0 => h
  | i + 1 => St.ok_round (St.ok_run h ws i) _ _
def add8 (h v : List Nat) : List Nat := List.zipWith (fun x y => (x + y) % 4294967296) h v
def St.of (h : List Nat) : St := ⟨h[0]?.getD 0, h[1]?.getD 0, h[2]?.getD 0, h[3]?.getD 0, h[4]?.getD 0, h[5]?.getD 0, h[6]?.getD 0, h[7]?.getD 0⟩
/-- The words behind a block. -/
def press (h b : List Nat) : List Nat := add8 h ((St.of h).run (sched b) 64).list
theorem press_eq (h b : List Nat) : press h b = add8 h ((St.of h).run (sched b) 64).list := rfl
theorem st_of {h : List Nat} (hl : h.length = 8) : (St.of h).list = h := by
  obtain ⟨a, b, c, d, e, f, g, k, rfl⟩ := eight hl
  rfl
theorem st_ok {h : List Nat} (hl : h.length = 8) (hw : ∀ x ∈ h, x < 4294967296) : (St.of h).ok := by
  obtain ⟨a, b, c, d, e, f, g, k, rfl⟩ := eight hl
  exact ⟨hw a (by simp), hw b (by simp), hw c (by simp), hw d (by simp), hw e (by simp), hw f (by simp), hw g (by simp), hw k (by simp)⟩
theorem press_length {h : List Nat} (b : List Nat) (hl : h.length = 8) : (press h b).length = 8 := by
  unfold press add8
  rw [List.length_zipWith, hl]
  rfl
theorem press_word (h b : List Nat) : ∀ x ∈ press h b, x < 4294967296 := fun x hx => by
  unfold press add8 at hx
  obtain ⟨i, hi⟩ := List.mem_iff_getElem?.1 hx
  rw [List.getElem?_zipWith] at hi
  split at hi
  · cases hi
    exact Nat.mod_lt _ (by decide)
  · cases hi
end Sha
end Go.Proofs.YtmiaabpnolebhaaGreatDoor

/-
  SHA-256 of a text, in plain Lean: the words behind its blocks, what is left, what is laid behind it.
-/
namespace Go.Proofs.YtmiaabpnolebhaaGreatDoor
open Go.RowKit

namespace Sha
open Otp R1
/-- The words behind so many blocks. -/
def hb (t : List Nat) : Nat → List Nat
  | 0 => rH
  | k + 1 => press (hb t k) ((t.drop (64 * k)).take 64)
def stH (t : List Nat) : List Nat := hb t (t.length / 64)
def stR (t : List Nat) : List Nat := t.drop (64 * (t.length / 64))
def padB (n : Nat) : List Nat := 128 :: (List.replicate ((119 - n % 64) % 64) 0 ++ numB (8 * n) 8)
def sumB (t : List Nat) : List Nat := wordsB (stH (t ++ padB t.length))
theorem hb_append (t x : List Nat) : ∀ k, 64 * k ≤ t.length → hb (t ++ x) k = hb t k
  | 0, _ => rfl
  | k + 1, h => by
    rw [hb, hb, hb_append t x k (by omega), List.drop_append_of_le_length (by omega), List.take_append_of_le_length (by rw [List.length_drop]; omega)]
theorem stH_same {t x : List Nat} (h : t.length % 64 + x.length < 64) : stH (t ++ x) = stH t := by
  unfold stH
  rw [List.length_append, show (t.length + x.length) / 64 = t.length / 64 by omega, hb_append _ _ _ (by omega)]
theorem stR_length (t : List Nat) : (stR t).length = t.length % 64 := by unfold stR; rw [List.length_drop]; omega
theorem stR_same {t x : List Nat} (h : t.length % 64 + x.length < 64) : stR (t ++ x) = stR t ++ x := by
  unfold stR
  rw [List.length_append, show (t.length + x.length) / 64 = t.length / 64 by omega, List.drop_append_of_le_length (by omega)]
theorem stH_full {t x : List Nat} (h : t.length % 64 + x.length = 64) : stH (t ++ x) = press (stH t) (stR t ++ x) := by
  unfold stH stR
  rw [List.length_append, show (t.length + x.length) / 64 = t.length / 64 + 1 by omega, hb, hb_append _ _ _ (by omega), List.drop_append_of_le_length (by omega), List.take_of_length_le (by rw [List.length_append, List.length_drop]; omega)]
theorem stR_full {t x : List Nat} (h : t.length % 64 + x.length = 64) : stR (t ++ x) = [] := by
  unfold stR
  rw [List.length_append, show (t.length + x.length) / 64 = t.length / 64 + 1 by omega]
  exact List.drop_of_length_le (by rw [List.length_append]; omega)
theorem padB_length (n : Nat) : (n + (padB n).length) % 64 = 0 := by
  unfold padB
  rw [List.length_cons, List.length_append, List.length_replicate, numB_length]
  omega
theorem padB_le (n : Nat) : (padB n).length ≤ 72 := by
  unfold padB
  rw [List.length_cons, List.length_append, List.length_replicate, numB_length]
  omega
theorem rH_length : rH.length = 8 := rfl
theorem rH_word : ∀ x ∈ rH, x < 4294967296 := by decide
theorem hb_length (t : List Nat) : ∀ k, (hb t k).length = 8
  | 0 => rfl
  | k + 1 => press_length _ (hb_length t k)
theorem hb_word (t : List Nat) : ∀ k, ∀ x ∈ hb t k, x < 4294967296
  | 0 => rH_word
  | k + 1 => press_word _ _
theorem stH_length (t : List Nat) : (stH t).length = 8 := hb_length _ _
theorem stH_word (t : List Nat) : ∀ x ∈ stH t, x < 4294967296 := hb_word _ _
theorem numB_byte (n : Nat) : ∀ k, ∀ x ∈ numB n k, x < 256
  | 0, _, h => by cases h
  | k + 1, x, h => by
    rw [numB] at h
    rcases List.mem_cons.1 h with rfl | h
    · exact Nat.mod_lt _ (by decide)
    · exact numB_byte n k x h
theorem wordsB_byte (l : List Nat) : ∀ x ∈ wordsB l, x < 256 := fun x h => by
  unfold wordsB at h
  obtain ⟨y, _, h⟩ := List.mem_flatMap.1 h
  exact numB_byte y 4 x h
theorem padB_byte (n : Nat) : ∀ x ∈ padB n, x < 256 := fun x h => by
  unfold padB at h
  rcases List.mem_cons.1 h with rfl | h
  · decide
  · rcases List.mem_append.1 h with h | h
    · obtain ⟨_, rfl⟩ := List.mem_replicate.1 h
      decide
    · exact numB_byte _ _ x h
theorem sumB_length (t : List Nat) : (sumB t).length = 32 := by unfold sumB; rw [wordsB_length, stH_length]
theorem sumB_byte (t : List Nat) : ∀ x ∈ sumB t, x < 256 := wordsB_byte _
/-- A state's rest: what is left, noughts behind it. -/
def stZ (t : List Nat) : List Nat := stR t ++ List.replicate (64 - t.length % 64) 0
theorem stZ_length (t : List Nat) : (stZ t).length = 64 := by unfold stZ; rw [List.length_append, stR_length, List.length_replicate]; omega
theorem stR_byte {t : List Nat} (h : ∀ x ∈ t, x < 256) : ∀ x ∈ stR t, x < 256 := fun x hx => h x (List.mem_of_mem_drop hx)
theorem stZ_byte {t : List Nat} (h : ∀ x ∈ t, x < 256) : ∀ x ∈ stZ t, x < 256 := fun x hx => by
  unfold stZ at hx
  rcases List.mem_append.1 hx with hx | hx
  · exact stR_byte h x hx
  · obtain ⟨_, rfl⟩ := List.mem_replicate.1 hx
    decide
theorem stZ_same {t x : List Nat} (h : t.length % 64 + x.length < 64) : stZ (t ++ x) = (stR t ++ x) ++ List.replicate (64 - t.length % 64 - x.length) 0 := by
  unfold stZ
  rw [stR_same h, List.length_append]
  congr 2
  omega
theorem stZ_full {t x : List Nat} (h : t.length % 64 + x.length = 64) : stZ (t ++ x) = List.replicate 64 0 := by
  unfold stZ
  rw [stR_full h, List.length_append, show (t.length + x.length) % 64 = 0 by omega]
  rfl
/-- The cells of a state: words, rest, number. -/
def cS (t : List Nat) : List Value := (stH t).map (fun x => Value.int .u32 ((x : Nat) : Int)) ++ ((stZ t).map (fun x => Value.int .u8 ((x : Nat) : Int)) ++ [Value.int .u64 (t.length : Int)])
theorem cS_length (t : List Nat) : (cS t).length = 73 := by
  unfold cS
  rw [List.length_append, List.length_append, List.length_map, List.length_map, stH_length, stZ_length]
  rfl
/-- HMAC: a key's block, turned by a byte. -/
def keyB (key : List Nat) : List Nat := let k := if 64 < key.length then sumB key else key; k ++ List.replicate (64 - k.length) 0
def macB (key p : List Nat) : List Nat := sumB ((keyB key).map (· ^^^ 92) ++ sumB ((keyB key).map (· ^^^ 54) ++ p))
def partsB (ps : List (List Nat)) : List Nat := ps.flatMap fun p => numB p.length 4 ++ p
def deriveB (key label : List Nat) (ps : List (List Nat)) : List Nat := macB key (numB label.length 4 ++ label ++ numB ps.length 4 ++ partsB ps)
theorem keyB_length (key : List Nat) : (keyB key).length = 64 := by
  unfold keyB
  by_cases h : 64 < key.length
  · simp only [if_pos h, List.length_append, List.length_replicate, sumB_length]
  · simp only [if_neg h, List.length_append, List.length_replicate]
    omega
theorem keyB_byte {key : List Nat} (hk : ∀ x ∈ key, x < 256) : ∀ x ∈ keyB key, x < 256 := fun x hx => by
  unfold keyB at hx
  rcases List.mem_append.1 hx with hx | hx
  · by_cases h : 64 < key.length
    · rw [if_pos h] at hx; exact sumB_byte _ x hx
    · rw [if_neg h] at hx; exact hk x hx
  · obtain ⟨_, rfl⟩ := List.mem_replicate.1 hx
    decide
theorem turn_byte {l : List Nat} {c : Nat} (hc : c < 256) (h : ∀ x ∈ l, x < 256) : ∀ x ∈ l.map (· ^^^ c), x < 256 := fun x hx => by
  obtain ⟨y, hy, rfl⟩ := List.mem_map.1 hx
  exact Nat.xor_lt_two_pow (n := 8) (h y hy) hc
theorem macB_length (key p : List Nat) : (macB key p).length = 32 := sumB_length _
theorem macB_byte (key p : List Nat) : ∀ x ∈ macB key p, x < 256 := sumB_byte _
theorem deriveB_length (key label : List Nat) (ps : List (List Nat)) : (deriveB key label ps).length = 32 := sumB_length _
theorem deriveB_byte (key label : List Nat) (ps : List (List Nat)) : ∀ x ∈ deriveB key label ps, x < 256 := sumB_byte _
end Sha
end Go.Proofs.YtmiaabpnolebhaaGreatDoor

/-
  What more bytes make of a state's cells: plain.
-/
namespace Go.Proofs.YtmiaabpnolebhaaGreatDoor
open Go.RowKit

namespace Sha
open Otp R1
/-- The cells of a state whose rest has got more bytes. -/
def cM (t x : List Nat) : List Value := v32 (stH t) ++ (v8 ((stR t ++ x) ++ List.replicate (64 - t.length % 64 - x.length) 0) ++ [Value.int .u64 ((t.length + x.length : Nat) : Int)])
theorem splice_mid (A B C Z X : List Value) (h : X.length = C.length) : splice (A ++ (B ++ (C ++ Z))) (A.length + B.length) X = A ++ (B ++ (X ++ Z)) := by
  unfold splice
  rw [show A ++ (B ++ (C ++ Z)) = (A ++ B) ++ (C ++ Z) by simp, List.take_append_of_le_length (by simp), List.take_of_length_le (by simp), List.drop_append, List.drop_of_length_le (by simp), List.nil_append, h,
    show A.length + B.length + C.length - (A ++ B).length = C.length by simp, List.drop_append, List.drop_of_length_le (Nat.le_refl _), Nat.sub_self]
  simp
theorem cS_copy {t x : List Nat} (h : t.length % 64 + x.length ≤ 64) : (splice (cS t) (8 + t.length % 64) (v8 x)).set 72 (.int .u64 ((t.length + x.length : Nat) : Int)) = cM t x := by
  have e : cS t = v32 (stH t) ++ (v8 (stR t) ++ (v8 (List.replicate x.length 0) ++ (v8 (List.replicate (64 - t.length % 64 - x.length) 0) ++ [Value.int .u64 (t.length : Int)]))) := by
    have e2 : List.replicate (64 - t.length % 64) 0 = List.replicate x.length 0 ++ List.replicate (64 - t.length % 64 - x.length) (0 : Nat) := by
      rw [List.replicate_append_replicate]
      congr 1
      omega
    unfold cS
    rw [show ((stZ t).map fun x => Value.int .u8 ((x : Nat) : Int)) = v8 (stZ t) from rfl, stZ, e2]
    simp only [v8_append, List.append_assoc]
    rfl
  have hl : 8 + t.length % 64 = (v32 (stH t)).length + (v8 (stR t)).length := by rw [v32_length, stH_length, v8_length, stR_length]
  rw [e, hl, splice_mid _ _ _ _ _ (by simp [v8_length])]
  have e72 : 72 = (v32 (stH t) ++ (v8 (stR t) ++ (v8 x ++ v8 (List.replicate (64 - t.length % 64 - x.length) 0)))).length := by
    simp only [List.length_append, v32_length, v8_length, stH_length, stR_length, List.length_replicate]
    omega
  rw [show v32 (stH t) ++ (v8 (stR t) ++ (v8 x ++ (v8 (List.replicate (64 - t.length % 64 - x.length) 0) ++ [Value.int .u64 (t.length : Int)]))) = (v32 (stH t) ++ (v8 (stR t) ++ (v8 x ++ v8 (List.replicate (64 - t.length % 64 - x.length) 0)))) ++ [Value.int .u64 (t.length : Int)] by simp, e72, List.set_append_right _ _ (Nat.le_refl _), Nat.sub_self]
  unfold cM
  simp [v8_append]
theorem cM_same {t x : List Nat} (h : t.length % 64 + x.length < 64) : cM t x = cS (t ++ x) := by
  unfold cM cS
  rw [stH_same h, stZ_same h, List.length_append]
  rfl
theorem cM_length {t x : List Nat} (h : t.length % 64 + x.length ≤ 64) : (cM t x).length = 73 := by
  unfold cM
  simp only [List.length_append, v32_length, v8_length, stH_length, stR_length, List.length_replicate, List.length_cons, List.length_nil]
  omega
theorem cM_full {t x : List Nat} (h : t.length % 64 + x.length = 64) : cM t x = v32 (stH t) ++ (v8 (stR t ++ x) ++ [Value.int .u64 ((t.length + x.length : Nat) : Int)]) := by
  unfold cM
  rw [show 64 - t.length % 64 - x.length = 0 by omega, List.replicate_zero, List.append_nil]
theorem cM_press {t x : List Nat} (h : t.length % 64 + x.length = 64) : splice (splice (cM t x) 0 (v32 (press (stH t) (stR t ++ x)))) 8 (v8 (List.replicate 64 0)) = cS (t ++ x) := by
  rw [cM_full h]
  have e1 := splice_mid [] [] (v32 (stH t)) (v8 (stR t ++ x) ++ [Value.int .u64 ((t.length + x.length : Nat) : Int)]) (v32 (press (stH t) (stR t ++ x))) (by rw [v32_length, v32_length, press_length _ (stH_length t), stH_length])
  simp only [List.length_nil, Nat.add_zero, List.nil_append] at e1
  rw [e1]
  have e2 := splice_mid (v32 (press (stH t) (stR t ++ x))) [] (v8 (stR t ++ x)) [Value.int .u64 ((t.length + x.length : Nat) : Int)] (v8 (List.replicate 64 0)) (by rw [v8_length, v8_length, List.length_append, stR_length, List.length_replicate, h])
  rw [v32_length, press_length _ (stH_length t)] at e2
  simp only [List.length_nil, Nat.add_zero, List.nil_append] at e2
  rw [e2]
  unfold cS
  rw [stH_full h, stZ_full h, List.length_append]
  rfl
theorem cM_words {t x : List Nat} : ∀ (j : Nat) (v : Value), (v32 (stH t))[j]? = some v → (cM t x)[j]? = some v := fun j v hv => by
  unfold cM
  rw [List.getElem?_append_left (List.getElem?_eq_some_iff.1 hv).1]
  exact hv
theorem cM_bytes {t x : List Nat} (h : t.length % 64 + x.length = 64) : ∀ (j : Nat) (v : Value), (v8 (stR t ++ x))[j]? = some v → (cM t x)[8 + j]? = some v := fun j v hv => by
  rw [cM_full h, List.getElem?_append_right (by rw [v32_length, stH_length]; omega), v32_length, stH_length, show 8 + j - 8 = j by omega, List.getElem?_append_left (List.getElem?_eq_some_iff.1 hv).1]
  exact hv
theorem cS_num (t : List Nat) : (cS t)[72]? = some (.int .u64 (t.length : Int)) := by
  unfold cS
  rw [List.getElem?_append_right (by simp [stH_length]), List.getElem?_append_right (by simp [stH_length, stZ_length])]
  simp [stH_length, stZ_length]
theorem cS_keep {t x : List Nat} (h : t.length % 64 + x.length ≤ 64) : (splice (cS t) (8 + t.length % 64) (v8 x))[72]? = some (.int .u64 (t.length : Int)) := by
  rw [splice_right (by rw [cS_length, v8_length]; omega) (by rw [v8_length]; omega)]
  exact cS_num t
theorem cS_one (t : List Nat) : ∀ v ∈ cS t, v.oneCell' = true := fun v hv => by
  unfold cS at hv
  simp only [List.mem_append, List.mem_map, List.mem_cons, List.not_mem_nil, or_false] at hv
  rcases hv with ⟨_, _, rfl⟩ | ⟨_, _, rfl⟩ | rfl <;> rfl
end Sha
end Go.Proofs.YtmiaabpnolebhaaGreatDoor
