/-
  Texts of this claim, joined: ShaSum, ShaPut, ShaFeed, ShaPad, R1Sum, TwoRow, AesBox, AesBack, AesKey, RelLate, Parts, AesNew.
-/
import Derived.Test.YtpakdcgcgekcfaaDoorJ4bf5129d
import Derived.Test.YtpakdcgcgekcfaaDoorJ8b3fd3ea
import Derived.Test.YtpakdcgcgekcfaaDoorJ52d9bedf
import Derived.Test.YtpakdcgcgekcfaaDoorProg
import Derived.Deep.LoopGhost
import Derived.Laws.Rows
import Derived.IntWalk
import Derived.Laws.CopyOwn
import Derived.Laws.Tables
import Derived.RegionTactic
import Derived.Lib.ConvBytes
import Derived.Lib.SlBytesConst
import Derived.Laws.AppendOwn
set_option linter.unusedVariables false
/-
  SHA-256 of a text, in plain Lean: the words behind its blocks, what is left, what is laid behind it.
-/
set_option linter.unusedSimpArgs false
set_option linter.unusedVariables false
namespace Go.Proofs.YtpakdcgcgekcfaaDoor
open Go.RowKit

namespace Sha
open Otp R1
/-- The words behind so many blocks. -/
def hb (t : List Nat) : Nat → List Nat
  | 0 => rH
  | k + 1 => press (hb t k) ((t.drop (64 * k)).take 64)
def stH (t : List Nat) : List Nat := hb t (t.length / 64)
def stR (t : List Nat) : List Nat := t.drop (64 * (t.length / 64))
def padB (n : Nat) : List Nat := 128 :: (List.replicate ((119 - n % 64) % 64) 0 ++ numB (8 * n) 8)
def sumB (t : List Nat) : List Nat := wordsB (stH (t ++ padB t.length))
theorem hb_append (t x : List Nat) : ∀ k, 64 * k ≤ t.length → hb (t ++ x) k = hb t k
  | 0, _ => rfl
  | k + 1, h => by
    rw [hb, hb, hb_append t x k (by omega), List.drop_append_of_le_length (by omega), List.take_append_of_le_length (by rw [List.length_drop]; omega)]
theorem stH_same {t x : List Nat} (h : t.length % 64 + x.length < 64) : stH (t ++ x) = stH t := by
  unfold stH
  rw [List.length_append, show (t.length + x.length) / 64 = t.length / 64 by omega, hb_append _ _ _ (by omega)]
theorem stR_length (t : List Nat) : (stR t).length = t.length % 64 := by unfold stR; rw [List.length_drop]; omega
theorem stR_same {t x : List Nat} (h : t.length % 64 + x.length < 64) : stR (t ++ x) = stR t ++ x := by
  unfold stR
  rw [List.length_append, show (t.length + x.length) / 64 = t.length / 64 by omega, List.drop_append_of_le_length (by omega)]
theorem stH_full {t x : List Nat} (h : t.length % 64 + x.length = 64) : stH (t ++ x) = press (stH t) (stR t ++ x) := by
  unfold stH stR
  rw [List.length_append, show (t.length + x.length) / 64 = t.length / 64 + 1 by omega, hb, hb_append _ _ _ (by omega), List.drop_append_of_le_length (by omega), List.take_of_length_le (by rw [List.length_append, List.length_drop]; omega)]
theorem stR_full {t x : List Nat} (h : t.length % 64 + x.length = 64) : stR (t ++ x) = [] := by
  unfold stR
  rw [List.length_append, show (t.length + x.length) / 64 = t.length / 64 + 1 by omega]
  exact List.drop_of_length_le (by rw [List.length_append]; omega)
theorem padB_length (n : Nat) : (n + (padB n).length) % 64 = 0 := by
  unfold padB
  rw [List.length_cons, List.length_append, List.length_replicate, numB_length]
  omega
theorem padB_le (n : Nat) : (padB n).length ≤ 72 := by
  unfold padB
  rw [List.length_cons, List.length_append, List.length_replicate, numB_length]
  omega
theorem rH_length : rH.length = 8 := rfl
theorem rH_word : ∀ x ∈ rH, x < 4294967296 := by decide
theorem hb_length (t : List Nat) : ∀ k, (hb t k).length = 8
  | 0 => rfl
  | k + 1 => press_length _ (hb_length t k)
theorem hb_word (t : List Nat) : ∀ k, ∀ x ∈ hb t k, x < 4294967296
  | 0 => rH_word
  | k + 1 => press_word _ _
theorem stH_length (t : List Nat) : (stH t).length = 8 := hb_length _ _
theorem stH_word (t : List Nat) : ∀ x ∈ stH t, x < 4294967296 := hb_word _ _
theorem numB_byte (n : Nat) : ∀ k, ∀ x ∈ numB n k, x < 256
  | 0, _, h => by cases h
  | k + 1, x, h => by
    rw [numB] at h
    rcases List.mem_cons.1 h with rfl | h
    · exact Nat.mod_lt _ (by decide)
    · exact numB_byte n k x h
theorem wordsB_byte (l : List Nat) : ∀ x ∈ wordsB l, x < 256 := fun x h => by
  unfold wordsB at h
  obtain ⟨y, _, h⟩ := List.mem_flatMap.1 h
  exact numB_byte y 4 x h
theorem padB_byte (n : Nat) : ∀ x ∈ padB n, x < 256 := fun x h => by
  unfold padB at h
  rcases List.mem_cons.1 h with rfl | h
  · decide
  · rcases List.mem_append.1 h with h | h
    · obtain ⟨_, rfl⟩ := List.mem_replicate.1 h
      decide
    · exact numB_byte _ _ x h
theorem sumB_length (t : List Nat) : (sumB t).length = 32 := by unfold sumB; rw [wordsB_length, stH_length]
theorem sumB_byte (t : List Nat) : ∀ x ∈ sumB t, x < 256 := wordsB_byte _
/-- A state's rest: what is left, noughts behind it. -/
def stZ (t : List Nat) : List Nat := stR t ++ List.replicate (64 - t.length % 64) 0
theorem stZ_length (t : List Nat) : (stZ t).length = 64 := by unfold stZ; rw [List.length_append, stR_length, List.length_replicate]; omega
theorem stR_byte {t : List Nat} (h : ∀ x ∈ t, x < 256) : ∀ x ∈ stR t, x < 256 := fun x hx => h x (List.mem_of_mem_drop hx)
theorem stZ_byte {t : List Nat} (h : ∀ x ∈ t, x < 256) : ∀ x ∈ stZ t, x < 256 := fun x hx => by
  unfold stZ at hx
  rcases List.mem_append.1 hx with hx | hx
  · exact stR_byte h x hx
  · obtain ⟨_, rfl⟩ := List.mem_replicate.1 hx
    decide
theorem stZ_same {t x : List Nat} (h : t.length % 64 + x.length < 64) : stZ (t ++ x) = (stR t ++ x) ++ List.replicate (64 - t.length % 64 - x.length) 0 := by
  unfold stZ
  rw [stR_same h, List.length_append]
  congr 2
  omega
theorem stZ_full {t x : List Nat} (h : t.length % 64 + x.length = 64) : stZ (t ++ x) = List.replicate 64 0 := by
  unfold stZ
  rw [stR_full h, List.length_append, show (t.length + x.length) % 64 = 0 by omega]
  rfl
/-- The cells of a state: words, rest, number. -/
def cS (t : List Nat) : List Value := (stH t).map (fun x => Value.int .u32 ((x : Nat) : Int)) ++ ((stZ t).map (fun x => Value.int .u8 ((x : Nat) : Int)) ++ [Value.int .u64 (t.length : Int)])
theorem cS_length (t : List Nat) : (cS t).length = 73 := by
  unfold cS
  rw [List.length_append, List.length_append, List.length_map, List.length_map, stH_length, stZ_length]
  rfl
/-- HMAC: a key's block, turned by a byte. -/
def keyB (key : List Nat) : List Nat := let k := if 64 < key.length then sumB key else key; k ++ List.replicate (64 - k.length) 0
def macB (key p : List Nat) : List Nat := sumB ((keyB key).map (· ^^^ 92) ++ sumB ((keyB key).map (· ^^^ 54) ++ p))
def partsB (ps : List (List Nat)) : List Nat := ps.flatMap fun p => numB p.length 4 ++ p
def deriveB (key label : List Nat) (ps : List (List Nat)) : List Nat := macB key (numB label.length 4 ++ label ++ numB ps.length 4 ++ partsB ps)
theorem keyB_length (key : List Nat) : (keyB key).length = 64 := by
  unfold keyB
  by_cases h : 64 < key.length
  · simp only [if_pos h, List.length_append, List.length_replicate, sumB_length]
  · simp only [if_neg h, List.length_append, List.length_replicate]
    omega
theorem keyB_byte {key : List Nat} (hk : ∀ x ∈ key, x < 256) : ∀ x ∈ keyB key, x < 256 := fun x hx => by
  unfold keyB at hx
  rcases List.mem_append.1 hx with hx | hx
  · by_cases h : 64 < key.length
    · rw [if_pos h] at hx; exact sumB_byte _ x hx
    · rw [if_neg h] at hx; exact hk x hx
  · obtain ⟨_, rfl⟩ := List.mem_replicate.1 hx
    decide
theorem turn_byte {l : List Nat} {c : Nat} (hc : c < 256) (h : ∀ x ∈ l, x < 256) : ∀ x ∈ l.map (· ^^^ c), x < 256 := fun x hx => by
  obtain ⟨y, hy, rfl⟩ := List.mem_map.1 hx
  exact Nat.xor_lt_two_pow (n := 8) (h y hy) hc
theorem macB_length (key p : List Nat) : (macB key p).length = 32 := sumB_length _
theorem macB_byte (key p : List Nat) : ∀ x ∈ macB key p, x < 256 := sumB_byte _
theorem deriveB_length (key label : List Nat) (ps : List (List Nat)) : (deriveB key label ps).length = 32 := sumB_length _
theorem deriveB_byte (key label : List Nat) (ps : List (List Nat)) : ∀ x ∈ deriveB key label ps, x < 256 := sumB_byte _
end Sha
end Go.Proofs.YtpakdcgcgekcfaaDoor

/-
  What more bytes make of a state's cells: plain.
-/
set_option linter.unusedSimpArgs false
set_option linter.unusedVariables false
namespace Go.Proofs.YtpakdcgcgekcfaaDoor
open Go.RowKit

namespace Sha
open Otp R1
def v8 (l : List Nat) : List Value := l.map fun x => Value.int .u8 ((x : Nat) : Int)
def v32 (l : List Nat) : List Value := l.map fun x => Value.int .u32 ((x : Nat) : Int)
/-- The cells of a state whose rest has got more bytes. -/
def cM (t x : List Nat) : List Value := v32 (stH t) ++ (v8 ((stR t ++ x) ++ List.replicate (64 - t.length % 64 - x.length) 0) ++ [Value.int .u64 ((t.length + x.length : Nat) : Int)])
theorem v8_length (l : List Nat) : (v8 l).length = l.length := by simp [v8]
theorem v32_length (l : List Nat) : (v32 l).length = l.length := by simp [v32]
theorem v8_append (a b : List Nat) : v8 (a ++ b) = v8 a ++ v8 b := by simp [v8]
theorem splice_mid (A B C Z X : List Value) (h : X.length = C.length) : splice (A ++ (B ++ (C ++ Z))) (A.length + B.length) X = A ++ (B ++ (X ++ Z)) := by
  unfold splice
  rw [show A ++ (B ++ (C ++ Z)) = (A ++ B) ++ (C ++ Z) by simp, List.take_append_of_le_length (by simp), List.take_of_length_le (by simp), List.drop_append, List.drop_of_length_le (by simp), List.nil_append, h,
    show A.length + B.length + C.length - (A ++ B).length = C.length by simp, List.drop_append, List.drop_of_length_le (Nat.le_refl _), Nat.sub_self]
  simp
theorem cS_copy {t x : List Nat} (h : t.length % 64 + x.length ≤ 64) : (splice (cS t) (8 + t.length % 64) (v8 x)).set 72 (.int .u64 ((t.length + x.length : Nat) : Int)) = cM t x := by
  have e : cS t = v32 (stH t) ++ (v8 (stR t) ++ (v8 (List.replicate x.length 0) ++ (v8 (List.replicate (64 - t.length % 64 - x.length) 0) ++ [Value.int .u64 (t.length : Int)]))) := by
    have e2 : List.replicate (64 - t.length % 64) 0 = List.replicate x.length 0 ++ List.replicate (64 - t.length % 64 - x.length) (0 : Nat) := by
      rw [List.replicate_append_replicate]
      congr 1
      omega
    unfold cS
    rw [show ((stZ t).map fun x => Value.int .u8 ((x : Nat) : Int)) = v8 (stZ t) from rfl, stZ, e2]
    simp only [v8_append, List.append_assoc]
    rfl
  have hl : 8 + t.length % 64 = (v32 (stH t)).length + (v8 (stR t)).length := by rw [v32_length, stH_length, v8_length, stR_length]
  rw [e, hl, splice_mid _ _ _ _ _ (by simp [v8_length])]
  have e72 : 72 = (v32 (stH t) ++ (v8 (stR t) ++ (v8 x ++ v8 (List.replicate (64 - t.length % 64 - x.length) 0)))).length := by
    simp only [List.length_append, v32_length, v8_length, stH_length, stR_length, List.length_replicate]
    omega
  rw [show v32 (stH t) ++ (v8 (stR t) ++ (v8 x ++ (v8 (List.replicate (64 - t.length % 64 - x.length) 0) ++ [Value.int .u64 (t.length : Int)]))) = (v32 (stH t) ++ (v8 (stR t) ++ (v8 x ++ v8 (List.replicate (64 - t.length % 64 - x.length) 0)))) ++ [Value.int .u64 (t.length : Int)] by simp, e72, List.set_append_right _ _ (Nat.le_refl _), Nat.sub_self]
  unfold cM
  simp [v8_append]
theorem cM_same {t x : List Nat} (h : t.length % 64 + x.length < 64) : cM t x = cS (t ++ x) := by
  unfold cM cS
  rw [stH_same h, stZ_same h, List.length_append]
  rfl
theorem cM_length {t x : List Nat} (h : t.length % 64 + x.length ≤ 64) : (cM t x).length = 73 := by
  unfold cM
  simp only [List.length_append, v32_length, v8_length, stH_length, stR_length, List.length_replicate, List.length_cons, List.length_nil]
  omega
theorem cM_full {t x : List Nat} (h : t.length % 64 + x.length = 64) : cM t x = v32 (stH t) ++ (v8 (stR t ++ x) ++ [Value.int .u64 ((t.length + x.length : Nat) : Int)]) := by
  unfold cM
  rw [show 64 - t.length % 64 - x.length = 0 by omega, List.replicate_zero, List.append_nil]
theorem cM_press {t x : List Nat} (h : t.length % 64 + x.length = 64) : splice (splice (cM t x) 0 (v32 (press (stH t) (stR t ++ x)))) 8 (v8 (List.replicate 64 0)) = cS (t ++ x) := by
  rw [cM_full h]
  have e1 := splice_mid [] [] (v32 (stH t)) (v8 (stR t ++ x) ++ [Value.int .u64 ((t.length + x.length : Nat) : Int)]) (v32 (press (stH t) (stR t ++ x))) (by rw [v32_length, v32_length, press_length _ (stH_length t), stH_length])
  simp only [List.length_nil, Nat.add_zero, List.nil_append] at e1
  rw [e1]
  have e2 := splice_mid (v32 (press (stH t) (stR t ++ x))) [] (v8 (stR t ++ x)) [Value.int .u64 ((t.length + x.length : Nat) : Int)] (v8 (List.replicate 64 0)) (by rw [v8_length, v8_length, List.length_append, stR_length, List.length_replicate, h])
  rw [v32_length, press_length _ (stH_length t)] at e2
  simp only [List.length_nil, Nat.add_zero, List.nil_append] at e2
  rw [e2]
  unfold cS
  rw [stH_full h, stZ_full h, List.length_append]
  rfl
theorem cM_words {t x : List Nat} : ∀ (j : Nat) (v : Value), (v32 (stH t))[j]? = some v → (cM t x)[j]? = some v := fun j v hv => by
  unfold cM
  rw [List.getElem?_append_left (List.getElem?_eq_some_iff.1 hv).1]
  exact hv
theorem cM_bytes {t x : List Nat} (h : t.length % 64 + x.length = 64) : ∀ (j : Nat) (v : Value), (v8 (stR t ++ x))[j]? = some v → (cM t x)[8 + j]? = some v := fun j v hv => by
  rw [cM_full h, List.getElem?_append_right (by rw [v32_length, stH_length]; omega), v32_length, stH_length, show 8 + j - 8 = j by omega, List.getElem?_append_left (List.getElem?_eq_some_iff.1 hv).1]
  exact hv
theorem cS_num (t : List Nat) : (cS t)[72]? = some (.int .u64 (t.length : Int)) := by
  unfold cS
  rw [List.getElem?_append_right (by simp [stH_length]), List.getElem?_append_right (by simp [stH_length, stZ_length])]
  simp [stH_length, stZ_length]
theorem cS_keep {t x : List Nat} (h : t.length % 64 + x.length ≤ 64) : (splice (cS t) (8 + t.length % 64) (v8 x))[72]? = some (.int .u64 (t.length : Int)) := by
  rw [splice_right (by rw [cS_length, v8_length]; omega) (by rw [v8_length]; omega)]
  exact cS_num t
theorem cS_one (t : List Nat) : ∀ v ∈ cS t, v.oneCell' = true := fun v hv => by
  unfold cS at hv
  simp only [List.mem_append, List.mem_map, List.mem_cons, List.not_mem_nil, or_false] at hv
  rcases hv with ⟨_, _, rfl⟩ | ⟨_, _, rfl⟩ | rfl <;> rfl
end Sha
end Go.Proofs.YtpakdcgcgekcfaaDoor

/-
  Package sha: Feed.
-/
set_option linter.unusedSimpArgs false
set_option linter.unusedVariables false
namespace Go.Proofs.YtpakdcgcgekcfaaDoor
open Go.RowKit

namespace Sha
open Otp R1
/-- A state's cells where it is nothing yet. -/
def zS : List Value := List.replicate 8 (.int .u32 0) ++ (List.replicate 64 (.int .u8 0) ++ [.int .u64 0])
theorem st_info : (Tryd.prog.info? 175).map (·.size) = some 73 := by kernel_rfl
theorem u8_size : (Tryd.prog.info? 5).map (·.size) = some 1 := by kernel_rfl
def FeedOut (w : World) (t : List Nat) (e : Ending) (w' : World) : Prop := e = .returned (.agg (cS t).toArray) ∧ Below w.heap.size w w'
set_option maxRecDepth 100000 in
set_option maxHeartbeats 8000000 in
theorem feed_any (T0 p : List Nat) (A : Option Addr) (len cap : Nat) (w : World) (hT : STab w) (hb : ∀ x ∈ T0, x < 256) (hpl : p.length = len) (hm : T0.length + p.length ≤ 1000000) (hc : len ≤ cap) (hz : Nats .u8 256 w w.heap.size A p) :
    Calls Tryd.prog 122 #[.agg (cS T0).toArray, .slice A len cap] w (FeedOut w (T0 ++ p)) := by
  subst hpl
  have HT := wall hT
  have HBT := wall hb
  have HM := wall hm
  have HN := wall hz
  have HPB := wall (show ∀ x ∈ p, x < 256 from fun x hx => by
    obtain ⟨i, hi⟩ := List.mem_iff_getElem?.1 hx
    exact (hz i x hi).1)
  clear hT hb hm hz
  go_enter Tryd.func122, Tryd.ntmps122
  go_wp2_with fail
  go_loopg [1] p.length (fun g s1 wr => ∃ (q r : List Nat) (A' : Option Addr) (C : Nat), Wall (p = q ++ r) ∧ r.length = g ∧ s1 = .slice A' r.length C ∧ r.length ≤ C ∧ Wall (Nats .u8 256 wr w.heap.size A' r) ∧ Wall (Blk wr w.heap.size 175 (cS (T0 ++ q)).toArray) ∧ Wall (Blk wr (w.heap.size + 1) 175 zS.toArray) ∧ Wall (Below w.heap.size w wr))
  case atStart =>
    refine ⟨[], p, A, cap, wall rfl, rfl, rfl, hc, wall ?_, wall ?_, wall ?_, wall ?_⟩
    · exact HN.out.below (((Below.refl _ w).alloc (Nat.le_refl _) _).alloc (by simp) _)
    · rw [List.append_nil]
      exact (Blk.new w _ _).alloc _
    · exact blk_new' (by simp)
    · exact ((Below.refl _ w).alloc (Nat.le_refl _) _).alloc (by simp) _
  case round =>
    obtain ⟨q, r, A', C, HP, hg, rfl, hC, HR, K0, K1, HB⟩ := hrel
    obtain ⟨T, hT⟩ : ∃ T, T0 ++ q = T := ⟨_, rfl⟩
    rw [hT] at K0
    have HG := wall hg
    have hpq := HP.out
    have hlp : p.length = q.length + r.length := by rw [hpq, List.length_append]
    have hlT : T.length = T0.length + q.length := by rw [← hT, List.length_append]
    have hmT : T.length + r.length ≤ 1000000 := by have := HM.out; omega
    have HTB := wall (show ∀ x ∈ T, x < 256 from fun x hx => by
      rw [← hT] at hx
      rcases List.mem_append.1 hx with h | h
      · exact HBT.out x h
      · exact HPB.out x (by rw [hpq]; exact List.mem_append_left _ h))
    have HRB := wall (show ∀ x ∈ r, x < 256 from fun x hx => HPB.out x (by rw [hpq]; exact List.mem_append_right _ hx))
    have HTE := wall hT
    have HT1 := wall (HT.out.old HB.out)
    clear hpq hT hg
    by_cases h0 : 0 < r.length
    · obtain ⟨n, hn⟩ : ∃ n, T.length = n := ⟨_, rfl⟩
      obtain ⟨a0, ha0⟩ : ∃ a, n % 64 = a := ⟨_, rfl⟩
      obtain ⟨k, hk⟩ : ∃ k, Nat.min r.length (64 - a0) = k := ⟨_, rfl⟩
      have ha64 : a0 < 64 := by rw [← ha0]; exact Nat.mod_lt _ (by decide)
      have hkr : k ≤ r.length := by rw [← hk]; exact Nat.min_le_left _ _
      have hka : a0 + k ≤ 64 := by have : k ≤ 64 - a0 := by rw [← hk]; exact Nat.min_le_right _ _
                                   omega
      have hk0 : 0 < k := by rw [← hk]; exact Nat.lt_min.2 ⟨h0, by omega⟩
      obtain ⟨x, hx⟩ : ∃ x, r.take k = x := ⟨_, rfl⟩
      have hxl : x.length = k := by rw [← hx, List.length_take]; omega
      have HXL := wall hxl
      have HA := wall (show T.length % 64 + x.length ≤ 64 by rw [hn, ha0, hxl]; exact hka)
      have hadr : ∃ b off, A' = some ⟨b, off, none⟩ := by
        obtain ⟨z, hz⟩ : ∃ z, r[0]? = some z := ⟨_, List.getElem?_eq_getElem h0⟩
        obtain ⟨_, b, off, h, _⟩ := HR.out 0 z hz
        exact ⟨b, off, h⟩
      obtain ⟨rb, ro, rfl⟩ := hadr
      have hcn : wr.cell? ⟨w.heap.size, 72, none⟩ = some (.int .u64 (n : Int)) := by
        rw [K0.out.cell]
        have := cS_num T
        rw [hn] at this
        simpa using this
      have hrem : (n : Int) % 64 = (a0 : Int) := by rw [← ha0]; simp
      have hsl1 := run_slice_arr_lo (P := Tryd.prog) 173 5 64 Tryd.underlying173 (fun _ => by kernel_rfl) w.heap.size 8 a0 .i64 (a0 : Int) rfl ha64
      have hsl2 := run_slice_l1 (P := Tryd.prog) 53 5 Tryd.underlying53 (fun _ => by kernel_rfl) (some ⟨rb, ro, none⟩) r.length C k .i64 (k : Int) rfl hkr
      have HR2 := wall (show Nats .u8 256 wr w.heap.size (slA (some ⟨rb, ro, none⟩) k C) (r.drop k) from nats_slA HR.out hC)
      generalize slA (some ⟨rb, ro, none⟩) k C = A2 at *
      have HSRC := wall (show ∀ j (v : Value), (v8 x)[j]? = some v → wr.cell? ((⟨rb, ro, none⟩ : Addr).add j) = some v from fun j v hv => by
        rw [← hx, v8, List.map_take, List.getElem?_take] at hv
        split at hv
        · obtain ⟨ad, h, hc⟩ := nats_src HR.out j v hv
          cases h
          exact hc
        · cases hv)
      have HMIN := wall hk.symm
      have HX := wall hx
      have HNL := wall hn
      have hfr : wr.frozen? ⟨w.heap.size, 72, none⟩ = false := K0.out.frozen 72
      have HCP := wall (cS_copy HA.out)
      have HV8 := wall (show (v8 x).length = k by rw [v8_length]; exact hxl)
      have HFIT := wall (show 8 + a0 + k ≤ (cS T).length by rw [cS_length]; omega)
      have HONE := wall (show ∀ v ∈ v8 x, v.oneCell' = true from fun v hv => by
        obtain ⟨_, _, rfl⟩ := List.mem_map.1 hv
        rfl)
      have hnk : n + k ≤ 1000000 := by omega
      clear hk hx hn hxl hlp hlT hmT
      go_upto_region 4 with (refine wpList_copy_frm rfl (.tmp 16) (.tmp 17) 53 53 rfl 5 Tryd.underlying53 u8_size _ _ (64 - a0) (64 - a0) r.length C rfl rfl w.heap.size (8 + a0) 175 (cS T) K0.out (v8 x) k HV8.out HMIN.out (fun _ => ⟨rfl, _, rfl, HSRC.out⟩) HFIT.out HONE.out ?_; intro w4 hK4 hF4)
      have hcn4 : w4.cell? ⟨w.heap.size, 72, none⟩ = some (.int .u64 (n : Int)) := by
        rw [hK4.cell]
        have := cS_keep HA.out
        rw [HNL.out, ha0] at this
        simpa using this
      have hfr4 : w4.frozen? ⟨w.heap.size, 72, none⟩ = false := hK4.frozen 72
      have hsz4 : w.heap.size < w4.heap.size := hK4.lt
      have K5 := wall (show Blk (w4.setCell ⟨w.heap.size, 72, none⟩ (.int .u64 ((n : Int) + (k : Int)))) w.heap.size 175 (cM T x).toArray by
        have h := hK4.set 72 (.int .u64 ((n : Int) + (k : Int)))
        have hc := HCP.out
        rw [HNL.out, ha0, HXL.out, Int.natCast_add] at hc
        simp only [List.setIfInBounds_toArray] at h
        rw [hc] at h
        exact h)
      have F5 := wall (show Frm [w.heap.size] wr (w4.setCell ⟨w.heap.size, 72, none⟩ (.int .u64 ((n : Int) + (k : Int)))) from hF4.setCell (p := ⟨w.heap.size, 72, none⟩) (.inl (by simp)) _)
      clear hK4 hF4 K0 hcn hfr HSRC HR HV8 HFIT HONE HMIN
      go_upto_region 5 with fail
      generalize w4.setCell ⟨w.heap.size, 72, none⟩ (.int .u64 ((n : Int) + (k : Int))) = w5 at *
      clear hcn4 hfr4 hsz4
      replace HR2 := wall (HR2.out.frm F5.out HB.out.size (by simp))
      replace K1 := wall (K1.out.frm F5.out (by simp))
      replace HT1 := wall (HT.out.old (Below.frm HB.out F5.out (Nat.le_refl _) (by simp)))
      replace HB := wall (Below.frm HB.out F5.out (Nat.le_refl _) (by simp))
      clear F5
      have HP2 := wall (show p = (q ++ x) ++ r.drop k by rw [HP.out, ← HX.out, List.append_assoc, List.take_append_drop])
      have HTX := wall (show T0 ++ (q ++ x) = T ++ x by rw [← List.append_assoc, HTE.out])
      by_cases h64 : a0 + k = 64
      · have hq : ((a0 : Int) + (k : Int) == 64) = true := by simp; omega
        have HF := wall (show T.length % 64 + x.length = 64 by rw [HNL.out, ha0, HXL.out]; exact h64)
        obtain ⟨bl, hbl⟩ : ∃ b, stR T ++ x = b := ⟨_, rfl⟩
        obtain ⟨hh, hhh⟩ : ∃ b, stH T = b := ⟨_, rfl⟩
        obtain ⟨ps, hps⟩ : ∃ b, press hh bl = b := ⟨_, rfl⟩
        have HBL := wall (show bl.length = 64 by rw [← hbl, List.length_append, stR_length]; exact HF.out)
        have HHL := wall (show hh.length = 8 by rw [← hhh]; exact stH_length T)
        have HPL := wall (show ps.length = 8 by rw [← hps]; exact press_length _ HHL.out)
        have HBB := wall (show ∀ y ∈ bl, y < 256 from fun y hy => by
          rw [← hbl] at hy
          rcases List.mem_append.1 hy with h | h
          · exact stR_byte HTB.out y h
          · rw [← HX.out] at h
            exact HRB.out y (List.mem_of_mem_take h))
        have HHW := wall (show ∀ y ∈ hh, y < 4294967296 by rw [← hhh]; exact stH_word T)
        have HRW := wall (show w5.rangeAt w.heap.size 0 (c32 hh).toList from K5.out.rangeAt 0 _ (fun j v hv => by
          rw [Nat.zero_add]
          exact cM_words j v (by rw [hhh]; simpa [c32, v32] using hv)))
        have HRBY := wall (show w5.rangeAt w.heap.size 8 (b8 bl).toList from K5.out.rangeAt 8 _ (fun j v hv => cM_bytes HF.out j v (by rw [hbl]; simpa [b8, v8] using hv)))
        have HSW := wall (show (Tryd.prog.info? 118).map (·.size) = some (c32 hh).size by rw [c32_size, HHL.out]; exact h_info)
        have HSW2 := wall (show (Tryd.prog.info? 118).map (·.size) = some (c32 ps).size by rw [c32_size, HPL.out]; exact h_info)
        have HSB := wall (show (Tryd.prog.info? 173).map (·.size) = some (b8 bl).size by rw [b8_size, HBL.out]; exact blk64_info)
        have HSB2 := wall (show (Tryd.prog.info? 173).map (·.size) = some (b8 (List.replicate 64 0)).size by rw [b8_size]; exact blk64_info)
        have HCE := wall (show splice (splice (cM T x) 0 (c32 ps).toList) 8 (b8 (List.replicate 64 0)).toList = cS (T ++ x) by
          have := cM_press HF.out
          rw [hhh, hbl, hps] at this
          exact this)
        have HO1 := wall (c32_one ps)
        have HO2 := wall (b8_one (List.replicate 64 0))
        have HPR := wall (press_any hh bl w5 HT1.out HHL.out HHW.out HBL.out HBB.out)
        rw [hps] at HPR
        have HFT := wall (show 0 + (c32 ps).size ≤ (cM T x).length by rw [cM_length HA.out, c32_size, HPL.out]; decide)
        have HFT2 := wall (show 8 + (b8 (List.replicate 64 0)).size ≤ (splice (cM T x) 0 (c32 ps).toList).length by
          rw [length_splice _ _ _ (by rw [cM_length HA.out, Array.length_toList, c32_size, HPL.out]; decide), cM_length HA.out, b8_size]
          decide)
        clear hbl hhh hps
        go_wp2_with (first | refine wpList_load_arr rfl 118 (.tmp 32) rfl w.heap.size 0 rfl (c32 hh) _ HRW.out Tryd.underlying118 rfl HSW.out ?_ | refine wpList_load_arr rfl 173 (.tmp 34) rfl w.heap.size 8 rfl (b8 bl) _ HRBY.out Tryd.underlying173 rfl HSB.out ?_)
        (with_reducible refine HPR.out.mono ?_); rintro e w6 ⟨rfl, hB6⟩
        have K6 := wall (K5.out.next hB6 rfl)
        have K16 := wall (K1.out.next hB6 rfl)
        have HR6 := wall (HR2.out.below (hB6.mono HB.out.size))
        have HB6 := wall (below_then HB.out hB6 (Nat.le_refl _))
        clear hB6 K5 K1 HR2 HB
        go_wp2_with (first | (refine wpList_store_frm rfl 118 (.tmp 38) (.tmp 36) rfl w.heap.size 0 (c32 ps) rfl rfl 175 (cM T x) K6.out HFT.out HSW2.out HO1.out ?_; intro w7 K7 F7) | (refine wpList_store_frm rfl 173 (.tmp 39) (.tmp 37) rfl w.heap.size 8 (b8 (List.replicate 64 0)) rfl rfl 175 _ K7 HFT2.out HSB2.out HO2.out ?_; intro w8 K8 F8))
        have F := F7.trans F8
        rw [HCE.out] at K8
        go_light
        go_roundg (r.length - k)
        case measure => have := HG.out; omega
        case rel =>
          refine ⟨q ++ x, r.drop k, A2, C - k, HP2, List.length_drop, by rw [List.length_drop], by rw [List.length_drop]; omega, wall ?_, wall ?_, wall ?_, wall ?_⟩
          · exact HR6.out.frm F HB6.out.size (by simp)
          · rw [HTX.out]; exact K8
          · exact K16.out.frm F (by simp)
          · exact Below.frm HB6.out F (Nat.le_refl _) (by simp)
      · have hq : ((a0 : Int) + (k : Int) == 64) = false := by simp; omega
        rw [cM_same (t := T) (x := x) (by rw [HNL.out, ha0, HXL.out]; omega)] at K5
        go_wp2_with fail
        go_light
        go_roundg (r.length - k)
        case measure => have := HG.out; omega
        case rel => exact ⟨q ++ x, r.drop k, A2, C - k, HP2, List.length_drop, by rw [List.length_drop], by rw [List.length_drop]; omega, HR2, by rw [HTX.out]; exact K5, K1, HB⟩
    · have hr0 : r = [] := List.eq_nil_of_length_eq_zero (by omega)
      subst hr0
      have HTP := wall (show T0 ++ p = T by rw [HP.out, List.append_nil]; exact HTE.out)
      have HSS := wall (show (Tryd.prog.info? 175).map (·.size) = some (cS T).toArray.size by rw [List.size_toArray, cS_length]; exact st_info)
      have HZZ := wall (show zS.toArray.size = (cS T).toArray.size by rw [List.size_toArray, List.size_toArray, cS_length]; rfl)
      have HOO := wall (all_oneCell_toArray (cS_one T))
      clear HR HP HG
      go_wp2_with (first | refine wpList_load_row rfl 175 _ rfl w.heap.size rfl 175 (cS T).toArray (0, 0) _ K0.out Tryd.underlying175 rfl HSS.out ?_ | refine wpList_store_row rfl 175 (.tmp 4) _ rfl (w.heap.size + 1) (cS T).toArray rfl rfl 175 zS.toArray K1.out HSS.out HZZ.out HOO.out ?_)
      have hb := setRow_heap _ _ _ (cS T).toArray _ _ K1.out
      have hB := below_setRow HB.out (show w.heap.size ≤ w.heap.size + 1 by omega) (cS T).toArray
      go_light
      exact bodyPost_ret (v := .agg (cS T).toArray) (results_cell_row Tryd.results122 _ _ (w.heap.size + 1) 175 (cS T).toArray (0, 0) _ rfl hb Tryd.underlying175 rfl HSS.out) rfl ⟨by rw [HTP.out], hB⟩
end Sha
end Go.Proofs.YtpakdcgcgekcfaaDoor

/-
  Package sha: New, Pad.
-/
set_option linter.unusedSimpArgs false
set_option linter.unusedVariables false
namespace Go.Proofs.YtpakdcgcgekcfaaDoor
open Go.RowKit

namespace Sha
open Otp R1
set_option maxRecDepth 100000 in
set_option maxHeartbeats 1000000 in
theorem new_any (w : World) (hT : STab w) : Calls Tryd.prog 121 #[] w (FeedOut w []) := by
  have hlt := hT.lth
  have HR := wall (show (w.alloc (.cells zS.toArray 175)).rangeAt 2 0 (c32 rH).toList from (hT.old ((Below.refl _ w).alloc (Nat.le_refl _) _)).h)
  go_enter Tryd.func121, Tryd.ntmps121
  have h8 : (c32 rH).size = 8 := rfl
  have HZ : Blk (w.alloc (.cells Tryd.zeroCells175 175)) w.heap.size 175 Tryd.zeroCells175 := Blk.new _ _ _
  have HZ := wall HZ
  go_wp2_with (first | refine wpList_load_arr rfl 118 (.global 2) rfl 2 0 rfl (c32 rH) _ HR.out Tryd.underlying118 rfl h_info ?_ | refine wpList_store_row rfl 175 (.tmp 0) (.tmp 2) rfl w.heap.size (cS []).toArray rfl (by kernel_rfl) 175 _ HZ.out (by kernel_rfl) (by kernel_rfl) (all_oneCell_toArray (cS_one [])) ?_)
  have hb := setRow_heap _ _ _ (cS []).toArray _ _ HZ.out
  have hB := below_setRow ((Below.refl _ w).alloc (Nat.le_refl _) (.cells Tryd.zeroCells175 175)) (Nat.le_refl _) (cS []).toArray
  go_light
  exact bodyPost_ret (v := .agg (cS []).toArray) (results_cell_row Tryd.results121 _ _ w.heap.size 175 (cS []).toArray (0, 0) _ rfl hb Tryd.underlying175 rfl (by kernel_rfl)) rfl ⟨rfl, hB⟩
theorem own_one (w : World) (x : Nat) : OwnB (w.alloc (.cells #[.int .u8 (x : Int)] 5)) w.heap.size (.slice (some ⟨w.heap.size, 0, none⟩) 1 1) [x] :=
  ⟨by simp, .inr ⟨w.heap.size, 1, _, rfl, Nat.le_refl _, Blk.new _ _ _, Nat.le_refl _, by decide, rfl, rfl⟩⟩
theorem numB_shift (n j : Nat) (h : j < 8) : (numB n 8)[j]? = some (n / 2 ^ (56 - 8 * j) % 256) := by
  rw [numB_at n 8 j h, show 256 = 2 ^ 8 from rfl, ← Nat.pow_mul, show 8 * (8 - 1 - j) = 56 - 8 * j by omega]
set_option maxRecDepth 100000 in
set_option maxHeartbeats 4000000 in
theorem pad_any (n : Nat) (w : World) (hn : n ≤ 1000000) : Calls Tryd.prog 135 #[.int .u64 (n : Int)] w (BytesOut w (padB n)) := by
  obtain ⟨i0, hi0, hz0, hz1, hz2⟩ := info_row u8_info
  have HI := wall hi0
  have HI1 := wall hz0
  have HI2 := wall hz1
  have HI3 := wall hz2
  obtain ⟨m, hm⟩ : ∃ m, (119 - n % 64) % 64 = m := ⟨_, rfl⟩
  have hm64 : m < 64 := by rw [← hm]; exact Nat.mod_lt _ (by decide)
  have HPB := wall (show padB n = ([128] ++ List.replicate m 0) ++ (numB (8 * n) 8) by unfold padB; rw [hm]; rfl)
  have HM := wall hm
  clear hi0 hz0 hz1 hz2 hm
  have HO1 := wall (own_one w 128)
  go_enter Tryd.func135, Tryd.ntmps135
  go_upto_region 2 with fail
  generalize hW : w.alloc (.cells #[.int .u8 128] 5) = W
  have HW : Wall (OwnB W w.heap.size (.slice (some ⟨w.heap.size, 0, none⟩) 1 1) [128]) := wall (by rw [← hW]; exact HO1.out)
  have HB := wall (show Below w.heap.size w W by rw [← hW]; exact (Below.refl _ w).alloc (Nat.le_refl _) _)
  clear hW HO1
  go_upto_region 3 with (at_builtin; refine wpList_append_zeros rfl (.tmp 6) (.tmp 10) 53 144 rfl w.heap.size 5 i0 (.int .u8 0) .u64 .u64 1 Tryd.underlying53 Tryd.underlying144 HI.out HI1.out HI2.out HI3.out rfl rfl _ 1 _ rfl HW.out (by decide) _ m rfl ?c1 (by omega) (by simp only [maxLen]; omega) (by omega) HB.out.size ?_)
  case c1 => have := HM.out; omega
  intro v2 w2 hO2 hg2 _
  have HO := wall (show OwnB w2 w.heap.size v2 ([128] ++ List.replicate m 0) from by
    have e : (([128] ++ List.replicate m 0).map fun x => Value.int .u8 ((x : Nat) : Int)) = Value.int .u8 128 :: List.replicate m (.int .u8 0) := by simp
    unfold OwnB
    have el : (([128] : List Nat) ++ List.replicate m 0).length = 1 + m := by simp; omega
    rw [e, el]
    exact hO2)
  have HB2 := wall (HB.out.grown hg2 HB.out.size (fun k hk => (World.ownsRow.lt HW.out k hk).1))
  clear hO2 hg2 HB HW
  obtain ⟨B0, hB0⟩ : ∃ B, [128] ++ List.replicate m 0 = B := ⟨_, rfl⟩
  rw [hB0] at HO HPB
  have HBL := wall (show B0.length = 1 + m by rw [← hB0]; simp; omega)
  clear hB0 HM
  go_wp2_with fail
  go_loopg [3, 4] 8 (fun g s3 s4 wr => ∃ (j : Nat) (z : Int), j + g = 8 ∧ Wall (z = 56 - 8 * (j : Int)) ∧ -8 ≤ z ∧ z ≤ 56 ∧ s4 = .int .i64 z ∧ Wall (OwnB wr w.heap.size s3 (B0 ++ (numB (8 * n) 8).take j)) ∧ Wall (Below w.heap.size w wr))
  case atStart => exact ⟨0, 56, by omega, wall rfl, by decide, by decide, rfl, wall (by rw [List.take_zero, List.append_nil]; exact HO.out), HB2⟩
  case round =>
    clear HO HB2
    obtain ⟨j, z, hg, HZ, hz1, hz2, rfl, HO, HB⟩ := hrel
    have HG := wall hg
    have hj : j ≤ 8 := by omega
    have hwl : w.heap.size ≤ wr.heap.size := HB.out.size
    clear hg
    by_cases hlt : j < 8
    · have h0z : 0 ≤ z := by have := HZ.out; omega
      obtain ⟨s, hs⟩ : ∃ s, 56 - 8 * j = s := ⟨_, rfl⟩
      have hzs : z.toNat = s := by have := HZ.out; omega
      have hx := numB_shift (8 * n) j hlt
      rw [hs] at hx
      obtain ⟨x, hxe⟩ : ∃ x, 8 * n / 2 ^ s % 256 = x := ⟨_, rfl⟩
      rw [hxe] at hx
      have hxi : ((n : Int) * 8 / 2 ^ s) % 256 = (x : Int) := by rw [← hxe]; simp [Int.mul_comm]
      have HT := wall (take_snoc hx)
      have HLEN := wall (show (B0 ++ (numB (8 * n) 8).take j).length = 1 + m + j by rw [List.length_append, HBL.out, List.length_take, numB_length]; omega)
      clear hs hx hxe
      go_wp2_with (at_builtin; refine wpList_append_own _ rfl (.tmp 16) (.tmp 22) 53 rfl w.heap.size 5 i0 (.int .u8 0) 1 1 Tryd.underlying53 HI.out HI1.out HI2.out HI3.out rfl (by decide) _ _ _ rfl (HO.out.alloc _) ⟨wr.heap.size, 0, none⟩ 1 1 [.int .u8 (x : Int)] rfl rfl ?c1 ?c2 ?c3 ?c4 ?c5 ?_)
      case c1 =>
        have h1 := cell_one_new wr (.int .u8 (x : Int)) 5
        simpa using h1
      case c2 => intro u hu; simp at hu; subst hu; rfl
      case c3 => rw [HLEN.out]; simp only [maxLen]; omega
      case c4 => rw [HLEN.out]; omega
      case c5 => simp; omega
      intro v1 w1 hO1 hg1 _
      have HB1 := wall ((HB.out.alloc hwl (.cells #[.int .u8 (x : Int)] 5)).grown hg1 (by simp; omega) (fun k hk => (World.ownsRow.lt HO.out k hk).1))
      have HO1 := wall hO1
      clear hO1 hg1
      go_wp2_with fail
      go_light
      go_roundg (8 - (j + 1))
      case measure => have := HG.out; omega
      case rel =>
        refine ⟨j + 1, _, by omega, wall ?_, ?_, ?_, rfl, wall ?_, HB1⟩
        · have := HZ.out; omega
        · omega
        · omega
        · have h2 := HO1.out
          unfold OwnB
          rw [HT.out]
          simpa [List.map_take, List.map_append, List.append_assoc, Nat.add_assoc] using h2
    · have hj8 : j = 8 := by omega
      have hz8 : z = -8 := by have := HZ.out; omega
      subst hz8
      have HT := wall (show B0 ++ (numB (8 * n) 8).take j = padB n by rw [HPB.out, List.take_of_length_le (by rw [numB_length]; omega)])
      clear hj8
      go_wp2_with fail
      go_light
      go_ret
      have hOO := HO.out
      rw [HT.out] at hOO
      exact ⟨_, rfl, hOO, HB.out⟩
end Sha
end Go.Proofs.YtpakdcgcgekcfaaDoor

/-
  The reference's Sum of a text (curtilageref01).
-/
set_option linter.unusedSimpArgs false
set_option linter.unusedVariables false
namespace Go.Proofs.YtpakdcgcgekcfaaDoor
open Go.RowKit

namespace Sha
open Otp R1
theorem b8_set (l : List Nat) (i y : Nat) : (b8 l).setIfInBounds i (.int .u8 (y : Int)) = b8 (l.set i y) := by
  unfold b8
  rw [List.map_set]
  simp
set_option maxRecDepth 100000 in
set_option maxHeartbeats 8000000 in
theorem rsum_any (A : Option Addr) (len cap : Nat) (l : List Nat) (w : World) (hl : l.length = len) (hm : len ≤ 900000) (hz : Nats .u8 256 w w.heap.size A l) :
    Calls Tryd.prog 86 #[.slice A len cap] w (fun e w' => e = .returned (.agg (b8 (sumB l))) ∧ Below w.heap.size w w') := by
  obtain ⟨i0, hi0, hz0, hz1, hz2⟩ := info_row u8_info
  have HI := wall hi0
  have HI1 := wall hz0
  have HI2 := wall hz1
  have HI3 := wall hz2
  obtain ⟨m, hmm⟩ : ∃ m, (119 - len % 64) % 64 = m := ⟨_, rfl⟩
  have hm64 : m < 64 := by rw [← hmm]; exact Nat.mod_lt _ (by decide)
  obtain ⟨T, hT⟩ : ∃ T, l ++ padB len = T := ⟨_, rfl⟩
  obtain ⟨hs, hhs⟩ : ∃ h, stH T = h := ⟨_, rfl⟩
  have HPB := wall (show (l ++ [128] ++ List.replicate m 0) ++ numB (8 * len) 8 = T by rw [← hT]; unfold padB; rw [hmm]; simp)
  have HTL := wall (show T.length = len + 9 + m by rw [← HPB.out]; simp [numB_length, hl]; omega)
  have HLB := wall (show ∀ x ∈ l, x < 256 from fun x hx => by
    obtain ⟨i, hi⟩ := List.mem_iff_getElem?.1 hx
    exact (hz i x hi).1)
  have HTB := wall (show ∀ x ∈ T, x < 256 by
    rw [← hT]
    intro x hx
    rcases List.mem_append.1 hx with h | h
    · exact HLB.out x h
    · exact padB_byte _ x h)
  have HSB := wall (show sumB l = wordsB hs by rw [← hhs, ← hT, ← hl]; rfl)
  have HHL := wall (show hs.length = 8 by rw [← hhs]; exact stH_length T)
  have HHW := wall (show ∀ x ∈ hs, x < 4294967296 by rw [← hhs]; exact stH_word T)
  have HHS := wall hhs
  have HCUT := wall (fun W (h : Nats .u8 256 W W.heap.size A l) => cut_any A len cap l (len : Int) len W hl (by simp only [maxLen]; omega) rfl (by omega) h)
  rw [List.take_of_length_le (by omega)] at HCUT
  have HL := wall hl
  have HM := wall hmm
  have HN := wall hz
  clear hi0 hz0 hz1 hz2 hmm hT hhs hl hz
  go_enter Tryd.func86, Tryd.ntmps86
  obtain ⟨W1, hW1⟩ : ∃ W, W = w.alloc (.cells (b8 (List.replicate 32 0)) 23) := ⟨_, rfl⟩
  have K0 := wall (show Blk W1 w.heap.size 23 (b8 (List.replicate 32 0)) by rw [hW1]; exact Blk.new _ _ _)
  have HB := wall (show Below w.heap.size w W1 by rw [hW1]; exact (Below.refl _ w).alloc (Nat.le_refl _) _)
  have HW1 := wall hW1
  clear hW1
  go_upto_region 1 with fail
  change Code.wp _ _ _ _ (w.alloc (.cells (b8 (List.replicate 32 0)) 23))
  rw [← HW1.out]
  clear HW1
  go_wp2_with fail
  (with_reducible refine (HCUT.out _ ((HN.out.below HB.out).more HB.out.size)).mono ?_); rintro e w2 ⟨v2, rfl, hO2, hB2⟩
  have K2 := wall (K0.out.next hB2 rfl)
  have HB2 := wall (below_then HB.out hB2 (Nat.le_refl _))
  have hW1s := K0.out.lt
  have HO2 : Wall (OwnB w2 (w.heap.size + 1) v2 l) := wall ⟨hO2.1, hO2.2.imp id (fun ⟨g, c, u, h1, h2, h3⟩ => ⟨g, c, u, h1, by omega, h3⟩)⟩
  have h2s : w.heap.size + 1 ≤ w2.heap.size := K2.out.lt
  clear hO2 hB2 K0 HB HCUT HN
  go_upto_region 3 with (at_builtin; refine wpList_append_byte rfl (.tmp 17) (.tmp 18) rfl (w.heap.size + 1) _ l rfl HO2.out 128 rfl (by have := HL.out; omega) h2s ?_)
  intro v3 w3 hO3 hB3
  have HO3 := wall hO3
  have K3 := wall (K2.out.below hB3 (Nat.lt_succ_self _))
  have HB3 := wall (HB2.out.trans (hB3.mono (Nat.le_succ _)))
  clear hO3 hB3 K2 HB2 HO2
  go_wp2_with fail
  go_loopg [0] m (fun g s0 wr => ∃ j : Nat, j + g = m ∧ Wall (OwnB wr (w.heap.size + 1) s0 (l ++ [128] ++ List.replicate j 0)) ∧ Wall (Blk wr w.heap.size 23 (b8 (List.replicate 32 0))) ∧ Wall (Below w.heap.size w wr))
  case atStart => exact ⟨0, by omega, wall (by rw [List.replicate_zero, List.append_nil]; exact HO3.out), K3, HB3⟩
  case round =>
    clear HO3 K3 HB3
    obtain ⟨j, hg, HO, K, HB⟩ := hrel
    have HG := wall hg
    have hj : j ≤ m := by omega
    clear hg
    obtain ⟨cur, hcur⟩ : ∃ c, l ++ [128] ++ List.replicate j 0 = c := ⟨_, rfl⟩
    have HCL := wall (show cur.length = len + 1 + j by rw [← hcur]; simp [HL.out]; omega)
    have HCB := wall (show ∀ x ∈ cur, x < 256 by
      rw [← hcur]
      intro x hx
      simp only [List.mem_append, List.mem_cons, List.not_mem_nil, or_false, List.mem_replicate] at hx
      rcases hx with (h | h) | h
      · exact HLB.out x h
      · omega
      · omega)
    have HCU := wall hcur
    rw [hcur] at HO
    clear hcur
    obtain ⟨A2, c2, rfl, hc2, HN2, _⟩ := own_nats HO.out HCB.out
    replace HN2 := wall HN2
    have hcl : cur.length = len + 1 + j := HCL.out
    rw [hcl] at HO hc2 ⊢
    have hwl := K.out.lt
    clear hcl
    by_cases hlt : j < m
    · have hne : (((len : Int) + 1 + (j : Int)) % 64 != 56) = true := by
        have := HM.out
        rw [bne_iff_ne]
        omega
      go_wp2_with (at_builtin; refine wpList_append_byte rfl (.tmp 24) (.tmp 25) rfl (w.heap.size + 1) _ cur rfl HO.out 0 rfl (by have := HCL.out; omega) hwl ?_)
      intro v4 w4 hO4 hB4
      have HO4 := wall hO4
      have K4 := wall (K.out.below hB4 (Nat.lt_succ_self _))
      have HB4 := wall (HB.out.trans (hB4.mono (Nat.le_succ _)))
      clear hO4 hB4 K HB HO
      go_wp2_with fail
      go_light
      go_roundg (m - (j + 1))
      case measure => have := HG.out; omega
      case rel =>
        refine ⟨j + 1, by omega, wall ?_, K4, HB4⟩
        rw [List.replicate_succ', ← List.append_assoc, HCU.out]
        exact HO4.out
    · have hjm : j = m := by omega
      subst hjm
      have hne : (((len : Int) + 1 + (j : Int)) % 64 != 56) = false := by
        have := HM.out
        rw [bne_eq_false_iff_eq]
        omega
      have hn8 : (len : Int) ≤ 900000 := by omega
      have HNU := wall (fun W => num_any (8 * (len : Int)) 8 (8 * len) 8 W rfl (by simp) (by omega) (by decide))
      have HNB := wall (numB_byte (8 * len) 8)
      have HNL := wall (numB_length (8 * len) 8)
      obtain ⟨nb, hnb⟩ : ∃ x, numB (8 * len) 8 = x := ⟨_, rfl⟩
      rw [HCU.out] at HPB
      rw [hnb] at HNU HNB HNL HPB
      clear hnb
      obtain ⟨gO, rfl⟩ : ∃ q : Nat, q = gk := ⟨_, rfl⟩
      obtain ⟨wO, rfl⟩ : ∃ q : World, q = wr := ⟨_, rfl⟩
      go_wp2_with fail
      (with_reducible refine (HNU.out _).mono ?_); rintro e w5 ⟨v5, rfl, hO5, hB5⟩
      obtain ⟨A5, c5, rfl, hc5, hN5, _⟩ := own_nats hO5 HNB.out
      have HNI5 := wall (own_nil hO5)
      have HN5 := wall hN5
      rw [HNL.out]
      have K5 := wall (K.out.next hB5 rfl)
      have HB5 := wall (below_then HB.out hB5 (Nat.le_refl _))
      have HO5 := wall (own_frm HO.out (Frm.of_below (S := []) hB5) (by simp))
      have h5s : w.heap.size + 1 ≤ w5.heap.size := K5.out.lt
      clear hO5 hN5 hB5 K HB HO HNU hc5
      go_wp2_with (at_builtin; refine wpList_append_bytes rfl (.tmp 27) (.tmp 30) rfl (w.heap.size + 1) _ cur rfl HO5.out A5 8 c5 nb rfl HNL.out ⟨_, HN5.out⟩ HNI5.out (by have := HCL.out; omega) h5s ?_)
      intro v6 w6 hO6 hB6
      rw [HPB.out] at hO6
      obtain ⟨A6, c6, rfl, hc6, hN6, _⟩ := own_nats hO6 HTB.out
      have HN6 := wall hN6
      have K6 := wall (K5.out.below hB6 (Nat.lt_succ_self _))
      have HB6 := wall (HB5.out.trans (hB6.mono (Nat.le_succ _)))
      have hTl : T.length = len + 9 + j := HTL.out
      rw [hTl] at hc6 hO6 ⊢
      clear hO6 hN6 hB6 K5 HB5 HO5 HN5 HNI5 hTl
      have HSR := wall (show (Tryd.prog.info? 118).map (·.size) = some (c32 rH).size from h_info)
      have h6s : w.heap.size + 1 ≤ w6.heap.size := K6.out.lt
      go_upto_region 7 with (refine wpList_new_row rfl 118 (.tmp 4) (.tmp 32) rfl w6.heap.size (c32 rH) rfl rfl 118 (c32 (List.replicate 8 0)) (Blk.new _ _ _) HSR.out rfl (c32_one rH) w6.heap.size w6 ((Below.refl _ w6).alloc (Nat.le_refl _) _) (Nat.le_refl _) ?_; intro w7 K7 hB7)
      replace K7 := wall K7.out
      have KD := wall (K6.out.next hB7 rfl)
      have HB7 := wall (below_then HB6.out hB7 (Nat.le_refl _))
      have HN7 := wall (nats_step HN6.out hB7)
      have hg6 : ∀ ad, A6 = some ad → ad.block < w6.heap.size := fun ad h => by
        obtain ⟨z, hz⟩ : ∃ z, T[0]? = some z := ⟨_, List.getElem?_eq_getElem (by have := HTL.out; omega)⟩
        obtain ⟨_, b, off, h1, h2, _⟩ := HN6.out 0 z hz
        rw [h] at h1
        cases h1
        exact h2
      have HN7' := wall (show Nats .u8 256 w7 w6.heap.size A6 T from HN6.out.below hB7)
      clear hB7 K6 HB6 HN6 HSR HN7 hg6
      generalize w6.heap.size = g6 at *
      obtain ⟨L, hLe⟩ : ∃ L, len + 9 + j = L := ⟨_, rfl⟩
      have HLL := wall (show T.length = L by rw [HTL.out]; exact hLe)
      have HL64 := wall (show L % 64 = 0 by have := HM.out; omega)
      have hL9 : L ≤ 1000000 := by omega
      rw [hLe] at hc6 ⊢
      clear HTL hLe HM hne HPB HNL HNB HCL HCB HCU HN2
      obtain ⟨gP, rfl⟩ : ∃ q : Nat, q = gO := ⟨_, rfl⟩
      go_wp2_with fail
      go_loopg [5] L (fun g s5 wr => ∃ (k : Nat) (z : Int), 64 * k + g = L ∧ Wall (z = 64 * (k : Int)) ∧ 0 ≤ z ∧ z ≤ (L : Int) ∧ s5 = .int .i64 z ∧ Wall (Blk wr w.heap.size 23 (b8 (List.replicate 32 0))) ∧ Wall (Blk wr g6 118 (c32 (hb T k))) ∧ Wall (Nats .u8 256 wr g6 A6 T) ∧ Wall (Below w.heap.size w wr))
      case atStart => exact ⟨0, 0, by omega, wall rfl, by decide, by omega, rfl, KD, K7, HN7', HB7⟩
      case round =>
        clear KD K7 HN7' HB7
        obtain ⟨k, z, hg, HZ, hz0, hzL, rfl, KD, K7, HN, HB⟩ := hrel
        have HG := wall hg
        have hk : 64 * k ≤ L := by omega
        clear hg
        by_cases hlt : 64 * k < L
        · have hk2 : 64 * k + 64 ≤ L := by have := HL64.out; omega
          have hzl : z < (L : Int) := by have := HZ.out; omega
          have hsl := run_slice_lh1 (P := Tryd.prog) 53 5 Tryd.underlying53 (fun _ => by kernel_rfl) A6 L c6 (64 * k) (64 * k + 64) .i64 .i64 z (z + 64) (by have := HZ.out; omega) (by have := HZ.out; omega) (by omega) (by omega)
          rw [show 64 * k + 64 - 64 * k = 64 by omega] at hsl
          have HNS := wall (show Nats .u8 256 wr g6 (slA A6 (64 * k) c6) ((T.drop (64 * k)).take 64) from nats_take (nats_slA HN.out (by rw [HLL.out]; exact hc6)) 64)
          have HBL := wall (show ((T.drop (64 * k)).take 64).length = 64 by rw [List.length_take, List.length_drop, HLL.out]; omega)
          generalize slA A6 (64 * k) c6 = A8 at *
          obtain ⟨bs, hbs⟩ : ∃ b, (T.drop (64 * k)).take 64 = b := ⟨_, rfl⟩
          obtain ⟨hk1, hhk⟩ : ∃ h, hb T k = h := ⟨_, rfl⟩
          obtain ⟨hk2', hhk2⟩ : ∃ h, hb T (k + 1) = h := ⟨_, rfl⟩
          have HPE := wall (show press hk1 bs = hk2' by rw [← hhk2, hb, hhk, hbs])
          have HKL := wall (show hk1.length = 8 by rw [← hhk]; exact hb_length T k)
          have HKL2 := wall (show hk2'.length = 8 by rw [← hhk2]; exact hb_length T _)
          have HKW := wall (show ∀ x ∈ hk1, x < 4294967296 by rw [← hhk]; exact hb_word T k)
          have HK2 := wall hhk2
          rw [hbs] at HNS HBL
          rw [hhk] at K7
          have HSW := wall (show (Tryd.prog.info? 118).map (·.size) = some (c32 hk1).size by rw [c32_size, HKL.out]; exact h_info)
          have HSW2 := wall (show (Tryd.prog.info? 118).map (·.size) = some (c32 hk2').size by rw [c32_size, HKL2.out]; exact h_info)
          have HZW := wall (show (c32 hk1).size = (c32 hk2').size by rw [c32_size, c32_size, HKL.out, HKL2.out])
          have hwz : IntKind.i64.wrap (z + 64) = z + 64 := IntWalk.i64_in _ (by omega)
          clear hbs hhk hhk2
          go_wp2_with fail
          refine Rel.wp_region_rel 7 [(45, .const (.agg (c32 hk2')))] (by kernel_rfl) (by kernel_rfl) ?_
          simp only [List.take_succ_cons, List.take_zero, List.drop_succ_cons, List.drop_zero]
          refine Rel.tree_pure rfl rfl rfl (.agg (c32 hk1)) (fun W hW _ => Rel.exec_load _ _ rfl g6 0 rfl _ _ (Blk.range (hW.blk K7.out.drew)) Tryd.underlying118 rfl HSW.out) ?_
          simp only [Act.put, List.setIfInBounds_toArray, List.set_cons_zero, List.set_cons_succ]
          repeat (refine Rel.tree_quiet rfl rfl rfl (fun K hK => ?_); go_big_quiet_op; refine hK _ ?_; clear hK K)
          refine Rel.tree_const rfl (.agg (c32 hk2')) rfl (fun W hW _ => ?_) ?_
          · unfold Rel.relAt; go_simp; show Calls _ _ _ _ _
            have h := rpress_any hk1 bs A8 (c6 - 64 * k) W HKL.out HKW.out HBL.out (by omega) ((HNS.out.below (hW.undrew.mono (Nat.le_of_lt K7.out.lt))).more (Nat.le_trans (Nat.le_of_lt K7.out.lt) hW.undrew.size))
            rw [HPE.out] at h
            exact const_call h
          simp only [Act.put, List.setIfInBounds_toArray, List.set_cons_zero, List.set_cons_succ]
          intro W hW _
          have KD2 := wall (hW.blk KD.out.drew)
          have K72 := wall (hW.blk K7.out.drew)
          have HN2 := wall (HN.out.below (hW.undrew.mono (Nat.le_of_lt K7.out.lt)))
          have HB2 := wall (below_then HB.out hW.undrew (Nat.le_refl _))
          clear hW KD K7 HN HB hsl
          go_wp2_with (refine wpList_store_row rfl 118 (.tmp 4) _ rfl g6 (c32 hk2') rfl rfl 118 (c32 hk1) K72.out HSW2.out HZW.out (c32_one _) ?_)
          go_light
          go_roundg (L - 64 * (k + 1))
          case measure => have := HG.out; omega
          case rel =>
            have F := frm_setRow (g := g6) W (c32 hk2')
            refine ⟨k + 1, _, by omega, wall ?_, ?_, ?_, rfl, wall ?_, wall ?_, wall ?_, wall ?_⟩
            · have := HZ.out; omega
            · omega
            · have := HZ.out; omega
            · exact KD2.out.frm F (by simp; omega)
            · rw [HK2.out]; exact setRow_heap _ _ _ _ _ _ K72.out
            · exact HN2.out.frm F (Nat.le_of_lt K72.out.lt) (by simp)
            · exact below_setRow HB2.out (by omega) _
        · have hzL' : ¬ z < (L : Int) := by have := HZ.out; omega
          have HKH := wall (show hb T k = hs by rw [← HHS.out, stH, HLL.out, show L / 64 = k by have := HL64.out; omega])
          rw [HKH.out] at K7
          clear HZ hk hlt HN
          obtain ⟨gQ, rfl⟩ : ∃ q : Nat, q = gk := ⟨_, rfl⟩
          obtain ⟨wQ, rfl⟩ : ∃ q : World, q = wr := ⟨_, rfl⟩
          have HSW := wall (show (Tryd.prog.info? 118).map (·.size) = some (c32 hs).size by rw [c32_size, HHL.out]; exact h_info)
          go_upto_region 12 with fail
          change Code.wp _ _ _ _ (wQ.alloc (.cells (b8 (List.replicate 32 0)) 23))
          have hgs : g6 < wQ.heap.size := K7.out.lt
          have KR := wall (KD.out.alloc (.cells (b8 (List.replicate 32 0)) 23))
          have KH := wall (K7.out.alloc (.cells (b8 (List.replicate 32 0)) 23))
          have KN := wall (Blk.new wQ 23 (b8 (List.replicate 32 0)))
          have HB8 := wall (HB.out.alloc HB.out.size (.cells (b8 (List.replicate 32 0)) 23))
          generalize wQ.alloc (.cells (b8 (List.replicate 32 0)) 23) = w8 at *
          generalize wQ.heap.size = gD at *
          clear KD K7 HB HG
          go_wp2_with (refine wpList_load_row rfl 118 _ rfl g6 rfl 118 (c32 hs) (0, 0) _ KH.out Tryd.underlying118 rfl HSW.out ?_)
          go_loopg [47] 8 (fun g s47 wr => ∃ i : Nat, i + g = 8 ∧ s47 = .int .i64 (i : Int) ∧ Wall (Blk wr w.heap.size 23 (b8 (List.replicate 32 0))) ∧ Wall (Blk wr gD 23 (b8 (wordsB (hs.take i) ++ List.replicate (32 - 4 * i) 0))) ∧ Wall (Below w.heap.size w wr))
          case atStart => exact ⟨0, by omega, rfl, KR, KN, HB8⟩
          case round =>
            clear KR KN HB8 KH
            obtain ⟨i, hg, rfl, KR, KN, HB⟩ := hrel
            have HG := wall hg
            have hi : i ≤ 8 := by omega
            clear hg
            by_cases hlt : i < 8
            · obtain ⟨x, hx⟩ : ∃ x, hs[i]? = some x := ⟨_, List.getElem?_eq_getElem (by have := HHL.out; omega)⟩
              have hxM := HHW.out x (List.mem_of_getElem? hx)
              have hix := run_index_arr (P := Tryd.prog) 118 43 8 Tryd.underlying118 (fun _ => by kernel_rfl) (fun _ => by kernel_rfl) (c32 hs) .i64 (i : Int) i rfl hlt _ (c32_at hx)
              have HNX := wall (show wordsB (hs.take (i + 1)) = wordsB (hs.take i) ++ numB x 4 by rw [take_snoc hx, wordsB_snoc])
              have HNU := wall (fun W => num_any (x : Int) 4 x 4 W rfl rfl (by omega) (by decide))
              obtain ⟨nb4, hnb4⟩ : ∃ n, numB x 4 = n := ⟨_, rfl⟩
              have HN4 := wall (show nb4.length = 4 by rw [← hnb4]; exact numB_length _ _)
              have HN4B := wall (show ∀ y ∈ nb4, y < 256 by rw [← hnb4]; exact numB_byte _ _)
              rw [hnb4] at HNX HNU
              obtain ⟨pf, hpf⟩ : ∃ p, wordsB (hs.take i) = p := ⟨_, rfl⟩
              have HPL := wall (show pf.length = 4 * i by rw [← hpf, wordsB_length, List.length_take, HHL.out]; omega)
              rw [hpf] at KN HNX
              clear hx hnb4 hpf
              obtain ⟨gO, rfl⟩ : ∃ q : Nat, q = gk := ⟨_, rfl⟩
              obtain ⟨wO, rfl⟩ : ∃ q : World, q = wr := ⟨_, rfl⟩
              go_wp2_with fail
              (with_reducible refine (HNU.out _).mono ?_); rintro e w9 ⟨v9, rfl, hO9, hB9⟩
              obtain ⟨A9, c9, rfl, hc9, hN9, hA9⟩ := own_nats hO9 HN4B.out
              have hgd9 : gD < wO.heap.size := KN.out.lt
              have HN9 := wall (show Nats .u8 256 w9 w9.heap.size A9 nb4 from hN9)
              have HA9 := wall hA9
              rw [HN4.out]
              have KR9 := wall (KR.out.next hB9 rfl)
              have KN9 := wall (show Blk w9 gD 23 (b8 (pf ++ (nb4.take 0 ++ List.replicate (32 - 4 * i - 0) 0))) by simpa using KN.out.next hB9 rfl)
              have HB9 := wall (below_then HB.out hB9 (Nat.le_refl _))
              clear hO9 hN9 hB9 hA9 KR KN HB hix hc9 HNU
              go_wp2_with fail
              go_loopg [55] 4 (fun g s55 wr => ∃ j : Nat, j + g = 4 ∧ s55 = .int .i64 (j : Int) ∧ Wall (Nats .u8 256 wr w9.heap.size A9 nb4) ∧ Wall (Blk wr w.heap.size 23 (b8 (List.replicate 32 0))) ∧ Wall (Blk wr gD 23 (b8 (pf ++ (nb4.take j ++ List.replicate (32 - 4 * i - j) 0)))) ∧ Wall (Below w.heap.size w wr))
              case atStart => exact ⟨0, by omega, rfl, HN9, KR9, KN9, HB9⟩
              case round =>
                clear HN9 KR9 KN9 HB9
                obtain ⟨j, hg, rfl, HN, KR, KN, HB⟩ := hrel
                have HGJ := wall hg
                have hj : j ≤ 4 := by omega
                clear hg
                by_cases hjl : j < 4
                · obtain ⟨y, hy⟩ : ∃ y, nb4[j]? = some y := ⟨_, List.getElem?_eq_getElem (by have := HN4.out; omega)⟩
                  obtain ⟨hyM, bb, oo, hAe, hbb, hcy⟩ := HN.out j y hy
                  have hgdb : gD ≠ bb := by have := HA9.out _ hAe; simp at this; omega
                  have HSET := wall (show (pf ++ (nb4.take j ++ List.replicate (32 - 4 * i - j) 0)).set (4 * i + j) y = pf ++ (nb4.take (j + 1) ++ List.replicate (32 - 4 * i - (j + 1)) 0) by
                    have htl : (nb4.take j).length = j := by rw [List.length_take, HN4.out]; omega
                    rw [List.set_append_right _ _ (by rw [HPL.out]; omega), HPL.out, show 4 * i + j - 4 * i = j by omega, List.set_append_right _ _ (by omega), htl, Nat.sub_self, show 32 - 4 * i - j = 32 - 4 * i - (j + 1) + 1 by omega, List.replicate_succ, List.set_cons_zero, take_snoc hy]
                    simp)
                  have hfr : wr.frozen? ⟨gD, 4 * i + j, none⟩ = false := KN.out.frozen _
                  obtain ⟨old, hold⟩ : ∃ v, wr.cell? ⟨gD, 4 * i + j, none⟩ = some v := by
                    rw [KN.out.cell]
                    refine ⟨_, Array.getElem?_eq_getElem (i := 4 * i + j) ?_⟩
                    rw [b8_size, List.length_append, List.length_append, List.length_replicate, List.length_take, HPL.out, HN4.out]
                    omega
                  have hsz := KN.out.lt
                  subst hAe
                  have b32 : 4 * (i : Int) + (j : Int) < 32 := by omega
                  clear hy
                  go_wp2_with fail
                  go_light
                  go_roundg (4 - (j + 1))
                  case measure => have := HGJ.out; omega
                  case rel =>
                    refine ⟨j + 1, by omega, by go_num, wall ?_, wall ?_, wall ?_, wall ?_⟩
                    · exact nats_far HN.out (fun ad h => by have := HA9.out ad h; omega) _ _
                    · exact (KR.out.far' _ _ (by omega) _)
                    · have := KN.out.set (4 * i + j) (.int .u8 (y : Int))
                      rw [b8_set, HSET.out] at this
                      exact this
                    · exact HB.out.setCell (p := ⟨gD, 4 * i + j, none⟩) (by show w.heap.size ≤ gD; omega) _
                · have hj4 : j = 4 := by omega
                  have hnj : ¬ ((j : Int) < 4) := by omega
                  have KN2 := wall (show Blk wr gD 23 (b8 (wordsB (hs.take (i + 1)) ++ List.replicate (32 - 4 * (i + 1)) 0)) by
                    have := KN.out
                    rw [hj4, List.take_of_length_le (by rw [HN4.out]; omega), show 32 - 4 * i - 4 = 32 - 4 * (i + 1) by omega, ← List.append_assoc, ← HNX.out] at this
                    exact this)
                  clear KN HN hj4
                  go_wp2_with fail
                  go_light
                  go_roundg (8 - (i + 1))
                  case measure => have := HG.out; omega
                  case rel => exact ⟨i + 1, by have := HG.out; omega, by go_num, KR, KN2, HB⟩
            · have hi8 : i = 8 := by omega
              have hni : ¬ ((i : Int) < 8) := by omega
              have KN2 := wall (show Blk wr gD 23 (b8 (wordsB hs)) by
                have := KN.out
                rw [hi8, List.take_of_length_le (by rw [HHL.out]; omega), show 32 - 4 * 8 = 0 from rfl, List.replicate_zero, List.append_nil] at this
                exact this)
              have hwl2 : (wordsB hs).length = 32 := by rw [wordsB_length, HHL.out]
              have HS := wall (show (Tryd.prog.info? 23).map (·.size) = some (b8 (wordsB hs)).size by rw [b8_size, hwl2]; exact dig_info)
              have HZ := wall (show (b8 (List.replicate 32 0)).size = (b8 (wordsB hs)).size by rw [b8_size, b8_size, hwl2]; rfl)
              have HO := wall (b8_one (wordsB hs))
              clear KN hi8 hwl2 hlt
              go_wp2_with (first | refine wpList_load_row rfl 23 _ rfl gD rfl 23 (b8 (wordsB hs)) (0, 0) _ KN2.out Tryd.underlying23 rfl HS.out ?_ | refine wpList_store_row rfl 23 (.tmp 2) _ rfl w.heap.size (b8 (wordsB hs)) rfl rfl 23 (b8 (List.replicate 32 0)) KR.out HS.out HZ.out HO.out ?_)
              have hb := setRow_heap _ _ _ (b8 (wordsB hs)) _ _ KR.out
              have hB := below_setRow HB.out (Nat.le_refl _) (b8 (wordsB hs))
              go_light
              exact bodyPost_ret (v := .agg (b8 (wordsB hs))) (results_cell_row Tryd.results86 _ _ w.heap.size 23 (b8 (wordsB hs)) (0, 0) _ rfl hb Tryd.underlying23 rfl HS.out) rfl ⟨by rw [HSB.out], hB⟩
end Sha
end Go.Proofs.YtpakdcgcgekcfaaDoor

/-
  A drawn region of two loads and two stores of rows (the second load may come behind the first store): whatever the order, the same. No program in sight.
-/
set_option linter.unusedSimpArgs false
set_option linter.unusedVariables false
namespace Go.Proofs.YtpakdcgcgekcfaaDoor
open Go Go.RowKit

def rowB (d : TypeDesc) : Bool := match d with
  | .struct _ | .array _ _ => true
  | _ => false
theorem put_comm {a : Act} {i j : Tmp} {u v : Value} (h : i ≠ j) : (a.put (some i) u).put (some j) v = (a.put (some j) v).put (some i) u := by
  unfold Act.put
  simp only
  rw [Array.setIfInBounds_comm _ _ h]
theorem wanted_none {o : Oper} {f : Nat → Option Bool} (h : o.guard = none) : Region.wanted o f = true := by
  unfold Region.wanted
  rw [h]
def readyB (ops : Array Oper) (l : List (List Bool × List Nat)) : Bool := l.all fun p => Region.ready .any ops p.1.toArray == p.2
theorem readyB_at {ops : Array Oper} {l : List (List Bool × List Nat)} (h : readyB ops l = true) {s : List Bool} {r : List Nat} (hm : (s, r) ∈ l) : Region.ready .any ops s.toArray = r := by
  have := List.all_eq_true.1 h _ hm
  simpa using this
section
variable {P : Program}
theorem wp_load_in {o : Oper} {a : Act} {w : World} {K : Act → World → Prop} {Q : Exit → Act → World → Prop} {f : Nat → Option Bool} (hgd : o.guard = none) (ty : TypeId) (x : Operand) (ho : o.op = .load ty x)
    (g : Nat) (hx : a.eval x = .pointer (some ⟨g, 0, none⟩)) (t : TypeId) (cs : Array Value) (d : TypeDesc) (hg : Blk w g t cs)
    (hu : P.underlying ty = some d) (hd : rowB d = true) (hi : (P.info? ty).map (·.size) = some cs.size)
    (h : K (a.put o.dst (.agg cs)) w) : if Region.wanted o f = true then Oper.wp P o a w K Q else K (a.put o.dst undef) w := by
  rw [if_pos (wanted_none hgd)]
  exact wp_load_row ty x ho g hx t cs (0, 0) d hg hu (by cases d <;> first | rfl | (simp [rowB] at hd)) hi h
theorem wp_store_in {o : Oper} {a : Act} {w : World} {K : Act → World → Prop} {Q : Exit → Act → World → Prop} {f : Nat → Option Bool} (hgd : o.guard = none) (ty : TypeId) (x y : Operand) (ho : o.op = .store ty x y) (hdst : o.dst = none)
    (g : Nat) (cells : Array Value) (hx : a.eval x = .pointer (some ⟨g, 0, none⟩)) (hy : a.eval y = .agg cells)
    (t : TypeId) (old : Array Value) (hg : Blk w g t old) (hi : (P.info? ty).map (·.size) = some cells.size) (hold : old.size = cells.size) (h1 : cells.all (·.oneCell') = true)
    (h : ∀ w', Blk w' g t cells → Frm [g] w w' → K a w') : if Region.wanted o f = true then Oper.wp P o a w K Q else K (a.put o.dst undef) w := by
  rw [if_pos (wanted_none hgd)]
  refine wp_store_row ty x y ho g cells hx hy t old hg hi hold h1 ?_
  rw [hdst]
  exact h _ (setRow_heap _ _ _ cells _ _ hg) (frm_setRow w cells)
theorem wp_two_rows {id : Nat} {Q : Exit → Act → World → Prop} {a : Act} {w : World} {o0 o1 o2 o3 : Oper} (hm : P.follows .mixedOrders = true)
    (hr : readyB [o0, o1, o2, o3].toArray [([false, false, false, false], [0, 1]), ([true, false, false, false], [1, 2]), ([false, true, false, false], [0]), ([true, true, false, false], [2]), ([true, false, true, false], [1]), ([true, true, true, false], [3]), ([true, true, true, true], [])] = true)
    (g0 : o0.guard = none) (g1 : o1.guard = none) (g2 : o2.guard = none) (g3 : o3.guard = none) (n2 : o2.dst = none) (n3 : o3.dst = none)
    (t0 t1 : TypeId) (x y p q : Operand) (i j : Tmp) (hij : i ≠ j) (p0 : o0.op = .load t0 x) (p1 : o1.op = .load t1 y) (p2 : o2.op = .store t0 p (.tmp i)) (p3 : o3.op = .store t1 q (.tmp j)) (d0 : o0.dst = some i) (d1 : o1.dst = some j)
    (gx gy gp gq : Nat) (ca cb : Array Value) (kx ky kp kq : TypeId) (cp cq : Array Value) (e0 e1 : TypeDesc)
    (hx : a.eval x = .pointer (some ⟨gx, 0, none⟩)) (hx' : (a.put (some j) (.agg cb)).eval x = .pointer (some ⟨gx, 0, none⟩))
    (hy : a.eval y = .pointer (some ⟨gy, 0, none⟩)) (hy' : (a.put (some i) (.agg ca)).eval y = .pointer (some ⟨gy, 0, none⟩))
    (hp : (a.put (some i) (.agg ca)).eval p = .pointer (some ⟨gp, 0, none⟩)) (hp' : ((a.put (some i) (.agg ca)).put (some j) (.agg cb)).eval p = .pointer (some ⟨gp, 0, none⟩))
    (hs : (a.put (some i) (.agg ca)).eval (.tmp i) = .agg ca) (hs' : ((a.put (some i) (.agg ca)).put (some j) (.agg cb)).eval (.tmp i) = .agg ca)
    (hq : ((a.put (some i) (.agg ca)).put (some j) (.agg cb)).eval q = .pointer (some ⟨gq, 0, none⟩)) (ht : ((a.put (some i) (.agg ca)).put (some j) (.agg cb)).eval (.tmp j) = .agg cb)
    (bx : Blk w gx kx ca) (bY : Blk w gy ky cb) (bp : Blk w gp kp cp) (bq : Blk w gq kq cq) (npy : gy ≠ gp) (npq : gq ≠ gp)
    (u0 : P.underlying t0 = some e0) (r0 : rowB e0 = true) (z0 : (P.info? t0).map (·.size) = some ca.size) (s0 : cp.size = ca.size) (c0 : ca.all (·.oneCell') = true)
    (u1 : P.underlying t1 = some e1) (r1 : rowB e1 = true) (z1 : (P.info? t1).map (·.size) = some cb.size) (s1 : cq.size = cb.size) (c1 : cb.all (·.oneCell') = true)
    (h : ∀ w', Blk w' gp kp ca → Blk w' gq kq cb → Frm [gp, gq] w w' → Q .normal ((a.put (some i) (.agg ca)).put (some j) (.agg cb)) w') :
    (Code.region id [o0, o1, o2, o3].toArray true).wp P Q a w := by
  have R : ∀ s r, (s, r) ∈ _ → _ := fun s r hm => readyB_at hr (s := s) (r := r) hm
  have fin : ∀ w', Blk w' gp kp ca → Blk w' gq kq cb → Frm [gp, gq] w w' → ∀ f, wpAny P .any [o0, o1, o2, o3].toArray Q f #[true, true, true, true] ((a.put (some i) (.agg ca)).put (some j) (.agg cb)) w' := fun w' k1 k2 k3 f =>
    wpAny_done (R [true, true, true, true] [] (by simp)) (h w' k1 k2 k3) f
  -- behind the first store and both loads
  have last : ∀ w', Blk w' gp kp ca → Blk w' gq kq cq → Frm [gp] w w' → wpAny P .any [o0, o1, o2, o3].toArray Q 1 #[true, true, true, false] ((a.put (some i) (.agg ca)).put (some j) (.agg cb)) w' := fun w' k1 k2 k3 => by
    refine wpAny_ready (rs := [3]) (R [true, true, true, false] [3] (by simp)) (by simp) (AllReady.cons (o := o3) rfl (fun K hK => ?_) AllReady.nil)
    refine wp_store_in g3 t1 q (.tmp j) p3 n3 gq cb hq ht kq cq k2 z1 s1 c1 (fun w2 k4 k5 => hK _ _ ?_)
    refine fin w2 (k1.frm k5 (by simp; exact fun h => npq h.symm)) k4 ?_ 0
    exact (k3.mono (T := [gp, gq]) (fun x hx _ => by simp at hx ⊢; exact .inl hx)).trans (k5.mono (fun x hx _ => by simp at hx ⊢; exact .inr hx))
  -- both loads are done
  have both : ∀ w1, (∀ b t c, Blk w b t c → Blk w1 b t c) → Frm [gp] w w1 → wpAny P .any [o0, o1, o2, o3].toArray Q 2 #[true, true, false, false] ((a.put (some i) (.agg ca)).put (some j) (.agg cb)) w1 := fun w1 hb hf => by
    refine wpAny_ready (rs := [2]) (R [true, true, false, false] [2] (by simp)) (by simp) (AllReady.cons (o := o2) rfl (fun K hK => ?_) AllReady.nil)
    refine wp_store_in g2 t0 p (.tmp i) p2 n2 gp ca hp' hs' kp cp (hb _ _ _ bp) z0 s0 c0 (fun w2 k4 k5 => hK _ _ ?_)
    exact last w2 k4 ((hb _ _ _ bq).frm k5 (by simp; exact npq)) (hf.trans k5)
  refine wp_region_any hm ?_
  change wpAny P .any [o0, o1, o2, o3].toArray Q 4 #[false, false, false, false] a w.drew
  have hdr : ∀ b t c, Blk w b t c → Blk w.drew b t c := fun b t c h => h.drew
  have hfd : Frm [gp] w w.drew := (Frm.refl _ _).drew
  refine wpAny_ready (rs := [0, 1]) (R [false, false, false, false] [0, 1] (by simp)) (by simp) (AllReady.cons (o := o0) rfl (fun K hK => ?_) (AllReady.cons (o := o1) rfl (fun K hK => ?_) AllReady.nil))
  · refine wp_load_in g0 t0 x p0 gx hx kx ca e0 bx.drew u0 r0 z0 (hK _ _ ?_)
    rw [d0]
    refine wpAny_ready (rs := [1, 2]) (R [true, false, false, false] [1, 2] (by simp)) (by simp) (AllReady.cons (o := o1) rfl (fun K hK => ?_) (AllReady.cons (o := o2) rfl (fun K hK => ?_) AllReady.nil))
    · refine wp_load_in g1 t1 y p1 gy hy' ky cb e1 bY.drew u1 r1 z1 (hK _ _ ?_)
      rw [d1]
      exact both w.drew hdr hfd
    · refine wp_store_in g2 t0 p (.tmp i) p2 n2 gp ca hp hs kp cp bp.drew z0 s0 c0 (fun w2 k4 k5 => hK _ _ ?_)
      refine wpAny_ready (rs := [1]) (R [true, false, true, false] [1] (by simp)) (by simp) (AllReady.cons (o := o1) rfl (fun K hK => ?_) AllReady.nil)
      refine wp_load_in g1 t1 y p1 gy hy' ky cb e1 (bY.drew.frm k5 (by simp; exact npy)) u1 r1 z1 (hK _ _ ?_)
      rw [d1]
      exact last w2 k4 (bq.drew.frm k5 (by simp; exact npq)) (hfd.trans k5)
  · refine wp_load_in g1 t1 y p1 gy hy ky cb e1 bY.drew u1 r1 z1 (hK _ _ ?_)
    rw [d1]
    refine wpAny_ready (rs := [0]) (R [false, true, false, false] [0] (by simp)) (by simp) (AllReady.cons (o := o0) rfl (fun K hK => ?_) AllReady.nil)
    refine wp_load_in g0 t0 x p0 gx hx' kx ca e0 bx.drew u0 r0 z0 (hK _ _ ?_)
    rw [d0, ← put_comm hij]
    exact both w.drew hdr hfd
end
end Go.Proofs.YtpakdcgcgekcfaaDoor

/-
  Package aes: boxes.
-/
set_option linter.unusedSimpArgs false
set_option linter.unusedVariables false
namespace Go.Proofs.YtpakdcgcgekcfaaDoor
open Go.RowKit

namespace Aes
open Otp R1
set_option maxHeartbeats 1000000 in
theorem rot8_any (a k : Int) (x t : Nat) (w : World) (ha : a = x) (hk : k = t) (hx : x < 256) (ht : t < 5) : Calls Tryd.prog 128 #[.int .u8 a, .int .i64 k] w (fun e w' => e = .returned (.int .u8 (rot8 x t : Int)) ∧ w = w') := by
  subst ha hk
  have a0 : bits .and .u64 0 7 = 0 := by decide +kernel
  have a1 : bits .and .u64 1 7 = 1 := by decide +kernel
  have a2 : bits .and .u64 2 7 = 2 := by decide +kernel
  have a3 : bits .and .u64 3 7 = 3 := by decide +kernel
  have a4 : bits .and .u64 4 7 = 4 := by decide +kernel
  have hor : ∀ p q : Nat, p < 256 → q < 256 → bits .or .u8 (p : Int) (q : Int) = ((p ||| q : Nat) : Int) := u8_or_nat
  rcases (show t = 0 ∨ t = 1 ∨ t = 2 ∨ t = 3 ∨ t = 4 by omega) with h | h | h | h | h
  all_goals
    subst h
    go_enter Tryd.func128, Tryd.ntmps128
    go_wp2_with fail
    go_light
    go_ret
    refine ⟨ret1i ?_, rfl⟩
    rw [rot8, ← hor _ _ (Nat.mod_lt _ (by decide)) (Nat.lt_of_le_of_lt (Nat.div_le_self _ _) hx)]
    congr 1 <;> omega
theorem box_info : (Tryd.prog.info? 92).map (·.size) = some 256 := by kernel_rfl
theorem affP_lt {q : Nat} (hq : q < 256) : ∀ t, t ≤ 5 → affP q t < 256
  | 0, _ => (by decide : 99 < 256)
  | t + 1, h => by
    rw [affP]
    refine xor8 (affP_lt hq t (by omega)) ?_
    unfold rot8
    exact Nat.or_lt_two_pow (n := 8) (Nat.mod_lt _ (by decide)) (Nat.lt_of_le_of_lt (Nat.div_le_self _ _) hq)
def z256 : List Nat := List.replicate 256 0
theorem b8_put (l : List Nat) (i y : Nat) : (b8 l).setIfInBounds i (.int .u8 (y : Int)) = b8 (l.set i y) := by
  simp [b8, List.map_set]
/-- The four arrays of boxes, since a world W. -/
structure Bx (W : World) (g1 g2 g3 : Nat) (l2 l3 : List Nat) (w : World) : Prop where
  ka : Blk w W.heap.size 92 (b8 z256)
  kb : Blk w g1 92 (b8 z256)
  kc : Blk w g2 92 (b8 l2)
  kd : Blk w g3 92 (b8 l3)
  bel : Below W.heap.size W w
  o1 : W.heap.size < g1
  o2 : g1 < g2
  o3 : g2 < g3
section
variable {W w w' : World} {g1 g2 g3 : Nat} {l2 l3 : List Nat}
theorem Bx.old (h : Bx W g1 g2 g3 l2 l3 w) (hb : Below w.heap.size w w') : Bx W g1 g2 g3 l2 l3 w' :=
  ⟨h.ka.next hb rfl, h.kb.next hb rfl, h.kc.next hb rfl, h.kd.next hb rfl, below_then h.bel hb (Nat.le_refl _), h.o1, h.o2, h.o3⟩
theorem Bx.set2 (h : Bx W g1 g2 g3 l2 l3 w) (i x : Nat) : Bx W g1 g2 g3 (l2.set i x) l3 (w.setCell ⟨g2, i, none⟩ (.int .u8 (x : Int))) := by
  have o1 := h.o1
  have o2 := h.o2
  have o3 := h.o3
  refine ⟨h.ka.far' _ _ (by omega) _, h.kb.far' _ _ (by omega) _, ?_, h.kd.far' _ _ (by omega) _, h.bel.setCell (by simp only; omega) _, o1, o2, o3⟩
  rw [← b8_put]
  exact h.kc.set _ _
theorem Bx.set3 (h : Bx W g1 g2 g3 l2 l3 w) (i x : Nat) : Bx W g1 g2 g3 l2 (l3.set i x) (w.setCell ⟨g3, i, none⟩ (.int .u8 (x : Int))) := by
  have o1 := h.o1
  have o2 := h.o2
  have o3 := h.o3
  refine ⟨h.ka.far' _ _ (by omega) _, h.kb.far' _ _ (by omega) _, h.kc.far' _ _ (by omega) _, ?_, h.bel.setCell (by simp only; omega) _, o1, o2, o3⟩
  rw [← b8_put]
  exact h.kd.set _ _
end
theorem quiet_const {P : Program} {f : FuncId} {args : Array Value} {W : World} {c : Value} (h : Calls P f args W (fun e w' => e = .returned c ∧ W = w')) : Calls P f args W (fun e w'' => ∃ v, e = .returned v ∧ Rel.Grow W w'' ∧ v = c) :=
  h.mono fun _ _ ⟨h1, h2⟩ => by subst h2; exact ⟨c, h1, Rel.Grow.refl _, rfl⟩
set_option maxRecDepth 100000 in
set_option maxHeartbeats 4000000 in
theorem boxes_any (w : World) : Calls Tryd.prog 109 #[] w (fun e w' => e = .returned (.tuple #[.agg (b8 sbox), .agg (b8 ibox)]) ∧ Below w.heap.size w w') := by
  obtain ⟨w1, hw1⟩ : ∃ W, W = (((w.alloc (.cells (b8 z256) 92)).alloc (.cells (b8 z256) 92)).alloc (.cells (b8 z256) 92)).alloc (.cells (b8 z256) 92) := ⟨_, rfl⟩
  have HW := Lib.hid hw1
  have HX := Lib.hid (show Bx w (w.heap.size + 1) (w.heap.size + 1 + 1) (w.heap.size + 1 + 1 + 1) z256 z256 w1 by
    rw [hw1]
    exact ⟨(((Blk.new w _ _).alloc _).alloc _).alloc _, ((blk_new' (by simp)).alloc _).alloc _, (blk_new' (by simp)).alloc _, blk_new' (by simp),
      ((((Below.refl _ w).alloc (Nat.le_refl _) _).alloc (by simp) _).alloc (by simp; omega) _).alloc (by simp; omega) _, by omega, by omega, by omega⟩)
  clear hw1
  go_enter Tryd.func109, Tryd.ntmps109
  go_upto_region 2 with fail
  change Code.wp _ _ _ _ ((((w.alloc (.cells (b8 z256) 92)).alloc (.cells (b8 z256) 92)).alloc (.cells (b8 z256) 92)).alloc (.cells (b8 z256) 92))
  rw [← HW.out]
  clear HW
  obtain ⟨g3, hg3⟩ : ∃ x, x = w.heap.size + 1 + 1 + 1 := ⟨_, rfl⟩
  rw [← hg3] at HX
  rw [← hg3]
  clear hg3
  obtain ⟨g2, hg2⟩ : ∃ x, x = w.heap.size + 1 + 1 := ⟨_, rfl⟩
  rw [← hg2] at HX
  rw [← hg2]
  clear hg2
  obtain ⟨g1, hg1⟩ : ∃ x, x = w.heap.size + 1 := ⟨_, rfl⟩
  rw [← hg1] at HX
  rw [← hg1]
  clear hg1
  go_wp2_with fail
  go_loopg [4, 5, 9] 255 (fun g s4 s5 s9 wr => ∃ i : Nat, i + g = 255 ∧ s9 = .int .i64 (i : Int) ∧ s4 = .int .u8 (pP i : Int) ∧ s5 = .int .u8 (qQ i : Int) ∧ Hid (Bx w g1 g2 g3 (bxP i) z256 wr))
  case atStart => exact ⟨0, by omega, rfl, rfl, rfl, HX⟩
  case round =>
    obtain ⟨i, hg, rfl, rfl, rfl, HK⟩ := hrel
    have HG := Lib.hid hg
    have hi : i ≤ 255 := by omega
    clear hg HX
    by_cases hlt : i < 255
    · obtain ⟨p, hp⟩ : ∃ p, pP i = p := ⟨_, rfl⟩
      obtain ⟨q, hq⟩ : ∃ q, qQ i = q := ⟨_, rfl⟩
      have hpl : p < 256 := by rw [← hp]; exact pP_lt (by omega)
      have hql : q < 256 := by rw [← hq]; exact qQ_lt (by omega)
      obtain ⟨p1, hp1⟩ : ∃ z, p ^^^ xt p = z := ⟨_, rfl⟩
      obtain ⟨a, ha⟩ : ∃ z, q ^^^ (q * 2 % 256) = z := ⟨_, rfl⟩
      obtain ⟨b, hb⟩ : ∃ z, a ^^^ (a * 4 % 256) = z := ⟨_, rfl⟩
      obtain ⟨c, hc⟩ : ∃ z, b ^^^ (b * 16 % 256) = z := ⟨_, rfl⟩
      obtain ⟨q1, hq1⟩ : ∃ z, c ^^^ (c / 128 * 9) = z := ⟨_, rfl⟩
      have hp1l : p1 < 256 := by rw [← hp1]; exact xor8 hpl (xt_lt hpl)
      have hal : a < 256 := by rw [← ha]; exact xor8 hql (Nat.mod_lt _ (by decide))
      have hbl : b < 256 := by rw [← hb]; exact xor8 hal (Nat.mod_lt _ (by decide))
      have hcl : c < 256 := by rw [← hc]; exact xor8 hbl (Nat.mod_lt _ (by decide))
      have hq1l : q1 < 256 := by rw [← hq1]; exact xor8 hcl (by omega)
      obtain ⟨xp, hxp⟩ : ∃ z, xt p = z := ⟨_, rfl⟩
      have hxl : xp < 256 := by rw [← hxp]; exact xt_lt hpl
      have e0 : bits .xor .u8 (p : Int) (xp : Int) = (p1 : Int) := by rw [u8_xor_nat _ _ hpl hxl, ← hxp, hp1]
      have e1 : bits .xor .u8 (q : Int) ((q : Int) * 2 % 256) = (a : Int) := by
        rw [show (q : Int) * 2 % 256 = ((q * 2 % 256 : Nat) : Int) by simp, u8_xor_nat _ _ hql (Nat.mod_lt _ (by decide)), ha]
      have e2 : bits .xor .u8 (a : Int) ((a : Int) * 4 % 256) = (b : Int) := by
        rw [show (a : Int) * 4 % 256 = ((a * 4 % 256 : Nat) : Int) by simp, u8_xor_nat _ _ hal (Nat.mod_lt _ (by decide)), hb]
      have e3 : bits .xor .u8 (b : Int) ((b : Int) * 16 % 256) = (c : Int) := by
        rw [show (b : Int) * 16 % 256 = ((b * 16 % 256 : Nat) : Int) by simp, u8_xor_nat _ _ hbl (Nat.mod_lt _ (by decide)), hc]
      have e4 : bits .xor .u8 (c : Int) ((c : Int) / 128 * 9) = (q1 : Int) := by
        rw [show (c : Int) / 128 * 9 = ((c / 128 * 9 : Nat) : Int) by simp, u8_xor_nat _ _ hcl (by omega), hq1]
      have HP := Lib.hid (show pP (i + 1) = p1 by rw [← hp1, ← hp]; rfl)
      have HQ := Lib.hid (show qQ (i + 1) = q1 by rw [← hq1, ← hc, ← hb, ← ha, ← hq]; rfl)
      have HTW := Lib.hid (twice_any p p wr rfl hpl)
      rw [hxp] at HTW
      obtain ⟨l, hl⟩ : ∃ l, bxP i = l := ⟨_, rfl⟩
      rw [hl] at HK
      rw [hp, hq]
      have HL := Lib.hid (show l.length = 256 by rw [← hl]; exact bxP_length i)
      have HLE := Lib.hid hl
      have HN := Lib.hid (show (bxP (i + 1)) = l.set p1 (affP q1 5) by rw [bxP, HP.out, HQ.out, hl])
      clear hp hq hp1 ha hb hc hq1 hxp hl
      obtain ⟨old, hold⟩ : ∃ x, l[p1]? = some x := ⟨_, List.getElem?_eq_getElem (by rw [HL.out]; exact hp1l)⟩
      have hcc : wr.cell? ⟨g2, p1, none⟩ = some (.int .u8 (old : Int)) := by rw [HK.out.kc.cell]; exact b8_at hold
      have hcf : wr.frozen? ⟨g2, p1, none⟩ = false := HK.out.kc.frozen _
      have hcs : g2 < wr.heap.size := HK.out.kc.lt
      have HK1 := Lib.hid (HK.out.set2 p1 99)
      clear hold HK
      go_wp2_with fail
      (with_reducible refine HTW.out.mono ?_); rintro e w2 ⟨rfl, rfl⟩
      go_wp2_with fail
      change Code.wp _ _ _ _ (wr.setCell ⟨g2, p1, none⟩ (.int .u8 ((99 : Nat) : Int)))
      generalize wr.setCell ⟨g2, p1, none⟩ (.int .u8 ((99 : Nat) : Int)) = w3 at *
      clear hcc hcf hcs HTW
      obtain ⟨gO, rfl⟩ : ∃ x, x = gk := ⟨_, rfl⟩
      go_loopg [34] 5 (fun g s34 wr2 => ∃ t : Nat, t + g = 5 ∧ s34 = .int .i64 (t : Int) ∧ Hid (Bx w g1 g2 g3 (l.set p1 (affP q1 t)) z256 wr2))
      case atStart => exact ⟨0, by omega, rfl, HK1⟩
      case round =>
        obtain ⟨t, hg, rfl, HT⟩ := hrel
        have HGT := Lib.hid hg
        have ht : t ≤ 5 := by omega
        clear hg HK1
        by_cases htl : t < 5
        · obtain ⟨y, hy⟩ : ∃ y, affP q1 t = y := ⟨_, rfl⟩
          obtain ⟨r, hr⟩ : ∃ r, rot8 q1 t = r := ⟨_, rfl⟩
          obtain ⟨y1, hy1⟩ : ∃ z, affP q1 (t + 1) = z := ⟨_, rfl⟩
          have hyl : y < 256 := by rw [← hy]; exact affP_lt hq1l t ht
          have hrl : r < 256 := by
            rw [← hr]
            exact Nat.or_lt_two_pow (n := 8) (Nat.mod_lt _ (by decide)) (Nat.lt_of_le_of_lt (Nat.div_le_self _ _) hq1l)
          have ex : bits .xor .u8 (y : Int) (r : Int) = (y1 : Int) := by rw [u8_xor_nat _ _ hyl hrl, ← hy1, ← hy, ← hr]; rfl
          have HRT := Lib.hid (fun W => rot8_any (q1 : Int) (t : Int) q1 t W rfl rfl hq1l htl)
          rw [hr] at HRT
          rw [hy] at HT
          have hcn : wr.drew.cell? ⟨g2, p1, none⟩ = some (.int .u8 (y : Int)) := by
            rw [HT.out.kc.drew.cell]
            refine b8_at ?_
            rw [List.getElem?_set_self (by rw [HL.out]; exact hp1l)]
          have hcr := fun d os => Go.cell_regrown hcn d os
          have HNX := Lib.hid (show (l.set p1 y).set p1 y1 = l.set p1 (affP q1 (t + 1)) by rw [List.set_set, hy1])
          clear hy hr hy1
          go_wp2_with fail
          refine Rel.wp_region_rel 8 [(42, .const (.int .u8 (r : Int)))] (by kernel_rfl) (by kernel_rfl) ?_
          simp only [List.take_succ_cons, List.take_zero, List.drop_succ_cons, List.drop_zero, Act.put, List.setIfInBounds_toArray, List.set_cons_zero, List.set_cons_succ]
          repeat (refine Rel.tree_quiet rfl rfl rfl (fun K hK => ?_); go_big_quiet_op; refine hK _ ?_; clear hK K)
          refine Rel.tree_const rfl (.int .u8 (r : Int)) rfl (fun W hW _ => ?_) ?_
          · unfold Rel.relAt; go_simp; show Calls _ _ _ _ _
            exact quiet_const (HRT.out W)
          simp only [Act.put, List.setIfInBounds_toArray, List.set_cons_zero, List.set_cons_succ]
          repeat (refine Rel.tree_quiet rfl rfl rfl (fun K hK => ?_); go_big_quiet_op; refine hK _ ?_; clear hK K)
          intro W hW _
          have HX := Lib.hid (HT.out.old hW.undrew)
          have HX2 := Lib.hid (HX.out.set2 p1 y1)
          rw [HNX.out] at HX2
          have hcc : W.cell? ⟨g2, p1, none⟩ = some (.int .u8 (y : Int)) := by
            rw [HX.out.kc.cell]
            refine b8_at ?_
            rw [List.getElem?_set_self (by rw [HL.out]; exact hp1l)]
          have hcf : W.frozen? ⟨g2, p1, none⟩ = false := HX.out.kc.frozen _
          have hcs : g2 < W.heap.size := HX.out.kc.lt
          clear hW hcn hcr HRT HT HX HNX
          go_wp2_with fail
          go_light
          go_roundg (5 - (t + 1))
          case measure => have := HGT.out; omega
          case rel => exact ⟨t + 1, by omega, by go_num, HX2⟩
        · have htt : t = 5 := by omega
          rw [htt] at HT
          rw [← HN.out] at HT
          go_wp2_with fail
          go_light
          go_roundg (255 - (i + 1))
          case measure => have := HG.out; omega
          case rel => exact ⟨i + 1, by omega, by go_num, by rw [HP.out], by rw [HQ.out], HT⟩
    · have hil : i = 255 := by omega
      subst hil
      have HKC := Lib.hid HK.out.kc
      obtain ⟨old, hold⟩ : ∃ x, (bxP 255)[0]? = some x := ⟨_, List.getElem?_eq_getElem (by rw [bxP_length]; decide)⟩
      have hcc : wr.cell? ⟨g2, 0, none⟩ = some (.int .u8 (old : Int)) := by rw [HK.out.kc.cell]; exact b8_at hold
      have hcf : wr.frozen? ⟨g2, 0, none⟩ = false := HK.out.kc.frozen _
      have hcs : g2 < wr.heap.size := HK.out.kc.lt
      have HK1 := Lib.hid (HK.out.set2 0 99)
      rw [bxP_eq] at HK1
      clear hold HK HKC HG hi hlt
      go_upto_region 18 with fail
      change Code.wp _ _ _ _ (wr.setCell ⟨g2, 0, none⟩ (.int .u8 ((99 : Nat) : Int)))
      generalize wr.setCell ⟨g2, 0, none⟩ (.int .u8 ((99 : Nat) : Int)) = w3 at *
      have HSZ := Lib.hid (fun l (h : l.length = 256) => show (Tryd.prog.info? 92).map (·.size) = some (b8 l).size by rw [b8_size, h]; exact box_info)
      clear hcc hcf hcs
      go_wp2_with (refine wpList_load_row rfl 92 _ rfl g2 rfl 92 (b8 sbox) (0, 0) _ HK1.out.kc Tryd.underlying92 rfl (HSZ.out _ sbox_len) ?_)
      go_loopg [49] 256 (fun g s49 wr2 => ∃ j : Nat, j + g = 256 ∧ s49 = .int .i64 (j : Int) ∧ Hid (Bx w g1 g2 g3 sbox (bkP j) wr2))
      case atStart => exact ⟨0, by omega, rfl, HK1⟩
      case round =>
        clear HK1
        obtain ⟨j, hg, rfl, HT⟩ := hrel
        have HGT := Lib.hid hg
        have ht : j ≤ 256 := by omega
        clear hg
        by_cases hjl : j < 256
        · obtain ⟨y, hy⟩ : ∃ y, sb j = y := ⟨_, rfl⟩
          have hyl : y < 256 := by rw [← hy]; exact sb_lt j
          have hix := run_index_arr (P := Tryd.prog) 92 5 256 Tryd.underlying92 (fun _ => by kernel_rfl) (fun _ => by kernel_rfl) (b8 sbox) .i64 (j : Int) j rfl hjl (.int .u8 (y : Int)) (by rw [← hy]; exact b8_at (sb_at hjl))
          have hw8 : IntKind.u8.wrap (j : Int) = j := IntWalk.u8_in _ (by omega)
          obtain ⟨old, hold⟩ : ∃ x, (bkP j)[y]? = some x := ⟨_, List.getElem?_eq_getElem (by rw [bkP_length]; exact hyl)⟩
          have hcc : wr.cell? ⟨g3, y, none⟩ = some (.int .u8 (old : Int)) := by rw [HT.out.kd.cell]; exact b8_at hold
          have hcf : wr.frozen? ⟨g3, y, none⟩ = false := HT.out.kd.frozen _
          have hcs : g3 < wr.heap.size := HT.out.kd.lt
          have HX := Lib.hid (show Bx w g1 g2 g3 sbox (bkP (j + 1)) (wr.setCell ⟨g3, y, none⟩ (.int .u8 (j : Int))) by rw [bkP, hy]; exact HT.out.set3 y j)
          clear hold hy HT
          go_wp2_with fail
          go_light
          go_roundg (256 - (j + 1))
          case measure => have := HGT.out; omega
          case rel => exact ⟨j + 1, by omega, by go_num, HX⟩
        · have hj : j = 256 := by omega
          rw [hj, bkP_eq] at HT
          subst hj
          go_wp2_with fail
          have ho1 := HT.out.o1
          have ho2 := HT.out.o2
          have ho3 := HT.out.o3
          refine wp_two_rows (by kernel_rfl) (by kernel_rfl) rfl rfl rfl rfl rfl rfl 92 92 _ _ _ _ 58 59 (by decide) rfl rfl rfl rfl rfl rfl g2 g3 w.heap.size g1 (b8 sbox) (b8 ibox) 92 92 92 92 (b8 z256) (b8 z256) _ _ rfl rfl rfl rfl rfl rfl rfl rfl rfl rfl
            HT.out.kc HT.out.kd HT.out.ka HT.out.kb (by omega) (by omega) Tryd.underlying92 rfl (HSZ.out _ sbox_len) (by rw [b8_size, b8_size, sbox_len]; rfl) (b8_one _) Tryd.underlying92 rfl (HSZ.out _ ibox_len) (by rw [b8_size, b8_size, ibox_len]; rfl) (b8_one _) ?_
          intro w8 HKA KB8 F8
          have hB := HT.out.bel.trans (Frm.below F8 HT.out.bel.size (fun x hx => by simp at hx; omega))
          have HKA := Lib.hid HKA
          have KB8 := Lib.hid KB8
          have hB := Lib.hid hB
          clear F8 HT
          go_wp2_with fail
          go_light
          exact bodyPost_ret (v := .tuple #[.agg (b8 sbox), .agg (b8 ibox)]) (results_two Tryd.results109 _ _ w.heap.size g1 92 92 (b8 sbox) (b8 ibox) _ _ rfl rfl HKA.out KB8.out Tryd.underlying92 rfl (HSZ.out _ sbox_len) Tryd.underlying92 rfl (HSZ.out _ ibox_len)) rfl ⟨rfl, hB.out⟩
end Aes
end Go.Proofs.YtpakdcgcgekcfaaDoor

/-
  AES in plain Lean: forth and back is what it was, and back and forth.
-/
set_option linter.unusedSimpArgs false
set_option linter.unusedVariables false
namespace Go.Proofs.YtpakdcgcgekcfaaDoor
open Go.RowKit

namespace Aes
/-- One byte of a column by a row of factors. -/
def col (m : Nat → Nat) (x0 x1 x2 x3 : Nat) : Nat := gm x0 (m 0) ^^^ gm x1 (m 1) ^^^ gm x2 (m 2) ^^^ gm x3 (m 3)
def f4 (a b c d : Nat) : Nat → Nat
  | 0 => a
  | 1 => b
  | 2 => c
  | _ => d
def mF := f4 2 3 1 1
def mB := f4 14 11 13 9
/-- What a byte adds, d places on. -/
def cf (m n : Nat → Nat) (x d : Nat) : Nat := gm (gm x (m (d % 4))) (n 0) ^^^ gm (gm x (m ((d + 3) % 4))) (n 1) ^^^ gm (gm x (m ((d + 2) % 4))) (n 2) ^^^ gm (gm x (m ((d + 1) % 4))) (n 3)
theorem cf_FB : ((List.range 256).all fun x => (cf mF mB x 0 == x) && (cf mF mB x 1 == 0) && (cf mF mB x 2 == 0) && (cf mF mB x 3 == 0)) = true := by decide +kernel
theorem cf_BF : ((List.range 256).all fun x => (cf mB mF x 0 == x) && (cf mB mF x 1 == 0) && (cf mB mF x 2 == 0) && (cf mB mF x 3 == 0)) = true := by decide +kernel
theorem col_lt {m : Nat → Nat} (hm : ∀ i, m i < 256) {x0 x1 x2 x3 : Nat} (h0 : x0 < 256) (h1 : x1 < 256) (h2 : x2 < 256) (h3 : x3 < 256) : col m x0 x1 x2 x3 < 256 :=
  xor8 (xor8 (xor8 (gm_lt h0 (hm 0)) (gm_lt h1 (hm 1))) (gm_lt h2 (hm 2))) (gm_lt h3 (hm 3))
theorem f4_lt {a b c d : Nat} (ha : a < 256) (hb : b < 256) (hc : c < 256) (hd : d < 256) : ∀ i, f4 a b c d i < 256
  | 0 => ha
  | 1 => hb
  | 2 => hc
  | _ + 3 => hd
theorem mF_lt : ∀ i, mF i < 256 := f4_lt (by decide) (by decide) (by decide) (by decide)
theorem mB_lt : ∀ i, mB i < 256 := f4_lt (by decide) (by decide) (by decide) (by decide)
theorem gm_xor4 (b : Nat) {x0 x1 x2 x3 : Nat} (h0 : x0 < 256) (h1 : x1 < 256) (h2 : x2 < 256) (h3 : x3 < 256) : gm (x0 ^^^ x1 ^^^ x2 ^^^ x3) b = gm x0 b ^^^ gm x1 b ^^^ gm x2 b ^^^ gm x3 b := by
  rw [gm_xor b (xor8 (xor8 h0 h1) h2) h3, gm_xor b (xor8 h0 h1) h2, gm_xor b h0 h1]
theorem xor_group (a0 a1 a2 a3 b0 b1 b2 b3 c0 c1 c2 c3 d0 d1 d2 d3 : Nat) :
    (a0 ^^^ b0 ^^^ c0 ^^^ d0) ^^^ (a1 ^^^ b1 ^^^ c1 ^^^ d1) ^^^ (a2 ^^^ b2 ^^^ c2 ^^^ d2) ^^^ (a3 ^^^ b3 ^^^ c3 ^^^ d3) = (a0 ^^^ a1 ^^^ a2 ^^^ a3) ^^^ (b0 ^^^ b1 ^^^ b2 ^^^ b3) ^^^ (c0 ^^^ c1 ^^^ c2 ^^^ c3) ^^^ (d0 ^^^ d1 ^^^ d2 ^^^ d3) := by ac_rfl
theorem col_col {m n : Nat → Nat} (hm : ∀ i, m i < 256) (h : ((List.range 256).all fun x => (cf m n x 0 == x) && (cf m n x 1 == 0) && (cf m n x 2 == 0) && (cf m n x 3 == 0)) = true)
    {x0 x1 x2 x3 : Nat} (h0 : x0 < 256) (h1 : x1 < 256) (h2 : x2 < 256) (h3 : x3 < 256) :
    col n (col m x0 x1 x2 x3) (col m x1 x2 x3 x0) (col m x2 x3 x0 x1) (col m x3 x0 x1 x2) = x0 := by
  have e : ∀ {x}, x < 256 → cf m n x 0 = x ∧ cf m n x 1 = 0 ∧ cf m n x 2 = 0 ∧ cf m n x 3 = 0 := fun hx => by
    have := all256 h hx
    simp only [Bool.and_eq_true, beq_iff_eq] at this
    exact ⟨this.1.1.1, this.1.1.2, this.1.2, this.2⟩
  have g : ∀ {x} i, x < 256 → gm x (m i) < 256 := fun i hx => gm_lt hx (hm i)
  have k0 := (e h0).1
  have k1 := (e h1).2.1
  have k2 := (e h2).2.2.1
  have k3 := (e h3).2.2.2
  unfold cf at k0 k1 k2 k3
  simp only [Nat.reduceMod, Nat.reduceAdd] at k0 k1 k2 k3
  unfold col
  rw [gm_xor4 (n 0) (g 0 h0) (g 1 h1) (g 2 h2) (g 3 h3), gm_xor4 (n 1) (g 0 h1) (g 1 h2) (g 2 h3) (g 3 h0), gm_xor4 (n 2) (g 0 h2) (g 1 h3) (g 2 h0) (g 3 h1), gm_xor4 (n 3) (g 0 h3) (g 1 h0) (g 2 h1) (g 3 h2)]
  calc _ = (gm (gm x0 (m 0)) (n 0) ^^^ gm (gm x0 (m 3)) (n 1) ^^^ gm (gm x0 (m 2)) (n 2) ^^^ gm (gm x0 (m 1)) (n 3)) ^^^ (gm (gm x1 (m 1)) (n 0) ^^^ gm (gm x1 (m 0)) (n 1) ^^^ gm (gm x1 (m 3)) (n 2) ^^^ gm (gm x1 (m 2)) (n 3)) ^^^ (gm (gm x2 (m 2)) (n 0) ^^^ gm (gm x2 (m 1)) (n 1) ^^^ gm (gm x2 (m 0)) (n 2) ^^^ gm (gm x2 (m 3)) (n 3)) ^^^ (gm (gm x3 (m 3)) (n 0) ^^^ gm (gm x3 (m 2)) (n 1) ^^^ gm (gm x3 (m 1)) (n 2) ^^^ gm (gm x3 (m 0)) (n 3)) := by ac_rfl
    _ = x0 := by rw [k0, k1, k2, k3]; simp
theorem sixteen {l : List Nat} (h : l.length = 16) : ∃ a b c d e f g i j k m n o p q r, l = [a, b, c, d, e, f, g, i, j, k, m, n, o, p, q, r] := by
  match l, h with
  | [a, b, c, d, e, f, g, i, j, k, m, n, o, p, q, r], _ => exact ⟨a, b, c, d, e, f, g, i, j, k, m, n, o, p, q, r, rfl⟩
theorem zx (x : Nat) : 0 ^^^ x = x := Nat.zero_xor x
def mixC (m : Nat → Nat) : List Nat → List Nat
  | [a, b, c, d, e, f, g, i, j, k, l, n, o, p, q, r] => [col m a b c d, col m b c d a, col m c d a b, col m d a b c, col m e f g i, col m f g i e, col m g i e f, col m i e f g, col m j k l n, col m k l n j, col m l n j k, col m n j k l, col m o p q r, col m p q r o, col m q r o p, col m r o p q]
  | _ => []
theorem mix_F {l : List Nat} (h : l.length = 16) : mix [2, 3, 1, 1] l = mixC mF l := by
  obtain ⟨a, b, c, d, e, f, g, i, j, k, m, n, o, p, q, r, rfl⟩ := sixteen h
  simp only [mix, List.range, List.range.loop, List.map, mixA, zx]
  rfl
theorem mix_B {l : List Nat} (h : l.length = 16) : mix [14, 11, 13, 9] l = mixC mB l := by
  obtain ⟨a, b, c, d, e, f, g, i, j, k, m, n, o, p, q, r, rfl⟩ := sixteen h
  simp only [mix, List.range, List.range.loop, List.map, mixA, zx]
  rfl
theorem mixC_back {m n : Nat → Nat} (hm : ∀ i, m i < 256) (hc : ((List.range 256).all fun x => (cf m n x 0 == x) && (cf m n x 1 == 0) && (cf m n x 2 == 0) && (cf m n x 3 == 0)) = true)
    {l : List Nat} (h : l.length = 16) (hb : ∀ x ∈ l, x < 256) : mixC n (mixC m l) = l := by
  obtain ⟨a, b, c, d, e, f, g, i, j, k, t, u, o, p, q, r, rfl⟩ := sixteen h
  simp only [List.mem_cons, List.not_mem_nil, or_false, forall_eq_or_imp, forall_eq] at hb
  obtain ⟨ha, hb, hcc, hd, he, hf, hg, hi, hj, hk, ht, hu, ho, hp, hq, hr⟩ := hb
  simp only [mixC]
  rw [col_col hm hc ha hb hcc hd, col_col hm hc hb hcc hd ha, col_col hm hc hcc hd ha hb, col_col hm hc hd ha hb hcc,
    col_col hm hc he hf hg hi, col_col hm hc hf hg hi he, col_col hm hc hg hi he hf, col_col hm hc hi he hf hg,
    col_col hm hc hj hk ht hu, col_col hm hc hk ht hu hj, col_col hm hc ht hu hj hk, col_col hm hc hu hj hk ht,
    col_col hm hc ho hp hq hr, col_col hm hc hp hq hr ho, col_col hm hc hq hr ho hp, col_col hm hc hr ho hp hq]
theorem mixC_length (m : Nat → Nat) {l : List Nat} (h : l.length = 16) : (mixC m l).length = 16 := by
  obtain ⟨a, b, c, d, e, f, g, i, j, k, t, u, o, p, q, r, rfl⟩ := sixteen h
  rfl
theorem mixC_byte {m : Nat → Nat} (hm : ∀ i, m i < 256) {l : List Nat} (h : l.length = 16) (hb : ∀ x ∈ l, x < 256) : ∀ x ∈ mixC m l, x < 256 := by
  obtain ⟨a, b, c, d, e, f, g, i, j, k, t, u, o, p, q, r, rfl⟩ := sixteen h
  simp only [List.mem_cons, List.not_mem_nil, or_false, forall_eq_or_imp, forall_eq] at hb
  obtain ⟨ha, hb, hcc, hd, he, hf, hg, hi, hj, hk, ht, hu, ho, hp, hq, hr⟩ := hb
  intro x hx
  simp only [mixC, List.mem_cons, List.not_mem_nil, or_false] at hx
  rcases hx with rfl | rfl | rfl | rfl | rfl | rfl | rfl | rfl | rfl | rfl | rfl | rfl | rfl | rfl | rfl | rfl <;> exact col_lt hm (by assumption) (by assumption) (by assumption) (by assumption)
theorem shift_FB {l : List Nat} (h : l.length = 16) (hb : ∀ x ∈ l, x < 256) : shiftB (shiftF l) = l := by
  obtain ⟨a, b, c, d, e, f, g, i, j, k, t, u, o, p, q, r, rfl⟩ := sixteen h
  simp only [List.mem_cons, List.not_mem_nil, or_false, forall_eq_or_imp, forall_eq] at hb
  obtain ⟨ha, hb, hcc, hd, he, hf, hg, hi, hj, hk, ht, hu, ho, hp, hq, hr⟩ := hb
  show [ib (sb a), ib (sb b), ib (sb c), ib (sb d), ib (sb e), ib (sb f), ib (sb g), ib (sb i), ib (sb j), ib (sb k), ib (sb t), ib (sb u), ib (sb o), ib (sb p), ib (sb q), ib (sb r)] = _
  rw [ib_sb ha, ib_sb hb, ib_sb hcc, ib_sb hd, ib_sb he, ib_sb hf, ib_sb hg, ib_sb hi, ib_sb hj, ib_sb hk, ib_sb ht, ib_sb hu, ib_sb ho, ib_sb hp, ib_sb hq, ib_sb hr]
theorem sb_ib {b : Nat} (hb : b < 256) : sb (ib b) = b := by
  have := all256 back_all hb
  simp only [Bool.and_eq_true, beq_iff_eq] at this
  exact this.2
theorem shift_BF {l : List Nat} (h : l.length = 16) (hb : ∀ x ∈ l, x < 256) : shiftF (shiftB l) = l := by
  obtain ⟨a, b, c, d, e, f, g, i, j, k, t, u, o, p, q, r, rfl⟩ := sixteen h
  simp only [List.mem_cons, List.not_mem_nil, or_false, forall_eq_or_imp, forall_eq] at hb
  obtain ⟨ha, hb, hcc, hd, he, hf, hg, hi, hj, hk, ht, hu, ho, hp, hq, hr⟩ := hb
  show [sb (ib a), sb (ib b), sb (ib c), sb (ib d), sb (ib e), sb (ib f), sb (ib g), sb (ib i), sb (ib j), sb (ib k), sb (ib t), sb (ib u), sb (ib o), sb (ib p), sb (ib q), sb (ib r)] = _
  rw [sb_ib ha, sb_ib hb, sb_ib hcc, sb_ib hd, sb_ib he, sb_ib hf, sb_ib hg, sb_ib hi, sb_ib hj, sb_ib hk, sb_ib ht, sb_ib hu, sb_ib ho, sb_ib hp, sb_ib hq, sb_ib hr]
theorem shiftF_length (l : List Nat) : (shiftF l).length = 16 := by simp [shiftF]
theorem shiftB_length (l : List Nat) : (shiftB l).length = 16 := by simp [shiftB]
theorem shiftF_byte (l : List Nat) : ∀ x ∈ shiftF l, x < 256 := fun x hx => by
  obtain ⟨_, _, rfl⟩ := List.mem_map.1 hx
  exact sb_lt _
theorem shiftB_byte (l : List Nat) : ∀ x ∈ shiftB l, x < 256 := fun x hx => by
  obtain ⟨_, _, rfl⟩ := List.mem_map.1 hx
  exact ib_lt _
theorem xorL_length {a b : List Nat} {n : Nat} (ha : a.length = n) (hb : b.length = n) : (xorL a b).length = n := by simp [xorL, ha, hb]
theorem xorL_byte {a b : List Nat} (ha : ∀ x ∈ a, x < 256) (hb : ∀ x ∈ b, x < 256) : ∀ x ∈ xorL a b, x < 256 := fun x hx => by
  obtain ⟨i, hi⟩ := List.mem_iff_getElem?.1 hx
  simp only [xorL, List.getElem?_zipWith] at hi
  split at hi
  · rename_i y z hy hz
    cases hi
    exact xor8 (ha _ (List.mem_of_getElem? hy)) (hb _ (List.mem_of_getElem? hz))
  · cases hi
theorem xorL_back : ∀ (a b : List Nat), a.length = b.length → xorL (xorL a b) b = a
  | [], [], _ => rfl
  | x :: a, y :: b, h => by
    have := xorL_back a b (by simpa using h)
    simp only [xorL, List.zipWith_cons_cons] at this ⊢
    rw [this, Nat.xor_assoc, Nat.xor_self, Nat.xor_zero]
/-- What a key's rounds are: sixteen bytes each. -/
def KeyOk (key : List Nat) : Prop := 1 ≤ rounds key ∧ ∀ r, r ≤ rounds key → (kRound key r).length = 16 ∧ ∀ x ∈ kRound key r, x < 256
section
variable {key : List Nat}
theorem encGo_ok (hk : KeyOk key) {b : List Nat} (h : b.length = 16) (hb : ∀ x ∈ b, x < 256) : ∀ r, r ≤ rounds key → (encGo key b r).length = 16 ∧ ∀ x ∈ encGo key b r, x < 256
  | 0, _ => by
    obtain ⟨h1, h2⟩ := hk.2 0 (Nat.zero_le _)
    exact ⟨xorL_length h h1, xorL_byte hb h2⟩
  | r + 1, hr => by
    obtain ⟨h1, h2⟩ := hk.2 (r + 1) hr
    rw [encGo, mix_F (shiftF_length _)]
    exact ⟨xorL_length (mixC_length _ (shiftF_length _)) h1, xorL_byte (mixC_byte mF_lt (shiftF_length _) (shiftF_byte _)) h2⟩
theorem encB_ok (hk : KeyOk key) (b : List Nat) : (encB key b).length = 16 ∧ ∀ x ∈ encB key b, x < 256 := by
  obtain ⟨h1, h2⟩ := hk.2 (rounds key) (Nat.le_refl _)
  exact ⟨xorL_length (shiftF_length _) h1, xorL_byte (shiftF_byte _) h2⟩
theorem decGo_ok (b : List Nat) : ∀ r, (decGo key b r).length = 16 ∧ ∀ x ∈ decGo key b r, x < 256
  | 0 => ⟨shiftB_length _, shiftB_byte _⟩
  | r + 1 => ⟨shiftB_length _, shiftB_byte _⟩
theorem decB_ok (hk : KeyOk key) (b : List Nat) : (decB key b).length = 16 ∧ ∀ x ∈ decB key b, x < 256 := by
  obtain ⟨h1, h2⟩ := hk.2 0 (Nat.zero_le _)
  obtain ⟨h3, h4⟩ := decGo_ok (key := key) b (rounds key - 1)
  exact ⟨xorL_length h3 h1, xorL_byte h4 h2⟩
theorem dec_enc_go (hk : KeyOk key) {b : List Nat} (h : b.length = 16) (hb : ∀ x ∈ b, x < 256) : ∀ r, r ≤ rounds key - 1 → decGo key (encB key b) r = encGo key b (rounds key - 1 - r)
  | 0, _ => by
    obtain ⟨h1, h2⟩ := hk.2 (rounds key) (Nat.le_refl _)
    obtain ⟨h3, h4⟩ := encGo_ok hk h hb (rounds key - 1) (by omega)
    rw [decGo, encB, xorL_back _ _ (by rw [shiftF_length, h1]), shift_FB h3 h4]
    rfl
  | r + 1, hr => by
    obtain ⟨s, hs⟩ : ∃ s, rounds key - 1 - r = s + 1 := ⟨rounds key - 1 - (r + 1), by omega⟩
    have hs' : rounds key - 1 - (r + 1) = s := by omega
    obtain ⟨h1, h2⟩ := hk.2 (s + 1) (by omega)
    obtain ⟨h3, h4⟩ := encGo_ok hk h hb s (by omega)
    rw [decGo, dec_enc_go hk h hb r (by omega), hs, hs', encGo, mix_F (shiftF_length _), xorL_back _ _ (by rw [mixC_length _ (shiftF_length _), h1]), mix_B (mixC_length _ (shiftF_length _)),
      mixC_back mF_lt cf_FB (shiftF_length _) (shiftF_byte _), shift_FB h3 h4]
theorem dec_enc (hk : KeyOk key) {b : List Nat} (h : b.length = 16) (hb : ∀ x ∈ b, x < 256) : decB key (encB key b) = b := by
  obtain ⟨h1, h2⟩ := hk.2 0 (Nat.zero_le _)
  rw [decB, dec_enc_go hk h hb _ (Nat.le_refl _), Nat.sub_self, encGo, xorL_back _ _ (by rw [h, h1])]
theorem enc_dec_go (hk : KeyOk key) (c : List Nat) : ∀ r, r ≤ rounds key - 1 → encGo key (decB key c) r = decGo key c (rounds key - 1 - r)
  | 0, _ => by
    obtain ⟨h1, h2⟩ := hk.2 0 (Nat.zero_le _)
    rw [encGo, decB, xorL_back _ _ (by rw [(decGo_ok c _).1, h1])]
    rfl
  | r + 1, hr => by
    obtain ⟨s, hs⟩ : ∃ s, rounds key - 1 - r = s + 1 := ⟨rounds key - 1 - (r + 1), by omega⟩
    have hs' : rounds key - 1 - (r + 1) = s := by omega
    have hs2 : rounds key - 1 - s = r + 1 := by omega
    obtain ⟨h1, h2⟩ := hk.2 (r + 1) (by omega)
    obtain ⟨h3, h4⟩ := decGo_ok (key := key) c s
    have h5 : (xorL (decGo key c s) (kRound key (r + 1))).length = 16 := xorL_length h3 h1
    have h6 := xorL_byte h4 h2
    rw [encGo, enc_dec_go hk c r (by omega), hs, hs', decGo, hs2, mix_B h5, shift_BF (mixC_length _ h5) (mixC_byte mB_lt h5 h6), mix_F (mixC_length _ h5),
      mixC_back mB_lt cf_BF h5 h6, xorL_back _ _ (by rw [h3, h1])]
theorem enc_dec (hk : KeyOk key) {c : List Nat} (h : c.length = 16) (hb : ∀ x ∈ c, x < 256) : encB key (decB key c) = c := by
  obtain ⟨h1, h2⟩ := hk.2 (rounds key) (Nat.le_refl _)
  have h5 : (xorL c (kRound key (rounds key))).length = 16 := xorL_length h h1
  rw [encB, enc_dec_go hk c _ (Nat.le_refl _), Nat.sub_self, decGo, shift_BF h5 (xorL_byte hb h2), xorL_back _ _ (by rw [h, h1])]
end
end Aes
end Go.Proofs.YtpakdcgcgekcfaaDoor

/-
  Package aes: a key's words; sub.
-/
set_option linter.unusedSimpArgs false
set_option linter.unusedVariables false
namespace Go.Proofs.YtpakdcgcgekcfaaDoor
open Go.RowKit

namespace Aes
open Otp R1
/-- A key's cells. -/
def kC (v : Value) : List Value := v :: ((sbox.map fun x => Value.int .u8 ((x : Nat) : Int)) ++ (ibox.map fun x => Value.int .u8 ((x : Nat) : Int)))
theorem kC_length (v : Value) : (kC v).length = 513 := by simp [kC, sbox_len, ibox_len]
theorem kC_box (v : Value) {x : Nat} (hx : x < 256) : (kC v)[1 + x]? = some (.int .u8 (sb x : Int)) := by
  rw [kC, Nat.add_comm, List.getElem?_cons_succ, List.getElem?_append_left (by rw [List.length_map, sbox_len]; exact hx), List.getElem?_map, sb_at hx]
  rfl
theorem kC_back (v : Value) {x : Nat} (hx : x < 256) : (kC v)[257 + x]? = some (.int .u8 (ib x : Int)) := by
  rw [kC, show 257 + x = 256 + x + 1 by omega, List.getElem?_cons_succ, List.getElem?_append_right (by rw [List.length_map, sbox_len]; omega), List.length_map, sbox_len, show 256 + x - 256 = x by omega, List.getElem?_map, ib_at hx]
  rfl
theorem key_info : (Tryd.prog.info? 94).map (·.size) = some 513 := by kernel_rfl
set_option maxHeartbeats 1000000 in
theorem sub_any (g : Nat) (v : Value) (a b c d : Nat) (w : World) (hK : Blk w g 94 (kC v).toArray) (ha : a < 256) (hb : b < 256) (hc : c < 256) (hd : d < 256) :
    Calls Tryd.prog 110 #[.pointer (some ⟨g, 0, none⟩), .int .u32 ((be4 a b c d : Nat) : Int)] w (fun e w' => e = .returned (.int .u32 ((be4 (sb a) (sb b) (sb c) (sb d) : Nat) : Int)) ∧ ∃ n, w' = w.drewN n) := by
  obtain ⟨W, hW⟩ : ∃ W, be4 a b c d = W := ⟨_, rfl⟩
  rw [hW]
  have hcell : ∀ x, x < 256 → w.cell? ⟨g, 1 + x, none⟩ = some (.int .u8 (sb x : Int)) := fun x hx => by
    rw [hK.cell]
    simpa using kC_box v hx
  have hgl := hK.lt
  have h0 : IntKind.u8.wrap ((W : Int) / 16777216) = (a : Int) := by rw [IntKind.wrap_u8, ← hW]; unfold be4; omega
  have h1 : IntKind.u8.wrap ((W : Int) / 65536) = (b : Int) := by rw [IntKind.wrap_u8, ← hW]; unfold be4; omega
  have h2 : IntKind.u8.wrap ((W : Int) / 256) = (c : Int) := by rw [IntKind.wrap_u8, ← hW]; unfold be4; omega
  have h3 : IntKind.u8.wrap (W : Int) = (d : Int) := by rw [IntKind.wrap_u8, ← hW]; unfold be4; omega
  have c0 := hcell a ha
  have c1 := hcell b hb
  have c2 := hcell c hc
  have c3 := hcell d hd
  have l0 := sb_lt a
  have l1 := sb_lt b
  have l2 := sb_lt c
  have l3 := sb_lt d
  generalize sb a = x0 at *
  generalize sb b = x1 at *
  generalize sb c = x2 at *
  generalize sb d = x3 at *
  have HO := Lib.hid (u32_be4 l0 l1 l2 l3)
  clear hcell hW hK
  go_enter Tryd.func110, Tryd.ntmps110
  go_wp2_with fail
  go_quiet (fail)
  go_wp2_with fail
  go_light
  go_ret
  exact ⟨by rw [← HO.out]; rfl, _, rfl⟩
end Aes
end Go.Proofs.YtpakdcgcgekcfaaDoor

/-
  Rel, its tail in whatever order: the head's walk hands the rest over as it stands; the rest is taken (what looks at no memory), or forced.
-/
set_option linter.unusedSimpArgs false
set_option linter.unusedVariables false
namespace Go.Proofs.YtpakdcgcgekcfaaDoor
open Go Go.RowKit

namespace Rel
section
variable {P : Program} {ops : Array Oper} {md : Region.Mode}
def lateB (md : Region.Mode) (ops : Array Oper) (n : Nat) : Bool := Region.sinkB md ops n && (List.range ops.size).all fun t => decide (t ≤ n) || (List.range n).all fun i => Region.waitsFor md ops t i
def lateOk (md : Region.Mode) (ops : Array Oper) (n : Nat) : Bool := Region.noSelect ops && headB md ops n && decide (n < ops.size) && lateB md ops n
theorem sink_waits {n : Nat} {listed : Array Bool} (hs : Region.sinkB md ops n = true) (inv : HeadInv md ops n listed) (hn : n < ops.size) :
    ∀ (d i : Nat), n - i = d → i < n → listed.getD i true = false → n ∉ Region.ready md ops listed := by
  intro d
  induction d using Nat.strongRecOn with
  | _ d ih =>
    intro i hd hi hun hr
    obtain ⟨_, ot, hot, hall⟩ := mem_ready.1 hr
    have h1 := List.all_eq_true.1 hs i (List.mem_range.2 hi)
    obtain ⟨j, hj, hj2⟩ := List.any_eq_true.1 h1
    simp only [Bool.and_eq_true, decide_eq_true_eq] at hj2
    obtain ⟨oj, hoj, e, he, hb, hon⟩ := Region.waitsFor_spec hj2.2
    have hjle : j ≤ n := by have := List.mem_range.1 hj; omega
    by_cases hjt : j = n
    · subst hjt
      have : oj = ot := Option.some.inj (hoj.symm.trans hot)
      subst this
      have h2 := hall e he hb
      rw [hon, getD_both hun] at h2
      cases h2
    · cases hl : listed.getD j false with
      | true =>
        have h2 := inv.closed j oj hoj hl e he hb
        rw [hon, getD_both hun] at h2
        cases h2
      | false =>
        have hjs : j < listed.size := by rw [inv.size]; omega
        exact ih (n - j) (by omega) j rfl (by omega) (getD_in hjs hl) hr
theorem late_waits {n : Nat} {listed : Array Bool} (hl : lateB md ops n = true) (inv : HeadInv md ops n listed) (hn : n < ops.size) (i : Nat) (hi : i < n) (hun : listed.getD i true = false) (t : Nat) (ht : n ≤ t) : t ∉ Region.ready md ops listed := by
  simp only [lateB, Bool.and_eq_true] at hl
  by_cases htn : t = n
  · subst htn
    exact sink_waits hl.1 inv hn _ i rfl hi hun
  · intro hr
    obtain ⟨_, ot, hot, hall⟩ := mem_ready.1 hr
    have htlt : t < ops.size := (Array.getElem?_eq_some_iff.1 hot).1
    have h1 := List.all_eq_true.1 hl.2 t (List.mem_range.2 htlt)
    simp only [Bool.or_eq_true, decide_eq_true_eq] at h1
    rcases h1 with h1 | h1
    · omega
    · obtain ⟨o', ho', e, he, hb, hon⟩ := Region.waitsFor_spec (List.all_eq_true.1 h1 i (List.mem_range.2 hi))
      have : o' = ot := Option.some.inj (ho'.symm.trans hot)
      subst this
      have h2 := hall e he hb
      rw [hon, getD_both hun] at h2
      cases h2
theorem wp_region_rel_late {id : Nat} {Q : Exit → Act → World → Prop} {a : Act} {w : World} {l : List Oper} (n : Nat) (ks : List (Tmp × Kind)) (hm : P.follows .mixedOrders = true) (hB : lateOk .any l.toArray n = true)
    (h : tree P l.toArray ks w.drew (fun a' W => wpAny P .any l.toArray Q (l.length - n) (canon n l.length) a' W) (l.take n) bare a) : (Code.region id l.toArray true).wp P Q a w := by
  simp only [lateOk, Bool.and_eq_true, decide_eq_true_eq] at hB
  obtain ⟨⟨⟨hsel, hhead⟩, hlt⟩, hlate⟩ := hB
  have hsz : l.toArray.size = l.length := by simp
  have hnl : n ≤ l.length := by omega
  have hT : ∀ s, HeadInv .any l.toArray n s → ∀ i, i < n → s.getD i true = false → ∀ t, t ∈ Region.ready .any l.toArray s → t < n := fun s inv i hi hun t ht => by
    rcases Nat.lt_or_ge t n with h4 | h4
    · exact h4
    · exact absurd ht (late_waits hlate inv hlt i hi hun t h4)
  have inv0 : Inv P l.toArray .any n ks w.drew a (Array.replicate l.toArray.size false) a w.drew (fun _ => undef) :=
    ⟨⟨by simp, fun j oj _ hl => (by rw [getD_replicate_false] at hl; cases hl), fun t _ ht => getD_in (by simpa using ht) (getD_replicate_false _ _)⟩, Grow.refl _, rfl, rfl, fun _ _ => rfl, fun j o d _ _ hl => (by rw [getD_replicate_false] at hl; cases hl), fun j o _ _ hl => (by rw [getD_replicate_false] at hl; cases hl)⟩
  have hc : ∀ m, cnt (Array.replicate l.toArray.size false) m = m := fun m => by
    induction m with
    | zero => rfl
    | succ m ih => rw [cnt, ih, getD_replicate_false]; rfl
  refine wp_region_any hm ?_
  have := tree_any (g := l.length - n) (R := Q) hsel hhead (by omega) hT (L := l.take n) (fun j hj => by simp [hj]) (by simp; omega) h (fun a' w' hq => by rw [hsz]; exact hq) n _ _ _ _ inv0 (hc n)
  rw [show n + (l.length - n) = l.toArray.size by omega] at this
  exact this
def seqI (md : Region.Mode) (ops : Array Oper) : List Nat → Array Bool → Bool
  | [], s => (Region.ready md ops s).isEmpty
  | i :: r, s => decide (Region.ready md ops s = [i]) && seqI md ops r (s.setIfInBounds i true)
theorem wpAny_of_idx {Q' : Exit → Act → World → Prop} : ∀ (L : List (Nat × Oper)) (listed : Array Bool) (a : Act) (w : World), (∀ p ∈ L, ops[p.1]? = some p.2) →
    seqI md ops (L.map (·.1)) listed = true → wpList P ops Q' (L.map (·.2)) a w → wpAny P md ops Q' L.length listed a w
  | [], _, _, _, _, hB, h => ⟨by simpa [seqI] using hB, h⟩
  | (k, o) :: l, listed, a, w, hl, hB, h => by
    have h0 : ops[k]? = some o := hl (k, o) (by simp)
    simp only [List.map_cons, seqI, Bool.and_eq_true, decide_eq_true_eq] at hB
    refine ⟨fun h1 => (by rw [hB.1] at h1; cases h1), fun i hi => ?_⟩
    rw [hB.1] at hi
    have hik : i = k := by simpa using hi
    subst hik
    have hw : wpOp P ops Q' i (wpList P ops Q' (l.map (·.2))) a w := by unfold wpOp; simp only [h0]; exact h
    exact wpOp_mono (fun a' w' h' => wpAny_of_idx l _ a' w' (fun p hp => hl p (by simp [hp])) hB.2 h') hw
/-- A tail of three: the middle one looks at no memory and is taken first. -/
theorem tail_mid {Q : Exit → Act → World → Prop} {a : Act} {w : World} {s : Array Bool} {i j k : Nat} {oi oj ok : Oper} (v : Value) (hi : ops[i]? = some oi) (hj : ops[j]? = some oj) (hk : ops[k]? = some ok) (hs : Region.noSelect ops = true)
    (hf : Region.free md ops s j = true) (hr : (Region.ready md ops s).contains j = true) (hq : seqI md ops [i, k] (s.setIfInBounds j true) = true) (hQ : ∀ c a w, Q (.panic c) (a.put oj.dst v) w → Q (.panic c) a w)
    (hw : Region.wanted oj (yielded ops a.tmps) = true) (hy : ∀ w, (execOp a.eval oj).run P w = .ok (.value v) w) (h : wpList P ops Q [oi, ok] (a.put oj.dst v) w) : wpAny P md ops Q 3 s a w :=
  wpAny_take hj hs hf hr hQ (.inl ⟨hw, hy⟩) (wpAny_of_idx [(i, oi), (k, ok)] _ _ _ (fun p hp => by simp at hp; rcases hp with rfl | rfl; exact hi; exact hk) hq h)
end
end Rel
end Go.Proofs.YtpakdcgcgekcfaaDoor

/-
  Slices of bytes in a slice; a string's bytes.
-/
set_option linter.unusedSimpArgs false
set_option linter.unusedVariables false
namespace Go.Proofs.YtpakdcgcgekcfaaDoor
open Go.RowKit

namespace R1
/-- A slice's value as bytes, with what an append asks of it. -/
def BytesN (w : World) (B : Nat) (p : List Nat) (v : Value) : Prop := ∃ A c, v = .slice A p.length c ∧ p.length ≤ c ∧ (A = none → c = 0) ∧ Nats .u8 256 w B A p
/-- A slice of byte slices. -/
def Parts (w : World) (B : Nat) (A : Option Addr) (ps : List (List Nat)) : Prop := ∀ (i : Nat) (p : List Nat), ps[i]? = some p → ∃ J off v, A = some ⟨J, off, none⟩ ∧ J < B ∧ w.cell? ⟨J, off + i, none⟩ = some v ∧ BytesN w B p v
theorem BytesN.below {w w' : World} {B : Nat} {p : List Nat} {v : Value} (h : BytesN w B p v) (hb : Below B w w') : BytesN w' B p v := let ⟨A, c, h1, h2, h3, h4⟩ := h; ⟨A, c, h1, h2, h3, h4.below hb⟩
theorem BytesN.more {w : World} {B B' : Nat} {p : List Nat} {v : Value} (h : BytesN w B p v) (hB : B ≤ B') : BytesN w B' p v := let ⟨A, c, h1, h2, h3, h4⟩ := h; ⟨A, c, h1, h2, h3, h4.more hB⟩
theorem Parts.below {w w' : World} {B : Nat} {A : Option Addr} {ps : List (List Nat)} (h : Parts w B A ps) (hb : Below B w w') : Parts w' B A ps := fun i p hp => by
  obtain ⟨J, off, v, h1, h2, h3, h4⟩ := h i p hp
  exact ⟨J, off, v, h1, h2, (hb.cell (p := ⟨J, off + i, none⟩) h2).trans h3, h4.below hb⟩
theorem Parts.more {w : World} {B B' : Nat} {A : Option Addr} {ps : List (List Nat)} (h : Parts w B A ps) (hB : B ≤ B') : Parts w B' A ps := fun i p hp => by
  obtain ⟨J, off, v, h1, h2, h3, h4⟩ := h i p hp
  exact ⟨J, off, v, h1, by omega, h3, h4.more hB⟩
theorem Parts.nil (w : World) (B : Nat) (A : Option Addr) : Parts w B A [] := fun i p h => by simp at h
theorem BytesN.of {w : World} {p : List Nat} {A : Option Addr} {n c : Nat} (hn : p.length = n) (hc : n ≤ c) (hnil : A = none → c = 0) (h : Nats .u8 256 w w.heap.size A p) : BytesN w w.heap.size p (.slice A n c) := by subst hn; exact ⟨A, c, rfl, hc, hnil, h⟩
theorem BytesN.form {w : World} {B : Nat} {p : List Nat} {v : Value} (h : BytesN w B p v) : ∃ A n c, v = .slice A n c ∧ BytesN w B p (.slice A n c) := let ⟨A, c, h1, _⟩ := h; ⟨A, p.length, c, h1, h1 ▸ h⟩
theorem own_bytesN {w : World} {base : Nat} {v : Value} {l : List Nat} (h : OwnB w base v l) (hb : ∀ x ∈ l, x < 256) : BytesN w w.heap.size l v := by
  obtain ⟨A, c, rfl, hc, hN, _⟩ := own_nats h hb
  exact ⟨A, c, rfl, hc, own_nil h, hN⟩
/-- A slice literal of byte slices. -/
theorem parts_new {t : TypeId} (w : World) (vs : List Value) (ps : List (List Nat)) (hl : vs.length = ps.length) (h : ∀ (i : Nat) (p : List Nat) (v : Value), ps[i]? = some p → vs[i]? = some v → BytesN w w.heap.size p v) : Parts (w.alloc (.cells vs.toArray t)) (w.alloc (.cells vs.toArray t)).heap.size (some ⟨w.heap.size, 0, none⟩) ps := fun i p hp => by
  obtain ⟨v, hv⟩ : ∃ v, vs[i]? = some v := ⟨_, List.getElem?_eq_getElem (by have := (List.getElem?_eq_some_iff.1 hp).1; omega)⟩
  refine ⟨w.heap.size, 0, v, rfl, by simp, ?_, ((h i p v hp hv).below ((Below.refl _ w).alloc (Nat.le_refl _) _)).more (by simp)⟩
  rw [Nat.zero_add, (Blk.new w t vs.toArray).cell]
  simpa using hv
/-- A string's bytes. -/
def sB (s : ByteArray) : List Nat := s.data.toList.map (·.toNat)
theorem sB_length (s : ByteArray) : (sB s).length = s.size := by
  unfold sB
  rw [List.length_map]
  rfl
theorem sB_byte (s : ByteArray) : ∀ x ∈ sB s, x < 256 := fun x h => by
  obtain ⟨b, _, rfl⟩ := List.mem_map.1 h
  exact b.toNat_lt
theorem wpList_convert_str {P : Program} {w : World} {ops : Array Oper} {rest : List Oper} {o : Oper} {a : Act} {Q : Exit → Act → World → Prop} (hgd : o.guard = none) (src dst e : TypeId) (x : Operand) (ho : o.op = .convert src dst x) (hs : P.underlying src = some .string) (hd : P.underlying dst = some (.slice e)) (he : P.underlying e = some (.int .u8))
    (s : ByteArray) (hx : a.eval x = .string s) (h : ∀ v w', BytesN w' w'.heap.size (sB s) v → Below w.heap.size w w' → wpList P ops Q rest (a.put o.dst v) w') : wpList P ops Q (o :: rest) a w := by
  refine wpList_plain hgd fun K hK => ?_
  have hr := Lib.run_convert_string_bytes (P := P) w src dst e s hs hd he
  unfold Oper.wp execOp
  simp only [ho, hx]
  rw [Sem.run_bind, hr]
  simp only [Result.andThen_ok, Sem.run_pure, Oper.upon_value]
  refine hK _ _ (h _ _ ?_ ⟨rfl, rfl, rfl, by rw [Lib.bytesWorld_size]; omega, fun k hk => Lib.bytesWorld_at_old w e s k hk⟩)
  refine ⟨some ⟨w.heap.size, 0, none⟩, grownCap w s.size 0 e, by rw [sB_length], by rw [sB_length]; exact grownCap_ge _ _ _ _, (fun h => by cases h), fun i z hz => ?_⟩
  have hlt : i < s.size := by rw [← sB_length]; exact (List.getElem?_eq_some_iff.1 hz).1
  refine ⟨sB_byte s z (List.mem_of_getElem? hz), w.heap.size, 0, rfl, by rw [Lib.bytesWorld_size]; omega, ?_⟩
  rw [Nat.zero_add, Lib.bytesWorld_cell w e s i hlt]
  have : z = (s.data.toList.getD i 0).toNat := by
    simp only [sB, List.getElem?_map] at hz
    cases hq : s.data.toList[i]? with
    | none => rw [hq] at hz; cases hz
    | some b => rw [hq] at hz; cases hz; simp [List.getD, hq]
  rw [this]
end R1
end Go.Proofs.YtpakdcgcgekcfaaDoor

/-
  Package aes: New: a key's words.
-/
set_option linter.unusedSimpArgs false
set_option linter.unusedVariables false
namespace Go.Proofs.YtpakdcgcgekcfaaDoor
open Go.RowKit

namespace Aes
open Otp R1 Fuse
/-- Four bytes as a word. -/
def wd (l : List Nat) : Nat := be4 (at0 l 0) (at0 l 1) (at0 l 2) (at0 l 3)
def zK : List Value := .slice none 0 0 :: ((List.replicate 256 0).map fun x => Value.int .u8 ((x : Nat) : Int)) ++ ((List.replicate 256 0).map fun x => Value.int .u8 ((x : Nat) : Int))
theorem zK_eq : zK.toArray = Tryd.zeroCells94 := by kernel_rfl
theorem zK_length : zK.length = 513 := by kernel_rfl
theorem own32_next {w w' : World} {B : Nat} {v : Value} {l : List Nat} (h : Own32 w B v l) (hb : Below w.heap.size w w') : Own32 w' B v l := by
  refine ⟨h.1, ?_⟩
  rcases h.2 with h0 | ⟨g, cap, cur, hv, hg, hh, rest⟩
  · exact .inl h0
  · exact .inr ⟨g, cap, cur, hv, hg, Blk.next (w := w) (t := 43) (cs := cur) hh hb rfl, rest⟩
theorem own32_far {w : World} {B : Nat} {v : Value} {l : List Nat} (h : Own32 w B v l) {g : Nat} (hg : g < B) (i : Nat) (u : Value) : Own32 (w.setCell ⟨g, i, none⟩ u) B v l := by
  refine ⟨h.1, ?_⟩
  rcases h.2 with h0 | ⟨k, cap, cur, hv, hk, hh, rest⟩
  · exact .inl h0
  · exact .inr ⟨k, cap, cur, hv, hk, Blk.far' (w := w) (t := 43) (cs := cur) hh _ _ (by omega) _, rest⟩
/-- A key under way: its cells (the slice u), its words (the slice v). -/
structure Ks (W : World) (g0 gk : Nat) (u v : Value) (ws : List Nat) (w : World) : Prop where
  kr : Blk w g0 94 zK.toArray
  kk : Blk w gk 94 (kC u).toArray
  own : Own32 w (gk + 1) v ws
  bel : Below W.heap.size W w
  o0 : W.heap.size ≤ g0
  o1 : g0 < gk
section
variable {W w w' : World} {g0 gk : Nat} {u v v' : Value} {ws ws' : List Nat}
theorem Ks.lt (h : Ks W g0 gk u v ws w) : gk + 1 ≤ w.heap.size := h.kk.lt
theorem Ks.old (h : Ks W g0 gk u v ws w) (hb : Below w.heap.size w w') : Ks W g0 gk u v ws w' :=
  ⟨h.kr.next hb rfl, h.kk.next hb rfl, own32_next h.own hb, below_then h.bel hb (Nat.le_refl _), h.o0, h.o1⟩
theorem Ks.drewN (h : Ks W g0 gk u v ws w) (n : Nat) : Ks W g0 gk u v ws (w.drewN n) := ⟨h.kr.drewN n, h.kk.drewN n, h.own.drewN n, Below.drewN h.bel n, h.o0, h.o1⟩
theorem Ks.grown (h : Ks W g0 gk u v ws w) (hg : w.grownBy w' v.ownBlock) (ho : Own32 w' (gk + 1) v' ws') : Ks W g0 gk u v' ws' w' := by
  have o0 := h.o0
  have o1 := h.o1
  have hk : ∀ k, v.ownBlock = some k → gk + 1 ≤ k := fun k hk => (World.ownsRow.lt h.own k hk).1
  have hlt := h.lt
  have hf : Frm [] w w' → True := fun _ => trivial
  have hB : Below (gk + 1) w w' := (Below.refl _ w).grown hg hlt hk
  exact ⟨h.kr.below hB (by omega), h.kk.below hB (by omega), ho, h.bel.trans (hB.mono (by omega)), o0, o1⟩
theorem Ks.put (h : Ks W g0 gk u v ws w) : Ks W g0 gk v v ws (w.setCell ⟨gk, 0, none⟩ v) := by
  have o0 := h.o0
  have o1 := h.o1
  have e : (kC u).toArray.setIfInBounds 0 v = (kC v).toArray := by
    rw [List.setIfInBounds_toArray, kC, List.set_cons_zero]
    rfl
  exact ⟨h.kr.far' _ _ (by omega) _, e ▸ h.kk.set 0 v, own32_far h.own (by omega) _ _, h.bel.setCell (by simp only; omega) _, o0, o1⟩
end
theorem be4_xor {a b c d a' b' c' d' : Nat} (ha : a < 256) (hb : b < 256) (hc : c < 256) (hd : d < 256) (ha' : a' < 256) (hb' : b' < 256) (hc' : c' < 256) (hd' : d' < 256) :
    be4 a b c d ^^^ be4 a' b' c' d' = be4 (a ^^^ a') (b ^^^ b') (c ^^^ c') (d ^^^ d') := by
  obtain ⟨X, hX⟩ : ∃ X, be4 a b c d = X := ⟨_, rfl⟩
  obtain ⟨Y, hY⟩ : ∃ Y, be4 a' b' c' d' = Y := ⟨_, rfl⟩
  have p : ∀ n, (X ^^^ Y) / 2 ^ n % 2 ^ 8 = (X / 2 ^ n % 2 ^ 8) ^^^ (Y / 2 ^ n % 2 ^ 8) := fun n => by rw [div2_xor, mod2_xor]
  have hlt : X ^^^ Y < 2 ^ 32 := Nat.xor_lt_two_pow (by rw [← hX]; exact be4_lt ha hb hc hd) (by rw [← hY]; exact be4_lt ha' hb' hc' hd')
  have p0 := p 24
  have p1 := p 16
  have p2 := p 8
  have p3 := p 0
  rw [hX, hY]
  have x0 : X / 2 ^ 24 % 2 ^ 8 = a := by rw [← hX]; unfold be4; omega
  have x1 : X / 2 ^ 16 % 2 ^ 8 = b := by rw [← hX]; unfold be4; omega
  have x2 : X / 2 ^ 8 % 2 ^ 8 = c := by rw [← hX]; unfold be4; omega
  have x3 : X / 2 ^ 0 % 2 ^ 8 = d := by rw [← hX]; unfold be4; omega
  have y0 : Y / 2 ^ 24 % 2 ^ 8 = a' := by rw [← hY]; unfold be4; omega
  have y1 : Y / 2 ^ 16 % 2 ^ 8 = b' := by rw [← hY]; unfold be4; omega
  have y2 : Y / 2 ^ 8 % 2 ^ 8 = c' := by rw [← hY]; unfold be4; omega
  have y3 : Y / 2 ^ 0 % 2 ^ 8 = d' := by rw [← hY]; unfold be4; omega
  rw [x0, y0] at p0
  rw [x1, y1] at p1
  rw [x2, y2] at p2
  rw [x3, y3] at p3
  rw [← p0, ← p1, ← p2, ← p3]
  unfold be4
  omega
theorem turn8_any (a b c d : Nat) (w : World) (ha : a < 256) (hb : b < 256) (hc : c < 256) (hd : d < 256) : Calls Tryd.prog 111 #[.int .u32 ((be4 a b c d : Nat) : Int), .int .i64 8] w (fun e w' => e = .returned (.int .u32 ((be4 b c d a : Nat) : Int)) ∧ w = w') := by
  obtain ⟨X, hX⟩ : ∃ X, be4 a b c d = X := ⟨_, rfl⟩
  have hXl : X < 4294967296 := by rw [← hX]; exact be4_lt ha hb hc hd
  have a8 : bits .and .u64 8 31 = 8 := by decide +kernel
  have hor : bits .or .u32 ((X : Int) * 256 % 4294967296) ((X : Int) / 16777216) = ((be4 b c d a : Nat) : Int) := by
    rw [show (X : Int) * 256 % 4294967296 = ((X * 256 % 4294967296 : Nat) : Int) by simp, show (X : Int) / 16777216 = ((X / 16777216 : Nat) : Int) by simp, u32_or_nat _ _ (Nat.mod_lt _ (by decide)) (by omega)]
    have e1 : X * 256 % 4294967296 = 2 ^ 8 * ((b * 256 + c) * 256 + d) := by rw [← hX]; unfold be4; omega
    have e2 : X / 16777216 = a := by rw [← hX]; unfold be4; omega
    rw [e1, e2, or_add (i := 8) ha]
    unfold be4
    congr 1
    omega
  rw [hX]
  go_enter Tryd.func111, Tryd.ntmps111
  go_wp2_with fail
  go_light
  go_ret
  exact ⟨by rw [← hor]; rfl, rfl⟩
/-! The words, plain. -/
theorem kw0_length (key : List Nat) (n : Nat) : (kw0 key n).length = n := by rw [kw0, List.length_map, List.length_range]
theorem kGo_length (n : Nat) (w : List (List Nat)) : ∀ k, (kGo n w k).length = w.length + k
  | 0 => rfl
  | k + 1 => by rw [kGo, kNext, List.length_append, kGo_length n w k]; rfl
/-- Four bytes. -/
def W4 (t : List Nat) : Prop := t.length = 4 ∧ ∀ x ∈ t, x < 256
theorem W4.four {t : List Nat} (h : W4 t) : ∃ a b c d, t = [a, b, c, d] ∧ a < 256 ∧ b < 256 ∧ c < 256 ∧ d < 256 := by
  obtain ⟨h1, h2⟩ := h
  match t, h1 with
  | [a, b, c, d], _ => exact ⟨a, b, c, d, rfl, h2 a (by simp), h2 b (by simp), h2 c (by simp), h2 d (by simp)⟩
theorem w4_of {a b c d : Nat} (ha : a < 256) (hb : b < 256) (hc : c < 256) (hd : d < 256) : W4 [a, b, c, d] := ⟨rfl, fun x hx => by
  simp only [List.mem_cons, List.not_mem_nil, or_false] at hx
  rcases hx with rfl | rfl | rfl | rfl <;> assumption⟩
theorem conA_lt : ∀ i, conA i < 256
  | 0 => (by decide : 1 < 256)
  | i + 1 => xt_lt (conA_lt i)
theorem kTurn_ok {n i : Nat} {t : List Nat} (h : W4 t) : W4 (kTurn n i t) := by
  unfold kTurn
  split
  · exact w4_of (xor8 (sb_lt _) (conA_lt _)) (sb_lt _) (sb_lt _) (sb_lt _)
  · split
    · exact ⟨by rw [List.length_map]; exact h.1, fun x hx => by
        obtain ⟨_, _, rfl⟩ := List.mem_map.1 hx
        exact sb_lt _⟩
    · exact h
theorem xorL_ok {a b : List Nat} (ha : W4 a) (hb : W4 b) : W4 (xorL a b) := ⟨xorL_length ha.1 hb.1, xorL_byte ha.2 hb.2⟩
theorem kGo_ok {n : Nat} {w : List (List Nat)} (hn : 0 < n) (hl : w.length = n) (hw : ∀ t ∈ w, W4 t) : ∀ k, ∀ t ∈ kGo n w k, W4 t
  | 0, t, ht => hw t ht
  | k + 1, t, ht => by
    rw [kGo, kNext] at ht
    have ih := kGo_ok hn hl hw k
    rcases List.mem_append.1 ht with h | h
    · exact ih t h
    · rw [List.mem_singleton] at h
      subst h
      have hlen := kGo_length n w k
      have g : ∀ j, j < (kGo n w k).length → W4 ((kGo n w k)[j]?.getD []) := fun j hj => by
        rw [List.getElem?_eq_getElem hj]
        exact ih _ (List.getElem_mem hj)
      exact xorL_ok (kTurn_ok (g _ (by omega))) (g _ (by omega))
theorem kw0_ok {key : List Nat} {n : Nat} (hl : key.length = 4 * n) (hb : ∀ x ∈ key, x < 256) : ∀ t ∈ kw0 key n, W4 t := fun t ht => by
  obtain ⟨i, hi, rfl⟩ := List.mem_map.1 ht
  have := List.mem_range.1 hi
  refine ⟨by rw [List.length_take, List.length_drop]; omega, fun x hx => hb x (List.mem_of_mem_drop (List.mem_of_mem_take hx))⟩
theorem kGo_next (n : Nat) (w : List (List Nat)) (k : Nat) {t o : List Nat} (ht : (kGo n w k)[w.length + k - 1]? = some t) (ho : (kGo n w k)[w.length + k - n]? = some o) : kGo n w (k + 1) = kGo n w k ++ [xorL (kTurn n (w.length + k) t) o] := by
  rw [kGo, kNext, kGo_length, ht, ho]
  rfl
theorem con_same {n i : Nat} (hn : 0 < n) (hi : 0 < i) (h : i % n ≠ 0) : (i - 1) / n = i / n := by
  have h1 := Nat.div_add_mod i n
  have h2 := Nat.mod_lt i hn
  rw [Nat.div_eq_iff hn]
  have : n * (i / n) = i / n * n := Nat.mul_comm _ _
  omega
theorem con_less {n i : Nat} (hn : 0 < n) (hi : n ≤ i) (h : i % n = 0) : (i - 1) / n = i / n - 1 := by
  have h1 := Nat.div_add_mod i n
  have h3 : 1 ≤ i / n := (Nat.one_le_div_iff hn).2 hi
  obtain ⟨q, hq⟩ : ∃ q, i / n = q + 1 := ⟨i / n - 1, by omega⟩
  rw [hq, Nat.div_eq_iff hn]
  rw [hq, Nat.mul_add] at h1
  have : n * q = (q + 1 - 1) * n := by rw [Nat.mul_comm]; rfl
  omega
end Aes
end Go.Proofs.YtpakdcgcgekcfaaDoor
