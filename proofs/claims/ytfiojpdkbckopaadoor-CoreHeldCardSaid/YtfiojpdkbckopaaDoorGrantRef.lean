/-
  The reference of grant (curtilageref14): Has, May.
-/
import Derived.Test.YtfiojpdkbckopaaDoorProg
import Derived.Test.YtfiojpdkbckopaaDoorJ55314620
import Derived.Test.YtfiojpdkbckopaaDoorGrantMay2
import Derived.Deep.LoopGhost
set_option linter.unusedSimpArgs false
set_option linter.unusedVariables false
namespace Go.Proofs.YtfiojpdkbckopaaDoor
open Go.RowKit

namespace Grant
def hasB (s : ByteArray) (c : UInt8) : Bool := s.data.toList.contains c
theorem hasB_at {s : ByteArray} {c : UInt8} {i : Nat} (h : i < s.size) (he : s[i] = c) : hasB s c = true := by
  unfold hasB
  rw [List.contains_iff_exists_mem_beq]
  exact ⟨s[i], Array.getElem_mem_toList h, by simp [he]⟩
theorem hasB_none {s : ByteArray} {c : UInt8} (h : ∀ (i : Nat) (hi : i < s.size), s[i] ≠ c) : hasB s c = false := by
  unfold hasB
  rw [← Bool.not_eq_true, List.contains_iff_exists_mem_beq]
  rintro ⟨x, hx, he⟩
  obtain ⟨i, hi, rfl⟩ := List.getElem_of_mem hx
  exact h i (by simpa using hi) ((beq_iff_eq.1 he).symm)
theorem u8_ne {x c : UInt8} (h : x ≠ c) : ((x.toNat : Int) == (c.toNat : Int)) = false := by
  rw [beq_eq_false_iff_ne]
  intro e
  exact h (UInt8.toNat.inj (by omega))
def rowS : List ByteArray := [⟨#[114, 119, 32, 114, 119, 32, 114, 119, 32, 114, 119, 32, 114, 119]⟩, ⟨#[46, 32, 46, 32, 46, 32, 46, 32, 46]⟩, ⟨#[114, 119, 32, 114, 119, 32, 114, 32, 46, 32, 46]⟩, ⟨#[46, 32, 46, 32, 46, 32, 114, 119, 32, 46]⟩, ⟨#[46, 32, 46, 32, 46, 32, 46, 32, 46]⟩, ⟨#[114, 120, 32, 114, 119, 32, 114, 32, 114, 119, 32, 114]⟩, ⟨#[114, 32, 114, 119, 32, 114, 32, 46, 32, 46]⟩, ⟨#[46, 32, 46, 32, 46, 32, 114, 119, 32, 46]⟩, ⟨#[46, 32, 46, 32, 46, 32, 46, 32, 46]⟩, ⟨#[114, 119, 120, 32, 114, 119, 32, 114, 32, 114, 119, 32, 114]⟩, ⟨#[114, 32, 114, 119, 32, 114, 32, 46, 32, 46]⟩, ⟨#[114, 119, 32, 114, 119, 32, 114, 32, 114, 119, 32, 114]⟩]
/-- The word at a place of a row: words parted by blanks. -/
def mw (region : Nat) : List UInt8 → Nat → List UInt8 → List UInt8
  | [], k, word => if k = region then word else []
  | c :: r, k, word => if c = 32 then (if k = region then word else mw region r (k + 1) []) else mw region r k (word ++ [c])
def bs (l : List UInt8) : ByteArray := ⟨l.toArray⟩
theorem rowS_size : ∀ r ∈ rowS, r.size ≤ 20 := by decide +kernel
theorem bs_snoc (l : List UInt8) (s : ByteArray) (i : Nat) (h : i < s.size) : bs l ++ s.extract i (i + 1) = bs (l ++ [s[i]]) := by
  have e : (s.data.toList.drop i).take 1 = [s[i]] := by
    rw [List.drop_eq_getElem_cons (by simpa using h)]
    rfl
  apply ByteArray.ext
  apply Array.toList_inj.1
  simp [bs, ByteArray.data_append, ByteArray.data_extract, Array.toList_extract, e]
theorem bs_toList (l : List UInt8) : (bs l).toList = l := by rw [ByteArray.toList_eq]; rfl
theorem mw_at (c : Nat) (s : ByteArray) (i k : Nat) (word : List UInt8) (h : i < s.size) : mw c (s.data.toList.drop i) k word = if s[i] = 32 then (if k = c then word else mw c (s.data.toList.drop (i + 1)) (k + 1) []) else mw c (s.data.toList.drop (i + 1)) k (word ++ [s[i]]) := by
  rw [List.drop_eq_getElem_cons (by simpa using h), mw]
  rfl
theorem word_no {l : List UInt8} (h : ((bs l).toList == [46]) = false) : (if l = [46] then [] else l) = l := by
  rw [bs_toList] at h
  rw [if_neg (by simpa using h)]
theorem word_yes {l : List UInt8} (h : ((bs l).toList == [46]) = true) : (if l = [46] then [] else l) = [] := by
  rw [bs_toList] at h
  rw [if_pos (by simpa using h)]
theorem ret_bs {a b : List UInt8} (h : a = b) : Ending.returned (.string (bs b)) = .returned (.string (bs a)) := by rw [h]
def wordOf (c : Nat) (s : ByteArray) : List UInt8 := let x := mw c s.data.toList 1 []; if x = [46] then [] else x
end Grant
end Go.Proofs.YtfiojpdkbckopaaDoor
