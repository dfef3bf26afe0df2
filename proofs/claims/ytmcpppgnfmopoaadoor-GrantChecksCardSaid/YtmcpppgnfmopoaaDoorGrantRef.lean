/-
  The reference of grant (curtilageref14): Has, May.
-/
import Derived.Test.YtmcpppgnfmopoaaDoorProg
import Derived.Test.YtmcpppgnfmopoaaDoorMem
import Derived.Test.YtmcpppgnfmopoaaDoorGrantMay2
import Derived.Deep.LoopGhost
namespace Go.Proofs.YtmcpppgnfmopoaaDoor
open Go.RowKit

namespace Grant
def hasB (s : ByteArray) (c : UInt8) : Bool := s.data.toList.contains c
theorem hasB_at {s : ByteArray} {c : UInt8} {i : Nat} (h : i < s.size) (he : s[i] = c) : hasB s c = true := by
  unfold hasB
  rw [List.contains_iff_exists_mem_beq]
  exact ⟨s[i], Array.getElem_mem_toList h, by simp [he]⟩
theorem hasB_none {s : ByteArray} {c : UInt8} (h : ∀ (i : Nat) (hi : i < s.size), s[i] ≠ c) : hasB s c = false := by
  unfold hasB
  rw [← Bool.not_eq_true, List.contains_iff_exists_mem_beq]
  rintro ⟨x, hx, he⟩
  obtain ⟨i, hi, rfl⟩ := List.getElem_of_mem hx
  exact h i (by simpa using hi) ((beq_iff_eq.1 he).symm)
theorem u8_ne {x c : UInt8} (h : x ≠ c) : ((x.toNat : Int) == (c.toNat : Int)) = false := by
  rw [beq_eq_false_iff_ne]
  intro e
  exact h (UInt8.toNat.inj (by omega))
set_option maxHeartbeats 1000000 in
theorem has_any (s : ByteArray) (c : UInt8) (w : World) (hs : s.size ≤ 1000) :
    Calls Tryd.prog 23 #[.string s, .int .u8 (c.toNat : Int)] w fun e w' => e = .returned (.bool (hasB s c)) ∧ w = w' := by
  go_enter Tryd.func23, Tryd.ntmps23
  go_wp2_with fail
  go_loopg [5] s.size (fun g s5 wr => ∃ i : Nat, i + g = s.size ∧ s5 = .int .i64 (i : Int) ∧ Hid (∀ (j : Nat) (hj : j < s.size), j < i → s[j] ≠ c) ∧ wr = w)
  case atStart => exact ⟨0, by omega, rfl, Lib.hid (fun j _ h => absurd h (by omega)), rfl⟩
  case round =>
    obtain ⟨i, hg, rfl, HN, rfl⟩ := hrel
    have HG := Lib.hid hg
    have hi : i ≤ s.size := by omega
    clear hg
    by_cases hlt : i < s.size
    · by_cases he : s[i] = c
      · have HE := Lib.hid (hasB_at hlt he)
        have hb : ((s[i].toNat : Int) == (c.toNat : Int)) = true := by rw [he]; simp
        clear he
        go_wp2_with fail
        go_light
        go_ret
        exact ⟨by rw [HE.out]; rfl, rfl⟩
      · have hb := u8_ne he
        have HN2 := Lib.hid (show ∀ (j : Nat) (hj : j < s.size), j < i + 1 → s[j] ≠ c from fun j hj h => by
          by_cases hji : j < i
          · exact HN.out j hj hji
          · obtain rfl : j = i := by omega
            exact he)
        clear he
        go_wp2_with fail
        go_light
        go_roundg (s.size - (i + 1))
        case measure => have := HG.out; omega
        case rel => exact ⟨i + 1, by omega, by go_num, HN2, rfl⟩
    · have : i = s.size := by omega
      subst this
      have HE := Lib.hid (hasB_none (s := s) (c := c) (fun j hj => HN.out j hj hj))
      go_wp2_with fail
      go_light
      go_ret
      exact ⟨by rw [HE.out]; rfl, rfl⟩
def rowS : List ByteArray := [⟨#[114, 119, 32, 114, 119, 32, 114, 119, 32, 114, 119, 32, 114, 119]⟩, ⟨#[46, 32, 46, 32, 46, 32, 46, 32, 46]⟩, ⟨#[114, 119, 32, 114, 119, 32, 114, 32, 46, 32, 46]⟩, ⟨#[46, 32, 46, 32, 46, 32, 114, 119, 32, 46]⟩, ⟨#[46, 32, 46, 32, 46, 32, 46, 32, 46]⟩, ⟨#[114, 120, 32, 114, 119, 32, 114, 32, 114, 119, 32, 114]⟩, ⟨#[114, 32, 114, 119, 32, 114, 32, 46, 32, 46]⟩, ⟨#[46, 32, 46, 32, 46, 32, 114, 119, 32, 46]⟩, ⟨#[46, 32, 46, 32, 46, 32, 46, 32, 46]⟩, ⟨#[114, 119, 120, 32, 114, 119, 32, 114, 32, 114, 119, 32, 114]⟩, ⟨#[114, 32, 114, 119, 32, 114, 32, 46, 32, 46]⟩, ⟨#[114, 119, 32, 114, 119, 32, 114, 32, 114, 119, 32, 114]⟩]
/-- The word at a place of a row: words parted by blanks. -/
def mw (region : Nat) : List UInt8 → Nat → List UInt8 → List UInt8
  | [], k, word => if k = region then word else []
  | c :: r, k, word => if c = 32 then (if k = region then word else mw region r (k + 1) []) else mw region r k (word ++ [c])
def bs (l : List UInt8) : ByteArray := ⟨l.toArray⟩
theorem rowS_size : ∀ r ∈ rowS, r.size ≤ 20 := by decide +kernel
theorem bs_snoc (l : List UInt8) (s : ByteArray) (i : Nat) (h : i < s.size) : bs l ++ s.extract i (i + 1) = bs (l ++ [s[i]]) := by
  have e : (s.data.toList.drop i).take 1 = [s[i]] := by
    rw [List.drop_eq_getElem_cons (by simpa using h)]
    rfl
  apply ByteArray.ext
  apply Array.toList_inj.1
  simp [bs, ByteArray.data_append, ByteArray.data_extract, Array.toList_extract, e]
theorem bs_toList (l : List UInt8) : (bs l).toList = l := by rw [ByteArray.toList_eq]; rfl
theorem mw_at (c : Nat) (s : ByteArray) (i k : Nat) (word : List UInt8) (h : i < s.size) : mw c (s.data.toList.drop i) k word = if s[i] = 32 then (if k = c then word else mw c (s.data.toList.drop (i + 1)) (k + 1) []) else mw c (s.data.toList.drop (i + 1)) k (word ++ [s[i]]) := by
  rw [List.drop_eq_getElem_cons (by simpa using h), mw]
  rfl
theorem word_no {l : List UInt8} (h : ((bs l).toList == [46]) = false) : (if l = [46] then [] else l) = l := by
  rw [bs_toList] at h
  rw [if_neg (by simpa using h)]
theorem word_yes {l : List UInt8} (h : ((bs l).toList == [46]) = true) : (if l = [46] then [] else l) = [] := by
  rw [bs_toList] at h
  rw [if_pos (by simpa using h)]
theorem ret_bs {a b : List UInt8} (h : a = b) : Ending.returned (.string (bs b)) = .returned (.string (bs a)) := by rw [h]
def wordOf (c : Nat) (s : ByteArray) : List UInt8 := let x := mw c s.data.toList 1 []; if x = [46] then [] else x
set_option maxHeartbeats 1000000 in
theorem ref_may_in (a b c : Nat) (row : ByteArray) (w : World) (ha : a < 4) (hb : b < 3) (hc1 : 1 ≤ c) (hc : c ≤ 5) (hrow : rowS[4 * b + a]? = some row) :
    Calls Tryd.prog 22 #[.int .i64 (a : Int), .int .i64 (b : Int), .int .i64 (c : Int)] w fun e w' => e = .returned (.string (bs (wordOf c row))) ∧ Below w.heap.size w w' := by
  have hsz := rowS_size row (List.mem_of_getElem? hrow)
  have hcell : (w.alloc (.cells #[.string ⟨#[114, 119, 32, 114, 119, 32, 114, 119, 32, 114, 119, 32, 114, 119]⟩, .string ⟨#[46, 32, 46, 32, 46, 32, 46, 32, 46]⟩, .string ⟨#[114, 119, 32, 114, 119, 32, 114, 32, 46, 32, 46]⟩, .string ⟨#[46, 32, 46, 32, 46, 32, 114, 119, 32, 46]⟩, .string ⟨#[46, 32, 46, 32, 46, 32, 46, 32, 46]⟩, .string ⟨#[114, 120, 32, 114, 119, 32, 114, 32, 114, 119, 32, 114]⟩, .string ⟨#[114, 32, 114, 119, 32, 114, 32, 46, 32, 46]⟩, .string ⟨#[46, 32, 46, 32, 46, 32, 114, 119, 32, 46]⟩, .string ⟨#[46, 32, 46, 32, 46, 32, 46, 32, 46]⟩, .string ⟨#[114, 119, 120, 32, 114, 119, 32, 114, 32, 114, 119, 32, 114]⟩, .string ⟨#[114, 32, 114, 119, 32, 114, 32, 46, 32, 46]⟩, .string ⟨#[114, 119, 32, 114, 119, 32, 114, 32, 114, 119, 32, 114]⟩] 9)).cell? ⟨w.heap.size, 4 * b + a, none⟩ = some (.string row) := by
    rw [(Blk.new w _ _).cell]
    have e : (#[.string ⟨#[114, 119, 32, 114, 119, 32, 114, 119, 32, 114, 119, 32, 114, 119]⟩, .string ⟨#[46, 32, 46, 32, 46, 32, 46, 32, 46]⟩, .string ⟨#[114, 119, 32, 114, 119, 32, 114, 32, 46, 32, 46]⟩, .string ⟨#[46, 32, 46, 32, 46, 32, 114, 119, 32, 46]⟩, .string ⟨#[46, 32, 46, 32, 46, 32, 46, 32, 46]⟩, .string ⟨#[114, 120, 32, 114, 119, 32, 114, 32, 114, 119, 32, 114]⟩, .string ⟨#[114, 32, 114, 119, 32, 114, 32, 46, 32, 46]⟩, .string ⟨#[46, 32, 46, 32, 46, 32, 114, 119, 32, 46]⟩, .string ⟨#[46, 32, 46, 32, 46, 32, 46, 32, 46]⟩, .string ⟨#[114, 119, 120, 32, 114, 119, 32, 114, 32, 114, 119, 32, 114]⟩, .string ⟨#[114, 32, 114, 119, 32, 114, 32, 46, 32, 46]⟩, .string ⟨#[114, 119, 32, 114, 119, 32, 114, 32, 114, 119, 32, 114]⟩] : Array Value)[4 * b + a]? = (rowS[4 * b + a]?).map Value.string := by
      rw [← Array.getElem?_toList, ← List.getElem?_map]
      rfl
    rw [e, hrow]
    rfl
  have HR := Lib.hid hrow
  clear hrow
  go_enter Tryd.func22, Tryd.ntmps22
  go_wp2_with fail
  go_loopg [9, 10, 11] (row.size + 1) (fun g s9 s10 s11 wr => ∃ i k : Nat, ∃ word : List UInt8, i + g = row.size + 1 ∧ s11 = .int .i64 (i : Int) ∧ s9 = .int .i64 (k : Int) ∧ k ≤ i + 1 ∧ word.length ≤ i ∧ s10 = .string (bs word) ∧ Hid (mw c row.data.toList 1 [] = if i ≤ row.size then mw c (row.data.toList.drop i) k word else word) ∧ Hid (Below w.heap.size w wr))
  case atStart => exact ⟨0, 1, [], by omega, rfl, rfl, by omega, by simp, rfl, Lib.hid (by simp), Lib.hid ((Below.refl _ w).alloc (Nat.le_refl _) _)⟩
  case round =>
    clear hcell
    obtain ⟨i, k, word, hg, rfl, rfl, hk, hwl, rfl, HM, HB⟩ := hrel
    have HG := Lib.hid hg
    have hi : i ≤ row.size + 1 := by omega
    clear hg
    by_cases hlt : i < row.size
    · have hm := HM.out
      rw [if_pos (by omega), mw_at _ _ _ _ _ hlt] at hm
      by_cases he : row[i] = 32
      · rw [if_pos he] at hm
        have hb : ((row[i].toNat : Int) == 32) = true := by rw [he]; rfl
        by_cases hkc : k = c
        · rw [if_pos hkc] at hm
          have HM2 := Lib.hid hm
          subst hkc
          clear he hm
          have HW := Lib.hid (show wordOf k row = if word = [46] then [] else word by simp only [wordOf, HM2.out])
          go_wp2_with fail
          all_goals (first | (have HE := word_no ‹((bs word).toList == [46]) = false›; rw [HE] at HW) | (have HE := word_yes ‹((bs word).toList == [46]) = true›; rw [HE] at HW))
          all_goals go_light
          all_goals go_ret
          all_goals exact ⟨by rw [HW.out]; rfl, HB.out⟩
        · rw [if_neg hkc] at hm
          have HM2 := Lib.hid hm
          clear he hm
          go_wp2_with fail
          go_light
          go_roundg (row.size + 1 - (i + 1))
          case measure => have := HG.out; omega
          case rel => exact ⟨i + 1, k + 1, [], by omega, by go_num, by go_num, by omega, by simp, rfl, Lib.hid (by rw [if_pos (by omega)]; exact HM2.out), HB⟩
      · rw [if_neg he] at hm
        have HM2 := Lib.hid hm
        have hb : ((row[i].toNat : Int) == 32) = false := u8_ne (c := 32) he
        have HS := Lib.hid (bs_snoc word row i hlt)
        have hsum : ¬ ((bs word).size + (row.extract i (i + 1)).size > 9223372036854775807) := by
          have h1 : (bs word).size = word.length := rfl
          have h2 : (row.extract i (i + 1)).size ≤ row.size := by rw [ByteArray.size_extract]; omega
          omega
        clear he hm
        go_wp2_with fail
        go_light
        go_roundg (row.size + 1 - (i + 1))
        case measure => have := HG.out; omega
        case rel => exact ⟨i + 1, k, word ++ [row[i]], by omega, by go_num, rfl, by omega, by simp; omega, by rw [← HS.out], Lib.hid (by rw [if_pos (by omega)]; exact HM2.out), HB⟩
    · by_cases hlt2 : i = row.size
      · subst hlt2
        have hm := HM.out
        rw [if_pos (by omega), List.drop_eq_nil_of_le (by simp), mw] at hm
        by_cases hkc : k = c
        · rw [if_pos hkc] at hm
          have HM2 := Lib.hid hm
          subst hkc
          clear hm
          have HW := Lib.hid (show wordOf k row = if word = [46] then [] else word by simp only [wordOf, HM2.out])
          go_wp2_with fail
          all_goals (first | (have HE := word_no ‹((bs word).toList == [46]) = false›; rw [HE] at HW) | (have HE := word_yes ‹((bs word).toList == [46]) = true›; rw [HE] at HW))
          all_goals go_light
          all_goals go_ret
          all_goals exact ⟨by rw [HW.out]; rfl, HB.out⟩
        · rw [if_neg hkc] at hm
          have HM2 := Lib.hid hm
          clear hm
          go_wp2_with fail
          go_light
          go_roundg (row.size + 1 - (row.size + 1))
          case measure => have := HG.out; omega
          case rel => exact ⟨row.size + 1, k + 1, [], by omega, by go_num, by go_num, by omega, by simp, rfl, Lib.hid (by rw [if_neg (by omega)]; exact HM2.out), HB⟩
      · have : i = row.size + 1 := by omega
        subst this
        have hm := HM.out
        rw [if_neg (by omega)] at hm
        have HM2 := Lib.hid hm
        clear hm
        have HW := Lib.hid (show wordOf c row = if word = [46] then [] else word by simp only [wordOf, HM2.out])
        go_wp2_with fail
        all_goals (first | (have HE := word_no ‹((bs word).toList == [46]) = false›; rw [HE] at HW) | (have HE := word_yes ‹((bs word).toList == [46]) = true›; rw [HE] at HW))
        all_goals go_light
        all_goals go_ret
        all_goals exact ⟨by rw [HW.out]; rfl, HB.out⟩
end Grant
end Go.Proofs.YtmcpppgnfmopoaaDoor
