/-
  Texts of this claim, joined: GrantMay2, GrantRef, GrantTab.
-/
import Derived.Test.YtmiaabpnolebhaaGreatDoorJ9adcd0ab
set_option linter.unusedSimpArgs false
set_option linter.unusedVariables false
/-
  Package grant: May: what is read of the map of rights.
-/
namespace Go.Proofs.YtmiaabpnolebhaaGreatDoor
open Go.RowKit

namespace Grant
/-- What may be done: the map's word. -/
def mayW (a b c : Int) : ByteArray := match (L5 2).lookup (a, b, c) with
  | some (.agg #[.string s]) => s
  | _ => ⟨#[]⟩
theorem look_word : ∀ p ∈ L5 2, ∃ s, p.2 = wd s := by
  intro p hp
  simp [L5, L4, L3, L2, L1] at hp
  rcases hp with rfl | rfl | rfl | rfl | rfl | rfl | rfl | rfl | rfl | rfl | rfl | rfl | rfl | rfl | rfl | rfl | rfl | rfl | rfl | rfl | rfl | rfl | rfl | rfl | rfl | rfl | rfl | rfl | rfl | rfl | rfl | rfl | rfl <;> exact ⟨_, rfl⟩
theorem look_may (a b c : Int) : ((L5 2).lookup (a, b, c)).getD (wd ⟨#[]⟩) = wd (mayW a b c) := by
  unfold mayW
  cases h : (L5 2).lookup (a, b, c) with
  | none => rfl
  | some v =>
    have hm : ∃ k, (k, v) ∈ L5 2 := by
      generalize L5 2 = l at h
      induction l with
      | nil => simp at h
      | cons x r ih =>
        obtain ⟨k, u⟩ := x
        rw [List.lookup_cons] at h
        split at h
        · cases h; exact ⟨k, by simp⟩
        · obtain ⟨k', hk⟩ := ih h; exact ⟨k', by simp [hk]⟩
    obtain ⟨k, hk⟩ := hm
    obtain ⟨s, hs⟩ := look_word _ hk
    simp only at hs
    subst hs
    rfl
theorem zeroW (w : World) : (zeroValue 405).run Tryz.prog w = .ok (wd ⟨#[]⟩) w := by kernel_rfl
theorem lkup {w : World} {ops : Array Oper} {rest : List Oper} {o : Oper} {a : Act} {Q : Exit → Act → World → Prop}
    (hg : o.guard = none) (m x : Operand) (hop : o.op = Op.lookup 406 m x false)
    (b n : Nat) (L : List ((Int × Int × Int) × Value)) (hm : a.eval m = .map (some b)) (hown : RMp w b n L) (k1 k2 k3 : Int) (hkey : a.eval x = .agg #[.int .i64 k1, .int .i64 k2, .int .i64 k3]) (hok : ok3 (k1, k2, k3) = true) (v : Value) (hv : (L.lookup (k1, k2, k3)).getD (wd ⟨#[]⟩) = v)
    (hK : wpList Tryz.prog ops Q rest (a.put o.dst v) w) :
    wpList Tryz.prog ops Q (o :: rest) a w := by
  subst hv
  exact wpList_lookup_mp (K := (Int × Int × Int)) w hg m x _ hop _ _ ok3 ky keyMap Tryz.underlying406 (wd ⟨#[]⟩) (zeroW w) b n L hm hown (k1, k2, k3) hkey hok hK
theorem fieldW (s : ByteArray) (w : World) : (Instr.field 405 (.agg #[.string s]) 0).run Tryz.prog w = .ok (.string s) w := by kernel_rfl
set_option maxHeartbeats 1000000 in
theorem may_any (a b c : Int) (w : World) (h : ok3 (a, b, c) = true) : Calls Tryz.prog 235 #[.int .i64 a, .int .i64 b, .int .i64 c] w fun e w' => e = .returned (.string (mayW a b c)) ∧ Below w.heap.size w w' := by
  have HL := Lib.hid (look_may a b c)
  have hfw := fieldW
  generalize mayW a b c = s at HL ⊢
  have HH := Lib.hid h
  clear h
  go_enter Tryz.func235, Tryz.ntmps235
  go_wp2_with fail
  (with_reducible refine (rights_any _).mono ?_); rintro e w1 ⟨b0, rfl, hM, hB⟩
  have HM := Lib.hid hM
  have HB := Lib.hid hB
  clear hM hB
  generalize L5 2 = L at *
  go_wp2_with (at_lookup; refine lkup rfl _ _ rfl _ _ _ rfl HM.out _ _ _ rfl HH.out (.agg #[.string s]) HL.out ?_)
  go_light
  go_ret
  exact ⟨rfl, HB.out⟩
end Grant
end Go.Proofs.YtmiaabpnolebhaaGreatDoor

/-
  The reference of grant (curtilageref14): Has, May.
-/
namespace Go.Proofs.YtmiaabpnolebhaaGreatDoor
open Go.RowKit

namespace Grant
def hasB (s : ByteArray) (c : UInt8) : Bool := s.data.toList.contains c
theorem hasB_at {s : ByteArray} {c : UInt8} {i : Nat} (h : i < s.size) (he : s[i] = c) : hasB s c = true := by
  unfold hasB
  rw [List.contains_iff_exists_mem_beq]
  exact ⟨s[i], Array.getElem_mem_toList h, by simp [he]⟩
theorem hasB_none {s : ByteArray} {c : UInt8} (h : ∀ (i : Nat) (hi : i < s.size), s[i] ≠ c) : hasB s c = false := by
  unfold hasB
  rw [← Bool.not_eq_true, List.contains_iff_exists_mem_beq]
  rintro ⟨x, hx, he⟩
  obtain ⟨i, hi, rfl⟩ := List.getElem_of_mem hx
  exact h i (by simpa using hi) ((beq_iff_eq.1 he).symm)
theorem u8_ne {x c : UInt8} (h : x ≠ c) : ((x.toNat : Int) == (c.toNat : Int)) = false := by
  rw [beq_eq_false_iff_ne]
  intro e
  exact h (UInt8.toNat.inj (by omega))
set_option maxHeartbeats 1000000 in
theorem has_any (s : ByteArray) (c : UInt8) (w : World) (hs : s.size ≤ 1000) :
    Calls Tryz.prog 178 #[.string s, .int .u8 (c.toNat : Int)] w fun e w' => e = .returned (.bool (hasB s c)) ∧ w = w' := by
  go_enter Tryz.func178, Tryz.ntmps178
  go_wp2_with fail
  go_loopg [5] s.size (fun g s5 wr => ∃ i : Nat, i + g = s.size ∧ s5 = .int .i64 (i : Int) ∧ Hid (∀ (j : Nat) (hj : j < s.size), j < i → s[j] ≠ c) ∧ wr = w)
  case atStart => exact ⟨0, by omega, rfl, Lib.hid (fun j _ h => absurd h (by omega)), rfl⟩
  case round =>
    obtain ⟨i, hg, rfl, HN, rfl⟩ := hrel
    have HG := Lib.hid hg
    have hi : i ≤ s.size := by omega
    clear hg
    by_cases hlt : i < s.size
    · by_cases he : s[i] = c
      · have HE := Lib.hid (hasB_at hlt he)
        have hb : ((s[i].toNat : Int) == (c.toNat : Int)) = true := by rw [he]; simp
        clear he
        go_wp2_with fail
        go_light
        go_ret
        exact ⟨by rw [HE.out]; rfl, rfl⟩
      · have hb := u8_ne he
        have HN2 := Lib.hid (show ∀ (j : Nat) (hj : j < s.size), j < i + 1 → s[j] ≠ c from fun j hj h => by
          by_cases hji : j < i
          · exact HN.out j hj hji
          · obtain rfl : j = i := by omega
            exact he)
        clear he
        go_wp2_with fail
        go_light
        go_roundg (s.size - (i + 1))
        case measure => have := HG.out; omega
        case rel => exact ⟨i + 1, by omega, by go_num, HN2, rfl⟩
    · have : i = s.size := by omega
      subst this
      have HE := Lib.hid (hasB_none (s := s) (c := c) (fun j hj => HN.out j hj hj))
      go_wp2_with fail
      go_light
      go_ret
      exact ⟨by rw [HE.out]; rfl, rfl⟩
def rowS : List ByteArray := [⟨#[114, 119, 32, 114, 119, 32, 114, 119, 32, 114, 119, 32, 114, 119]⟩, ⟨#[46, 32, 46, 32, 46, 32, 46, 32, 46]⟩, ⟨#[114, 119, 32, 114, 119, 32, 114, 32, 46, 32, 46]⟩, ⟨#[46, 32, 46, 32, 46, 32, 114, 119, 32, 46]⟩, ⟨#[46, 32, 46, 32, 46, 32, 46, 32, 46]⟩, ⟨#[114, 120, 32, 114, 119, 32, 114, 32, 114, 119, 32, 114]⟩, ⟨#[114, 32, 114, 119, 32, 114, 32, 46, 32, 46]⟩, ⟨#[46, 32, 46, 32, 46, 32, 114, 119, 32, 46]⟩, ⟨#[46, 32, 46, 32, 46, 32, 46, 32, 46]⟩, ⟨#[114, 119, 120, 32, 114, 119, 32, 114, 32, 114, 119, 32, 114]⟩, ⟨#[114, 32, 114, 119, 32, 114, 32, 46, 32, 46]⟩, ⟨#[114, 119, 32, 114, 119, 32, 114, 32, 114, 119, 32, 114]⟩]
/-- The word at a place of a row: words parted by blanks. -/
def mw (region : Nat) : List UInt8 → Nat → List UInt8 → List UInt8
  | [], k, word => if k = region then word else []
  | c :: r, k, word => if c = 32 then (if k = region then word else mw region r (k + 1) []) else mw region r k (word ++ [c])
def bs (l : List UInt8) : ByteArray := ⟨l.toArray⟩
theorem rowS_size : ∀ r ∈ rowS, r.size ≤ 20 := by decide +kernel
theorem bs_snoc (l : List UInt8) (s : ByteArray) (i : Nat) (h : i < s.size) : bs l ++ s.extract i (i + 1) = bs (l ++ [s[i]]) := by
  have e : (s.data.toList.drop i).take 1 = [s[i]] := by
    rw [List.drop_eq_getElem_cons (by simpa using h)]
    rfl
  apply ByteArray.ext
  apply Array.toList_inj.1
  simp [bs, ByteArray.data_append, ByteArray.data_extract, Array.toList_extract, e]
theorem bs_toList (l : List UInt8) : (bs l).toList = l := by rw [ByteArray.toList_eq]; rfl
theorem mw_at (c : Nat) (s : ByteArray) (i k : Nat) (word : List UInt8) (h : i < s.size) : mw c (s.data.toList.drop i) k word = if s[i] = 32 then (if k = c then word else mw c (s.data.toList.drop (i + 1)) (k + 1) []) else mw c (s.data.toList.drop (i + 1)) k (word ++ [s[i]]) := by
  rw [List.drop_eq_getElem_cons (by simpa using h), mw]
  rfl
theorem word_no {l : List UInt8} (h : ((bs l).toList == [46]) = false) : (if l = [46] then [] else l) = l := by
  rw [bs_toList] at h
  rw [if_neg (by simpa using h)]
theorem word_yes {l : List UInt8} (h : ((bs l).toList == [46]) = true) : (if l = [46] then [] else l) = [] := by
  rw [bs_toList] at h
  rw [if_pos (by simpa using h)]
theorem ret_bs {a b : List UInt8} (h : a = b) : Ending.returned (.string (bs b)) = .returned (.string (bs a)) := by rw [h]
def wordOf (c : Nat) (s : ByteArray) : List UInt8 := let x := mw c s.data.toList 1 []; if x = [46] then [] else x
set_option maxHeartbeats 1000000 in
theorem ref_may_in (a b c : Nat) (row : ByteArray) (w : World) (ha : a < 4) (hb : b < 3) (hc1 : 1 ≤ c) (hc : c ≤ 5) (hrow : rowS[4 * b + a]? = some row) :
    Calls Tryz.prog 179 #[.int .i64 (a : Int), .int .i64 (b : Int), .int .i64 (c : Int)] w fun e w' => e = .returned (.string (bs (wordOf c row))) ∧ Below w.heap.size w w' := by
  have hsz := rowS_size row (List.mem_of_getElem? hrow)
  have hcell : (w.alloc (.cells #[.string ⟨#[114, 119, 32, 114, 119, 32, 114, 119, 32, 114, 119, 32, 114, 119]⟩, .string ⟨#[46, 32, 46, 32, 46, 32, 46, 32, 46]⟩, .string ⟨#[114, 119, 32, 114, 119, 32, 114, 32, 46, 32, 46]⟩, .string ⟨#[46, 32, 46, 32, 46, 32, 114, 119, 32, 46]⟩, .string ⟨#[46, 32, 46, 32, 46, 32, 46, 32, 46]⟩, .string ⟨#[114, 120, 32, 114, 119, 32, 114, 32, 114, 119, 32, 114]⟩, .string ⟨#[114, 32, 114, 119, 32, 114, 32, 46, 32, 46]⟩, .string ⟨#[46, 32, 46, 32, 46, 32, 114, 119, 32, 46]⟩, .string ⟨#[46, 32, 46, 32, 46, 32, 46, 32, 46]⟩, .string ⟨#[114, 119, 120, 32, 114, 119, 32, 114, 32, 114, 119, 32, 114]⟩, .string ⟨#[114, 32, 114, 119, 32, 114, 32, 46, 32, 46]⟩, .string ⟨#[114, 119, 32, 114, 119, 32, 114, 32, 114, 119, 32, 114]⟩] 9)).cell? ⟨w.heap.size, 4 * b + a, none⟩ = some (.string row) := by
    rw [(Blk.new w _ _).cell]
    have e : (#[.string ⟨#[114, 119, 32, 114, 119, 32, 114, 119, 32, 114, 119, 32, 114, 119]⟩, .string ⟨#[46, 32, 46, 32, 46, 32, 46, 32, 46]⟩, .string ⟨#[114, 119, 32, 114, 119, 32, 114, 32, 46, 32, 46]⟩, .string ⟨#[46, 32, 46, 32, 46, 32, 114, 119, 32, 46]⟩, .string ⟨#[46, 32, 46, 32, 46, 32, 46, 32, 46]⟩, .string ⟨#[114, 120, 32, 114, 119, 32, 114, 32, 114, 119, 32, 114]⟩, .string ⟨#[114, 32, 114, 119, 32, 114, 32, 46, 32, 46]⟩, .string ⟨#[46, 32, 46, 32, 46, 32, 114, 119, 32, 46]⟩, .string ⟨#[46, 32, 46, 32, 46, 32, 46, 32, 46]⟩, .string ⟨#[114, 119, 120, 32, 114, 119, 32, 114, 32, 114, 119, 32, 114]⟩, .string ⟨#[114, 32, 114, 119, 32, 114, 32, 46, 32, 46]⟩, .string ⟨#[114, 119, 32, 114, 119, 32, 114, 32, 114, 119, 32, 114]⟩] : Array Value)[4 * b + a]? = (rowS[4 * b + a]?).map Value.string := by
      rw [← Array.getElem?_toList, ← List.getElem?_map]
      rfl
    rw [e, hrow]
    rfl
  have HR := Lib.hid hrow
  clear hrow
  go_enter Tryz.func179, Tryz.ntmps179
  go_wp2_with fail
  go_loopg [9, 10, 11] (row.size + 1) (fun g s9 s10 s11 wr => ∃ i k : Nat, ∃ word : List UInt8, i + g = row.size + 1 ∧ s11 = .int .i64 (i : Int) ∧ s9 = .int .i64 (k : Int) ∧ k ≤ i + 1 ∧ word.length ≤ i ∧ s10 = .string (bs word) ∧ Hid (mw c row.data.toList 1 [] = if i ≤ row.size then mw c (row.data.toList.drop i) k word else word) ∧ Hid (Below w.heap.size w wr))
  case atStart => exact ⟨0, 1, [], by omega, rfl, rfl, by omega, by simp, rfl, Lib.hid (by simp), Lib.hid ((Below.refl _ w).alloc (Nat.le_refl _) _)⟩
  case round =>
    clear hcell
    obtain ⟨i, k, word, hg, rfl, rfl, hk, hwl, rfl, HM, HB⟩ := hrel
    have HG := Lib.hid hg
    have hi : i ≤ row.size + 1 := by omega
    clear hg
    by_cases hlt : i < row.size
    · have hm := HM.out
      rw [if_pos (by omega), mw_at _ _ _ _ _ hlt] at hm
      by_cases he : row[i] = 32
      · rw [if_pos he] at hm
        have hb : ((row[i].toNat : Int) == 32) = true := by rw [he]; rfl
        by_cases hkc : k = c
        · rw [if_pos hkc] at hm
          have HM2 := Lib.hid hm
          subst hkc
          clear he hm
          have HW := Lib.hid (show wordOf k row = if word = [46] then [] else word by simp only [wordOf, HM2.out])
          go_wp2_with fail
          all_goals (first | (have HE := word_no ‹((bs word).toList == [46]) = false›; rw [HE] at HW) | (have HE := word_yes ‹((bs word).toList == [46]) = true›; rw [HE] at HW))
          all_goals go_light
          all_goals go_ret
          all_goals exact ⟨by rw [HW.out]; rfl, HB.out⟩
        · rw [if_neg hkc] at hm
          have HM2 := Lib.hid hm
          clear he hm
          go_wp2_with fail
          go_light
          go_roundg (row.size + 1 - (i + 1))
          case measure => have := HG.out; omega
          case rel => exact ⟨i + 1, k + 1, [], by omega, by go_num, by go_num, by omega, by simp, rfl, Lib.hid (by rw [if_pos (by omega)]; exact HM2.out), HB⟩
      · rw [if_neg he] at hm
        have HM2 := Lib.hid hm
        have hb : ((row[i].toNat : Int) == 32) = false := u8_ne (c := 32) he
        have HS := Lib.hid (bs_snoc word row i hlt)
        have hsum : ¬ ((bs word).size + (row.extract i (i + 1)).size > 9223372036854775807) := by
          have h1 : (bs word).size = word.length := rfl
          have h2 : (row.extract i (i + 1)).size ≤ row.size := by rw [ByteArray.size_extract]; omega
          omega
        clear he hm
        go_wp2_with fail
        go_light
        go_roundg (row.size + 1 - (i + 1))
        case measure => have := HG.out; omega
        case rel => exact ⟨i + 1, k, word ++ [row[i]], by omega, by go_num, rfl, by omega, by simp; omega, by rw [← HS.out], Lib.hid (by rw [if_pos (by omega)]; exact HM2.out), HB⟩
    · by_cases hlt2 : i = row.size
      · subst hlt2
        have hm := HM.out
        rw [if_pos (by omega), List.drop_eq_nil_of_le (by simp), mw] at hm
        by_cases hkc : k = c
        · rw [if_pos hkc] at hm
          have HM2 := Lib.hid hm
          subst hkc
          clear hm
          have HW := Lib.hid (show wordOf k row = if word = [46] then [] else word by simp only [wordOf, HM2.out])
          go_wp2_with fail
          all_goals (first | (have HE := word_no ‹((bs word).toList == [46]) = false›; rw [HE] at HW) | (have HE := word_yes ‹((bs word).toList == [46]) = true›; rw [HE] at HW))
          all_goals go_light
          all_goals go_ret
          all_goals exact ⟨by rw [HW.out]; rfl, HB.out⟩
        · rw [if_neg hkc] at hm
          have HM2 := Lib.hid hm
          clear hm
          go_wp2_with fail
          go_light
          go_roundg (row.size + 1 - (row.size + 1))
          case measure => have := HG.out; omega
          case rel => exact ⟨row.size + 1, k + 1, [], by omega, by go_num, by go_num, by omega, by simp, rfl, Lib.hid (by rw [if_neg (by omega)]; exact HM2.out), HB⟩
      · have : i = row.size + 1 := by omega
        subst this
        have hm := HM.out
        rw [if_neg (by omega)] at hm
        have HM2 := Lib.hid hm
        clear hm
        have HW := Lib.hid (show wordOf c row = if word = [46] then [] else word by simp only [wordOf, HM2.out])
        go_wp2_with fail
        all_goals (first | (have HE := word_no ‹((bs word).toList == [46]) = false›; rw [HE] at HW) | (have HE := word_yes ‹((bs word).toList == [46]) = true›; rw [HE] at HW))
        all_goals go_light
        all_goals go_ret
        all_goals exact ⟨by rw [HW.out]; rfl, HB.out⟩
end Grant
end Go.Proofs.YtmiaabpnolebhaaGreatDoor

/-
  The table of rights: the map's words are the reference's, at every master, stage and region.
-/
namespace Go.Proofs.YtmiaabpnolebhaaGreatDoor
open Go.RowKit

namespace Grant
def inR (x : Int × Int × Int) : Bool := decide (0 ≤ x.1 ∧ x.1 < 4 ∧ 0 ≤ x.2.1 ∧ x.2.1 < 3 ∧ 1 ≤ x.2.2 ∧ x.2.2 ≤ 5)
theorem keys_in : ((L5 2).all fun p => inR p.1) = true := by decide +kernel
theorem lookup_none {α β : Type} [BEq α] [LawfulBEq α] {x : α} : ∀ {l : List (α × β)}, (∀ p ∈ l, p.1 ≠ x) → l.lookup x = none
  | [], _ => rfl
  | (k, v) :: r, h => by
    have h0 : (x == k) = false := by
      rw [beq_eq_false_iff_ne]
      exact fun e => h (k, v) (by simp) e.symm
    rw [List.lookup_cons, h0]
    exact lookup_none (fun p hp => h p (by simp [hp]))
theorem may_out {a b c : Int} (h : inR (a, b, c) = false) : mayW a b c = bs [] := by
  unfold mayW
  rw [lookup_none (fun p hp e => by
    have := List.all_eq_true.1 keys_in p hp
    rw [e, h] at this
    cases this)]
  rfl
theorem may_in0 : ∀ (a : Fin 4) (b : Fin 3) (c : Fin 5), (mayW (a.val : Int) (b.val : Int) ((c.val + 1 : Nat) : Int)).data.toList = wordOf (c.val + 1) (rowS.getD (4 * b.val + a.val) ⟨#[]⟩) := by decide +kernel
theorem may_in {a b c : Nat} {row : ByteArray} (ha : a < 4) (hb : b < 3) (hc1 : 1 ≤ c) (hc : c ≤ 5) (hrow : rowS[4 * b + a]? = some row) : bs (wordOf c row) = mayW (a : Int) (b : Int) (c : Int) := by
  have h := may_in0 ⟨a, ha⟩ ⟨b, hb⟩ ⟨c - 1, by omega⟩
  simp only [show c - 1 + 1 = c by omega] at h
  have e : rowS.getD (4 * b + a) ⟨#[]⟩ = row := by simp [List.getD, hrow]
  rw [e] at h
  apply ByteArray.ext
  apply Array.toList_inj.1
  rw [h]
  rfl
theorem may_words0 : ∀ (a : Fin 4) (b : Fin 3) (c : Fin 5), (mayW (a.val : Int) (b.val : Int) ((c.val + 1 : Nat) : Int)).data.toList ∈ [[], [114], [114, 119], [114, 120], [114, 119, 120]] := by decide +kernel
theorem may_words (a b c : Int) : mayW a b c = ⟨#[]⟩ ∨ mayW a b c = ⟨#[114]⟩ ∨ mayW a b c = ⟨#[114, 119]⟩ ∨ mayW a b c = ⟨#[114, 120]⟩ ∨ mayW a b c = ⟨#[114, 119, 120]⟩ := by
  cases h : inR (a, b, c) with
  | false => left; rw [may_out h]; rfl
  | true =>
    simp only [inR, decide_eq_true_eq] at h
    obtain ⟨h1, h2, h3, h4, h5, h6⟩ := h
    have := may_words0 ⟨a.toNat, by omega⟩ ⟨b.toNat, by omega⟩ ⟨c.toNat - 1, by omega⟩
    simp only [show c.toNat - 1 + 1 = c.toNat by omega, show ((a.toNat : Nat) : Int) = a by omega, show ((b.toNat : Nat) : Int) = b by omega, show ((c.toNat : Nat) : Int) = c by omega] at this
    generalize mayW a b c = s at *
    have e : ∀ l : List UInt8, s.data.toList = l → s = ⟨l.toArray⟩ := fun l hl => by
      apply ByteArray.ext
      apply Array.toList_inj.1
      rw [hl]
    simp only [List.mem_cons, List.not_mem_nil, or_false] at this
    rcases this with h | h | h | h | h
    · left; exact e _ h
    · right; left; exact e _ h
    · right; right; left; exact e _ h
    · right; right; right; left; exact e _ h
    · right; right; right; right; exact e _ h
theorem may_size (a b c : Int) : (mayW a b c).size ≤ 3 := by
  rcases may_words a b c with h | h | h | h | h <;> (rw [h]; decide)

set_option maxHeartbeats 1000000 in
theorem ref_may (a b c : Int) (w : World) : Calls Tryz.prog 179 #[.int .i64 a, .int .i64 b, .int .i64 c] w fun e w' => e = .returned (.string (mayW a b c)) ∧ Below w.heap.size w w' := by
  cases h : inR (a, b, c) with
  | true =>
    simp only [inR, decide_eq_true_eq] at h
    obtain ⟨h1, h2, h3, h4, h5, h6⟩ := h
    obtain ⟨x, rfl⟩ := Int.eq_ofNat_of_zero_le h1
    obtain ⟨y, rfl⟩ := Int.eq_ofNat_of_zero_le h3
    obtain ⟨z, rfl⟩ := Int.eq_ofNat_of_zero_le (show 0 ≤ c by omega)
    obtain ⟨row, hrow⟩ : ∃ row, rowS[4 * y + x]? = some row := ⟨_, List.getElem?_eq_getElem (show 4 * y + x < rowS.length by show _ < 12; omega)⟩
    have := ref_may_in x y z row w (by omega) (by omega) (by omega) (by omega) hrow
    rw [may_in (by omega) (by omega) (by omega) (by omega) hrow] at this
    exact this
  | false =>
    rw [may_out h]
    simp only [inR, decide_eq_false_iff_not] at h
    have hc : a < 0 ∨ (0 ≤ a ∧ 3 < a) ∨ (0 ≤ a ∧ a ≤ 3 ∧ b < 0) ∨ (0 ≤ a ∧ a ≤ 3 ∧ 0 ≤ b ∧ 2 < b) ∨ (0 ≤ a ∧ a ≤ 3 ∧ 0 ≤ b ∧ b ≤ 2 ∧ c < 1) ∨ (0 ≤ a ∧ a ≤ 3 ∧ 0 ≤ b ∧ b ≤ 2 ∧ 1 ≤ c ∧ 5 < c) := by omega
    clear h
    rcases hc with h | ⟨h, h1⟩ | ⟨h, h1, h2⟩ | ⟨h, h1, h2, h3⟩ | ⟨h, h1, h2, h3, h4⟩ | ⟨h, h1, h2, h3, h4, h5⟩
    all_goals
      go_enter Tryz.func179, Tryz.ntmps179
      go_wp2_with fail
      go_light
      go_ret
      exact ⟨rfl, Below.refl _ _⟩
end Grant
end Go.Proofs.YtmiaabpnolebhaaGreatDoor
