/-
  The reference's Num (curtilageref01): a number's bytes, the highest first.
-/
import Derived.Test.YtpakdcgcgekcfaaDoorProg
import Derived.Test.YtpakdcgcgekcfaaDoorMem
import Derived.Test.YtpakdcgcgekcfaaDoorNext
import Derived.Test.YtpakdcgcgekcfaaDoorR1Cut
import Derived.Deep.LoopGhost
namespace Go.Proofs.YtpakdcgcgekcfaaDoor
open Go.RowKit

namespace R1
/-- A number's bytes, the highest first. -/
def numB (n : Nat) : Nat → List Nat
  | 0 => []
  | k + 1 => n / 256 ^ k % 256 :: numB n k
theorem numB_length (n : Nat) : ∀ k, (numB n k).length = k
  | 0 => rfl
  | k + 1 => by simp [numB, numB_length n k]
theorem numB_at (n : Nat) : ∀ (k t : Nat), t < k → (numB n k)[t]? = some (n / 256 ^ (k - 1 - t) % 256)
  | k + 1, 0, _ => by simp [numB]
  | k + 1, t + 1, h => by
    rw [numB, List.getElem?_cons_succ, numB_at n k t (by omega)]
    congr 4
    omega
def c8 (l : List Nat) : Array Value := (l.map fun x => Value.int .u8 ((x : Nat) : Int)).toArray
theorem c8_at {l : List Nat} {i x : Nat} (h : l[i]? = some x) : (c8 l)[i]? = some (.int .u8 (x : Int)) := by simp [c8, h]
theorem c8_set (l : List Nat) (i y : Nat) : (c8 l).setIfInBounds i (.int .u8 (y : Int)) = c8 (l.set i y) := by
  unfold c8
  rw [List.map_set]
  simp
theorem ownB_blk {w : World} {B g : Nat} {l : List Nat} (h : Blk w g 5 (c8 l)) (hB : B ≤ g) (hm : l.length ≤ maxLen) : OwnB w B (.slice (some ⟨g, 0, none⟩) l.length l.length) l := by
  refine ⟨by simp, .inr ⟨g, l.length, c8 l, rfl, hB, h, Nat.le_refl _, hm, by simp [c8], ?_⟩⟩
  have : (l.map fun x => Value.int .u8 ((x : Nat) : Int)).length = l.length := by simp
  simp only [c8, List.toList_toArray, Nat.mul_one]
  rw [← this, List.take_length]
set_option maxRecDepth 100000 in
set_option maxHeartbeats 1000000 in
theorem num_any (z kz : Int) (n k : Nat) (w : World) (hkz : kz = k) (hz : z = n) (hn : z < 18446744073709551616) (hk : k ≤ 64) :
    Calls Tryd.prog 84 #[.int .u64 z, .int .i64 kz] w (BytesOut w (numB n k)) := by
  subst hkz
  obtain ⟨i0, hi0, hz0, hz1, hz2⟩ := info_row u8_info
  have hmk := fun W => run_make_rowN (P := Tryd.prog) 53 5 i0 _ Tryd.underlying53 hi0 hz0 .i64 .i64 k k (Nat.le_refl _) (by rw [hz2]; omega) (by omega) W
  rw [hz1] at hmk
  simp only [Nat.mul_one] at hmk
  have HZ := Lib.hid hz
  have h0 : 0 ≤ z := by omega
  clear hi0 hz0 hz1 hz2 hz
  go_enter Tryd.func84, Tryd.ntmps84
  go_wp2_with fail
  go_loopg [6, 0] k (fun g s6 s0 wr => ∃ (i q : Nat) (zi zq : Int) (cur : List Nat), i = g ∧ i ≤ k ∧ zi + 1 = i ∧ zq = q ∧ s6 = .int .i64 zi ∧ s0 = .int .u64 zq ∧ zq < 18446744073709551616 ∧ Hid (q = n / 256 ^ (k - i)) ∧ cur.length = k ∧ Hid (∀ t, i ≤ t → cur[t]? = (numB n k)[t]?) ∧ Hid (Blk wr w.heap.size 5 (c8 cur)) ∧ Hid (Below w.heap.size w wr))
  case atStart =>
    refine ⟨k, n, _, z, List.replicate k 0, rfl, Nat.le_refl _, by go_num, HZ.out, rfl, rfl, hn, Lib.hid (by simp), by simp, Lib.hid (fun t ht => ?_), Lib.hid ?_, Lib.hid ?_⟩
    · rw [List.getElem?_eq_none (by simpa using ht), List.getElem?_eq_none (by rw [numB_length]; exact ht)]
    · have : madeCells #[Value.int .u8 0] k = c8 (List.replicate k 0) := by
        apply Array.ext_getElem?
        intro t
        by_cases ht : t < k
        · rw [made_get _ _ _ ht (by decide), c8_at (x := 0) (by simp [ht])]
          simp [Nat.mod_one]
        · rw [Array.getElem?_eq_none (by simp [madeCells]; omega), Array.getElem?_eq_none (by simp [c8]; omega)]
      rw [this]
      exact Blk.new w _ _
    · exact (Below.refl _ w).alloc (Nat.le_refl _) _
  case round =>
    obtain ⟨i, q, zi, zq, cur, rfl, hik, hzi, hzq, rfl, rfl, hqM, HQ, hcl, HC, HW, HB⟩ := hrel
    have HCL := Lib.hid hcl
    clear hcl
    by_cases hlt : 0 < i
    · obtain ⟨m, rfl⟩ : ∃ m, i = m + 1 := ⟨i - 1, by omega⟩
      have hm : zi = m := by omega
      subst hm
      clear hzi
      obtain ⟨old, ho⟩ : ∃ old, cur[m]? = some old := ⟨_, List.getElem?_eq_getElem (by have := HCL.out; omega)⟩
      have hold : wr.cell? ⟨w.heap.size, m, none⟩ = some (.int .u8 (old : Int)) := by rw [HW.out.cell, c8_at ho]
      have hfr : wr.frozen? ⟨w.heap.size, m, none⟩ = false := HW.out.frozen m
      have hsz := HW.out.lt
      have HQZ := Lib.hid hzq
      have hq0 : 0 ≤ zq := by omega
      clear hzq ho
      go_wp2_with fail
      go_light
      go_roundg m
      case measure => omega
      case rel =>
        refine ⟨m, q / 256, _, _, cur.set m (q % 256), rfl, by omega, by go_num, ?_, rfl, rfl, by omega, Lib.hid ?_, by rw [List.length_set]; exact HCL.out, Lib.hid (fun t ht => ?_), Lib.hid ?_, Lib.hid ?_⟩
        · have := HQZ.out; omega
        · rw [HQ.out, Nat.div_div_eq_div_mul, show k - m = k - (m + 1) + 1 by omega, Nat.pow_succ]
        · by_cases hmt : m = t
          · subst hmt
            rw [List.getElem?_set_self (by have := HCL.out; omega), numB_at n k m (by omega), HQ.out, show k - 1 - m = k - (m + 1) by omega]
          · rw [List.getElem?_set_ne hmt]
            exact HC.out t (by omega)
        · have := HW.out.set m (.int .u8 ((q % 256 : Nat) : Int))
          rw [c8_set] at this
          rw [show zq % 256 = ((q % 256 : Nat) : Int) by have := HQZ.out; omega]
          exact this
        · exact HB.out.setCell (p := ⟨w.heap.size, m, none⟩) (Nat.le_refl _) _
    · have hi0 : i = 0 := by omega
      subst hi0
      have hm : zi = -1 := by omega
      subst hm
      have e : cur = numB n k := by
        apply List.ext_getElem?
        intro t
        exact HC.out t (Nat.zero_le _)
      clear hzi hzq
      go_wp2_with fail
      go_light
      go_ret
      subst e
      have := ownB_blk HW.out (Nat.le_refl _) (by rw [numB_length]; simp only [maxLen]; omega)
      rw [numB_length] at this
      exact ⟨_, rfl, this, HB.out⟩
end R1
end Go.Proofs.YtpakdcgcgekcfaaDoor
