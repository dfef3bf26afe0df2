/-
  Texts of this claim, joined: R1Num, WordsB, Idx, OtpLife, FuseOf1, OtpOps, OtpKey, OtpRow, OtpDo, OtpAwake, OtpLaw, CtrBits, OtpRise, RowD, CopyB, ShaRot, ShaLaw, ShaSum, ShaPut.
-/
import Derived.Test.YtpakdcgcgekcfaaDoorProg
import Derived.Test.YtpakdcgcgekcfaaDoorJ81216201
import Derived.Deep.LoopGhost
import Derived.Laws.PanicsMore
import Derived.Lib.BitFns
import Derived.Deep.AppendLies
import Derived.Deep.RegionLaw
import Derived.Deep.RegionWith
import Derived.Deep.CutRange
import Derived.Deep.CutBlock
import Derived.Deep.DeepCutAuto
import Derived.Laws.Rows
import Derived.RegionTactic
import Derived.BigRegion
import Derived.Laws.CopyOwn
import Derived.Deep.MidRow
import Derived.Laws.ResultCell
import Derived.Laws.BitsAllLaws
import Derived.IntWalk
set_option linter.unusedVariables false
/-
  The reference's Num (curtilageref01): a number's bytes, the highest first.
-/
set_option linter.unusedSimpArgs false
set_option linter.unusedVariables false
namespace Go.Proofs.YtpakdcgcgekcfaaDoor
open Go.RowKit

namespace R1
/-- A number's bytes, the highest first. -/
def numB (n : Nat) : Nat → List Nat
  | 0 => []
  | k + 1 => n / 256 ^ k % 256 :: numB n k
theorem numB_length (n : Nat) : ∀ k, (numB n k).length = k
  | 0 => rfl
  | k + 1 => by simp [numB, numB_length n k]
theorem numB_at (n : Nat) : ∀ (k t : Nat), t < k → (numB n k)[t]? = some (n / 256 ^ (k - 1 - t) % 256)
  | k + 1, 0, _ => by simp [numB]
  | k + 1, t + 1, h => by
    rw [numB, List.getElem?_cons_succ, numB_at n k t (by omega)]
    congr 4
    omega
def c8 (l : List Nat) : Array Value := (l.map fun x => Value.int .u8 ((x : Nat) : Int)).toArray
theorem c8_at {l : List Nat} {i x : Nat} (h : l[i]? = some x) : (c8 l)[i]? = some (.int .u8 (x : Int)) := by simp [c8, h]
theorem c8_set (l : List Nat) (i y : Nat) : (c8 l).setIfInBounds i (.int .u8 (y : Int)) = c8 (l.set i y) := by
  unfold c8
  rw [List.map_set]
  simp
theorem ownB_blk {w : World} {B g : Nat} {l : List Nat} (h : Blk w g 5 (c8 l)) (hB : B ≤ g) (hm : l.length ≤ maxLen) : OwnB w B (.slice (some ⟨g, 0, none⟩) l.length l.length) l := by
  refine ⟨by simp, .inr ⟨g, l.length, c8 l, rfl, hB, h, Nat.le_refl _, hm, by simp [c8], ?_⟩⟩
  have : (l.map fun x => Value.int .u8 ((x : Nat) : Int)).length = l.length := by simp
  simp only [c8, List.toList_toArray, Nat.mul_one]
  rw [← this, List.take_length]
set_option maxRecDepth 100000 in
set_option maxHeartbeats 1000000 in
theorem num_any (z kz : Int) (n k : Nat) (w : World) (hkz : kz = k) (hz : z = n) (hn : z < 18446744073709551616) (hk : k ≤ 64) :
    Calls Tryd.prog 84 #[.int .u64 z, .int .i64 kz] w (BytesOut w (numB n k)) := by
  subst hkz
  obtain ⟨i0, hi0, hz0, hz1, hz2⟩ := info_row u8_info
  have hmk := fun W => run_make_rowN (P := Tryd.prog) 53 5 i0 _ Tryd.underlying53 hi0 hz0 .i64 .i64 k k (Nat.le_refl _) (by rw [hz2]; omega) (by omega) W
  rw [hz1] at hmk
  simp only [Nat.mul_one] at hmk
  have HZ := Lib.hid hz
  have h0 : 0 ≤ z := by omega
  clear hi0 hz0 hz1 hz2 hz
  go_enter Tryd.func84, Tryd.ntmps84
  go_wp2_with fail
  go_loopg [6, 0] k (fun g s6 s0 wr => ∃ (i q : Nat) (zi zq : Int) (cur : List Nat), i = g ∧ i ≤ k ∧ zi + 1 = i ∧ zq = q ∧ s6 = .int .i64 zi ∧ s0 = .int .u64 zq ∧ zq < 18446744073709551616 ∧ Hid (q = n / 256 ^ (k - i)) ∧ cur.length = k ∧ Hid (∀ t, i ≤ t → cur[t]? = (numB n k)[t]?) ∧ Hid (Blk wr w.heap.size 5 (c8 cur)) ∧ Hid (Below w.heap.size w wr))
  case atStart =>
    refine ⟨k, n, _, z, List.replicate k 0, rfl, Nat.le_refl _, by go_num, HZ.out, rfl, rfl, hn, Lib.hid (by simp), by simp, Lib.hid (fun t ht => ?_), Lib.hid ?_, Lib.hid ?_⟩
    · rw [List.getElem?_eq_none (by simpa using ht), List.getElem?_eq_none (by rw [numB_length]; exact ht)]
    · have : madeCells #[Value.int .u8 0] k = c8 (List.replicate k 0) := by
        apply Array.ext_getElem?
        intro t
        by_cases ht : t < k
        · rw [made_get _ _ _ ht (by decide), c8_at (x := 0) (by simp [ht])]
          simp [Nat.mod_one]
        · rw [Array.getElem?_eq_none (by simp [madeCells]; omega), Array.getElem?_eq_none (by simp [c8]; omega)]
      rw [this]
      exact Blk.new w _ _
    · exact (Below.refl _ w).alloc (Nat.le_refl _) _
  case round =>
    obtain ⟨i, q, zi, zq, cur, rfl, hik, hzi, hzq, rfl, rfl, hqM, HQ, hcl, HC, HW, HB⟩ := hrel
    have HCL := Lib.hid hcl
    clear hcl
    by_cases hlt : 0 < i
    · obtain ⟨m, rfl⟩ : ∃ m, i = m + 1 := ⟨i - 1, by omega⟩
      have hm : zi = m := by omega
      subst hm
      clear hzi
      obtain ⟨old, ho⟩ : ∃ old, cur[m]? = some old := ⟨_, List.getElem?_eq_getElem (by have := HCL.out; omega)⟩
      have hold : wr.cell? ⟨w.heap.size, m, none⟩ = some (.int .u8 (old : Int)) := by rw [HW.out.cell, c8_at ho]
      have hfr : wr.frozen? ⟨w.heap.size, m, none⟩ = false := HW.out.frozen m
      have hsz := HW.out.lt
      have HQZ := Lib.hid hzq
      have hq0 : 0 ≤ zq := by omega
      clear hzq ho
      go_wp2_with fail
      go_light
      go_roundg m
      case measure => omega
      case rel =>
        refine ⟨m, q / 256, _, _, cur.set m (q % 256), rfl, by omega, by go_num, ?_, rfl, rfl, by omega, Lib.hid ?_, by rw [List.length_set]; exact HCL.out, Lib.hid (fun t ht => ?_), Lib.hid ?_, Lib.hid ?_⟩
        · have := HQZ.out; omega
        · rw [HQ.out, Nat.div_div_eq_div_mul, show k - m = k - (m + 1) + 1 by omega, Nat.pow_succ]
        · by_cases hmt : m = t
          · subst hmt
            rw [List.getElem?_set_self (by have := HCL.out; omega), numB_at n k m (by omega), HQ.out, show k - 1 - m = k - (m + 1) by omega]
          · rw [List.getElem?_set_ne hmt]
            exact HC.out t (by omega)
        · have := HW.out.set m (.int .u8 ((q % 256 : Nat) : Int))
          rw [c8_set] at this
          rw [show zq % 256 = ((q % 256 : Nat) : Int) by have := HQZ.out; omega]
          exact this
        · exact HB.out.setCell (p := ⟨w.heap.size, m, none⟩) (Nat.le_refl _) _
    · have hi0 : i = 0 := by omega
      subst hi0
      have hm : zi = -1 := by omega
      subst hm
      have e : cur = numB n k := by
        apply List.ext_getElem?
        intro t
        exact HC.out t (Nat.zero_le _)
      clear hzi hzq
      go_wp2_with fail
      go_light
      go_ret
      subst e
      have := ownB_blk HW.out (Nat.le_refl _) (by rw [numB_length]; simp only [maxLen]; omega)
      rw [numB_length] at this
      exact ⟨_, rfl, this, HB.out⟩
end R1
end Go.Proofs.YtpakdcgcgekcfaaDoor

/-
  Words as bytes: plain.
-/
set_option linter.unusedSimpArgs false
set_option linter.unusedVariables false
namespace Go.Proofs.YtpakdcgcgekcfaaDoor
open Go.RowKit

namespace Otp
open R1
/-- The bytes of words. -/
def wordsB (l : List Nat) : List Nat := l.flatMap fun x => numB x 4
theorem wordsB_length : ∀ l : List Nat, (wordsB l).length = 4 * l.length
  | [] => rfl
  | x :: l => by
    have := wordsB_length l
    simp only [wordsB, List.flatMap_cons, List.length_append, numB_length, List.length_cons] at this ⊢
    omega
theorem wordsB_snoc (l : List Nat) (x : Nat) : wordsB (l ++ [x]) = wordsB l ++ numB x 4 := by simp [wordsB]
end Otp
end Go.Proofs.YtpakdcgcgekcfaaDoor

/-
  An element of an array by value. No program in sight.
-/
set_option linter.unusedSimpArgs false
set_option linter.unusedVariables false
namespace Go.Proofs.YtpakdcgcgekcfaaDoor
open Go.RowKit

theorem run_index_arr {P : Program} (t e : TypeId) (N : Nat) (ht : P.underlying t = some (.array N e)) (hs : ∀ w, (sizeOf e).run P w = .ok 1 w) (ha : ∀ w, (isAgg e).run P w = .ok false w) (cs : Array Value) (kl : IntKind) (l : Int) (j : Nat) (hj : l = j) (hlt : j < N) (v : Value) (hv : cs[j]? = some v) (w : World) :
    (Instr.index t (.agg cs) (.int kl l)).run P w = .ok v w := by
  subst hj
  have h1 : (0 : Int) ≤ (j : Int) ∧ (j : Int) < (N : Int) := by omega
  simp [Instr.index, run_underlying ht, asIntOf, h1, go_sem, hs, hv, hlt, ha]
end Go.Proofs.YtpakdcgcgekcfaaDoor

/-
  Package otp: on, Life; math/bits.OnesCount8.
-/
set_option linter.unusedSimpArgs false
set_option linter.unusedVariables false
namespace Go.Proofs.YtpakdcgcgekcfaaDoor
open Go.RowKit

namespace Otp
open Fuse
variable {w w' : World} {c p b : Nat} {vs : List Nat} {ls : List Bool} {sd : Bool}
set_option maxHeartbeats 4000000 in
set_option maxRecDepth 100000 in
theorem ones8 (x : Int) (w : World) (h0 : 0 ≤ x) (h1 : x ≤ 255) :
    Calls Tryd.prog 100 #[.int .u8 x] w fun e w' => e = .returned (.int .i64 (Lib.onesCount x.toNat)) ∧ w' = w := by
  have e := Lib.pop8_int x h0 h1
  have e1 : wrap64 (Lib.pop8 x) = (Lib.onesCount x.toNat : Int) := by
    rw [← e]
    generalize Lib.pop8 x = q
    simp only [wrap64]
  go_enter Tryd.func100, Tryd.ntmps100
  go_wp2
  rw [e1]
  go_ret
  exact ⟨rfl, rfl⟩
theorem ones8_nat (x : Int) (k : Nat) (w : World) (hx : x = k) (h1 : k ≤ 255) :
    Calls Tryd.prog 100 #[.int .u8 x] w fun e w' => e = .returned (.int .i64 ((Lib.onesCount k : Nat) : Int)) ∧ w = w' := by
  subst hx
  exact (ones8 k w (by omega) (by omega)).mono fun e w' h => ⟨h.1, h.2.symm⟩
/-- Are five of a field's eight bits set? -/
def onB (x i : Nat) : Bool := decide (5 ≤ Lib.onesCount (x / 2 ^ (8 * i) % 256))
theorem field_int (y k : Nat) : (y : Int) / 2 ^ (8 * k) % 256 = ((y / 2 ^ (8 * k) % 256 : Nat) : Int) := by simp
set_option maxHeartbeats 400000 in
theorem on_any (x i : Int) (y k : Nat) (w : World) (hx : x = y) (hi : i = k) (_ : y < 4294967296) (hk : k < 4) :
    Calls Tryd.prog 71 #[.int .u32 x, .int .i64 i] w fun e w' => e = .returned (.bool (onB y k)) ∧ w = w' := by
  subst hx
  subst hi
  have hm : Lib.onesCount (y / 2 ^ (8 * k) % 256) ≤ 8 := Lib.onesCount_le8 ⟨_, Nat.mod_lt _ (by decide)⟩
  unfold onB
  go_enter Tryd.func71, Tryd.ntmps71
  go_wp2_with fail
  (with_reducible refine (ones8_nat _ (y / 2 ^ (8 * k) % 256) _ (field_int y k) (by omega)).mono ?_); rintro e w' ⟨rfl, rfl⟩
  go_wp2_with fail
  go_light
  go_ret
  exact ⟨by simp; omega, rfl⟩
def lifeN (x : Nat) : Nat → Nat
  | 0 => 0
  | i + 1 => if onB x i = true then i + 1 else lifeN x i
/-- The last life that was reached. -/
def life (vs : List Nat) : Nat := lifeN (vs[0]?.getD 0) 4
theorem lifeN_le (x : Nat) : ∀ n, lifeN x n ≤ n
  | 0 => by simp [lifeN]
  | i + 1 => by
    have := lifeN_le x i
    simp only [lifeN]
    split <;> omega
set_option maxHeartbeats 1000000 in
theorem life_any (w : World) (h : Cz w c p b vs ls sd) : Calls Tryd.prog 26 #[.pointer (some ⟨c, 0, none⟩)] w
    fun e w' => e = .returned (.int .i64 ((life vs : Nat) : Int)) ∧ Below w.heap.size w w' := by
  obtain ⟨x, hx⟩ : ∃ x, vs[0]? = some x := ⟨_, List.getElem?_eq_getElem (by have := h.len; omega)⟩
  have hxM := h.fz.word _ _ hx
  have hlf : life vs = lifeN x 4 := by simp [life, hx]
  rw [hlf]
  have H := Lib.hid h
  have HX := Lib.hid hx
  clear h hlf hx
  go_enter Tryd.func26, Tryd.ntmps26
  go_wp2_with fail
  go_loopg [3, 5] 4 (fun g s3 s5 wr => ∃ i : Nat, i + g = 4 ∧ s5 = .int .i64 (i : Int) ∧ s3 = .int .i64 ((lifeN x i : Nat) : Int) ∧ Below w.heap.size w wr)
  case atStart => exact ⟨0, by omega, rfl, rfl, Below.refl _ _⟩
  case round =>
    obtain ⟨i, hg, rfl, rfl, hB⟩ := hrel
    have HG := Lib.hid hg
    have hig : i ≤ 4 := by omega
    have HB := Lib.hid hB
    clear hg hB
    have hle := lifeN_le x i
    by_cases hlt : i < 4
    · have hC := H.out.old HB.out
      have HC := Lib.hid hC
      clear hC
      go_wp2_with fail
      (with_reducible refine (all_any _ HC.out).mono ?_); rintro e w1 ⟨v, rfl, hO, hB⟩
      obtain ⟨A1, cp, rfl, hc1, hc2, -⟩ := hO.form HC.out.fz.word
      obtain ⟨g1, rfl, hg1, hg2, hco, -⟩ := hO.at_ HX.out
      have hvl : vs.length = 64 := HC.out.len
      rw [hvl] at hc1 ⊢
      have hB1 := below_then HB.out hB (Nat.le_refl _)
      have HB1 := Lib.hid hB1
      clear hB1 hB hO
      go_wp2_with fail
      (with_reducible refine (on_any _ _ x i _ rfl rfl hxM hlt).mono ?_); rintro e w2 ⟨rfl, rfl⟩
      have HS := Lib.hid (show lifeN x (i + 1) = if onB x i = true then i + 1 else lifeN x i from rfl)
      generalize onB x i = o at *
      cases o with
      | true =>
        go_wp2_with fail
        go_light
        go_roundg (4 - (i + 1))
        case measure => have := HG.out; omega
        case rel => exact ⟨i + 1, by omega, by go_num, by rw [HS.out]; go_num, HB1.out⟩
      | false =>
        go_wp2_with fail
        go_light
        go_roundg (4 - (i + 1))
        case measure => have := HG.out; omega
        case rel => exact ⟨i + 1, by omega, by go_num, by rw [HS.out]; rfl, HB1.out⟩
    · have : i = 4 := by omega
      subst this
      go_wp2_with fail
      go_light
      go_ret
      exact ⟨rfl, HB.out⟩
end Otp
end Go.Proofs.YtpakdcgcgekcfaaDoor

/-
  Contracts of package fuse, more: Of; a nil array.
-/
set_option linter.unusedSimpArgs false
set_option linter.unusedVariables false
namespace Go.Proofs.YtpakdcgcgekcfaaDoor
open Go.RowKit

namespace Fuse
def OfOut (w : World) (zs : List Nat) (e : Ending) (w' : World) : Prop :=
  ∃ p b, e = .returned (.tuple #[.pointer (some ⟨p, 0, none⟩), .int .i64 0]) ∧ Fz w' p b zs (List.replicate zs.length false) ∧ w.heap.size ≤ b ∧ w.heap.size ≤ p ∧ Below w.heap.size w w'

theorem set_zero (zs : List Nat) (i n x : Nat) (hi : i < n) (hn : zs.length = n) (hx : zs[i]? = some x) : (zs.take i ++ List.replicate (n - i) 0).set i x = zs.take (i + 1) ++ List.replicate (n - (i + 1)) 0 := by
  rw [take_snoc hx, List.set_append]
  have hlen : (zs.take i).length = i := by rw [List.length_take]; omega
  rw [hlen, if_neg (by omega), Nat.sub_self]
  have e : n - i = (n - (i + 1)) + 1 := by omega
  rw [e, List.replicate_succ]
  simp

set_option maxHeartbeats 1000000 in
theorem of_any (a : Option Addr) (n c : Nat) (zs : List Nat) (w : World) (hz : Nats .u32 4294967296 w w.heap.size a zs) (hl : zs.length = n) (hn : n ≤ 4096) :
    Calls Tryd.prog 74 #[.slice a n c] w (OfOut w zs) := by
  have HZ := Lib.hid hz
  have HL := Lib.hid hl
  clear hz hl
  go_enter Tryd.func74, Tryd.ntmps74
  go_wp2_with fail
  (with_reducible refine (new_any (n : Int) _ (by omega) (by omega)).mono ?_); rintro e w1 ⟨rfl, hf, hb, hs⟩
  simp only [Int.toNat_natCast] at hf
  have hpq : w.heap.size + 1 < w1.heap.size := by omega
  clear hs
  have HF := Lib.hid hf
  have HB := Lib.hid hb
  clear hf hb
  generalize hp : w.heap.size + 1 = p at *
  have hwp : w.heap.size ≤ p := by omega
  clear hp
  go_wp2_with fail
  go_loopg [19] n (fun g s19 wr => ∃ i : Nat, i + g = n ∧ s19 = .int .i64 (i : Int) ∧ Fz wr p w.heap.size (zs.take i ++ List.replicate (n - i) 0) (List.replicate n false) ∧ Frm [w.heap.size] w1 wr)
  case atStart => exact ⟨0, by omega, rfl, HF.out, Frm.refl _ _⟩
  case round =>
    obtain ⟨i, hg, rfl, hF, hFr⟩ := hrel
    have HG := Lib.hid hg
    have HFr := Lib.hid hFr
    have HFF := Lib.hid hF
    have hig : i ≤ n := by omega
    clear hg hFr
    by_cases hlt : i < n
    · obtain ⟨x, hx⟩ : ∃ x, zs[i]? = some x := ⟨_, List.getElem?_eq_getElem (by have := HL.out; omega)⟩
      obtain ⟨hx2, b, off, rfl, hbl, hcell⟩ := HZ.out i x hx
      have hcell' : wr.cell? ⟨b, off + i, none⟩ = some (.int .u32 (x : Int)) :=
        (World.cell?_of_block (a := ⟨b, off + i, none⟩) (HFr.out.block b (by omega) (by simp; omega))).trans ((HB.out.cell (p := ⟨b, off + i, none⟩) hbl).trans hcell)
      have hlen : (zs.take i ++ List.replicate (n - i) 0).length = n := by
        have := HL.out
        rw [List.length_append, List.length_take, List.length_replicate]; omega
      have hsz := set_zero zs i n x hlt HL.out hx
      have HSZ := Lib.hid hsz
      generalize hcur : zs.take i ++ List.replicate (n - i) 0 = cur at *
      have hk : i < cur.length := by omega
      obtain ⟨cc, hcc, hp0⟩ := hF.cell0
      have hfr := (hF.cellv hk).2
      obtain ⟨x0, l0, _, _, _, hv, _⟩ := hF.at_ hk
      have hset := Lib.hid (hF.set hk x hx2)
      have hm4 := hF.most
      rw [hlen] at hp0
      clear hcur hcell hx hF hsz hlen hk
      go_wp2_with fail
      go_light
      go_roundg (n - (i + 1))
      case measure => have := HG.out; omega
      case rel =>
        refine ⟨i + 1, by omega, by go_num, ?_, HFr.out.trans ((Frm.refl _ _).setCell (.inl (by simp)) _)⟩
        rw [← HSZ.out]
        exact hset.out
    · go_wp2_with fail
      go_light
      go_ret2
      have : i = n := by omega
      subst this
      have hzl := HL.out
      have e : zs.take i ++ List.replicate (i - i) 0 = zs := by rw [← hzl, List.take_length]; simp
      have h2 := HFF.out
      rw [e] at h2
      refine ⟨p, w.heap.size, rfl, by rw [hzl]; exact h2, Nat.le_refl _, hwp, Below.frm HB.out HFr.out (Nat.le_refl _) (by simp)⟩

set_option maxHeartbeats 400000 in
theorem of_bad (a : Option Addr) (n c : Nat) (w : World) (hn : 4096 < n) (hm : n ≤ 9223372036854775807) : Calls Tryd.prog 74 #[.slice a n c] w fun e w' => e = .returned (.tuple #[.pointer none, .int .i64 1]) ∧ w = w' := by
  go_enter Tryd.func74, Tryd.ntmps74
  go_wp2_with fail
  (with_reducible refine (new_bad (n : Int) _ (by omega)).mono ?_); rintro e w1 ⟨rfl, rfl⟩
  go_wp2_with fail
  go_light
  go_ret2
  exact ⟨rfl, rfl⟩

/-! A nil array. -/
end Fuse
end Go.Proofs.YtpakdcgcgekcfaaDoor

/-
  Package otp: Of, at, Kill, ToLife, Tear.
-/
set_option linter.unusedSimpArgs false
set_option linter.unusedVariables false
namespace Go.Proofs.YtpakdcgcgekcfaaDoor
open Go.RowKit

namespace Otp
open Fuse
variable {w w' : World} {c p b : Nat} {vs : List Nat} {ls : List Bool} {sd : Bool}
def OfCz (w : World) (vs : List Nat) (e : Ending) (w' : World) : Prop := ∃ c p b, e = .returned (.tuple #[.pointer (some ⟨c, 0, none⟩), .int .i64 0]) ∧ Cz w' c p b vs f64 false ∧ w.heap.size ≤ c ∧ w.heap.size ≤ p ∧ w.heap.size ≤ b ∧ Below w.heap.size w w'
set_option maxHeartbeats 400000 in
theorem of_chip (A : Option Addr) (len cap : Nat) (zs : List Nat) (w : World) (hz : Nats .u32 4294967296 w w.heap.size A zs) (hl : zs.length = 64) (hn : len = 64) :
    Calls Tryd.prog 21 #[.slice A len cap] w (OfCz w zs) := by
  have HZ := Lib.hid hz
  subst hn
  clear hz
  go_enter Tryd.func21, Tryd.ntmps21
  go_wp2_with fail
  (with_reducible refine (of_any A 64 cap zs _ HZ.out hl (by decide)).mono ?_); rintro e w1 ⟨p, b, rfl, hz, hb, hp, hB⟩
  have HZ1 := Lib.hid hz
  have HB := Lib.hid hB
  have hbl : w.heap.size ≤ w1.heap.size := hB.size
  clear hz hB
  go_wp2_with fail
  go_light
  go_ret2
  have hz := HZ1.out
  rw [hl] at hz
  refine ⟨_, p, b, rfl, ⟨hz.frm ((Frm.refl [] _).alloc _) (by simp) (by simp), hl, ?_⟩, hbl, hp, hb, HB.out.alloc hbl _⟩
  exact Blk.new _ _ _
theorem nats_one (w : World) (t : TypeId) (z : Int) (y : Nat) (hz : z = y) (hy : y < 4294967296) : Nats .u32 4294967296 (w.alloc (.cells #[.int .u32 z] t)) (w.alloc (.cells #[.int .u32 z] t)).heap.size (some ⟨w.heap.size, 0, none⟩) [y] := by
  subst hz
  exact nats_blk (t := t) (l := [y]) (Blk.new w t _) (fun i x h => by
    have := List.mem_of_getElem? h
    simp only [List.mem_singleton] at this
    subst this
    exact hy)
theorem toOut_alloc {w : World} {o : Obj} {er : Int} {l : List (Nat × Nat)} {e : Ending} {w' : World} (h : ToOut (w.alloc o) er l e w') : ToOut w er l e w' := by
  obtain ⟨v, rfl, hO, hB⟩ := h
  exact ⟨v, rfl, ownW_le hO (by simp), ((Below.refl _ w).alloc (Nat.le_refl _) o).trans (hB.mono (by simp))⟩
theorem toOut_old {w w1 : World} (h1 : Below w.heap.size w w1) {er : Int} {l : List (Nat × Nat)} {e : Ending} {w' : World} (h : ToOut w1 er l e w') : ToOut w er l e w' := by
  obtain ⟨v, rfl, hO, hB⟩ := h
  exact ⟨v, rfl, ownW_le hO h1.size, below_then h1 hB (Nat.le_refl _)⟩
def atE (i : Int) : Int := if 0 ≤ i ∧ i < 4 then 0 else 1
def atV (i : Int) : Int := if 0 ≤ i ∧ i < 4 then 27 + 9 * i else 0
theorem at_in (i : Int) (w : World) (h0 : 0 ≤ i) (h1 : i < 4) : Calls Tryd.prog 67 #[.int .i64 i] w fun e w' => e = .returned (.tuple #[.int .i64 (27 + 9 * i), .int .i64 0]) ∧ w = w' := by
  go_enter Tryd.func67, Tryd.ntmps67
  go_wp2
  go_light
  go_ret2
  exact ⟨rfl, rfl⟩
theorem at_out (i : Int) (w : World) (h : i < 0 ∨ 4 ≤ i) : Calls Tryd.prog 67 #[.int .i64 i] w fun e w' => e = .returned (.tuple #[.int .i64 0, .int .i64 1]) ∧ w = w' := by
  by_cases h0 : i < 0
  · clear h
    go_enter Tryd.func67, Tryd.ntmps67
    go_wp2
    go_light
    go_ret2
    exact ⟨rfl, rfl⟩
  · have h1 : 4 ≤ i := by omega
    clear h
    go_enter Tryd.func67, Tryd.ntmps67
    go_wp2
    go_light
    go_ret2
    exact ⟨rfl, rfl⟩
def klL (vs : List Nat) (i : Int) : List (Nat × Nat) := if 0 ≤ i ∧ i < 4 then planOf vs (35 + 9 * i.toNat) [65280] else []
set_option maxHeartbeats 400000 in
theorem kill_any (i : Int) (w : World) (h : Cz w c p b vs ls sd) :
    Calls Tryd.prog 20 #[.pointer (some ⟨c, 0, none⟩), .int .i64 i] w (ToOut w (atE i) (klL vs i)) := by
  have H := Lib.hid h
  clear h
  by_cases h0 : 0 ≤ i ∧ i < 4
  · have e1 : atE i = 0 := by simp [atE, h0]
    have e2 : klL vs i = planOf vs (35 + 9 * i.toNat) [65280] := by simp [klL, h0]
    rw [e1, e2]
    clear e1 e2
    obtain ⟨h0, h1⟩ := h0
    obtain ⟨k, rfl⟩ := Int.eq_ofNat_of_zero_le h0
    rw [Int.toNat_natCast]
    go_enter Tryd.func20, Tryd.ntmps20
    go_wp2_with fail
    (with_reducible refine (at_in _ _ h0 h1).mono ?_); rintro e w1 ⟨rfl, rfl⟩
    go_wp2_with fail
    (with_reducible refine (plan_any (27 + 9 * (k : Int) + 8) (35 + 9 * k) _ 1 1 [65280] _ (H.out.alloc _) (by omega) rfl (by simp; omega) (nats_one w 43 65280 65280 (by decide) (by decide))).mono ?_); rintro e w2 ⟨v, rfl, hO, hB⟩
    have HO := Lib.hid hO
    have HB := Lib.hid hB
    clear hO hB
    go_wp2_with fail
    go_light
    go_ret2
    exact toOut_alloc ⟨_, rfl, HO.out, HB.out⟩
  · have e1 : atE i = 1 := by simp only [atE, if_neg h0]
    have e2 : klL vs i = [] := by simp only [klL, if_neg h0]
    rw [e1, e2]
    clear e1 e2
    go_enter Tryd.func20, Tryd.ntmps20
    go_wp2_with fail
    (with_reducible refine (at_out _ _ (by omega)).mono ?_); rintro e w1 ⟨rfl, rfl⟩
    go_wp2_with fail
    go_light
    go_ret2
    exact ⟨_, rfl, World.ownsRow_nil _ _ _ _, Below.refl _ _⟩
def tlE (vs : List Nat) (i : Int) : Int := if i < 1 ∨ 4 < i then 1 else if i ≤ life vs then 14 else 0
def tlL (vs : List Nat) (i : Int) : List (Nat × Nat) := if tlE vs i = 0 then planOf vs 0 [255 * 2 ^ (8 * (i.toNat - 1))] else []
set_option maxHeartbeats 1000000 in
theorem tolife_1 (w : World) (h : Cz w c p b vs ls sd) (h2 : ¬ ((1 : Int) ≤ life vs)) :
    Calls Tryd.prog 76 #[.pointer (some ⟨c, 0, none⟩), .int .i64 1] w (ToOut w 0 (planOf vs 0 [255])) := by
  have H := Lib.hid h
  clear h
  have hl4 : life vs ≤ 4 := lifeN_le _ _
  go_enter Tryd.func76, Tryd.ntmps76
  go_wp2_with fail
  (with_reducible refine (life_any _ H.out).mono ?_); rintro e w1 ⟨rfl, hB⟩
  have HB := Lib.hid hB
  have HC := Lib.hid (H.out.old hB)
  clear hB
  generalize life vs = lf at *
  go_wp2_with fail
  (with_reducible refine (plan_any 0 0 _ 1 1 [255] _ (HC.out.alloc _) rfl rfl (by simp) (nats_one w1 43 255 255 (by decide) (by decide))).mono ?_); rintro e w2 ⟨v, rfl, hO, hB⟩
  have HT := Lib.hid (toOut_old HB.out (toOut_alloc (er := 0) (l := _) ⟨v, rfl, hO, hB⟩))
  clear hO hB
  go_wp2_with fail
  go_light
  go_ret2
  exact HT.out
set_option maxHeartbeats 1000000 in
theorem tolife_2 (w : World) (h : Cz w c p b vs ls sd) (h2 : ¬ ((2 : Int) ≤ life vs)) :
    Calls Tryd.prog 76 #[.pointer (some ⟨c, 0, none⟩), .int .i64 2] w (ToOut w 0 (planOf vs 0 [65280])) := by
  have H := Lib.hid h
  clear h
  have hl4 : life vs ≤ 4 := lifeN_le _ _
  go_enter Tryd.func76, Tryd.ntmps76
  go_wp2_with fail
  (with_reducible refine (life_any _ H.out).mono ?_); rintro e w1 ⟨rfl, hB⟩
  have HB := Lib.hid hB
  have HC := Lib.hid (H.out.old hB)
  clear hB
  generalize life vs = lf at *
  go_wp2_with fail
  (with_reducible refine (plan_any 0 0 _ 1 1 [65280] _ (HC.out.alloc _) rfl rfl (by simp) (nats_one w1 43 65280 65280 (by decide) (by decide))).mono ?_); rintro e w2 ⟨v, rfl, hO, hB⟩
  have HT := Lib.hid (toOut_old HB.out (toOut_alloc (er := 0) (l := _) ⟨v, rfl, hO, hB⟩))
  clear hO hB
  go_wp2_with fail
  go_light
  go_ret2
  exact HT.out
set_option maxHeartbeats 1000000 in
theorem tolife_3 (w : World) (h : Cz w c p b vs ls sd) (h2 : ¬ ((3 : Int) ≤ life vs)) :
    Calls Tryd.prog 76 #[.pointer (some ⟨c, 0, none⟩), .int .i64 3] w (ToOut w 0 (planOf vs 0 [16711680])) := by
  have H := Lib.hid h
  clear h
  have hl4 : life vs ≤ 4 := lifeN_le _ _
  go_enter Tryd.func76, Tryd.ntmps76
  go_wp2_with fail
  (with_reducible refine (life_any _ H.out).mono ?_); rintro e w1 ⟨rfl, hB⟩
  have HB := Lib.hid hB
  have HC := Lib.hid (H.out.old hB)
  clear hB
  generalize life vs = lf at *
  go_wp2_with fail
  (with_reducible refine (plan_any 0 0 _ 1 1 [16711680] _ (HC.out.alloc _) rfl rfl (by simp) (nats_one w1 43 16711680 16711680 (by decide) (by decide))).mono ?_); rintro e w2 ⟨v, rfl, hO, hB⟩
  have HT := Lib.hid (toOut_old HB.out (toOut_alloc (er := 0) (l := _) ⟨v, rfl, hO, hB⟩))
  clear hO hB
  go_wp2_with fail
  go_light
  go_ret2
  exact HT.out
set_option maxHeartbeats 1000000 in
theorem tolife_4 (w : World) (h : Cz w c p b vs ls sd) (h2 : ¬ ((4 : Int) ≤ life vs)) :
    Calls Tryd.prog 76 #[.pointer (some ⟨c, 0, none⟩), .int .i64 4] w (ToOut w 0 (planOf vs 0 [4278190080])) := by
  have H := Lib.hid h
  clear h
  have hl4 : life vs ≤ 4 := lifeN_le _ _
  go_enter Tryd.func76, Tryd.ntmps76
  go_wp2_with fail
  (with_reducible refine (life_any _ H.out).mono ?_); rintro e w1 ⟨rfl, hB⟩
  have HB := Lib.hid hB
  have HC := Lib.hid (H.out.old hB)
  clear hB
  generalize life vs = lf at *
  go_wp2_with fail
  (with_reducible refine (plan_any 0 0 _ 1 1 [4278190080] _ (HC.out.alloc _) rfl rfl (by simp) (nats_one w1 43 4278190080 4278190080 (by decide) (by decide))).mono ?_); rintro e w2 ⟨v, rfl, hO, hB⟩
  have HT := Lib.hid (toOut_old HB.out (toOut_alloc (er := 0) (l := _) ⟨v, rfl, hO, hB⟩))
  clear hO hB
  go_wp2_with fail
  go_light
  go_ret2
  exact HT.out
set_option maxHeartbeats 2000000 in
theorem tolife_any (i : Int) (w : World) (h : Cz w c p b vs ls sd) :
    Calls Tryd.prog 76 #[.pointer (some ⟨c, 0, none⟩), .int .i64 i] w (ToOut w (tlE vs i) (tlL vs i)) := by
  have H := Lib.hid h
  clear h
  by_cases h0 : i < 1
  · have e1 : tlE vs i = 1 := by simp [tlE, h0]
    have e2 : tlL vs i = [] := by simp [tlL, e1]
    rw [e1, e2]
    clear e1 e2
    go_enter Tryd.func76, Tryd.ntmps76
    go_wp2_with fail
    go_light
    go_ret2
    exact ⟨_, rfl, World.ownsRow_nil _ _ _ _, Below.refl _ _⟩
  by_cases h1 : 4 < i
  · have e1 : tlE vs i = 1 := by simp [tlE, h1]
    have e2 : tlL vs i = [] := by simp [tlL, e1]
    rw [e1, e2]
    clear e1 e2
    go_enter Tryd.func76, Tryd.ntmps76
    go_wp2_with fail
    go_light
    go_ret2
    exact ⟨_, rfl, World.ownsRow_nil _ _ _ _, Below.refl _ _⟩
  have hl4 : life vs ≤ 4 := lifeN_le _ _
  by_cases h2 : i ≤ life vs
  · have e1 : tlE vs i = 14 := by simp only [tlE, if_pos h2]; rw [if_neg (by omega)]
    have e2 : tlL vs i = [] := by simp [tlL, e1]
    rw [e1, e2]
    clear e1 e2
    go_enter Tryd.func76, Tryd.ntmps76
    go_wp2_with fail
    (with_reducible refine (life_any _ H.out).mono ?_); rintro e w1 ⟨rfl, hB⟩
    have HB := Lib.hid hB
    clear hB
    go_wp2_with fail
    go_light
    go_ret2
    exact ⟨_, rfl, World.ownsRow_nil _ _ _ _, HB.out⟩
  · have e1 : tlE vs i = 0 := by simp only [tlE, if_neg h2]; rw [if_neg (by omega)]
    have e2 : tlL vs i = planOf vs 0 [255 * 2 ^ (8 * (i.toNat - 1))] := by simp only [tlL, e1, if_true]
    rw [e1, e2]
    clear e1 e2
    have h14 : i = 1 ∨ i = 2 ∨ i = 3 ∨ i = 4 := by omega
    rcases h14 with rfl | rfl | rfl | rfl
    · exact tolife_1 w H.out h2
    · exact tolife_2 w H.out h2
    · exact tolife_3 w H.out h2
    · exact tolife_4 w H.out h2
end Otp
end Go.Proofs.YtpakdcgcgekcfaaDoor

/-
  Package otp: ToKey.
-/
set_option linter.unusedSimpArgs false
set_option linter.unusedVariables false
namespace Go.Proofs.YtpakdcgcgekcfaaDoor
open Go.RowKit

namespace Otp
open Fuse
variable {w w' : World} {c p b : Nat} {vs : List Nat} {ls : List Bool} {sd : Bool}
theorem own32_le {w : World} {B B' : Nat} {v : Value} {l : List Nat} (h : Own32 w B v l) (hB : B' ≤ B) : Own32 w B' v l := by
  refine ⟨h.1, ?_⟩
  rcases h.2 with h0 | ⟨g, cap, cur, hv, hg, rest⟩
  · exact .inl h0
  · exact .inr ⟨g, cap, cur, hv, Nat.le_trans hB hg, rest⟩
theorem own32_next {w wx w' : World} {B : Nat} {v : Value} {l : List Nat} (h : Own32 w B v l) (hB : Below wx.heap.size wx w') (hx : wx.heap = w.heap) : Own32 w' B v l := by
  refine ⟨h.1, ?_⟩
  rcases h.2 with h0 | ⟨g, cap, cur, hv, hg, hh, rest⟩
  · exact .inl h0
  · exact .inr ⟨g, cap, cur, hv, hg, Blk.next (w := w) (t := 43) (cs := cur) hh hB hx, rest⟩
theorem nats_at {k : IntKind} {M : Nat} {w wx : World} {B : Nat} {A : Option Addr} {l : List Nat} (h : Nats k M w B A l) (hB : B ≤ w.heap.size) (hx : wx.heap = w.heap) : Nats k M wx wx.heap.size A l := fun i z hz => by
  obtain ⟨h1, b, off, h2, h3, h4⟩ := h i z hz
  refine ⟨h1, b, off, h2, by rw [hx]; omega, ?_⟩
  rw [← h4]
  simp [World.cell?, hx]
theorem own32_news {w wx : World} {B g n c : Nat} {l : List Nat} (h : Own32 w B (.slice (some ⟨g, 0, none⟩) n c) l) (hx : wx.heap = w.heap) : ∀ (j : Nat) (u : Value), (l.map fun x => Value.int .u32 ((x : Nat) : Int))[j]? = some u → wx.cell? ((⟨g, 0, none⟩ : Addr).add j) = some u := fun j u hu => by
  rw [List.getElem?_map] at hu
  cases hz : l[j]? with
  | none => rw [hz] at hu; cases hu
  | some x =>
    rw [hz] at hu
    obtain rfl := Option.some.inj hu
    obtain ⟨g', hg', _, _, hc, _⟩ := h.at_ hz
    cases hg'
    rw [Go.WideShapes.add_plain, Nat.zero_add, ← hc]
    simp [World.cell?, hx]
theorem own32_at {w wx : World} {B : Nat} {v : Value} {l : List Nat} (h : Own32 w B v l) (hx : wx.heap = w.heap) : wx.ownsRow B 43 1 v l.length (l.map fun x => Value.int .u32 ((x : Nat) : Int)) := by
  refine ⟨h.1, ?_⟩
  rcases h.2 with h0 | ⟨g, cap, cur, hv, hg, hh, rest⟩
  · exact .inl h0
  · exact .inr ⟨g, cap, cur, hv, hg, by rw [hx]; exact hh, rest⟩
theorem own32_some {w : World} {B : Nat} {v : Value} {l : List Nat} (h : Own32 w B v l) (hl : 0 < l.length) : ∃ g c, v = .slice (some ⟨g, 0, none⟩) l.length c ∧ l.length ≤ c ∧ c ≤ maxLen := by
  rcases h.2 with ⟨_, h0⟩ | ⟨g, cap, cur, hv, hg, hh, hc, hm, rest⟩
  · omega
  · exact ⟨g, cap, hv, hc, hm⟩
theorem own32_one (l : List Nat) : ∀ u ∈ l.map fun x => Value.int .u32 ((x : Nat) : Int), u.oneCell' = true := by
  intro u hu
  simp only [List.mem_map] at hu
  obtain ⟨x, _, rfl⟩ := hu
  rfl
theorem tk_len {k n L N : Nat} (h1 : k = L / 4) (h2 : n = N / 4) (h3 : L = 56) (h4 : N = 16) : k + n ≤ maxLen := by
  have : maxLen = 9223372036854775807 := rfl
  omega
theorem tk_bytes {k n L N : Nat} (h1 : k = L / 4) (h2 : n = N / 4) (h3 : L = 56) (h4 : N = 16) : (k + n) * 4 ≤ 140737488355328 := by omega
def tkW (l ns : List Nat) : List Nat := words4 l ++ words4 ns
/-- Is a bit set that may not be? -/
def badF (vs : List Nat) : Nat → List Nat → Bool
  | _, [] => false
  | f, v :: r => decide ((vs[f]?.getD 0) &&& (4294967295 - v) ≠ 0) || badF vs (f + 1) r
def tkE (vs l ns : List Nat) : Int := if l.length ≠ 56 then 1 else if life vs ≠ 0 then 14 else if badF vs 9 (tkW l ns) = true then 11 else 0
def tkL (vs l ns : List Nat) : List (Nat × Nat) := if tkE vs l ns = 0 then planOf vs 9 (tkW l ns) else []
theorem badF_append (vs : List Nat) : ∀ (f : Nat) (l r : List Nat), badF vs f (l ++ r) = (badF vs f l || badF vs (f + l.length) r)
  | f, [], r => by simp [badF]
  | f, x :: l, r => by
    simp only [List.cons_append, badF, badF_append vs (f + 1) l r, List.length_cons, Bool.or_assoc]
    rw [show f + 1 + l.length = f + (l.length + 1) by omega]
theorem badF_snoc (vs : List Nat) (f : Nat) (l : List Nat) {i x old : Nat} (hx : l[i]? = some x) (ho : vs[f + i]? = some old) : badF vs f (l.take (i + 1)) = (badF vs f (l.take i) || decide (old &&& (4294967295 - x) ≠ 0)) := by
  have hi : i < l.length := (List.getElem?_eq_some_iff.1 hx).1
  rw [take_snoc hx, badF_append, List.length_take, Nat.min_eq_left (by omega)]
  simp [badF, ho]
theorem badF_hit (vs : List Nat) (f : Nat) (l : List Nat) {i x old : Nat} (hx : l[i]? = some x) (ho : vs[f + i]? = some old) (hb : old &&& (4294967295 - x) ≠ 0) : badF vs f l = true := by
  rw [← List.take_append_drop (i + 1) l, badF_append, badF_snoc vs f l hx ho]
  simp [hb]
set_option maxRecDepth 100000 in
set_option maxHeartbeats 800000 in
theorem tokey_any (A : Option Addr) (len cap : Nat) (l ns : List Nat) (w : World) (h : Cz w c p b vs ls sd) (hl : l.length = len) (hlc : len ≤ cap) (hcm : cap ≤ maxLen) (hz : Nats .u8 256 w w.heap.size A l) (hn : ns.length = 16) (hnb : ∀ x ∈ ns, x < 256) :
    Calls Tryd.prog 77 #[.pointer (some ⟨c, 0, none⟩), .slice A len cap, .agg (b8 ns)] w (ToOut w (tkE vs l ns) (tkL vs l ns)) := by
  have H := Lib.hid h
  have HZ := Lib.hid hz
  have HN := Lib.hid hn
  have HNB := Lib.hid hnb
  have HCM := Lib.hid hcm
  subst hl
  clear h hz hn hnb hcm
  by_cases h56 : l.length = 56
  · by_cases hlf : life vs = 0
    · have hE : tkE vs l ns = if badF vs 9 (tkW l ns) = true then 11 else 0 := by unfold tkE; rw [if_neg (by omega), if_neg (by omega)]
      have HE := Lib.hid hE
      have HL0 := Lib.hid hlf
      have H56 := Lib.hid h56
      rw [h56] at hlc ⊢
      clear hE hlf h56
      obtain ⟨er, her⟩ : ∃ er, tkE vs l ns = er := ⟨_, rfl⟩
      have HER := Lib.hid her
      have HTL := Lib.hid (show er = 0 → tkL vs l ns = planOf vs 9 (tkW l ns) from fun h => by unfold tkL; rw [her, if_pos h])
      have HTN := Lib.hid (show er ≠ 0 → tkL vs l ns = [] from fun h => by unfold tkL; rw [her, if_neg h])
      rw [her] at HE ⊢
      clear her
      have HW1 := Lib.hid (words4_length l)
      have HW2 := Lib.hid (words4_length ns)
      obtain ⟨i0, hi0, hz0, hz1, hz2⟩ := info_row u32_info
      have HI := Lib.hid hi0
      have HI1 := Lib.hid hz0
      have HI2 := Lib.hid hz1
      have HI3 := Lib.hid hz2
      clear hi0 hz0 hz1 hz2
      go_enter Tryd.func77, Tryd.ntmps77
      go_wp2_with fail
      (with_reducible refine (life_any _ (H.out.alloc _)).mono ?_); rintro e w1 ⟨rfl, hB⟩
      rw [HL0.out]
      have HK := Lib.hid ((Blk.new w 50 (b8 ns)).below hB (by simp))
      have HB := Lib.hid (((Below.refl _ w).alloc (Nat.le_refl _) _).trans (hB.mono (by simp)))
      clear hB
      go_upto_region 7 with fail
      go_cut [8] (fun v w' => Hid (Own32 w' w.heap.size v (tkW l ns)) ∧ Hid (Below w.heap.size w w'))
      case first =>
        go_region_law (first
          | (go_simp; go_at_call 102; (with_reducible refine (number_any A 56 cap l _ H56.out hlc HCM.out (by have := H56.out; omega) (by exact nats_at (HZ.out.below HB.out) HB.out.size rfl)).mono ?_); rintro e w2 ⟨v1, rfl, hO, hB⟩; have HK := Lib.hid (HK.out.next hB rfl); have HO1 := Lib.hid (own32_le hO HB.out.size); (try have HO2 := Lib.hid (own32_next HO2.out hB rfl)); have HB := Lib.hid (below_nxt HB.out hB (Nat.le_refl _) rfl rfl rfl rfl); clear hO hB)
          | (go_simp; go_at_call 102; (with_reducible refine (number_any (some ⟨w.heap.size, 0, none⟩) 16 16 ns _ HN.out (by decide) (by decide) (by have := HN.out; omega) (by exact nats_at (nats_b8 HK.out HNB.out) (Nat.le_refl _) rfl)).mono ?_); rintro e w2 ⟨v2, rfl, hO, hB⟩; obtain ⟨g2, c2, rfl, hc2, hm2⟩ := own32_some hO (by have h1 := HW2.out; have h2 := HN.out; omega); have HK := Lib.hid (HK.out.next hB rfl); have HO2 := Lib.hid (own32_le hO HB.out.size); (try have HO1 := Lib.hid (own32_next HO1.out hB rfl)); have HB := Lib.hid (below_nxt HB.out hB (Nat.le_refl _) rfl rfl rfl rfl); clear hO hB)
          | (refine step_append_lies _ (by rfl) _ _ _ (by rfl) w.heap.size 43 i0 _ 1 4 Tryd.underlying37 HI.out HI1.out HI2.out HI3.out rfl (by omega) v1 _ ((words4 l).map fun x => Value.int .u32 ((x : Nat) : Int)) (by rfl) (by exact own32_at HO1.out rfl) ⟨g2, 0, none⟩ (words4 ns).length c2 ((words4 ns).map fun x => Value.int .u32 ((x : Nat) : Int)) (by rfl) (by simp) (by exact own32_news HO2.out rfl) (by exact own32_one _) (by have h1 := HW2.out; have h2 := HN.out; omega) (by exact tk_len HW1.out HW2.out H56.out HN.out) (by exact tk_bytes HW1.out HW2.out H56.out HN.out) (by exact HB.out.size) _ rfl ?_; intro g4 c4 w4 hown4 hgrow4 hat4 hlt4))
        all_goals go_wp2_with fail
        all_goals go_meet
        all_goals refine ⟨Lib.hid ?_, Lib.hid (HB.out.grown hgrow4 HB.out.size (fun k hk => (World.ownsRow.lt HO1.out k hk).1))⟩
        all_goals (unfold Own32 tkW; rw [List.length_append, List.map_append]; exact hown4)
      case rest =>
        obtain ⟨HO, HB2⟩ := hcut
        have hlw : (tkW l ns).length = 18 := by
          unfold tkW
          rw [List.length_append, words4_length, words4_length]
          have h1 := H56.out
          have h2 := HN.out
          omega
        have hwb : ∀ (i x : Nat), (tkW l ns)[i]? = some x → x < 4294967296 := fun i x hx => by
          have hm := List.mem_of_getElem? hx
          unfold tkW at hm
          rw [List.mem_append] at hm
          rcases hm with hm | hm
          · exact words4_lt l (fun y hy => by
              obtain ⟨j, hj, rfl⟩ := List.getElem_of_mem hy
              exact (HZ.out j _ (List.getElem?_eq_getElem hj)).1) x hm
          · exact words4_lt ns HNB.out x hm
        generalize tkW l ns = ws at *
        generalize tkL vs l ns = tl at *
        clear HER HW1 HW2 HL0 HI HI1 HI2 HI3 HK HB HN HNB H56 HCM
        obtain ⟨g8, c8, hv8, hc8, hm8⟩ := own32_some HO.out (by omega)
        have HLW := Lib.hid hlw
        have HWB := Lib.hid hwb
        rw [hlw] at hv8 hc8
        subst hv8
        obtain ⟨wo, rfl⟩ : ∃ wo : World, wo = wc := ⟨_, rfl⟩
        have HH := Lib.hid (H.out.old HB2.out)
        have hwl := HB2.out.size
        clear hlw hwb hm8
        go_wp2_with fail
        go_loopg [9, 10, 29] 18 (fun g s9 s10 s29 wr => ∃ i : Nat, i + g = 18 ∧ s29 = .int .i64 (i : Int) ∧ Hid (badF vs 9 (ws.take i) = false) ∧ Hid (Below wo.heap.size wo wr))
        case atStart => exact ⟨0, by omega, rfl, Lib.hid rfl, Lib.hid (Below.refl _ _)⟩
        case round =>
          obtain ⟨i, hg, rfl, HF, HB3⟩ := hrel
          have HG := Lib.hid hg
          have hi : i ≤ 18 := by omega
          clear hg
          have HO3 := Lib.hid (own32_next HO.out HB3.out rfl)
          have HB4 := Lib.hid (below_then HB2.out HB3.out (Nat.le_refl _))
          have HC := Lib.hid (HH.out.old HB3.out)
          by_cases hlt : i < 18
          · obtain ⟨x, hx⟩ : ∃ x, ws[i]? = some x := ⟨_, List.getElem?_eq_getElem (by have := HLW.out; omega)⟩
            obtain ⟨g', hg', -, hgl, hcx, -⟩ := HO3.out.at_ hx
            cases hg'
            obtain ⟨old, ho⟩ : ∃ old, vs[9 + i]? = some old := ⟨_, List.getElem?_eq_getElem (by have := H.out.len; omega)⟩
            have hoM := H.out.fz.word _ _ ho
            have hxM := HWB.out i x hx
            have HS := Lib.hid (badF_snoc vs 9 ws hx ho)
            have HT := Lib.hid (badF_hit vs 9 ws hx ho)
            have HOO := Lib.hid ho
            clear hx ho
            go_wp2_with fail
            (with_reducible refine (all_any _ HC.out).mono ?_); rintro e w5 ⟨v, rfl, hO5, hB5⟩
            obtain ⟨A5, cp5, rfl, hc5, hm5, -⟩ := hO5.form HC.out.fz.word
            obtain ⟨g5, rfl, hg5, hg6, hco, -⟩ := hO5.at_ HOO.out
            have hvl : vs.length = 64 := HC.out.len
            rw [hvl] at hc5 ⊢
            have HB5 := Lib.hid (below_then HB3.out hB5 (Nat.le_refl _))
            have hb1 := u32_andNot_nat old x hoM (by omega)
            clear hO5 hB5
            by_cases hz : old &&& (4294967295 - x) = 0
            · rw [hz] at hb1
              have HS2 := Lib.hid (show badF vs 9 (ws.take (i + 1)) = false by rw [HS.out, HF.out, hz]; rfl)
              clear hz
              go_wp2_with fail
              go_light
              go_roundg (18 - (i + 1))
              case measure => have := HG.out; omega
              case rel => exact ⟨i + 1, by omega, by go_num, HS2, HB5⟩
            · have HE11 := Lib.hid (show er = 11 by rw [HE.out, if_pos (HT.out hz)])
              have hne : (((old &&& (4294967295 - x) : Nat) : Int) != 0) = true := by rw [bne_iff_ne]; omega
              have HL9 := Lib.hid (HTN.out (by rw [HE11.out]; decide))
              clear hz
              generalize old &&& (4294967295 - x) = y at *
              go_wp2_with fail
              go_light
              go_ret2
              rw [HL9.out, HE11.out]
              exact ⟨_, rfl, World.ownsRow_nil _ _ _ _, below_then HB2.out HB5.out (Nat.le_refl _)⟩
          · have : i = 18 := by omega
            subst this
            have hbad := HF.out
            rw [List.take_of_length_le (by have := HLW.out; omega)] at hbad
            have HE0 := Lib.hid (show er = 0 by rw [HE.out, hbad]; rfl)
            have HL9 := Lib.hid (HTL.out HE0.out)
            have HN9 := Lib.hid (show Nats .u32 4294967296 wr wr.heap.size (some ⟨g8, 0, none⟩) ws from fun j z hz => by
              obtain ⟨g', hg', -, hgl, hcx, -⟩ := HO3.out.at_ hz
              cases hg'
              exact ⟨HWB.out j z hz, g8, 0, rfl, hgl, by rw [Nat.zero_add]; exact hcx⟩)
            clear hbad
            go_wp2_with fail
            (with_reducible refine (plan_any 9 9 _ 18 c8 ws _ HC.out rfl HLW.out (by have := HLW.out; omega) HN9.out).mono ?_); rintro e w6 ⟨v, rfl, hO6, hB6⟩
            have HT6 := Lib.hid (toOut_old HB4.out (er := 0) (l := _) ⟨v, rfl, hO6, hB6⟩)
            clear hO6 hB6
            go_wp2_with fail
            go_light
            go_ret2
            rw [HL9.out, HE0.out]
            exact HT6.out
    · have e1 : tkE vs l ns = 14 := by unfold tkE; rw [if_neg (by omega), if_pos hlf]
      have e2 : tkL vs l ns = [] := by simp [tkL, e1]
      rw [e1, e2, h56]
      have hle : life vs ≤ 4 := lifeN_le _ _
      have hne : (((life vs : Nat) : Int) != 0) = true := by rw [bne_iff_ne]; omega
      clear e1 e2 hlf h56
      go_enter Tryd.func77, Tryd.ntmps77
      go_wp2_with fail
      (with_reducible refine (life_any _ (H.out.alloc _)).mono ?_); rintro e w1 ⟨rfl, hB⟩
      have HB := Lib.hid (((Below.refl _ w).alloc (Nat.le_refl _) _).trans (hB.mono (by simp)))
      clear hB
      generalize life vs = lf at *
      go_wp2_with fail
      go_light
      go_ret2
      exact ⟨_, rfl, World.ownsRow_nil _ _ _ _, HB.out⟩
  · have e1 : tkE vs l ns = 1 := by unfold tkE; rw [if_pos h56]
    have e2 : tkL vs l ns = [] := by simp [tkL, e1]
    rw [e1, e2]
    have hne : (((l.length : Nat) : Int) != 56) = true := by rw [bne_iff_ne]; omega
    clear e1 e2 h56
    go_enter Tryd.func77, Tryd.ntmps77
    go_wp2_with fail
    go_light
    go_ret2
    exact ⟨_, rfl, World.ownsRow_nil _ _ _ _, (Below.refl _ w).alloc (Nat.le_refl _) _⟩
end Otp
end Go.Proofs.YtpakdcgcgekcfaaDoor

/-
  Package otp: ToRow.
-/
set_option linter.unusedSimpArgs false
set_option linter.unusedVariables false
namespace Go.Proofs.YtpakdcgcgekcfaaDoor
open Go.RowKit

namespace Otp
open Fuse
variable {w w' : World} {c p b : Nat} {vs : List Nat} {ls : List Bool} {sd : Bool}
/-- The words of a row. -/
def rowW (vs : List Nat) (k : Nat) : List Nat := (vs.drop (27 + 9 * k)).take 9
def rowZ (vs : List Nat) (k : Nat) : Bool := (rowW vs k).all fun x => decide (x = 0)
def trE (vs : List Nat) (i : Int) : Int := if 0 ≤ i ∧ i < 4 then (if rowZ vs i.toNat = true then 0 else 14) else 1
def numb : Nat → List Nat → List (Nat × Nat)
  | _, [] => []
  | f, x :: r => (f, x) :: numb (f + 1) r
theorem numb_append : ∀ (f : Nat) (l r : List Nat), numb f (l ++ r) = numb f l ++ numb (f + l.length) r
  | f, [], r => by simp [numb]
  | f, x :: l, r => by
    simp only [List.cons_append, numb, numb_append (f + 1) l r, List.length_cons]
    rw [show f + 1 + l.length = f + (l.length + 1) by omega]
theorem numb_length : ∀ (f : Nat) (l : List Nat), (numb f l).length = l.length
  | _, [] => rfl
  | f, x :: l => by simp [numb, numb_length (f + 1) l]
theorem numb_snoc (f : Nat) (l : List Nat) {i x : Nat} (hx : l[i]? = some x) : numb f (l.take (i + 1)) = numb f (l.take i) ++ [(f + i, x)] := by
  have hi : i < l.length := (List.getElem?_eq_some_iff.1 hx).1
  rw [take_snoc hx, numb_append, List.length_take, Nat.min_eq_left (by omega)]
  rfl
def rowL (k : Nat) (ws : List Nat) : List (Nat × Nat) := (35 + 9 * k, 16711680) :: numb (27 + 9 * k) ws ++ [(35 + 9 * k, 16711935)]
def trL (vs : List Nat) (i : Int) (ds : List Nat) : List (Nat × Nat) := if trE vs i = 0 then rowL i.toNat (words4 ds) else []
theorem rowZ_snoc (vs : List Nat) (k : Nat) {j x : Nat} (hx : (rowW vs k)[j]? = some x) : ((rowW vs k).take (j + 1)).all (fun x => decide (x = 0)) = (((rowW vs k).take j).all (fun x => decide (x = 0)) && decide (x = 0)) := by
  rw [take_snoc hx, List.all_append]
  simp
theorem rowZ_hit (vs : List Nat) (k : Nat) {j x : Nat} (hx : (rowW vs k)[j]? = some x) (h : x ≠ 0) : rowZ vs k = false := by
  unfold rowZ
  rw [List.all_eq_false]
  exact ⟨x, List.mem_of_getElem? hx, by simpa using h⟩
/-- A literal list of one Write. -/
theorem ownW_one (w : World) (z u : Int) (x y : Nat) (B : Nat) (hB : B ≤ w.heap.size) (hz : z = x) (hu : u = y) : OwnW (w.alloc (.cells #[.int .i64 z, .int .u32 u] 58)) B (.slice (some ⟨w.heap.size, 0, none⟩) 1 1) [(x, y)] := by
  subst hz; subst hu
  refine ⟨rfl, .inr ⟨w.heap.size, 1, #[.int .i64 (x : Int), .int .u32 (y : Int)], rfl, hB, Blk.new w _ _, Nat.le_refl _, by simp [maxLen], rfl, rfl⟩⟩
set_option maxHeartbeats 2000000 in
theorem torow_out (i : Int) (ds : List Nat) (w : World) (h : Cz w c p b vs ls sd) (hi : i < 0 ∨ 4 ≤ i) :
    Calls Tryd.prog 17 #[.pointer (some ⟨c, 0, none⟩), .int .i64 i, .agg (b8 ds)] w (ToOut w 1 []) := by
  have H := Lib.hid h
  have HI := Lib.hid hi
  clear h hi
  go_enter Tryd.func17, Tryd.ntmps17
  go_wp2_with fail
  (with_reducible refine (at_out _ _ HI.out).mono ?_); rintro e w1 ⟨rfl, rfl⟩
  go_wp2_with fail
  go_light
  go_ret2
  exact ⟨_, rfl, World.ownsRow_nil _ _ _ _, (Below.refl _ w).alloc (Nat.le_refl _) _⟩
set_option maxRecDepth 100000 in
set_option maxHeartbeats 1000000 in
theorem torow_in (k : Nat) (ds : List Nat) (w : World) (h : Cz w c p b vs ls sd) (hk : k < 4) (hl : ds.length = 32) (hd : ∀ x ∈ ds, x < 256) :
    Calls Tryd.prog 17 #[.pointer (some ⟨c, 0, none⟩), .int .i64 (k : Int), .agg (b8 ds)] w (ToOut w (if rowZ vs k = true then 0 else 14) (if rowZ vs k = true then rowL k (words4 ds) else [])) := by
  have H := Lib.hid h
  have HL := Lib.hid hl
  have HD := Lib.hid hd
  clear h hl hd
  obtain ⟨er, her⟩ : ∃ er : Int, (if rowZ vs k = true then 0 else 14) = er := ⟨_, rfl⟩
  obtain ⟨rl, hrl⟩ : ∃ rl, (if rowZ vs k = true then rowL k (words4 ds) else []) = rl := ⟨_, rfl⟩
  rw [her, hrl]
  have HE := Lib.hid her
  have HR := Lib.hid hrl
  clear her hrl
  go_enter Tryd.func17, Tryd.ntmps17
  go_wp2_with fail
  (with_reducible refine (at_in _ _ (by omega) (by omega)).mono ?_); rintro e w1 ⟨rfl, rfl⟩
  have HK := Lib.hid (Blk.new w 23 (b8 ds))
  go_wp2_with fail
  (with_reducible refine (all_any _ (H.out.alloc _)).mono ?_); rintro e w1 ⟨v, rfl, hO, hB⟩
  obtain ⟨g1, c1, rfl, hc1, hm1⟩ := own32_some hO (by have := H.out.len; omega)
  have HO := Lib.hid (own32_le hO (show w.heap.size ≤ _ by simp))
  have HK1 := Lib.hid (HK.out.below hB (by simp))
  have HC1 := Lib.hid ((H.out.alloc _).old hB)
  have HB := Lib.hid (((Below.refl _ w).alloc (Nat.le_refl _) _).trans (hB.mono (by simp)))
  have hvl : vs.length = 64 := H.out.len
  rw [hvl] at hc1 HO ⊢
  have HVL := Lib.hid hvl
  clear hO hB hvl HK hm1
  go_wp2_with fail
  rw [show 27 + 9 * k + 9 - (27 + 9 * k) = 9 by omega]
  have hrw : (rowW vs k).length = 9 := by unfold rowW; rw [List.length_take, List.length_drop]; have := HVL.out; omega
  have hrg : ∀ j, j < 9 → (rowW vs k)[j]? = vs[27 + 9 * k + j]? := fun j hj => by unfold rowW; rw [List.getElem?_take, if_pos hj, List.getElem?_drop]
  have HRW := Lib.hid hrw
  have HRG := Lib.hid hrg
  clear hrw hrg
  go_loopg [11, 34] 9 (fun g s11 s34 wr => ∃ j : Nat, j + g = 9 ∧ s34 = .int .i64 (j : Int) ∧ Hid (((rowW vs k).take j).all (fun x => decide (x = 0)) = true) ∧ wr = w1)
  case atStart => exact ⟨0, by omega, rfl, Lib.hid rfl, rfl⟩
  case round =>
    obtain ⟨j, hg, rfl, HZ, rfl⟩ := hrel
    have HG := Lib.hid hg
    have hj : j ≤ 9 := by omega
    clear hg
    by_cases hlt : j < 9
    · obtain ⟨x, hx⟩ : ∃ x, (rowW vs k)[j]? = some x := ⟨_, List.getElem?_eq_getElem (by have := HRW.out; omega)⟩
      obtain ⟨g', hg', -, hgl, hcx, -⟩ := HO.out.at_ (HRG.out j hlt ▸ hx)
      cases hg'
      have HS := Lib.hid (rowZ_snoc vs k hx)
      have HT := Lib.hid (rowZ_hit vs k hx)
      have hxM : x < 4294967296 := H.out.fz.word _ _ (HRG.out j hlt ▸ hx)
      clear hx
      by_cases hz : x = 0
      · subst hz
        have HS2 := Lib.hid (show ((rowW vs k).take (j + 1)).all (fun x => decide (x = 0)) = true by rw [HS.out, HZ.out]; rfl)
        go_wp2_with fail
        go_light
        go_roundg (9 - (j + 1))
        case measure => have := HG.out; omega
        case rel => exact ⟨j + 1, by omega, by go_num, HS2, rfl⟩
      · have hne : (((x : Nat) : Int) != 0) = true := by rw [bne_iff_ne]; omega
        have HF := Lib.hid (HT.out hz)
        clear hz
        have HE2 := Lib.hid (show er = 14 by rw [← HE.out, HF.out]; rfl)
        have HR2 := Lib.hid (show rl = [] by rw [← HR.out, HF.out]; rfl)
        go_wp2_with fail
        go_light
        go_ret2
        rw [HE2.out, HR2.out]
        exact ⟨_, rfl, World.ownsRow_nil _ _ _ _, HB.out⟩
    · have : j = 9 := by omega
      subst this
      have hZ : rowZ vs k = true := by
        have := HZ.out
        rw [List.take_of_length_le (by have := HRW.out; omega)] at this
        exact this
      have HE2 := Lib.hid (show er = 0 by rw [← HE.out, hZ]; rfl)
      have HR2 := Lib.hid (show rl = rowL k (words4 ds) by rw [← HR.out, hZ]; rfl)
      have hwl := HB.out.size
      have HSZ := Lib.hid (show (Tryd.prog.info? 23).map (·.size) = some (b8 ds).size by
        rw [show (b8 ds).size = 32 by simp [b8, HL.out]]
        kernel_rfl)
      have HO1 := Lib.hid (ownW_one wr (27 + 9 * (k : Int) + 8) 16711680 (35 + 9 * k) 16711680 w.heap.size hwl (by omega) rfl)
      have HWL := Lib.hid (show (words4 ds).length = 8 by rw [words4_length, HL.out])
      have HWM := Lib.hid (fun x hx => words4_lt ds HD.out x hx)
      have HWA := Lib.hid (fun w' => words_arr ds w' HL.out HD.out)
      generalize words4 ds = ws at *
      clear hZ HZ
      go_wp2_with (refine wpList_load_row rfl 23 _ rfl w.heap.size rfl 23 (b8 ds) (0, 0) _ (HK1.out.alloc _) Tryd.underlying23 rfl HSZ.out ?_)
      (with_reducible refine (HWA.out _).mono ?_); rintro e w2 ⟨rfl, hB⟩
      have HO2 := Lib.hid (own_frm (S := []) HO1.out (Frm.of_below hB) (fun y hy => by simp at hy))
      have HB2 := Lib.hid (below_nxt (HB.out.alloc HB.out.size (.cells #[.int .i64 (27 + 9 * (k : Int) + 8), .int .u32 16711680] 58)) hB (Nat.le_refl _) rfl rfl rfl rfl)
      clear hB
      go_wp2_with fail
      have HR3 := Lib.hid (show rl = (35 + 9 * k, 16711680) :: numb (27 + 9 * k) ws ++ [(35 + 9 * k, 16711935)] from HR2.out)
      obtain ⟨i0, hi0, hz0, hz1, hz2⟩ := info_row write_info
      have HI := Lib.hid hi0
      have HI1 := Lib.hid hz0
      have HI2 := Lib.hid hz1
      have HI3 := Lib.hid hz2
      have HO3 := Lib.hid (show OwnW w2 w.heap.size (.slice (some ⟨wr.heap.size, 0, none⟩) 1 1) ((35 + 9 * k, 16711680) :: numb (27 + 9 * k) (ws.take 0)) from HO2.out)
      clear hi0 hz0 hz1 hz2 HO1 HO2 HO HK1 HE HR HR2 HSZ HWA HC1 HVL HRW HRG HL HD H HG
      generalize Value.slice (some ⟨wr.heap.size, 0, none⟩) 1 1 = v0 at *
      obtain ⟨gO, rfl⟩ : ∃ q, q = gk := ⟨_, rfl⟩
      obtain ⟨wO, rfl⟩ : ∃ q, q = wr := ⟨_, rfl⟩
      go_loopg [12, 13, 14, 47] 8 (fun g s12 s13 s14 s47 wr => ∃ j : Nat, j + g = 8 ∧ s47 = .int .i64 (j : Int) ∧ Hid (OwnW wr w.heap.size s12 ((35 + 9 * k, 16711680) :: numb (27 + 9 * k) (ws.take j))) ∧ Hid (Below w.heap.size w wr))
      case atStart => exact ⟨0, by omega, rfl, HO3, HB2⟩
      case round =>
        clear HO3
        obtain ⟨j, hg, rfl, HO, HB⟩ := hrel
        have HG := Lib.hid hg
        have hj : j ≤ 8 := by omega
        have hwl := HB.out.size
        clear hg
        by_cases hlt : j < 8
        · obtain ⟨x, hx⟩ : ∃ x, ws[j]? = some x := ⟨_, List.getElem?_eq_getElem (by have := HWL.out; omega)⟩
          have hxM := HWM.out x (List.mem_of_getElem? hx)
          have hix := run_index_arr (P := Tryd.prog) 118 43 8 Tryd.underlying118 (fun _ => by kernel_rfl) (fun _ => by kernel_rfl) (c32 ws) .i64 (j : Int) j rfl hlt _ (c32_at hx)
          have HS := Lib.hid (numb_snoc (27 + 9 * k) ws hx)
          have hlen : (numb (27 + 9 * k) (ws.take j)).length = j := by rw [numb_length, List.length_take]; have := HWL.out; omega
          have HLN := Lib.hid hlen
          have E27 := Lib.hid (show (27 : Int) + 9 * (k : Int) + (j : Int) = ((27 + 9 * k + j : Nat) : Int) by omega)
          clear hx hlen
          go_wp2_with (at_builtin; refine wpList_append_own _ rfl (.tmp 51) (.tmp 57) 27 rfl w.heap.size 58 i0 (.agg #[.int .i64 0, .int .u32 0]) 2 16 Tryd.underlying27 HI.out HI1.out HI2.out HI3.out rfl (by decide) _ _ _ rfl (HO.out.alloc _) ⟨wr.heap.size, 0, none⟩ 1 1 [.int .i64 (27 + 9 * (k : Int) + (j : Int)), .int .u32 (x : Int)] rfl rfl ?c1 ?c2 ?c3 ?c4 ?c5 ?_)
          case c1 => exact cells_new _ _ _ rfl _
          case c2 => intro u hu; simp at hu; rcases hu with rfl | rfl <;> rfl
          case c3 => rw [List.length_cons, HLN.out]; simp only [maxLen]; omega
          case c4 => rw [List.length_cons, HLN.out]; omega
          case c5 => simp; omega
          · intro v1 w3 hO1 hg1 _
            have hB1 := (HB.out.alloc hwl (.cells #[.int .i64 (27 + 9 * (k : Int) + (j : Int)), .int .u32 (x : Int)] 58)).grown hg1 (by simp; omega) (fun k hk => (World.ownsRow.lt HO.out k hk).1)
            have HO2 := Lib.hid hO1
            have HB3 := Lib.hid hB1
            clear hO1 hB1 hg1
            go_wp2_with fail
            go_light
            go_roundg (8 - (j + 1))
            case measure => have := HG.out; omega
            case rel =>
              refine ⟨j + 1, by omega, by go_num, Lib.hid ?_, HB3⟩
              have h2 := HO2.out
              rw [E27.out] at h2
              unfold OwnW
              rw [HS.out, ← List.cons_append, wcells_append, List.length_append]
              exact h2
        · have : j = 8 := by omega
          subst this
          have HO4 := Lib.hid (show OwnW wr w.heap.size _ ((35 + 9 * k, 16711680) :: numb (27 + 9 * k) ws) by
            have h2 := HO.out
            rw [List.take_of_length_le (by have := HWL.out; omega)] at h2
            exact h2)
          have hlen : ((35 + 9 * k, 16711680) :: numb (27 + 9 * k) ws).length = 9 := by rw [List.length_cons, numb_length, HWL.out]
          have HLN := Lib.hid hlen
          have E35 := Lib.hid (show (27 : Int) + 9 * (k : Int) + 8 = ((35 + 9 * k : Nat) : Int) by omega)
          clear hlen HO
          generalize (35 + 9 * k, 16711680) :: numb (27 + 9 * k) ws = L9 at *
          go_wp2_with (at_builtin; refine wpList_append_own _ rfl (.tmp 60) (.tmp 64) 27 rfl w.heap.size 58 i0 (.agg #[.int .i64 0, .int .u32 0]) 2 16 Tryd.underlying27 HI.out HI1.out HI2.out HI3.out rfl (by decide) _ _ _ rfl (HO4.out.alloc _) ⟨wr.heap.size, 0, none⟩ 1 1 [.int .i64 (27 + 9 * (k : Int) + 8), .int .u32 16711935] rfl rfl ?d1 ?d2 ?d3 ?d4 ?d5 ?_)
          case d1 => exact cells_new _ _ _ rfl _
          case d2 => intro u hu; simp at hu; rcases hu with rfl | rfl <;> rfl
          case d3 => rw [HLN.out]; simp only [maxLen]; omega
          case d4 => rw [HLN.out]; omega
          case d5 => simp; omega
          · intro v1 w3 hO1 hg1 _
            have hB1 := (HB.out.alloc hwl (.cells #[.int .i64 (27 + 9 * (k : Int) + 8), .int .u32 16711935] 58)).grown hg1 (by simp; omega) (fun k hk => (World.ownsRow.lt HO4.out k hk).1)
            have HO5 := Lib.hid hO1
            have HB3 := Lib.hid hB1
            clear hO1 hB1 hg1
            go_wp2_with fail
            go_light
            go_ret2
            rw [HE2.out, HR3.out]
            refine ⟨_, rfl, ?_, HB3.out⟩
            have h2 := HO5.out
            rw [E35.out] at h2
            unfold OwnW
            rw [wcells_append, List.length_append]
            exact h2
theorem torow_any (i : Int) (ds : List Nat) (w : World) (h : Cz w c p b vs ls sd) (hl : ds.length = 32) (hd : ∀ x ∈ ds, x < 256) :
    Calls Tryd.prog 17 #[.pointer (some ⟨c, 0, none⟩), .int .i64 i, .agg (b8 ds)] w (ToOut w (trE vs i) (trL vs i ds)) := by
  by_cases h0 : 0 ≤ i ∧ i < 4
  · obtain ⟨k, rfl⟩ := Int.eq_ofNat_of_zero_le h0.1
    have := torow_in k ds w h (by omega) hl hd
    have e1 : trE vs (k : Int) = if rowZ vs k = true then 0 else 14 := by unfold trE; rw [if_pos h0]; simp
    have e2 : trL vs (k : Int) ds = if rowZ vs k = true then rowL k (words4 ds) else [] := by
      unfold trL
      rw [e1]
      cases rowZ vs k <;> simp
    rw [e1, e2]
    exact this
  · have e1 : trE vs i = 1 := by unfold trE; rw [if_neg h0]
    have e2 : trL vs i ds = [] := by unfold trL; rw [e1]; rfl
    rw [e1, e2]
    exact torow_out i ds w h (by omega)
end Otp
end Go.Proofs.YtpakdcgcgekcfaaDoor

/-
  Package otp: Do.
-/
set_option linter.unusedSimpArgs false
set_option linter.unusedVariables false
namespace Go.Proofs.YtpakdcgcgekcfaaDoor
open Go.RowKit

namespace Otp
open Fuse
variable {w w' : World} {c p b : Nat} {vs : List Nat} {ls : List Bool} {sd : Bool}
/-- What Do answers, and leaves. -/
def doL (vs : List Nat) : List (Nat × Nat) → Int × List Nat
  | [] => (0, vs)
  | x :: r => if cutE vs x.1 x.2 = 0 then doL (cutV vs x.1 x.2 4294967295) r else (cutE vs x.1 x.2, vs)
theorem cutV_length (vs : List Nat) (i : Int) (v g : Nat) : (cutV vs i v g).length = vs.length := by
  unfold cutV; split <;> simp
theorem OwnW.at_ {w : World} {base : Nat} {v : Value} {l : List (Nat × Nat)} (h : OwnW w base v l) : ∃ A cp, v = .slice A l.length cp ∧ l.length ≤ cp ∧ cp ≤ maxLen ∧
    ∀ (i x y : Nat), l[i]? = some (x, y) → ∃ g, A = some ⟨g, 0, none⟩ ∧ base ≤ g ∧ g < w.heap.size ∧ w.cell? ⟨g, i * 2, none⟩ = some (.int .i64 (x : Int)) ∧ w.cell? ⟨g, i * 2 + 1, none⟩ = some (.int .u32 (y : Int)) := by
  have h' := h
  rcases h.2 with ⟨hv, hn⟩ | ⟨g, cap, cur, hv, hg, hh, hc, hm, hs, ht⟩
  · refine ⟨none, 0, by rw [hv, hn], by omega, by simp [maxLen], fun i x y hx => ?_⟩
    have := (List.getElem?_eq_some_iff.1 hx).1
    omega
  · refine ⟨_, cap, hv, hc, hm, fun i x y hx => ⟨g, rfl, hg, Blk.lt (w := w) (t := 58) (cs := cur) hh, ?_, ?_⟩⟩
    · subst hv
      have hi := (List.getElem?_eq_some_iff.1 hx).1
      have := World.ownsRow.cellAt h' (i * 2) (by omega)
      rw [this]
      exact (wcells_at l i x y hx).1
    · subst hv
      have hi := (List.getElem?_eq_some_iff.1 hx).1
      have := World.ownsRow.cellAt h' (i * 2 + 1) (by omega)
      rw [this]
      exact (wcells_at l i x y hx).2

def DoOut (w : World) (c p b : Nat) (ls : List Bool) (sd : Bool) (r : Int × List Nat) (e : Ending) (w' : World) : Prop := e = .returned (.int .i64 r.1) ∧ Cz w' c p b r.2 ls sd ∧ Frm [b] w w'

set_option maxHeartbeats 2000000 in
theorem do_any (v : Value) (B : Nat) (l : List (Nat × Nat)) (w : World) (h : Cz w c p b vs ls sd) (hO : OwnW w B v l) (hB : b < B) (hM : ∀ x ∈ l, x.2 < 4294967296) (hI : ∀ x ∈ l, x.1 < 64) :
    Calls Tryd.prog 18 #[.pointer (some ⟨c, 0, none⟩), v] w (DoOut w c p b ls sd (doL vs l)) := by
  obtain ⟨A, cp, rfl, hl1, hl2, -⟩ := hO.at_
  have H := Lib.hid h
  have HO := Lib.hid hO
  have HM := Lib.hid hM
  have HI := Lib.hid hI
  clear h hO hM hI
  simp only [maxLen] at hl2
  go_enter Tryd.func18, Tryd.ntmps18
  go_wp2_with fail
  go_loopg [12] l.length (fun g s12 wr => ∃ i : Nat, i + g = l.length ∧ s12 = .int .i64 (i : Int) ∧ ∃ cur, doL vs l = doL cur (l.drop i) ∧ Cz wr c p b cur ls sd ∧ Frm [b] w wr)
  case atStart => exact ⟨0, by omega, rfl, vs, rfl, H.out, Frm.refl _ _⟩
  case round =>
    obtain ⟨i, hg, rfl, cur, hd, hC, hF⟩ := hrel
    have HG := Lib.hid hg
    have hig : i ≤ l.length := by omega
    have HF := Lib.hid hF
    have HD := Lib.hid hd
    have HC := Lib.hid hC
    clear hg hC hF hd
    by_cases hlt : i < l.length
    · obtain ⟨⟨x, y⟩, hx⟩ : ∃ x, l[i]? = some x := ⟨_, List.getElem?_eq_getElem hlt⟩
      have hO1 : OwnW wr B (.slice A l.length cp) l := own_frm HO.out HF.out (fun z hz => by simp at hz; omega)
      obtain ⟨A', cp', hv, -, -, hat⟩ := hO1.at_
      simp only [Value.slice.injEq] at hv
      obtain ⟨rfl, -, -⟩ := hv
      obtain ⟨g0, rfl, hg0, hg1, hc0, hc1⟩ := hat i x y hx
      have hmem := List.mem_of_getElem? hx
      have hyM := HM.out _ hmem
      have hxI := HI.out _ hmem
      simp only at hyM hxI
      have hdr : l.drop i = (x, y) :: l.drop (i + 1) := by
        obtain ⟨h1, h2⟩ := List.getElem?_eq_some_iff.1 hx
        rw [List.drop_eq_getElem_cons h1, h2]
      have hd := HD.out
      rw [hdr, doL] at hd
      have HD2 := Lib.hid hd
      have hcc := HC.out.cell.1
      have hcl := HC.out.head.lt
      have HCa := Lib.hid (fun o => HC.out.alloc o)
      clear hd hdr hx hO1 hat hmem
      have HFa := Lib.hid (show Fz (wr.alloc (.cells #[.int .i64 (x : Int), .int .u32 (y : Int)] 58)) p b cur ls from (HCa.out _).fz)
      go_upto_region 6 with fail
      go_cut [7] (fun v w' => v = .int .i64 (cutE cur (x : Int) y) ∧ Fz w' p b (cutV cur (x : Int) y 4294967295) ls ∧ Frm [b] wr w')
      case first =>
        go_region_with (go_at_call 70; (with_reducible refine (program_any (x : Int) (y : Int) _ HFa.out.drew (by omega) (by omega)).mono ?_); rintro e w2 ⟨rfl, hz2, hf2⟩; rw [Int.toNat_natCast] at hz2 ⊢)
        all_goals go_wp2_with fail
        all_goals go_meet
        all_goals exact ⟨rfl, hz2, ((Frm.refl [b] wr).alloc _).drew.trans hf2⟩
      case rest =>
        obtain ⟨rfl, hz2, hf2⟩ := hcut
        obtain ⟨w2, rfl⟩ : ∃ wo : World, wo = wc := ⟨_, rfl⟩
        obtain ⟨n1, n2, n3⟩ := HC.out.nes
        have hc2 : Cz w2 c p b (cutV cur (x : Int) y 4294967295) ls sd := ⟨hz2, by rw [cutV_length]; exact HC.out.len, HC.out.head.frm hf2 (by simpa using n2)⟩
        have hf3 := HF.out.trans hf2
        have HC2 := Lib.hid hc2
        have HF3 := Lib.hid hf3
        have hd := HD2.out
        clear hz2 hf2 hc2 hf3
        by_cases h0 : cutE cur (x : Int) y = 0
        · rw [if_pos h0] at hd
          rw [h0]
          have HD3 := Lib.hid hd
          clear hd h0
          go_wp2_with fail
          go_light
          go_roundg (l.length - (i + 1))
          case measure => have := HG.out; omega
          case rel => exact ⟨i + 1, by omega, by go_num, _, HD3.out, HC2.out, HF3.out⟩
        · have hv : cutV cur (x : Int) y 4294967295 = cur := by simp [cutV, h0]
          rw [if_neg h0] at hd
          rw [hv] at HC2
          have HD3 := Lib.hid hd
          clear hd hv
          have hne : (cutE cur (x : Int) y != 0) = true := by simpa using h0
          generalize cutE cur (x : Int) y = ce at *
          go_wp2_with fail
          go_light
          go_ret
          show DoOut _ _ _ _ _ _ _ _ _
          rw [HD3.out]
          exact ⟨rfl, HC2.out, HF3.out⟩
    · have : i = l.length := by omega
      subst this
      have hd := HD.out
      rw [List.drop_length, doL] at hd
      have HD := Lib.hid hd
      clear hd
      go_wp2_with fail
      go_light
      go_ret
      show DoOut _ _ _ _ _ _ _ _ _
      rw [HD.out]
      exact ⟨rfl, HC.out, HF.out⟩
end Otp
end Go.Proofs.YtpakdcgcgekcfaaDoor

/-
  The law package's 'awake' (otp).
-/
set_option linter.unusedSimpArgs false
set_option linter.unusedVariables false
namespace Go.Proofs.YtpakdcgcgekcfaaDoor
open Go.RowKit

namespace Otp
open Fuse
variable {w w' : World} {c p b : Nat} {vs : List Nat} {ls : List Bool} {sd : Bool}
theorem tocounter_to (n : Int) (er : Int) (l : List (Nat × Nat)) (w : World) (h : Cz w c p b vs ls sd) (hT : Tab w) (he : tcE vs n = er) (hl : tcL vs n = l) :
    Calls Tryd.prog 65 #[.pointer (some ⟨c, 0, none⟩), .int .i64 n] w (ToOut w er l) := by
  subst he; subst hl
  exact tocounter_any n w h hT
theorem counter_to (n : Nat) (w : World) (h : Cz w c p b vs ls sd) (hT : Tab w) (hn : counter vs = n) : Calls Tryd.prog 27 #[.pointer (some ⟨c, 0, none⟩)] w
    fun e w' => e = .returned (.int .i64 ((n : Nat) : Int)) ∧ Below w.heap.size w w' := by
  subst hn
  exact counter_any w h hT
theorem life_to (n : Nat) (w : World) (h : Cz w c p b vs ls sd) (hn : life vs = n) : Calls Tryd.prog 26 #[.pointer (some ⟨c, 0, none⟩)] w
    fun e w' => e = .returned (.int .i64 ((n : Nat) : Int)) ∧ Below w.heap.size w w' := by
  subst hn
  exact life_any w h
theorem do_to (v : Value) (B : Nat) (l : List (Nat × Nat)) (w : World) (er : Int) (vs' : List Nat) (h : Cz w c p b vs ls sd) (hO : OwnW w B v l) (hB : b < B) (hM : ∀ x ∈ l, x.2 < 4294967296) (hI : ∀ x ∈ l, x.1 < 64) (hd : doL vs l = (er, vs')) :
    Calls Tryd.prog 18 #[.pointer (some ⟨c, 0, none⟩), v] w fun e w' => e = .returned (.int .i64 er) ∧ Cz w' c p b vs' ls sd ∧ Frm [b] w w' := by
  have := do_any v B l w h hO hB hM hI
  rw [hd] at this
  exact this
/-- The chip's words behind a counter of n. -/
def cv (n : Nat) : List Nat := [0] ++ lw n ++ List.replicate 55 0
theorem cv0 : z64 = cv 0 := by decide +kernel
theorem aw1 : tcE (cv 0) 3 = 0 ∧ tcL (cv 0) 3 = [(1, 7)] := by decide +kernel
theorem aw2 : doL (cv 0) [(1, 7)] = (0, cv 3) := by decide +kernel
theorem aw3 : counter (cv 3) = 3 ∧ life (cv 3) = 0 := by decide +kernel

set_option maxHeartbeats 1000000 in
theorem awake_any (w : World) (hT : Tab w) : Calls Tryd.prog 15 #[] w (TrueBelow w) := by
  have HT := Lib.hid hT
  clear hT
  go_enter Tryd.func15, Tryd.ntmps15
  go_wp2_with fail
  (with_reducible refine (new_chip _).mono ?_); rintro e w1 ⟨c, p, b, rfl, hC, hc, hp, hb, hB⟩
  rw [cv0] at hC
  have HC := Lib.hid hC
  have HB := Lib.hid hB
  have HT1 := Lib.hid (HT.out.old hB)
  have hbl := hC.fz.ltb
  have hpl := hC.fz.ltp
  have hcl := hC.head.lt
  clear hC hB
  go_wp2_with fail
  (with_reducible refine (tocounter_to 3 0 [(1, 7)] _ HC.out HT1.out aw1.1 aw1.2).mono ?_); rintro e w2 ⟨v, rfl, hO, hB⟩
  have HC2 := Lib.hid (HC.out.old hB)
  have HT2 := Lib.hid (HT1.out.old hB)
  have HB2 := Lib.hid (below_then HB.out hB (Nat.le_refl _))
  have hwl := hB.size
  have HO := Lib.hid hO
  obtain ⟨A, cp, rfl, hc1, hc2, hat⟩ := hO.at_
  obtain ⟨g, rfl, hg1, hg2, hx, hy⟩ := hat 0 1 7 rfl
  simp only [Nat.zero_mul, Nat.zero_add, List.length_cons, List.length_nil] at hx hy hc1 HO ⊢
  clear hB hO hat
  go_wp2_with fail
  (with_reducible refine (do_to _ w1.heap.size [(1, 7)] _ 0 (cv 3) HC2.out HO.out hbl (by simp) (by simp) aw2).mono ?_); rintro e w3 ⟨rfl, hC, hF⟩
  have HC3 := Lib.hid hC
  have HT3 := Lib.hid (HT2.out.frm hF (by have := HT1.out.lt; have := HT.out.lt; simp; omega))
  have HB3 := Lib.hid (Below.frm HB2.out hF (by have := HB2.out.size; omega) (by simpa using hb))
  clear hC hF
  go_wp2_with fail
  (with_reducible refine (counter_to 3 _ HC3.out HT3.out aw3.1).mono ?_); rintro e w4 ⟨rfl, hB⟩
  have HC4 := Lib.hid (HC3.out.old hB)
  have HB4 := Lib.hid (below_then HB3.out hB (Nat.le_refl _))
  clear hB
  go_wp2_with fail
  (with_reducible refine (life_to 0 _ HC4.out aw3.2).mono ?_); rintro e w5 ⟨rfl, hB⟩
  have HB5 := Lib.hid (below_then HB4.out hB (Nat.le_refl _))
  clear hB
  go_wp2_with fail
  go_light
  go_ret
  exact ⟨rfl, HB5.out⟩
end Otp
end Go.Proofs.YtpakdcgcgekcfaaDoor

/-
  Package otp, in plain Lean: what a plan, done, leaves; the counter's words.
-/
set_option linter.unusedSimpArgs false
set_option linter.unusedVariables false
namespace Go.Proofs.YtpakdcgcgekcfaaDoor
open Go.RowKit

namespace Otp
open Fuse
theorem bit_not' (v i : Nat) (hv : v < 4294967296) : (4294967295 - v).testBit i = (decide (i < 32) && !v.testBit i) := by
  rw [show 4294967295 - v = 2 ^ 32 - (v + 1) by omega, Nat.testBit_two_pow_sub_succ (show v < 2 ^ 32 from hv)]
theorem or_lt {x v : Nat} (hx : x < 4294967296) (hv : v < 4294967296) : x ||| v < 4294967296 := Nat.or_lt_two_pow (n := 32) hx hv
theorem and_or_not {x v : Nat} (hx : x < 4294967296) (hv : v < 4294967296) : x &&& (4294967295 - (x ||| v)) = 0 := by
  apply Nat.eq_of_testBit_eq
  intro i
  rw [Nat.testBit_and, bit_not' _ _ (or_lt hx hv), Nat.testBit_or, Nat.zero_testBit]
  cases x.testBit i <;> simp
theorem or_full {x v : Nat} (hx : x < 4294967296) (hv : v < 4294967296) : x ||| ((x ||| v) &&& 4294967295) = x ||| v := by
  rw [show 4294967295 = 2 ^ 32 - 1 from rfl, Nat.and_two_pow_sub_one_of_lt_two_pow (show x ||| v < 2 ^ 32 from or_lt hx hv), ← Nat.or_assoc, Nat.or_self]

theorem planOf_congr {vs vs' : List Nat} : ∀ (l : List Nat) (f : Nat), (∀ j, f ≤ j → vs[j]? = vs'[j]?) → planOf vs f l = planOf vs' f l
  | [], f, _ => rfl
  | x :: l, f, h => by
    rw [planOf, planOf, h f (Nat.le_refl _), planOf_congr l (f + 1) (fun j hj => h j (by omega))]
/-- What a plan leaves when it is done. -/
def orAt : List Nat → Nat → List Nat → List Nat
  | vs, _, [] => vs
  | vs, f, v :: r => orAt (vs.set f ((vs[f]?.getD 0) ||| v)) (f + 1) r
theorem doL_plan : ∀ (l : List Nat) (vs : List Nat) (f : Nat), f + l.length ≤ vs.length → (∀ (i x : Nat), vs[i]? = some x → x < 4294967296) → (∀ x ∈ l, x < 4294967296) → doL vs (planOf vs f l) = (0, orAt vs f l)
  | [], vs, f, _, _, _ => rfl
  | v :: r, vs, f, hf, hw, hl => by
    simp only [List.length_cons] at hf
    obtain ⟨old, ho⟩ : ∃ old, vs[f]? = some old := ⟨_, List.getElem?_eq_getElem (by omega)⟩
    have hoM := hw f old ho
    have hvM := hl v (by simp)
    have hset : ∀ (y : Nat), y < 4294967296 → ∀ (i x : Nat), (vs.set f y)[i]? = some x → x < 4294967296 := fun y hy i x h => by
      rw [List.getElem?_set] at h
      split at h
      · split at h
        · cases h; exact hy
        · cases h
      · exact hw i x h
    have ih := doL_plan r (vs.set f (old ||| v)) (f + 1) (by simp; omega) (hset _ (or_lt hoM hvM)) (fun x hx => hl x (by simp [hx]))
    have hpc : planOf vs (f + 1) r = planOf (vs.set f (old ||| v)) (f + 1) r := planOf_congr r (f + 1) fun j hj => by rw [List.getElem?_set_ne (by omega)]
    simp only [planOf, ho, Option.getD_some, orAt]
    by_cases h : old ||| v = old
    · have hs : vs.set f (old ||| v) = vs := by
        rw [h]
        apply List.ext_getElem?
        intro i
        rw [List.getElem?_set]
        split
        · rename_i hi; subst hi; split
          · exact ho.symm
          · omega
        · rfl
      rw [hs] at ih ⊢
      rw [if_pos h, List.nil_append, ih]
    · rw [if_neg h, List.singleton_append, doL]
      have hr : inR vs (f : Int) = true := by unfold inR; exact decide_eq_true (by omega)
      have h0 : cutE vs (f : Int) (old ||| v) = 0 := by simp [cutE, hr, ho, and_or_not hoM hvM]
      have h1 : cutV vs (f : Int) (old ||| v) 4294967295 = vs.set f (old ||| v) := by simp only [cutV, h0, if_true, Int.toNat_natCast, ho, Option.getD_some, or_full hoM hvM]
      simp only [h0, h1, if_true]
      rw [hpc, ih]
theorem orAt_mid : ∀ (l m pre post : List Nat), m.length = l.length → orAt (pre ++ m ++ post) pre.length l = pre ++ List.zipWith (· ||| ·) m l ++ post
  | [], m, pre, post, h => by
    have : m = [] := List.eq_nil_of_length_eq_zero h
    subst this
    simp [orAt]
  | v :: r, [], pre, post, h => by simp at h
  | v :: r, x :: m, pre, post, h => by
    have e := orAt_mid r m (pre ++ [x ||| v]) post (by simpa using h)
    rw [orAt]
    have hg : (pre ++ x :: m ++ post)[pre.length]? = some x := by simp
    have hs : (pre ++ x :: m ++ post).set pre.length (x ||| v) = (pre ++ [x ||| v]) ++ m ++ post := by simp
    rw [hg, Option.getD_some, hs]
    simp only [List.length_append, List.length_cons, List.length_nil] at e
    rw [e]
    simp

theorem lw_or (a j : Nat) : ∀ d, ((lw a)[j]?.getD 0) ||| ((lw (a + d))[j]?.getD 0) = (lw (a + d))[j]?.getD 0
  | 0 => by simp
  | d + 1 => by
    have ih := lw_or a j d
    rw [show a + (d + 1) = (a + d) + 1 by omega, lw, List.getElem?_set]
    split
    · rename_i h
      split
      · rw [Option.getD_some, h, ← Nat.or_assoc, ih]
      · simp only [Option.getD_none]
        rename_i h2
        rw [List.getElem?_eq_none (by rw [lw_length] at h2 ⊢; omega)]
        rfl
    · exact ih
theorem lw_zip {a s : Nat} (h : a ≤ s) : List.zipWith (· ||| ·) (lw a) (lw s) = lw s := by
  apply List.ext_getElem?
  intro j
  rw [List.getElem?_zipWith]
  by_cases hj : j < 8
  · obtain ⟨x, h1⟩ : ∃ x, (lw a)[j]? = some x := ⟨_, List.getElem?_eq_getElem (by rw [lw_length]; exact hj)⟩
    obtain ⟨y, h2⟩ : ∃ y, (lw s)[j]? = some y := ⟨_, List.getElem?_eq_getElem (by rw [lw_length]; exact hj)⟩
    have := lw_or a j (s - a)
    rw [show a + (s - a) = s by omega, h1, h2, Option.getD_some, Option.getD_some] at this
    rw [h1, h2]
    simp [this]
  · rw [List.getElem?_eq_none (by rw [lw_length]; omega), List.getElem?_eq_none (by rw [lw_length]; omega)]
theorem cv_length (n : Nat) : (cv n).length = 64 := by simp [cv, lw_length]
theorem cv_word (n : Nat) : ∀ (i x : Nat), (cv n)[i]? = some x → x < 4294967296 := fun i x h => by
  have hm := List.mem_of_getElem? h
  simp only [cv, List.mem_append, List.mem_singleton, List.mem_replicate] at hm
  rcases hm with (rfl | hm) | ⟨_, rfl⟩
  · decide
  · obtain ⟨j, hj⟩ := List.mem_iff_getElem?.1 hm
    exact lw_word n j x hj
  · decide
/-- A counter that is raised, wholly. -/
theorem cv_do {a s : Nat} (h : a ≤ s) : doL (cv a) (planOf (cv a) 1 (lw s)) = (0, cv s) := by
  rw [doL_plan (lw s) (cv a) 1 (by rw [lw_length, cv_length]; omega) (cv_word a) (fun x hx => by obtain ⟨j, hj⟩ := List.mem_iff_getElem?.1 hx; exact lw_word s j x hj)]
  have := orAt_mid (lw s) (lw a) [0] (List.replicate 55 0) (by rw [lw_length, lw_length])
  rw [lw_zip h] at this
  exact congrArg (Prod.mk 0) this
theorem planOf_mem {vs : List Nat} (hw : ∀ (i x : Nat), vs[i]? = some x → x < 4294967296) : ∀ (l : List Nat) (f : Nat), (∀ x ∈ l, x < 4294967296) → ∀ y ∈ planOf vs f l, y.2 < 4294967296 ∧ f ≤ y.1 ∧ y.1 < f + l.length
  | [], f, _, y, hy => by simp [planOf] at hy
  | v :: r, f, hl, y, hy => by
    simp only [planOf, List.mem_append] at hy
    rcases hy with hy | hy
    · split at hy
      · simp at hy
      · simp only [List.mem_singleton] at hy
        subst hy
        refine ⟨or_lt ?_ (hl v (by simp)), Nat.le_refl _, by simp⟩
        cases ho : vs[f]? with
        | none => simp
        | some o => simpa using hw f o ho
    · have := planOf_mem hw r (f + 1) (fun x hx => hl x (by simp [hx])) y hy
      simp only [List.length_cons]
      exact ⟨this.1, by omega, by omega⟩
set_option maxRecDepth 100000 in
theorem cv_counter : ∀ n : Fin 256, counter (cv n.val) = n.val := by decide +kernel
def pops (x m : Nat) : Nat := ((List.range m).map fun k => x / 2 ^ k % 2).sum
def bitsum (l : List Nat) : Nat := (l.map fun x => pops x 32).sum
theorem pops_succ (x m : Nat) : pops x (m + 1) = pops x m + x / 2 ^ m % 2 := by simp [pops, List.range_succ]
theorem pops_le (x : Nat) : ∀ m, pops x m ≤ m
  | 0 => by simp [pops]
  | m + 1 => by
    have := pops_le x m
    rw [pops_succ]
    omega
theorem bitsum_snoc (l : List Nat) (x : Nat) : bitsum (l ++ [x]) = bitsum l + pops x 32 := by simp [bitsum]
theorem bitsum_le : ∀ l : List Nat, bitsum l ≤ 32 * l.length
  | [] => by simp [bitsum]
  | x :: r => by
    have h1 := bitsum_le r
    have h2 := pops_le x 32
    have : bitsum (x :: r) = pops x 32 + bitsum r := by simp [bitsum]
    rw [this, List.length_cons]
    omega
theorem bit_int0 (y k : Nat) : ((y : Int) / 2 ^ k).tmod 2 = ((y / 2 ^ k % 2 : Nat) : Int) := by
  have : ((y : Int) / 2 ^ k) = ((y / 2 ^ k : Nat) : Int) := by simp
  rw [this]
  rfl
set_option maxRecDepth 100000 in
theorem cv_bits : ∀ n : Fin 256, bitsum (cwords (cv n.val)) = n.val := by decide +kernel
end Otp
end Go.Proofs.YtpakdcgcgekcfaaDoor

/-
  The counter, bit by bit: plain.
-/
set_option linter.unusedSimpArgs false
set_option linter.unusedVariables false
namespace Go.Proofs.YtpakdcgcgekcfaaDoor
open Go.RowKit

namespace Otp
open Fuse
theorem bit_tb (x t : Nat) : x / 2 ^ t % 2 = (x.testBit t).toNat := by
  rw [Nat.toNat_testBit]
theorem bit_compl (x t : Nat) (hx : x < 4294967296) (ht : t < 32) : x / 2 ^ t % 2 = 1 - (4294967295 - x) / 2 ^ t % 2 := by
  rw [bit_tb, bit_tb, bit_not' x t hx]
  cases x.testBit t <;> simp [ht]
theorem ctz_bits (y : Nat) (h0 : y ≠ 0) (hy : y < 4294967296) : (∀ t, t < Lib.ctz 32 y → y / 2 ^ t % 2 = 0) ∧ y / 2 ^ (Lib.ctz 32 y) % 2 = 1 ∧ Lib.ctz 32 y < 32 := by
  obtain ⟨m, hm, hk⟩ := Lib.ctzFrom_spec 32 y (by omega) hy
  have e : Lib.ctz 32 y = Lib.ctzFrom 32 y := by simp [Lib.ctz, h0]
  rw [e]
  generalize Lib.ctzFrom 32 y = k at *
  refine ⟨fun t ht => ?_, ?_, hk⟩
  · have : y = 2 ^ t * (2 * (2 ^ (k - t - 1) * (2 * m + 1))) := by
      rw [hm, ← Nat.mul_assoc 2, ← Nat.mul_assoc, ← Nat.pow_succ', ← Nat.pow_add]
      congr 2
      omega
    rw [this, Nat.mul_div_cancel_left _ (Nat.pow_pos (by decide)), Nat.mul_mod_right]
  · rw [hm, Nat.mul_div_cancel_left _ (Nat.pow_pos (by decide))]
    omega
/-- Below the count every bit is set; at it, if there is such a bit, it isn't. -/
theorem ctr_bits : ∀ ws : List Nat, (∀ x ∈ ws, x < 4294967296) → (∀ n, n < ctr ws → (ws[n / 32]?.getD 0) / 2 ^ (n % 32) % 2 = 1) ∧ (ctr ws < 32 * ws.length → (ws[ctr ws / 32]?.getD 0) / 2 ^ (ctr ws % 32) % 2 = 0)
  | [], _ => ⟨fun n hn => by simp [ctr] at hn, fun h => by simp [ctr] at h⟩
  | x :: r, hw => by
    have hx := hw x (by simp)
    obtain ⟨i1, i2⟩ := ctr_bits r (fun y hy => hw y (by simp [hy]))
    by_cases hf : x = 4294967295
    · have e : ctr (x :: r) = 32 + ctr r := by rw [ctr, if_pos hf]
      rw [e]
      constructor
      · intro n hn
        by_cases h32 : n < 32
        · rw [Nat.div_eq_of_lt h32, List.getElem?_cons_zero, Option.getD_some, bit_compl x _ hx (Nat.mod_lt _ (by decide)), hf]
          simp
        · have := i1 (n - 32) (by omega)
          rw [show n / 32 = (n - 32) / 32 + 1 by omega, show n % 32 = (n - 32) % 32 by omega, List.getElem?_cons_succ]
          exact this
      · intro h
        have := i2 (by simp only [List.length_cons] at h; omega)
        rw [show (32 + ctr r) / 32 = ctr r / 32 + 1 by omega, show (32 + ctr r) % 32 = ctr r % 32 by omega, List.getElem?_cons_succ]
        exact this
    · have e : ctr (x :: r) = Lib.ctz 32 (4294967295 - x) := by rw [ctr, if_neg hf]
      obtain ⟨c1, c2, c3⟩ := ctz_bits (4294967295 - x) (by omega) (by omega)
      rw [e]
      constructor
      · intro n hn
        rw [Nat.div_eq_of_lt (show n < 32 by omega), Nat.mod_eq_of_lt (show n < 32 by omega), List.getElem?_cons_zero, Option.getD_some, bit_compl x n hx (by omega), c1 n hn]
      · intro _
        rw [Nat.div_eq_of_lt c3, Nat.mod_eq_of_lt c3, List.getElem?_cons_zero, Option.getD_some, bit_compl x _ hx c3, c2]
end Otp
end Go.Proofs.YtpakdcgcgekcfaaDoor

/-
  What rises, in plain Lean: words whose bits are only set; the life, the counter, the marks of rows.
-/
set_option linter.unusedSimpArgs false
set_option linter.unusedVariables false
namespace Go.Proofs.YtpakdcgcgekcfaaDoor
open Go.RowKit

namespace Otp
open Fuse
/-- Every bit of x is one of y. -/
def Sub (x y : Nat) : Prop := x ||| y = y
theorem Sub.refl (x : Nat) : Sub x x := Nat.or_self x
theorem Sub.bit {x y : Nat} (h : Sub x y) (i : Nat) (hx : x.testBit i = true) : y.testBit i = true := by
  have := congrArg (fun z => z.testBit i) h
  simp only [Nat.testBit_or, hx, Bool.true_or] at this
  exact this.symm
theorem Sub.of_bits {x y : Nat} (h : ∀ i, x.testBit i = true → y.testBit i = true) : Sub x y := by
  apply Nat.eq_of_testBit_eq
  intro i
  rw [Nat.testBit_or]
  cases hx : x.testBit i with
  | false => simp
  | true => simp [h i hx]
theorem Sub.trans {x y z : Nat} (h : Sub x y) (k : Sub y z) : Sub x z := Sub.of_bits fun i hi => k.bit i (h.bit i hi)
theorem Sub.or (x y : Nat) : Sub x (x ||| y) := Sub.of_bits fun i hi => by rw [Nat.testBit_or, hi]; rfl
theorem Sub.field {x y : Nat} (h : Sub x y) (k : Nat) : Sub (x / 2 ^ k % 256) (y / 2 ^ k % 256) := Sub.of_bits fun i hi => by
  rw [show (256 : Nat) = 2 ^ 8 from rfl, Nat.testBit_mod_two_pow, Nat.testBit_div_two_pow] at hi ⊢
  simp only [Bool.and_eq_true, decide_eq_true_eq] at hi ⊢
  exact ⟨hi.1, h.bit _ hi.2⟩
theorem ones_mono0 : ∀ a b : Fin 256, a.val ||| b.val = b.val → Lib.onesCount a.val ≤ Lib.onesCount b.val := by decide +kernel
theorem onB_mono {x y : Nat} (h : Sub x y) (i : Nat) (hx : onB x i = true) : onB y i = true := by
  unfold onB at hx ⊢
  rw [decide_eq_true_eq] at hx ⊢
  have := ones_mono0 ⟨x / 2 ^ (8 * i) % 256, Nat.mod_lt _ (by decide)⟩ ⟨y / 2 ^ (8 * i) % 256, Nat.mod_lt _ (by decide)⟩ (h.field (8 * i))
  exact Nat.le_trans hx this
theorem lifeN_mono {x y : Nat} (h : Sub x y) : ∀ n, lifeN x n ≤ lifeN y n
  | 0 => Nat.le_refl _
  | i + 1 => by
    have ih := lifeN_mono h i
    have hle := lifeN_le x i
    simp only [lifeN]
    by_cases hx : onB x i = true
    · rw [if_pos hx, if_pos (onB_mono h i hx)]
      exact Nat.le_refl _
    · rw [if_neg hx]
      split
      · omega
      · exact ih
/-- The words have kept their bits. -/
def More (vs vs' : List Nat) : Prop := vs.length = vs'.length ∧ ∀ (i x y : Nat), vs[i]? = some x → vs'[i]? = some y → Sub x y
theorem More.refl (vs : List Nat) : More vs vs := ⟨rfl, fun i x y hx hy => by rw [hx] at hy; obtain rfl := Option.some.inj hy; exact Sub.refl x⟩
theorem More.trans {a b c : List Nat} (h : More a b) (k : More b c) : More a c := ⟨h.1.trans k.1, fun i x z hx hz => by
  have hi : i < b.length := by have := (List.getElem?_eq_some_iff.1 hx).1; have := h.1; omega
  exact (h.2 i x _ hx (List.getElem?_eq_getElem hi)).trans (k.2 i _ z (List.getElem?_eq_getElem hi) hz)⟩
theorem More.set {vs : List Nat} {i x y : Nat} (hx : vs[i]? = some x) (h : Sub x y) : More vs (vs.set i y) := ⟨by simp, fun j a b ha hb => by
  by_cases hji : j = i
  · subst hji
    rw [List.getElem?_set_self (List.getElem?_eq_some_iff.1 ha).1] at hb
    rw [hx] at ha
    obtain rfl := Option.some.inj ha
    obtain rfl := Option.some.inj hb
    exact h
  · rw [List.getElem?_set_ne (fun e => hji e.symm), ha] at hb
    obtain rfl := Option.some.inj hb
    exact Sub.refl a⟩
theorem life_mono {vs vs' : List Nat} (h : More vs vs') (h0 : 0 < vs.length) : life vs ≤ life vs' := by
  obtain ⟨x, hx⟩ : ∃ x, vs[0]? = some x := ⟨_, List.getElem?_eq_getElem h0⟩
  obtain ⟨y, hy⟩ : ∃ y, vs'[0]? = some y := ⟨_, List.getElem?_eq_getElem (by rw [← h.1]; exact h0)⟩
  unfold life
  rw [hx, hy]
  exact lifeN_mono (h.2 0 x y hx hy) 4
theorem counter_mono {vs vs' : List Nat} (h : More vs vs') (hl : vs.length = 64) (hw : ∀ x ∈ vs, x < 4294967296) (hw' : ∀ x ∈ vs', x < 4294967296) : counter vs ≤ counter vs' := by
  have hl' : vs'.length = 64 := by rw [← h.1]; exact hl
  obtain ⟨a1, _⟩ := ctr_bits (cwords vs) (fun x hx => hw x (List.mem_of_mem_drop (List.mem_of_mem_take hx)))
  obtain ⟨_, b2⟩ := ctr_bits (cwords vs') (fun x hx => hw' x (List.mem_of_mem_drop (List.mem_of_mem_take hx)))
  have c1 : (cwords vs).length = 8 := by simp [cwords, hl]
  have c2 : (cwords vs').length = 8 := by simp [cwords, hl']
  have hle := ctr_le (cwords vs)
  unfold counter
  rcases Nat.lt_or_ge (ctr (cwords vs')) (ctr (cwords vs)) with hlt | hge
  · exfalso
    have hn : ctr (cwords vs') < 32 * (cwords vs').length := by omega
    have e1 := a1 _ hlt
    have e2 := b2 hn
    generalize ctr (cwords vs') = n at *
    have hi : n / 32 < 8 := by omega
    obtain ⟨x, hx⟩ : ∃ x, (cwords vs)[n / 32]? = some x := ⟨_, List.getElem?_eq_getElem (by omega)⟩
    obtain ⟨y, hy⟩ : ∃ y, (cwords vs')[n / 32]? = some y := ⟨_, List.getElem?_eq_getElem (by omega)⟩
    rw [hx, Option.getD_some, bit_tb] at e1
    rw [hy, Option.getD_some, bit_tb] at e2
    have hx' : vs[1 + n / 32]? = some x := by rw [cwords, List.getElem?_take, if_pos hi, List.getElem?_drop] at hx; exact hx
    have hy' : vs'[1 + n / 32]? = some y := by rw [cwords, List.getElem?_take, if_pos hi, List.getElem?_drop] at hy; exact hy
    have hb : x.testBit (n % 32) = true := by cases hq : x.testBit (n % 32) <;> simp [hq] at e1 ⊢
    rw [(h.2 _ x y hx' hy').bit _ hb] at e2
    simp at e2
  · omega
/-- Writes that may be done, one behind the other. -/
def okL : List Nat → List (Nat × Nat) → Prop
  | _, [] => True
  | vs, p :: r => (∃ old, vs[p.1]? = some old ∧ Sub old p.2) ∧ p.2 < 4294967296 ∧ okL (vs.set p.1 p.2) r
def setAll : List Nat → List (Nat × Nat) → List Nat
  | vs, [] => vs
  | vs, p :: r => setAll (vs.set p.1 p.2) r
theorem sub_and {x v : Nat} (h : Sub x v) (hv : v < 4294967296) : x &&& (4294967295 - v) = 0 := by
  apply Nat.eq_of_testBit_eq
  intro i
  rw [Nat.testBit_and, bit_not' v i hv, Nat.zero_testBit]
  cases hx : x.testBit i with
  | false => rfl
  | true => simp [h.bit i hx]
theorem setAll_length : ∀ (l : List (Nat × Nat)) (vs : List Nat), (setAll vs l).length = vs.length
  | [], _ => rfl
  | p :: r, vs => by rw [setAll, setAll_length r, List.length_set]
theorem setAll_more : ∀ (l : List (Nat × Nat)) (vs : List Nat), okL vs l → More vs (setAll vs l)
  | [], vs, _ => More.refl vs
  | p :: r, vs, h => by
    obtain ⟨⟨old, ho, hs⟩, _, hr⟩ := h
    exact (More.set ho hs).trans (setAll_more r _ hr)
theorem okL_take : ∀ (l : List (Nat × Nat)) (vs : List Nat) (n : Nat), okL vs l → okL vs (l.take n)
  | [], _, n, h => by simpa using h
  | _ :: _, _, 0, _ => trivial
  | p :: r, vs, n + 1, h => ⟨h.1, h.2.1, okL_take r _ n h.2.2⟩
theorem okL_at : ∀ (l : List (Nat × Nat)) (vs : List Nat) (n : Nat) (p : Nat × Nat), okL vs l → l[n]? = some p → ∃ old, (setAll vs (l.take n))[p.1]? = some old ∧ Sub old p.2 ∧ p.2 < 4294967296
  | q :: r, vs, 0, p, h, hp => by
    simp only [List.getElem?_cons_zero, Option.some.injEq] at hp
    subst hp
    obtain ⟨⟨old, ho, hs⟩, hb, _⟩ := h
    exact ⟨old, ho, hs, hb⟩
  | q :: r, vs, n + 1, p, h, hp => okL_at r _ n p h.2.2 (by simpa using hp)
theorem setAll_far : ∀ (l : List (Nat × Nat)) (vs : List Nat) (i : Nat), (∀ p ∈ l, p.1 ≠ i) → (setAll vs l)[i]? = vs[i]?
  | [], _, _, _ => rfl
  | p :: r, vs, i, h => by
    rw [setAll, setAll_far r _ i (fun q hq => h q (by simp [hq])), List.getElem?_set_ne (h p (by simp))]
theorem okL_append : ∀ (l r : List (Nat × Nat)) (vs : List Nat), okL vs l → okL (setAll vs l) r → okL vs (l ++ r)
  | [], _, _, _, h => h
  | p :: l, r, vs, h, k => ⟨h.1, h.2.1, okL_append l r _ h.2.2 k⟩
theorem okL_plan : ∀ (l : List Nat) (vs : List Nat) (f : Nat), f + l.length ≤ vs.length → (∀ (i x : Nat), vs[i]? = some x → x < 4294967296) → (∀ x ∈ l, x < 4294967296) → okL vs (planOf vs f l)
  | [], _, _, _, _, _ => trivial
  | v :: r, vs, f, hf, hw, hl => by
    simp only [List.length_cons] at hf
    obtain ⟨old, ho⟩ : ∃ old, vs[f]? = some old := ⟨_, List.getElem?_eq_getElem (by omega)⟩
    rw [planOf, ho, Option.getD_some]
    by_cases hs : old ||| v = old
    · rw [if_pos hs, List.nil_append]
      exact okL_plan r vs (f + 1) (by omega) hw (fun x hx => hl x (by simp [hx]))
    · rw [if_neg hs]
      have hv : v < 4294967296 := hl v (by simp)
      have hy : old ||| v < 4294967296 := or_lt (hw f old ho) hv
      refine ⟨⟨old, ho, Sub.or old v⟩, hy, ?_⟩
      have e : planOf vs (f + 1) r = planOf (vs.set f (old ||| v)) (f + 1) r := planOf_congr r (f + 1) (fun j hj => by rw [List.getElem?_set_ne (by omega)])
      show okL (vs.set f (old ||| v)) (planOf vs (f + 1) r)
      rw [e]
      refine okL_plan r _ (f + 1) (by rw [List.length_set]; omega) (fun i x hx => ?_) (fun x hx => hl x (by simp [hx]))
      by_cases hif : f = i
      · subst hif
        rw [List.getElem?_set_self (by omega)] at hx
        obtain rfl := Option.some.inj hx
        exact hy
      · rw [List.getElem?_set_ne hif] at hx
        exact hw i x hx
theorem okL_numb : ∀ (ws vs : List Nat) (f : Nat), (∀ j, j < ws.length → vs[f + j]? = some 0) → (∀ x ∈ ws, x < 4294967296) → okL vs (numb f ws)
  | [], _, _, _, _ => trivial
  | x :: r, vs, f, h, hw => by
    refine ⟨⟨0, by simpa using h 0 (by simp), by simp [Sub]⟩, hw x (by simp), okL_numb r _ (f + 1) (fun j hj => ?_) (fun y hy => hw y (by simp [hy]))⟩
    rw [List.getElem?_set_ne (by omega)]
    have := h (j + 1) (by simp; omega)
    rw [← this]
    congr 1
    omega
theorem numb_mem : ∀ (ws : List Nat) (f : Nat) (p : Nat × Nat), p ∈ numb f ws → f ≤ p.1 ∧ p.1 < f + ws.length
  | x :: r, f, p, h => by
    simp only [numb, List.mem_cons] at h
    rcases h with rfl | h
    · simp
    · have := numb_mem r (f + 1) p h
      simp only [List.length_cons]
      omega
theorem okL_row (vs : List Nat) (k : Nat) (ws : List Nat) (hl : vs.length = 64) (hk : k < 4) (hz : rowZ vs k = true) (hw : ws.length = 8) (hb : ∀ x ∈ ws, x < 4294967296) : okL vs (rowL k ws) := by
  have hz' : ∀ j, j < 9 → vs[27 + 9 * k + j]? = some 0 := fun j hj => by
    unfold rowZ at hz
    rw [List.all_eq_true] at hz
    have hr : (rowW vs k)[j]? = vs[27 + 9 * k + j]? := by unfold rowW; rw [List.getElem?_take, if_pos hj, List.getElem?_drop]
    obtain ⟨x, hx⟩ : ∃ x, vs[27 + 9 * k + j]? = some x := ⟨_, List.getElem?_eq_getElem (by omega)⟩
    rw [← hr] at hx
    have := hz x (List.mem_of_getElem? hx)
    rw [hr] at hx
    rw [hx]
    simpa using this
  unfold rowL
  refine okL_append _ _ _ ?_ ?_
  · refine ⟨⟨0, ?_, by simp [Sub]⟩, show (16711680 : Nat) < 4294967296 by decide, okL_numb ws _ _ (fun j hj => ?_) hb⟩
    · have := hz' 8 (by omega)
      rw [show 35 + 9 * k = 27 + 9 * k + 8 by omega]
      exact this
    · rw [List.getElem?_set_ne (by omega)]
      exact hz' j (by omega)
  · refine ⟨⟨16711680, ?_, ?_⟩, show (16711935 : Nat) < 4294967296 by decide, trivial⟩
    · show (setAll (vs.set (35 + 9 * k) 16711680) (numb (27 + 9 * k) ws))[35 + 9 * k]? = some 16711680
      rw [setAll_far _ _ _ (fun p hp => by have := numb_mem _ _ p hp; omega), List.getElem?_set_self (by omega)]
    · show (16711680 : Nat) ||| 16711935 = 16711935
      decide
/-- What Do answers of such writes. -/
theorem doL_ok : ∀ (l : List (Nat × Nat)) (vs : List Nat), okL vs l → (∀ p ∈ l, p.1 < vs.length) → doL vs l = (0, setAll vs l)
  | [], _, _, _ => rfl
  | p :: r, vs, h, hi => by
    obtain ⟨⟨old, ho, hs⟩, hb, hr⟩ := h
    have hlt : p.1 < vs.length := hi p (by simp)
    have hin : inR vs (p.1 : Int) = true := by simp [inR]; omega
    have hc : cutE vs (p.1 : Int) p.2 = 0 := by
      unfold cutE
      rw [if_pos hin]
      simp [ho, sub_and hs hb]
    have hv : cutV vs (p.1 : Int) p.2 4294967295 = vs.set p.1 p.2 := by
      unfold cutV
      rw [if_pos hc]
      simp only [Int.toNat_natCast, ho, Option.getD_some]
      have hfull : p.2 &&& 4294967295 = p.2 := by
        have := Nat.and_two_pow_sub_one_eq_mod p.2 32
        rw [show (4294967295 : Nat) = 2 ^ 32 - 1 by decide, this]
        exact Nat.mod_eq_of_lt hb
      rw [hfull, show old ||| p.2 = p.2 from hs]
    rw [doL, if_pos hc, hv, setAll]
    exact doL_ok r _ hr (fun q hq => by rw [List.length_set]; exact hi q (by simp [hq]))
/-- A row's key, where there is one. -/
def rowKey (vs : List Nat) (r : Nat) : List Nat := (vs.drop (27 + 9 * r)).take 8
def rowE (vs : List Nat) (r : Nat) : Int := if onB (vs[35 + 9 * r]?.getD 0) 1 = true then 17 else if onB (vs[35 + 9 * r]?.getD 0) 0 = true then 0 else 3
theorem onB_zero (i : Nat) : onB 0 i = false := by
  unfold onB
  rw [Nat.zero_div]
  rfl
/-- A row that has a key isn't empty. -/
theorem rowE_full {vs : List Nat} {r : Nat} (hl : vs.length = 64) (hr : r < 4) (h : rowE vs r = 0) : rowZ vs r = false := by
  cases hz : rowZ vs r with
  | false => rfl
  | true =>
    exfalso
    unfold rowZ at hz
    rw [List.all_eq_true] at hz
    obtain ⟨x, hx⟩ : ∃ x, vs[35 + 9 * r]? = some x := ⟨_, List.getElem?_eq_getElem (by omega)⟩
    have hr8 : (rowW vs r)[8]? = some x := by
      unfold rowW
      rw [List.getElem?_take, if_pos (by omega), List.getElem?_drop, show 27 + 9 * r + 8 = 35 + 9 * r by omega]
      exact hx
    have := hz x (List.mem_of_getElem? hr8)
    have hx0 : x = 0 := by simpa using this
    unfold rowE at h
    rw [hx, hx0, Option.getD_some, onB_zero, onB_zero] at h
    simp at h
/-- Behind writes that keep its words a key is the same, or dead; and dead stays dead. -/
theorem row_mono {vs vs' : List Nat} {r : Nat} (hm : More vs vs') (hl : vs.length = 64) (hr : r < 4) (hk : rowE vs r = 0 → rowKey vs' r = rowKey vs r) :
    (rowE vs r = 0 → rowE vs' r = 17 ∨ (rowE vs' r = 0 ∧ rowKey vs' r = rowKey vs r)) ∧ (rowE vs r = 17 → rowE vs' r = 17) := by
  obtain ⟨x, hx⟩ : ∃ x, vs[35 + 9 * r]? = some x := ⟨_, List.getElem?_eq_getElem (by omega)⟩
  obtain ⟨y, hy⟩ : ∃ y, vs'[35 + 9 * r]? = some y := ⟨_, List.getElem?_eq_getElem (by have := hm.1; omega)⟩
  have hs := hm.2 _ x y hx hy
  constructor
  · intro h
    have hk' := hk h
    unfold rowE at h ⊢
    rw [hx, Option.getD_some] at h
    rw [hy, Option.getD_some]
    by_cases h1 : onB y 1 = true
    · left; rw [if_pos h1]
    · right
      have h0 : onB x 0 = true := by
        by_cases hq : onB x 0 = true
        · exact hq
        · exfalso
          rw [if_neg hq] at h
          split at h <;> simp at h
      rw [if_neg h1, if_pos (onB_mono hs 0 h0)]
      exact ⟨rfl, hk'⟩
  · intro h
    unfold rowE at h ⊢
    rw [hx, Option.getD_some] at h
    rw [hy, Option.getD_some]
    have h1 : onB x 1 = true := by
      by_cases hq : onB x 1 = true
      · exact hq
      · exfalso
        rw [if_neg hq] at h
        split at h <;> simp at h
    rw [if_pos (onB_mono hs 1 h1)]
end Otp
end Go.Proofs.YtpakdcgcgekcfaaDoor

/-
  What a row answers.
-/
set_option linter.unusedSimpArgs false
set_option linter.unusedVariables false
namespace Go.Proofs.YtpakdcgcgekcfaaDoor
open Go.RowKit

namespace Otp
open R1
/-- What Row answers: a row's key. -/
def rowD (vs : List Nat) (k : Nat) : List Nat := if rowE vs k = 0 then wordsB (rowKey vs k) else List.replicate 32 0
def RowOut (w : World) (D : List Nat) (E : Int) (e : Ending) (w' : World) : Prop := e = .returned (.tuple #[.agg (b8 D), .int .i64 E]) ∧ Below w.heap.size w w'
theorem b8_one (l : List Nat) : (b8 l).all (·.oneCell') = true := all_oneCell_toArray (fun v hv => by
  obtain ⟨a, _, rfl⟩ := List.mem_map.1 hv
  rfl)
theorem b8_size (l : List Nat) : (b8 l).size = l.length := by simp [b8]
theorem dig_info : (Tryd.prog.info? 23).map (·.size) = some 32 := by kernel_rfl
end Otp
end Go.Proofs.YtpakdcgcgekcfaaDoor

/-
  copy onto bytes that lie in a block; an array's end as a slice; four bytes of a word.
-/
set_option linter.unusedSimpArgs false
set_option linter.unusedVariables false
namespace Go.Proofs.YtpakdcgcgekcfaaDoor
open Go.RowKit

namespace Otp
open Fuse R1
/-- An array's end, as a slice. -/
theorem run_slice_arr_l {P : Program} (t e : TypeId) (N : Nat) (ht : P.underlying t = some (.array N e)) (hs : ∀ w, (sizeOf e).run P w = .ok 1 w) (b lo : Nat) (kl : IntKind) (l : Int) (hl : l = lo) (h3 : lo < N) (w : World) :
    (Instr.sliceAt t (.pointer (some ⟨b, 0, none⟩)) (some (.int kl l)) none none).run P w = .ok (.slice (some ⟨b, lo, none⟩) (N - lo) (N - lo)) w := by
  have hn : P.arrayLen t = N := by simp [Program.arrayLen, ht]
  have he : P.elem t = e := by simp [Program.elem, ht]
  have ht' : P.underlying t = some (.array (P.arrayLen t) (P.elem t)) := by rw [hn, he]; exact ht
  rw [run_sliceAt_array_l w t ⟨b, 0, none⟩ ht' kl l (by omega) (by rw [hn]; omega), he, hs, hn]
  subst hl
  have hne : ¬ N = lo := by omega
  simp [Result.andThen, slicedAt, hne, Go.WideShapes.add_plain]
theorem numB_four (x : Nat) (hm : x < 4294967296) : ((numB x 4).map fun y => Value.int .u8 ((y : Nat) : Int)) = [Value.int .u8 ((x : Int) / 16777216), Value.int .u8 ((x : Int) / 65536 % 256), Value.int .u8 ((x : Int) / 256 % 256), Value.int .u8 ((x : Int) % 256)] := by
  have e : x / 16777216 % 256 = x / 16777216 := Nat.mod_eq_of_lt (by omega)
  simp [numB, e]
theorem b8_list (l : List Nat) : (l.map fun y => Value.int .u8 ((y : Nat) : Int)).toArray = b8 l := rfl
theorem map_splice {α β : Type} (f : α → β) (L : List α) (o : Nat) (cs : List α) : (splice L o cs).map f = splice (L.map f) o (cs.map f) := by
  simp [splice, List.map_take, List.map_drop]
theorem wpList_copy_b8 {P : Program} {w : World} {ops : Array Oper} {rest : List Oper} {o : Oper} {a : Act} {Q : Exit → Act → World → Prop} (hgd : o.guard = none) (d s : Operand) (dT sT : TypeId)
    (ho : o.op = .call { callee := .builtin .copy, args := #[d, s], argTypes := #[dT, sT] }) (elem : TypeId) (hu : P.underlying dT = some (.slice elem)) (hsz : (P.info? elem).map (·.size) = some 1)
    (dp sp : Option Addr) (dLen dCap sLen sCap : Nat) (hd : a.eval d = .slice dp dLen dCap) (hs : a.eval s = .slice sp sLen sCap)
    (g off : Nat) (t : TypeId) (cur : List Nat) (hg : Blk w g t (b8 cur)) (cs : List Nat) (hn : cs.length = Nat.min sLen dLen)
    (hpos : 0 < cs.length → dp = some ⟨g, off, none⟩ ∧ ∃ ad, sp = some ad ∧ ∀ j (v : Value), (cs.map fun y => Value.int .u8 ((y : Nat) : Int))[j]? = some v → w.cell? (ad.add j) = some v)
    (hfit : off + cs.length ≤ cur.length) (B : Nat) (w0 : World) (hb : Below B w0 w) (hBg : B ≤ g)
    (h : ∀ w', Hid (Blk w' g t (b8 (splice cur off cs))) → Hid (Below B w0 w') → wpList P ops Q rest (a.put o.dst (goInt cs.length)) w') :
    wpList P ops Q (o :: rest) a w := by
  have hl : (cs.map fun y => Value.int .u8 ((y : Nat) : Int)).length = cs.length := by simp
  refine wpList_copy_splice hgd d s dT sT ho elem hu hsz dp sp dLen dCap sLen sCap hd hs g off (cur.map fun y => Value.int .u8 ((y : Nat) : Int)) t hg (cs.map fun y => Value.int .u8 ((y : Nat) : Int)) (by rw [hl]; exact hn) (by rw [hl]; exact hpos) (by rw [hl]; simpa using hfit) (fun v hv => ?_) B w0 hb hBg (fun w' h1 h2 => ?_)
  · obtain ⟨x, _, rfl⟩ := List.mem_map.1 hv
    rfl
  · have := h w' (Lib.hid (by unfold b8; rw [map_splice]; exact h1.out)) (Lib.hid h2)
    rw [hl]
    exact this
theorem splice_length {L : List Nat} {o : Nat} {cs : List Nat} (h : o + cs.length ≤ L.length) : (splice L o cs).length = L.length := length_splice L o cs h
/-- The next part, behind those that are there already. -/
theorem splice_next (a cs : List Nat) (n : Nat) (h : cs.length ≤ n) : splice (a ++ List.replicate n 0) a.length cs = (a ++ cs) ++ List.replicate (n - cs.length) 0 := by
  unfold splice
  rw [List.take_append_of_le_length (Nat.le_refl _), List.take_of_length_le (Nat.le_refl _), List.drop_append, List.drop_of_length_le (by omega), List.nil_append, List.drop_replicate, List.append_assoc]
  congr 3
  omega
/-- A whole array out of a block, in a place that is guarded. -/
theorem load_mid_g {P : Program} {ops : Array Oper} {rest : List Oper} {op : Oper} {a : Act} {w : World} {Q : Exit → Act → World → Prop} (hw : Region.wanted op (yielded ops a.tmps) = true) (ty : TypeId) (x : Operand) (ho : op.op = .load ty x)
    (b o : Nat) (hx : a.eval x = .pointer (some ⟨b, o, none⟩)) (cs : List Value) (d : TypeDesc) (hc : w.rangeAt b o cs) (hu : P.underlying ty = some d) (hd : d.isRow = true) (hi : (P.info? ty).map (·.size) = some cs.length)
    (h : wpList P ops Q rest (a.put op.dst (.agg cs.toArray)) w) : wpList P ops Q (op :: rest) a w :=
  wpList_step fun K hK => by
    rw [if_pos hw]
    exact wp_load_mid ty x ho b o hx cs d hc hu hd hi (hK _ _ h)
theorem Blk.range {w : World} {g : Nat} {t : TypeId} {cs : Array Value} (h : Blk w g t cs) : w.rangeAt g 0 cs.toList := fun j v hv => by
  rw [Nat.zero_add, h.cell]
  simpa using hv
/-- A whole array out of a block, its cells as a list. -/
theorem load_row_g {P : Program} {ops : Array Oper} {rest : List Oper} {op : Oper} {a : Act} {w : World} {Q : Exit → Act → World → Prop} (hw : Region.wanted op (yielded ops a.tmps) = true) (ty : TypeId) (x : Operand) (ho : op.op = .load ty x)
    (b : Nat) (hx : a.eval x = .pointer (some ⟨b, 0, none⟩)) (t : TypeId) (cs : Array Value) (d : TypeDesc) (hc : Blk w b t cs) (hu : P.underlying ty = some d) (hd : d.isRow = true) (hi : (P.info? ty).map (·.size) = some cs.size)
    (h : wpList P ops Q rest (a.put op.dst (.agg cs)) w) : wpList P ops Q (op :: rest) a w :=
  load_mid_g hw ty x ho b 0 hx cs.toList d (Blk.range hc) hu hd (by simpa using hi) (by simpa using h)
end Otp
end Go.Proofs.YtpakdcgcgekcfaaDoor

/-
  Turning a word: math/bits.RotateLeft32, and the reference's turn.
-/
set_option linter.unusedSimpArgs false
set_option linter.unusedVariables false
namespace Go.Proofs.YtpakdcgcgekcfaaDoor
open Go.RowKit

namespace Sha
open Otp
/-- To the right, round. -/
def rotr (x n : Nat) : Nat := x / 2 ^ n + (x % 2 ^ n) * 2 ^ (32 - n)
theorem rotr_lt {x n : Nat} (hx : x < 4294967296) (hn : n ≤ 32) : rotr x n < 4294967296 := by
  unfold rotr
  have h1 : x / 2 ^ n < 2 ^ (32 - n) := by
    rw [Nat.div_lt_iff_lt_mul (Nat.two_pow_pos n), ← Nat.pow_add, show 32 - n + n = 32 by omega]
    exact hx
  have h2 : x % 2 ^ n < 2 ^ n := Nat.mod_lt _ (Nat.two_pow_pos n)
  have h3 : (x % 2 ^ n + 1) * 2 ^ (32 - n) ≤ 2 ^ n * 2 ^ (32 - n) := Nat.mul_le_mul_right _ h2
  rw [← Nat.pow_add, show n + (32 - n) = 32 by omega, Nat.add_mul] at h3
  omega
theorem shl_mod {x n : Nat} (hn : n ≤ 32) : x * 2 ^ (32 - n) % 4294967296 = (x % 2 ^ n) * 2 ^ (32 - n) := by
  have e : 4294967296 = 2 ^ n * 2 ^ (32 - n) := by rw [← Nat.pow_add, show n + (32 - n) = 32 by omega]
  rw [e, Nat.mul_mod_mul_right]
theorem rot_or {x n : Nat} (hx : x < 4294967296) (hn : n ≤ 32) : (x * 2 ^ (32 - n) % 4294967296) ||| (x / 2 ^ n) = rotr x n := by
  have h1 : x / 2 ^ n < 2 ^ (32 - n) := by
    rw [Nat.div_lt_iff_lt_mul (Nat.two_pow_pos n), ← Nat.pow_add, show 32 - n + n = 32 by omega]
    exact hx
  rw [shl_mod hn, Nat.mul_comm, or_add h1, rotr, Nat.mul_comm]
  omega
theorem rot_add {x n : Nat} (hx : x < 4294967296) (hn : n ≤ 32) : (x / 2 ^ n + x * 2 ^ (32 - n) % 4294967296) % 4294967296 = rotr x n := by
  rw [shl_mod hn]
  exact Nat.mod_eq_of_lt (rotr_lt hx hn)
theorem rot_amount : ∀ n : Fin 32, 0 < n.val → bits .and .u64 (IntKind.u64.wrap (-((n.val : Nat) : Int))) 31 = ((32 - n.val : Nat) : Int) := by decide +kernel
set_option maxHeartbeats 1000000 in
theorem rot_any (k x : Int) (n y : Nat) (w : World) (hk : k = -(n : Int)) (hx : x = y) (hy : y < 4294967296) (h0 : 0 < n) (h1 : n < 32) :
    Calls Tryd.prog 111 #[.int .u32 x, .int .i64 k] w fun e w' => e = .returned (.int .u32 ((rotr y n : Nat) : Int)) ∧ w = w' := by
  have hb := rot_amount ⟨n, h1⟩ h0
  simp only at hb
  have HR := Lib.hid (rot_or (x := y) (n := n) hy (by omega))
  obtain ⟨m, hm⟩ : ∃ m, 32 - n = m := ⟨_, rfl⟩
  rw [hm] at hb HR
  subst hk hx
  have hmn : m + n = 32 := by omega
  clear hm
  go_enter Tryd.func111, Tryd.ntmps111
  go_wp2_with fail
  go_light
  go_ret
  refine ⟨ret1i ?_, rfl⟩
  have e1 : ((y : Int) * 2 ^ m % 4294967296) = ((y * 2 ^ m % 4294967296 : Nat) : Int) := by simp
  have e2 : ((y : Int) / 2 ^ (32 - m)) = ((y / 2 ^ n : Nat) : Int) := by rw [show 32 - m = n by omega]; simp
  rw [e1, e2, u32_or_nat _ _ (Nat.mod_lt _ (by decide)) (Nat.lt_of_le_of_lt (Nat.div_le_self _ _) hy), HR.out]
set_option maxHeartbeats 1000000 in
theorem turn_any (k x : Int) (n y : Nat) (w : World) (hk : k = (n : Int)) (hx : x = y) (hy : y < 4294967296) (h0 : 0 < n) (h1 : n < 32) :
    Calls Tryd.prog 126 #[.int .u32 x, .int .i64 k] w fun e w' => e = .returned (.int .u32 ((rotr y n : Nat) : Int)) ∧ ∃ d, w' = w.drewN d := by
  have HR := Lib.hid (rot_add (x := y) (n := n) hy (by omega))
  obtain ⟨m, hm⟩ : ∃ m, 32 - n = m := ⟨_, rfl⟩
  rw [hm] at HR
  subst hk hx
  have hmn : m + n = 32 := by omega
  have hs : IntKind.i64.wrap (32 - (n : Int)) = (m : Int) := by rw [IntWalk.i64_in _ (by omega)]; omega
  clear hm
  go_enter Tryd.func126, Tryd.ntmps126
  go_wp2_with fail
  go_quiet (fail)
  go_wp2_with fail
  go_light
  go_ret
  refine ⟨ret1i ?_, nq, rfl⟩
  rw [← HR.out]
  simp
end Sha
end Go.Proofs.YtpakdcgcgekcfaaDoor

/-
  SHA-256, in plain Lean: words of a block, a block's rounds.
-/
set_option linter.unusedSimpArgs false
set_option linter.unusedVariables false
namespace Go.Proofs.YtpakdcgcgekcfaaDoor
open Go.RowKit

namespace Sha
open Otp
def s0 (x : Nat) : Nat := rotr x 7 ^^^ rotr x 18 ^^^ (x / 2 ^ 3)
def s1 (x : Nat) : Nat := rotr x 17 ^^^ rotr x 19 ^^^ (x / 2 ^ 10)
def S0 (x : Nat) : Nat := rotr x 2 ^^^ rotr x 13 ^^^ rotr x 22
def S1 (x : Nat) : Nat := rotr x 6 ^^^ rotr x 11 ^^^ rotr x 25
def ch (e f g : Nat) : Nat := (e &&& f) ^^^ ((4294967295 - e) &&& g)
def maj (a b c : Nat) : Nat := (a &&& b) ^^^ (a &&& c) ^^^ (b &&& c)
/-- The next word. -/
def nxt (a b c d : Nat) : Nat := (a + s0 b + c + s1 d) % 4294967296
/-- So many words more. -/
def sc (ws : List Nat) : Nat → List Nat
  | 0 => ws
  | k + 1 => sc ws k ++ [nxt ((sc ws k)[k]?.getD 0) ((sc ws k)[k + 1]?.getD 0) ((sc ws k)[k + 9]?.getD 0) ((sc ws k)[k + 14]?.getD 0)]
def sched (b : List Nat) : List Nat := sc (words4 b) 48
theorem sched_eq (b : List Nat) : sched b = sc (words4 b) 48 := rfl
/-- A fact behind a wall (a structure: it cannot be unfolded). -/
structure Wall (p : Prop) : Prop where
  out : p
theorem wall {p : Prop} (h : p) : Wall p := ⟨h⟩
theorem sc_length (ws : List Nat) : ∀ k, (sc ws k).length = ws.length + k
  | 0 => rfl
  | k + 1 => by rw [sc, List.length_append, sc_length ws k]; rfl
theorem xor_lt {x y : Nat} (hx : x < 4294967296) (hy : y < 4294967296) : x ^^^ y < 4294967296 := Nat.xor_lt_two_pow (n := 32) hx hy
theorem nxt_lt (a b c d : Nat) : nxt a b c d < 4294967296 := Nat.mod_lt _ (by decide)
theorem sc_word (ws : List Nat) (hw : ∀ x ∈ ws, x < 4294967296) : ∀ k, ∀ x ∈ sc ws k, x < 4294967296
  | 0 => hw
  | k + 1 => fun x hx => by
    rw [sc] at hx
    rcases List.mem_append.1 hx with h | h
    · exact sc_word ws hw k x h
    · simp only [List.mem_cons, List.not_mem_nil, or_false] at h
      rw [h]
      exact nxt_lt _ _ _ _
theorem sc_next {ws : List Nat} {k a b c d : Nat} (ha : (sc ws k)[k]? = some a) (hb : (sc ws k)[k + 1]? = some b) (hc : (sc ws k)[k + 9]? = some c) (hd : (sc ws k)[k + 14]? = some d) : sc ws (k + 1) = sc ws k ++ [nxt a b c d] := by
  rw [sc, ha, hb, hc, hd]
  rfl
theorem sched_length {b : List Nat} (h : b.length = 64) : (sched b).length = 64 := by
  unfold sched
  rw [sc_length, words4_length, h]
theorem sched_word {b : List Nat} (h : ∀ x ∈ b, x < 256) : ∀ x ∈ sched b, x < 4294967296 := sc_word _ (words4_lt b h) 48
def rK : List Nat := [1116352408, 1899447441, 3049323471, 3921009573, 961987163, 1508970993, 2453635748, 2870763221, 3624381080, 310598401, 607225278, 1426881987, 1925078388, 2162078206, 2614888103, 3248222580, 3835390401, 4022224774, 264347078, 604807628, 770255983, 1249150122, 1555081692, 1996064986, 2554220882, 2821834349, 2952996808, 3210313671, 3336571891, 3584528711, 113926993, 338241895, 666307205, 773529912, 1294757372, 1396182291, 1695183700, 1986661051, 2177026350, 2456956037, 2730485921, 2820302411, 3259730800, 3345764771, 3516065817, 3600352804, 4094571909, 275423344, 430227734, 506948616, 659060556, 883997877, 958139571, 1322822218, 1537002063, 1747873779, 1955562222, 2024104815, 2227730452, 2361852424, 2428436474, 2756734187, 3204031479, 3329325298]
def rH : List Nat := [1779033703, 3144134277, 1013904242, 2773480762, 1359893119, 2600822924, 528734635, 1541459225]
/-- The eight words of a round. -/
structure St where
  a : Nat
  b : Nat
  c : Nat
  d : Nat
  e : Nat
  f : Nat
  g : Nat
  h : Nat
def St.list (s : St) : List Nat := [s.a, s.b, s.c, s.d, s.e, s.f, s.g, s.h]
def t1 (s : St) (k w : Nat) : Nat := (s.h + S1 s.e + ch s.e s.f s.g + k + w) % 4294967296
def St.round (s : St) (k w : Nat) : St := ⟨(t1 s k w + S0 s.a + maj s.a s.b s.c) % 4294967296, s.a, s.b, s.c, (s.d + t1 s k w) % 4294967296, s.e, s.f, s.g⟩
def St.ok (s : St) : Prop := s.a < 4294967296 ∧ s.b < 4294967296 ∧ s.c < 4294967296 ∧ s.d < 4294967296 ∧ s.e < 4294967296 ∧ s.f < 4294967296 ∧ s.g < 4294967296 ∧ s.h < 4294967296
theorem St.ok_round {s : St} (h : s.ok) (k w : Nat) : (s.round k w).ok := by
  obtain ⟨h1, h2, h3, h4, h5, h6, h7, h8⟩ := h
  exact ⟨Nat.mod_lt _ (by decide), h1, h2, h3, Nat.mod_lt _ (by decide), h5, h6, h7⟩
/-- So many rounds. -/
def St.run (s : St) (ws : List Nat) : Nat → St
  | 0 => s
  | i + 1 => (s.run ws i).round (rK[i]?.getD 0) (ws[i]?.getD 0)
theorem St.ok_run {s : St} (h : s.ok) (ws : List Nat) : ∀ i, (s.run ws i).ok
  | 0 => h
  | i + 1 => St.ok_round (St.ok_run h ws i) _ _
def add8 (h v : List Nat) : List Nat := List.zipWith (fun x y => (x + y) % 4294967296) h v
def St.of (h : List Nat) : St := ⟨h[0]?.getD 0, h[1]?.getD 0, h[2]?.getD 0, h[3]?.getD 0, h[4]?.getD 0, h[5]?.getD 0, h[6]?.getD 0, h[7]?.getD 0⟩
/-- The words behind a block. -/
def press (h b : List Nat) : List Nat := add8 h ((St.of h).run (sched b) 64).list
theorem press_eq (h b : List Nat) : press h b = add8 h ((St.of h).run (sched b) 64).list := rfl
theorem st_of {h : List Nat} (hl : h.length = 8) : (St.of h).list = h := by
  obtain ⟨a, b, c, d, e, f, g, k, rfl⟩ := eight hl
  rfl
theorem st_ok {h : List Nat} (hl : h.length = 8) (hw : ∀ x ∈ h, x < 4294967296) : (St.of h).ok := by
  obtain ⟨a, b, c, d, e, f, g, k, rfl⟩ := eight hl
  exact ⟨hw a (by simp), hw b (by simp), hw c (by simp), hw d (by simp), hw e (by simp), hw f (by simp), hw g (by simp), hw k (by simp)⟩
theorem press_length {h : List Nat} (b : List Nat) (hl : h.length = 8) : (press h b).length = 8 := by
  unfold press add8
  rw [List.length_zipWith, hl]
  rfl
theorem press_word (h b : List Nat) : ∀ x ∈ press h b, x < 4294967296 := fun x hx => by
  unfold press add8 at hx
  obtain ⟨i, hi⟩ := List.mem_iff_getElem?.1 hx
  rw [List.getElem?_zipWith] at hi
  split at hi
  · cases hi
    exact Nat.mod_lt _ (by decide)
  · cases hi
end Sha
end Go.Proofs.YtpakdcgcgekcfaaDoor

/-
  SHA-256 of a text, in plain Lean: the words behind its blocks, what is left, what is laid behind it.
-/
set_option linter.unusedSimpArgs false
set_option linter.unusedVariables false
namespace Go.Proofs.YtpakdcgcgekcfaaDoor
open Go.RowKit

namespace Sha
open Otp R1
/-- The words behind so many blocks. -/
def hb (t : List Nat) : Nat → List Nat
  | 0 => rH
  | k + 1 => press (hb t k) ((t.drop (64 * k)).take 64)
def stH (t : List Nat) : List Nat := hb t (t.length / 64)
def stR (t : List Nat) : List Nat := t.drop (64 * (t.length / 64))
def padB (n : Nat) : List Nat := 128 :: (List.replicate ((119 - n % 64) % 64) 0 ++ numB (8 * n) 8)
def sumB (t : List Nat) : List Nat := wordsB (stH (t ++ padB t.length))
theorem hb_append (t x : List Nat) : ∀ k, 64 * k ≤ t.length → hb (t ++ x) k = hb t k
  | 0, _ => rfl
  | k + 1, h => by
    rw [hb, hb, hb_append t x k (by omega), List.drop_append_of_le_length (by omega), List.take_append_of_le_length (by rw [List.length_drop]; omega)]
theorem stH_same {t x : List Nat} (h : t.length % 64 + x.length < 64) : stH (t ++ x) = stH t := by
  unfold stH
  rw [List.length_append, show (t.length + x.length) / 64 = t.length / 64 by omega, hb_append _ _ _ (by omega)]
theorem stR_length (t : List Nat) : (stR t).length = t.length % 64 := by unfold stR; rw [List.length_drop]; omega
theorem stR_same {t x : List Nat} (h : t.length % 64 + x.length < 64) : stR (t ++ x) = stR t ++ x := by
  unfold stR
  rw [List.length_append, show (t.length + x.length) / 64 = t.length / 64 by omega, List.drop_append_of_le_length (by omega)]
theorem stH_full {t x : List Nat} (h : t.length % 64 + x.length = 64) : stH (t ++ x) = press (stH t) (stR t ++ x) := by
  unfold stH stR
  rw [List.length_append, show (t.length + x.length) / 64 = t.length / 64 + 1 by omega, hb, hb_append _ _ _ (by omega), List.drop_append_of_le_length (by omega), List.take_of_length_le (by rw [List.length_append, List.length_drop]; omega)]
theorem stR_full {t x : List Nat} (h : t.length % 64 + x.length = 64) : stR (t ++ x) = [] := by
  unfold stR
  rw [List.length_append, show (t.length + x.length) / 64 = t.length / 64 + 1 by omega]
  exact List.drop_of_length_le (by rw [List.length_append]; omega)
theorem padB_length (n : Nat) : (n + (padB n).length) % 64 = 0 := by
  unfold padB
  rw [List.length_cons, List.length_append, List.length_replicate, numB_length]
  omega
theorem padB_le (n : Nat) : (padB n).length ≤ 72 := by
  unfold padB
  rw [List.length_cons, List.length_append, List.length_replicate, numB_length]
  omega
theorem rH_length : rH.length = 8 := rfl
theorem rH_word : ∀ x ∈ rH, x < 4294967296 := by decide
theorem hb_length (t : List Nat) : ∀ k, (hb t k).length = 8
  | 0 => rfl
  | k + 1 => press_length _ (hb_length t k)
theorem hb_word (t : List Nat) : ∀ k, ∀ x ∈ hb t k, x < 4294967296
  | 0 => rH_word
  | k + 1 => press_word _ _
theorem stH_length (t : List Nat) : (stH t).length = 8 := hb_length _ _
theorem stH_word (t : List Nat) : ∀ x ∈ stH t, x < 4294967296 := hb_word _ _
theorem numB_byte (n : Nat) : ∀ k, ∀ x ∈ numB n k, x < 256
  | 0, _, h => by cases h
  | k + 1, x, h => by
    rw [numB] at h
    rcases List.mem_cons.1 h with rfl | h
    · exact Nat.mod_lt _ (by decide)
    · exact numB_byte n k x h
theorem wordsB_byte (l : List Nat) : ∀ x ∈ wordsB l, x < 256 := fun x h => by
  unfold wordsB at h
  obtain ⟨y, _, h⟩ := List.mem_flatMap.1 h
  exact numB_byte y 4 x h
theorem padB_byte (n : Nat) : ∀ x ∈ padB n, x < 256 := fun x h => by
  unfold padB at h
  rcases List.mem_cons.1 h with rfl | h
  · decide
  · rcases List.mem_append.1 h with h | h
    · obtain ⟨_, rfl⟩ := List.mem_replicate.1 h
      decide
    · exact numB_byte _ _ x h
theorem sumB_length (t : List Nat) : (sumB t).length = 32 := by unfold sumB; rw [wordsB_length, stH_length]
theorem sumB_byte (t : List Nat) : ∀ x ∈ sumB t, x < 256 := wordsB_byte _
/-- A state's rest: what is left, noughts behind it. -/
def stZ (t : List Nat) : List Nat := stR t ++ List.replicate (64 - t.length % 64) 0
theorem stZ_length (t : List Nat) : (stZ t).length = 64 := by unfold stZ; rw [List.length_append, stR_length, List.length_replicate]; omega
theorem stR_byte {t : List Nat} (h : ∀ x ∈ t, x < 256) : ∀ x ∈ stR t, x < 256 := fun x hx => h x (List.mem_of_mem_drop hx)
theorem stZ_byte {t : List Nat} (h : ∀ x ∈ t, x < 256) : ∀ x ∈ stZ t, x < 256 := fun x hx => by
  unfold stZ at hx
  rcases List.mem_append.1 hx with hx | hx
  · exact stR_byte h x hx
  · obtain ⟨_, rfl⟩ := List.mem_replicate.1 hx
    decide
theorem stZ_same {t x : List Nat} (h : t.length % 64 + x.length < 64) : stZ (t ++ x) = (stR t ++ x) ++ List.replicate (64 - t.length % 64 - x.length) 0 := by
  unfold stZ
  rw [stR_same h, List.length_append]
  congr 2
  omega
theorem stZ_full {t x : List Nat} (h : t.length % 64 + x.length = 64) : stZ (t ++ x) = List.replicate 64 0 := by
  unfold stZ
  rw [stR_full h, List.length_append, show (t.length + x.length) % 64 = 0 by omega]
  rfl
/-- The cells of a state: words, rest, number. -/
def cS (t : List Nat) : List Value := (stH t).map (fun x => Value.int .u32 ((x : Nat) : Int)) ++ ((stZ t).map (fun x => Value.int .u8 ((x : Nat) : Int)) ++ [Value.int .u64 (t.length : Int)])
theorem cS_length (t : List Nat) : (cS t).length = 73 := by
  unfold cS
  rw [List.length_append, List.length_append, List.length_map, List.length_map, stH_length, stZ_length]
  rfl
/-- HMAC: a key's block, turned by a byte. -/
def keyB (key : List Nat) : List Nat := let k := if 64 < key.length then sumB key else key; k ++ List.replicate (64 - k.length) 0
def macB (key p : List Nat) : List Nat := sumB ((keyB key).map (· ^^^ 92) ++ sumB ((keyB key).map (· ^^^ 54) ++ p))
def partsB (ps : List (List Nat)) : List Nat := ps.flatMap fun p => numB p.length 4 ++ p
def deriveB (key label : List Nat) (ps : List (List Nat)) : List Nat := macB key (numB label.length 4 ++ label ++ numB ps.length 4 ++ partsB ps)
theorem keyB_length (key : List Nat) : (keyB key).length = 64 := by
  unfold keyB
  by_cases h : 64 < key.length
  · simp only [if_pos h, List.length_append, List.length_replicate, sumB_length]
  · simp only [if_neg h, List.length_append, List.length_replicate]
    omega
theorem keyB_byte {key : List Nat} (hk : ∀ x ∈ key, x < 256) : ∀ x ∈ keyB key, x < 256 := fun x hx => by
  unfold keyB at hx
  rcases List.mem_append.1 hx with hx | hx
  · by_cases h : 64 < key.length
    · rw [if_pos h] at hx; exact sumB_byte _ x hx
    · rw [if_neg h] at hx; exact hk x hx
  · obtain ⟨_, rfl⟩ := List.mem_replicate.1 hx
    decide
theorem turn_byte {l : List Nat} {c : Nat} (hc : c < 256) (h : ∀ x ∈ l, x < 256) : ∀ x ∈ l.map (· ^^^ c), x < 256 := fun x hx => by
  obtain ⟨y, hy, rfl⟩ := List.mem_map.1 hx
  exact Nat.xor_lt_two_pow (n := 8) (h y hy) hc
theorem macB_length (key p : List Nat) : (macB key p).length = 32 := sumB_length _
theorem macB_byte (key p : List Nat) : ∀ x ∈ macB key p, x < 256 := sumB_byte _
theorem deriveB_length (key label : List Nat) (ps : List (List Nat)) : (deriveB key label ps).length = 32 := sumB_length _
theorem deriveB_byte (key label : List Nat) (ps : List (List Nat)) : ∀ x ∈ deriveB key label ps, x < 256 := sumB_byte _
end Sha
end Go.Proofs.YtpakdcgcgekcfaaDoor

/-
  What more bytes make of a state's cells: plain.
-/
set_option linter.unusedSimpArgs false
set_option linter.unusedVariables false
namespace Go.Proofs.YtpakdcgcgekcfaaDoor
open Go.RowKit

namespace Sha
open Otp R1
def v8 (l : List Nat) : List Value := l.map fun x => Value.int .u8 ((x : Nat) : Int)
def v32 (l : List Nat) : List Value := l.map fun x => Value.int .u32 ((x : Nat) : Int)
/-- The cells of a state whose rest has got more bytes. -/
def cM (t x : List Nat) : List Value := v32 (stH t) ++ (v8 ((stR t ++ x) ++ List.replicate (64 - t.length % 64 - x.length) 0) ++ [Value.int .u64 ((t.length + x.length : Nat) : Int)])
theorem v8_length (l : List Nat) : (v8 l).length = l.length := by simp [v8]
theorem v32_length (l : List Nat) : (v32 l).length = l.length := by simp [v32]
theorem v8_append (a b : List Nat) : v8 (a ++ b) = v8 a ++ v8 b := by simp [v8]
theorem splice_mid (A B C Z X : List Value) (h : X.length = C.length) : splice (A ++ (B ++ (C ++ Z))) (A.length + B.length) X = A ++ (B ++ (X ++ Z)) := by
  unfold splice
  rw [show A ++ (B ++ (C ++ Z)) = (A ++ B) ++ (C ++ Z) by simp, List.take_append_of_le_length (by simp), List.take_of_length_le (by simp), List.drop_append, List.drop_of_length_le (by simp), List.nil_append, h,
    show A.length + B.length + C.length - (A ++ B).length = C.length by simp, List.drop_append, List.drop_of_length_le (Nat.le_refl _), Nat.sub_self]
  simp
theorem cS_copy {t x : List Nat} (h : t.length % 64 + x.length ≤ 64) : (splice (cS t) (8 + t.length % 64) (v8 x)).set 72 (.int .u64 ((t.length + x.length : Nat) : Int)) = cM t x := by
  have e : cS t = v32 (stH t) ++ (v8 (stR t) ++ (v8 (List.replicate x.length 0) ++ (v8 (List.replicate (64 - t.length % 64 - x.length) 0) ++ [Value.int .u64 (t.length : Int)]))) := by
    have e2 : List.replicate (64 - t.length % 64) 0 = List.replicate x.length 0 ++ List.replicate (64 - t.length % 64 - x.length) (0 : Nat) := by
      rw [List.replicate_append_replicate]
      congr 1
      omega
    unfold cS
    rw [show ((stZ t).map fun x => Value.int .u8 ((x : Nat) : Int)) = v8 (stZ t) from rfl, stZ, e2]
    simp only [v8_append, List.append_assoc]
    rfl
  have hl : 8 + t.length % 64 = (v32 (stH t)).length + (v8 (stR t)).length := by rw [v32_length, stH_length, v8_length, stR_length]
  rw [e, hl, splice_mid _ _ _ _ _ (by simp [v8_length])]
  have e72 : 72 = (v32 (stH t) ++ (v8 (stR t) ++ (v8 x ++ v8 (List.replicate (64 - t.length % 64 - x.length) 0)))).length := by
    simp only [List.length_append, v32_length, v8_length, stH_length, stR_length, List.length_replicate]
    omega
  rw [show v32 (stH t) ++ (v8 (stR t) ++ (v8 x ++ (v8 (List.replicate (64 - t.length % 64 - x.length) 0) ++ [Value.int .u64 (t.length : Int)]))) = (v32 (stH t) ++ (v8 (stR t) ++ (v8 x ++ v8 (List.replicate (64 - t.length % 64 - x.length) 0)))) ++ [Value.int .u64 (t.length : Int)] by simp, e72, List.set_append_right _ _ (Nat.le_refl _), Nat.sub_self]
  unfold cM
  simp [v8_append]
theorem cM_same {t x : List Nat} (h : t.length % 64 + x.length < 64) : cM t x = cS (t ++ x) := by
  unfold cM cS
  rw [stH_same h, stZ_same h, List.length_append]
  rfl
theorem cM_length {t x : List Nat} (h : t.length % 64 + x.length ≤ 64) : (cM t x).length = 73 := by
  unfold cM
  simp only [List.length_append, v32_length, v8_length, stH_length, stR_length, List.length_replicate, List.length_cons, List.length_nil]
  omega
theorem cM_full {t x : List Nat} (h : t.length % 64 + x.length = 64) : cM t x = v32 (stH t) ++ (v8 (stR t ++ x) ++ [Value.int .u64 ((t.length + x.length : Nat) : Int)]) := by
  unfold cM
  rw [show 64 - t.length % 64 - x.length = 0 by omega, List.replicate_zero, List.append_nil]
theorem cM_press {t x : List Nat} (h : t.length % 64 + x.length = 64) : splice (splice (cM t x) 0 (v32 (press (stH t) (stR t ++ x)))) 8 (v8 (List.replicate 64 0)) = cS (t ++ x) := by
  rw [cM_full h]
  have e1 := splice_mid [] [] (v32 (stH t)) (v8 (stR t ++ x) ++ [Value.int .u64 ((t.length + x.length : Nat) : Int)]) (v32 (press (stH t) (stR t ++ x))) (by rw [v32_length, v32_length, press_length _ (stH_length t), stH_length])
  simp only [List.length_nil, Nat.add_zero, List.nil_append] at e1
  rw [e1]
  have e2 := splice_mid (v32 (press (stH t) (stR t ++ x))) [] (v8 (stR t ++ x)) [Value.int .u64 ((t.length + x.length : Nat) : Int)] (v8 (List.replicate 64 0)) (by rw [v8_length, v8_length, List.length_append, stR_length, List.length_replicate, h])
  rw [v32_length, press_length _ (stH_length t)] at e2
  simp only [List.length_nil, Nat.add_zero, List.nil_append] at e2
  rw [e2]
  unfold cS
  rw [stH_full h, stZ_full h, List.length_append]
  rfl
theorem cM_words {t x : List Nat} : ∀ (j : Nat) (v : Value), (v32 (stH t))[j]? = some v → (cM t x)[j]? = some v := fun j v hv => by
  unfold cM
  rw [List.getElem?_append_left (List.getElem?_eq_some_iff.1 hv).1]
  exact hv
theorem cM_bytes {t x : List Nat} (h : t.length % 64 + x.length = 64) : ∀ (j : Nat) (v : Value), (v8 (stR t ++ x))[j]? = some v → (cM t x)[8 + j]? = some v := fun j v hv => by
  rw [cM_full h, List.getElem?_append_right (by rw [v32_length, stH_length]; omega), v32_length, stH_length, show 8 + j - 8 = j by omega, List.getElem?_append_left (List.getElem?_eq_some_iff.1 hv).1]
  exact hv
theorem cS_num (t : List Nat) : (cS t)[72]? = some (.int .u64 (t.length : Int)) := by
  unfold cS
  rw [List.getElem?_append_right (by simp [stH_length]), List.getElem?_append_right (by simp [stH_length, stZ_length])]
  simp [stH_length, stZ_length]
theorem cS_keep {t x : List Nat} (h : t.length % 64 + x.length ≤ 64) : (splice (cS t) (8 + t.length % 64) (v8 x))[72]? = some (.int .u64 (t.length : Int)) := by
  rw [splice_right (by rw [cS_length, v8_length]; omega) (by rw [v8_length]; omega)]
  exact cS_num t
theorem cS_one (t : List Nat) : ∀ v ∈ cS t, v.oneCell' = true := fun v hv => by
  unfold cS at hv
  simp only [List.mem_append, List.mem_map, List.mem_cons, List.not_mem_nil, or_false] at hv
  rcases hv with ⟨_, _, rfl⟩ | ⟨_, _, rfl⟩ | rfl <;> rfl
end Sha
end Go.Proofs.YtpakdcgcgekcfaaDoor
