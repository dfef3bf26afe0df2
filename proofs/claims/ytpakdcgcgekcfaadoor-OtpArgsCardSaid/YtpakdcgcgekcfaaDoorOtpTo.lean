/-
  Package otp: ToCounter.
-/
import Derived.Test.YtpakdcgcgekcfaaDoorProg
import Derived.Test.YtpakdcgcgekcfaaDoorMem
import Derived.Test.YtpakdcgcgekcfaaDoorOtpPlan
import Derived.Test.YtpakdcgcgekcfaaDoorOtpCtr
import Derived.RegionTactic
import Derived.Deep.LoopGhost
namespace Go.Proofs.YtpakdcgcgekcfaaDoor
open Go.RowKit

namespace Otp
open Fuse
variable {w w' : World} {c p b : Nat} {vs : List Nat} {ls : List Bool} {sd : Bool}
/-- The counter's eight words behind n rounds. -/
def lw : Nat → List Nat
  | 0 => List.replicate 8 0
  | i + 1 => (lw i).set (i / 32) (((lw i)[i / 32]?.getD 0) ||| 2 ^ (i % 32))
theorem lw_length : ∀ n, (lw n).length = 8
  | 0 => rfl
  | i + 1 => by simp [lw, lw_length i]
theorem pow_lt (i : Nat) : (2 : Nat) ^ (i % 32) < 4294967296 := by
  have : (2 : Nat) ^ (i % 32) < 2 ^ 32 := Nat.pow_lt_pow_right (by decide) (by omega)
  omega
theorem lw_word : ∀ (n i x : Nat), (lw n)[i]? = some x → x < 4294967296
  | 0, i, x, h => by
    rw [lw] at h
    obtain ⟨_, rfl⟩ := List.getElem?_eq_some_iff.1 h
    rw [List.getElem_replicate]
    decide
  | n + 1, i, x, h => by
    simp only [lw, List.getElem?_set] at h
    split at h
    · split at h
      · cases h
        refine Nat.or_lt_two_pow (n := 32) ?_ (pow_lt n)
        cases hg : (lw n)[n / 32]? with
        | none => simp
        | some y => simpa using lw_word n _ y hg
      · cases h
    · exact lw_word n i x h
def c32 (vs : List Nat) : Array Value := (vs.map fun x => Value.int .u32 ((x : Nat) : Int)).toArray
theorem c32_at {vs : List Nat} {i x : Nat} (h : vs[i]? = some x) : (c32 vs)[i]? = some (.int .u32 (x : Int)) := by simp [c32, h]
theorem c32_set (vs : List Nat) (i y : Nat) : (c32 vs).setIfInBounds i (.int .u32 (y : Int)) = c32 (vs.set i y) := by
  simp [c32, List.map_set]
theorem nats_blk {w : World} {L : Nat} {t : TypeId} {l : List Nat} (h : Blk w L t (c32 l)) (hw : ∀ (i x : Nat), l[i]? = some x → x < 4294967296) : Nats .u32 4294967296 w w.heap.size (some ⟨L, 0, none⟩) l := fun i z hz =>
  ⟨hw i z hz, L, 0, rfl, h.lt, by rw [Nat.zero_add, h.cell, c32_at hz]⟩
theorem pow_mod' (k : Nat) (hk : k < 32) : (2 : Int) ^ k % 4294967296 = ((2 ^ k : Nat) : Int) := by
  have hp : (2 : Nat) ^ k < 2 ^ 32 := Nat.pow_lt_pow_right (by decide) hk
  have e : ((2 : Int) ^ k) = ((2 ^ k : Nat) : Int) := by simp
  rw [e]
  generalize 2 ^ k = x at *
  omega

theorem ownW_le {w : World} {B B' : Nat} {v : Value} {l : List (Nat × Nat)} (h : OwnW w B v l) (hB : B' ≤ B) : OwnW w B' v l := by
  refine ⟨h.1, ?_⟩
  rcases h.2 with h0 | ⟨g, cap, cur, hv, hg, rest⟩
  · exact .inl h0
  · exact .inr ⟨g, cap, cur, hv, Nat.le_trans hB hg, rest⟩

def tcE (vs : List Nat) (n : Int) : Int := if n < 0 ∨ 255 < n then 1 else if n < counter vs then 15 else 0
def tcL (vs : List Nat) (n : Int) : List (Nat × Nat) := if tcE vs n = 0 then planOf vs 1 (lw n.toNat) else []
def ToOut (w : World) (er : Int) (l : List (Nat × Nat)) (e : Ending) (w' : World) : Prop := ∃ v, e = .returned (.tuple #[v, .int .i64 er]) ∧ OwnW w' w.heap.size v l ∧ Below w.heap.size w w'

set_option maxHeartbeats 2000000 in
theorem tocounter_any (n : Int) (w : World) (h : Cz w c p b vs ls sd) (hT : Tab w) :
    Calls Tryd.prog 65 #[.pointer (some ⟨c, 0, none⟩), .int .i64 n] w (ToOut w (tcE vs n) (tcL vs n)) := by
  have H := Lib.hid h
  have HT := Lib.hid hT
  clear h hT
  by_cases h0 : n < 0
  · have e1 : tcE vs n = 1 := by simp [tcE, h0]
    have e2 : tcL vs n = [] := by simp [tcL, e1]
    rw [e1, e2]
    clear e1 e2
    go_enter Tryd.func65, Tryd.ntmps65
    go_wp2_with fail
    go_light
    go_ret2
    exact ⟨_, rfl, World.ownsRow_nil _ _ _ _, Below.refl _ _⟩
  obtain ⟨k, rfl⟩ := Int.eq_ofNat_of_zero_le (show 0 ≤ n by omega)
  by_cases h1 : 255 < k
  · have e1 : tcE vs k = 1 := by simp [tcE]; omega
    have e2 : tcL vs k = [] := by simp [tcL, e1]
    rw [e1, e2]
    clear e1 e2
    go_enter Tryd.func65, Tryd.ntmps65
    go_wp2_with fail
    go_light
    go_ret2
    exact ⟨_, rfl, World.ownsRow_nil _ _ _ _, Below.refl _ _⟩
  by_cases h2 : k < counter vs
  · have e1 : tcE vs k = 15 := by simp [tcE, h2]; omega
    have e2 : tcL vs k = [] := by simp [tcL, e1]
    rw [e1, e2]
    clear e1 e2
    go_enter Tryd.func65, Tryd.ntmps65
    go_wp2_with fail
    (with_reducible refine (counter_any _ H.out HT.out).mono ?_); rintro e w1 ⟨rfl, hB⟩
    have HB := Lib.hid hB
    clear hB
    go_wp2_with fail
    go_light
    go_ret2
    exact ⟨_, rfl, World.ownsRow_nil _ _ _ _, HB.out⟩
  · have e1 : tcE vs k = 0 := by simp [tcE, h2]; omega
    have e2 : tcL vs k = planOf vs 1 (lw k) := by simp [tcL, e1]
    rw [e1, e2]
    clear e1 e2
    go_enter Tryd.func65, Tryd.ntmps65
    go_wp2_with fail
    (with_reducible refine (counter_any _ H.out HT.out).mono ?_); rintro e w1 ⟨rfl, hB⟩
    have HB := Lib.hid hB
    have hwl : w.heap.size ≤ w1.heap.size := hB.size
    clear hB
    go_wp2_with fail
    go_loopg [24] k (fun g s24 wr => ∃ i : Nat, i + g = k ∧ s24 = .int .i64 (i : Int) ∧ Blk wr w1.heap.size 118 (c32 (lw i)) ∧ Below w.heap.size w wr)
    case atStart => exact ⟨0, by omega, rfl, Blk.new _ _ _, HB.out.alloc hwl _⟩
    case round =>
      obtain ⟨i, hg, rfl, hK, hB⟩ := hrel
      have HG := Lib.hid hg
      have hig : i ≤ k := by omega
      have HK := Lib.hid hK
      have HB2 := Lib.hid hB
      clear hg hB hK
      by_cases hlt : i < k
      · obtain ⟨x, hx⟩ : ∃ x, (lw i)[i / 32]? = some x := ⟨_, List.getElem?_eq_getElem (by rw [lw_length]; omega)⟩
        have hxM := lw_word _ _ _ hx
        have hlw : lw (i + 1) = (lw i).set (i / 32) (x ||| 2 ^ (i % 32)) := by simp [lw, hx]
        have hcx : wr.cell? ⟨w1.heap.size, i / 32, none⟩ = some (.int .u32 (x : Int)) := by rw [HK.out.cell, c32_at hx]
        have hfr : wr.frozen? ⟨w1.heap.size, i / 32, none⟩ = false := HK.out.frozen _
        have b3 := u32_or_nat x (2 ^ (i % 32)) hxM (pow_lt i)
        have HLW := Lib.hid hlw
        clear hx hlw
        go_wp2_with fail
        go_region
        go_wp2_with fail
        go_light
        go_roundg (k - (i + 1))
        case measure => have := HG.out; omega
        case rel =>
          refine ⟨i + 1, by omega, by go_num, ?_, ?_⟩
          · have hpm := pow_mod' (i % 32) (by omega)
            rw [hpm, b3, HLW.out, ← c32_set]
            exact (HK.out.set _ _).drew
          · exact (HB2.out.setCell hwl _).drew
      · have : i = k := by omega
        subst this
        have HN := Lib.hid (nats_blk HK.out (lw_word i))
        have HC := Lib.hid (H.out.old HB2.out)
        have hl8 := lw_length i
        go_wp2_with fail
        (with_reducible refine (plan_any 1 1 _ 8 8 (lw i) _ HC.out rfl hl8 (by omega) HN.out).mono ?_); rintro e w2 ⟨v, rfl, hO, hB⟩
        have HO := Lib.hid hO
        have HB3 := Lib.hid hB
        clear hO hB
        go_wp2_with fail
        go_light
        go_ret2
        exact ⟨_, rfl, ownW_le HO.out HB2.out.size, below_then HB2.out HB3.out (Nat.le_refl _)⟩
end Otp
end Go.Proofs.YtpakdcgcgekcfaaDoor
