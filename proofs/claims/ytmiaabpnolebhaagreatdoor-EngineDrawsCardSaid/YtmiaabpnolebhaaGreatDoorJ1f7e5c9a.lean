/-
  Texts of this claim, joined: R1Cut, R1Num, R1, R1Same.
-/
import Derived.Test.YtmiaabpnolebhaaGreatDoorJ34d7c24d
set_option linter.unusedSimpArgs false
set_option linter.unusedVariables false
/-
  The reference's Cut (curtilageref01): the first bytes, apart.
-/
namespace Go.Proofs.YtmiaabpnolebhaaGreatDoor
open Go.RowKit

namespace R1
set_option maxHeartbeats 1000000 in
theorem cut_any (A : Option Addr) (len cap : Nat) (l : List Nat) (m : Int) (k : Nat) (w : World) (hl : l.length = len) (hm : len ≤ maxLen) (hmk : m = k) (hk : k ≤ 1000000) (hz : Nats .u8 256 w w.heap.size A l) :
    Calls Tryz.prog 44 #[.slice A len cap, .int .i64 m] w (BytesOut w (l.take k)) := by
  obtain ⟨i0, hi0, hz0, hz1, hz2⟩ := info_row u8_info
  have HI := Lib.hid hi0
  have HI1 := Lib.hid hz0
  have HI2 := Lib.hid hz1
  have HI3 := Lib.hid hz2
  have HN := Lib.hid hz
  subst hmk
  subst hl
  simp only [maxLen] at hm
  clear hi0 hz0 hz1 hz2 hz
  go_enter Tryz.func44, Tryz.ntmps44
  go_wp2_with fail
  go_loopg [5, 10] l.length (fun g s5 s10 wr => ∃ i : Nat, i + g = l.length ∧ s10 = .int .i64 (i : Int) ∧ OwnB wr w.heap.size s5 ((l.take k).take i) ∧ Below w.heap.size w wr)
  case atStart => exact ⟨0, by omega, rfl, World.ownsRow_nil _ _ _ _, Below.refl _ _⟩
  case round =>
    obtain ⟨i, hg, rfl, hO, hB⟩ := hrel
    have HG := Lib.hid hg
    have hig : i ≤ l.length := by omega
    have HB := Lib.hid hB
    have HO := Lib.hid hO
    have hwl : w.heap.size ≤ wr.heap.size := hB.size
    clear hg hB hO
    by_cases hlt : i < l.length
    · obtain ⟨x, hx⟩ : ∃ x, l[i]? = some x := ⟨_, List.getElem?_eq_getElem hlt⟩
      obtain ⟨hxM, g0, off, rfl, hg0, hcx⟩ := (HN.out.below HB.out) i x hx
      by_cases hik : i < k
      · have HT := Lib.hid (take_snoc (l := l.take k) (i := i) (x := x) (by rw [List.getElem?_take, if_pos hik]; exact hx))
        have hlen : ((l.take k).take i).length = i := by rw [List.length_take, List.length_take]; omega
        have HL := Lib.hid hlen
        clear hx
        go_wp2_with (at_builtin; refine wpList_append_own _ rfl (.tmp 18) (.tmp 20) 24 rfl w.heap.size 5 i0 (.int .u8 0) 1 1 Tryz.underlying24 HI.out HI1.out HI2.out HI3.out rfl (by decide) _ _ _ rfl (HO.out.alloc _) ⟨wr.heap.size, 0, none⟩ 1 1 [.int .u8 (x : Int)] rfl rfl ?c1 ?c2 ?c3 ?c4 ?c5 ?_)
        case c1 =>
          have h1 := cell_one_new wr (.int .u8 (x : Int)) 5
          simpa using h1
        case c2 => intro u hu; simp at hu; subst hu; rfl
        case c3 => rw [hlen]; simp only [maxLen]; omega
        case c4 => rw [hlen]; omega
        case c5 => simp; omega
        · intro v1 w1 hO1 hg1 _
          have hB1 := (HB.out.alloc hwl (.cells #[.int .u8 (x : Int)] 5)).grown hg1 (by simp; omega) (fun k hk => (World.ownsRow.lt HO.out k hk).1)
          have HO1 := Lib.hid hO1
          have HB1 := Lib.hid hB1
          clear hO1 hB1 hg1
          go_wp2_with fail
          go_light
          go_roundg (l.length - (i + 1))
          case measure => have := HG.out; omega
          case rel =>
            refine ⟨i + 1, by omega, by go_num, ?_, HB1.out⟩
            have h2 := HO1.out
            unfold OwnB
            rw [HT.out, List.length_append, List.map_append, HL.out]
            simpa [List.map_take] using h2
      · have HT := Lib.hid (show (l.take k).take (i + 1) = (l.take k).take i by rw [List.take_of_length_le (show (l.take k).length ≤ i + 1 by rw [List.length_take]; omega), List.take_of_length_le (show (l.take k).length ≤ i by rw [List.length_take]; omega)])
        clear hx
        go_wp2_with fail
        go_light
        go_roundg (l.length - (i + 1))
        case measure => have := HG.out; omega
        case rel => exact ⟨i + 1, by omega, by go_num, by rw [HT.out]; exact HO.out, HB.out⟩
    · have HT := Lib.hid (show (l.take k).take i = l.take k from List.take_of_length_le (by rw [List.length_take]; omega))
      have : i = l.length := by omega
      subst this
      go_wp2_with fail
      go_light
      go_ret
      have hOO := HO.out
      rw [HT.out] at hOO
      exact ⟨_, rfl, hOO, HB.out⟩
end R1
end Go.Proofs.YtmiaabpnolebhaaGreatDoor

/-
  The reference's Num (curtilageref01): a number's bytes, the highest first.
-/
namespace Go.Proofs.YtmiaabpnolebhaaGreatDoor
open Go.RowKit

namespace R1
/-- A number's bytes, the highest first. -/
def numB (n : Nat) : Nat → List Nat
  | 0 => []
  | k + 1 => n / 256 ^ k % 256 :: numB n k
theorem numB_length (n : Nat) : ∀ k, (numB n k).length = k
  | 0 => rfl
  | k + 1 => by simp [numB, numB_length n k]
theorem numB_at (n : Nat) : ∀ (k t : Nat), t < k → (numB n k)[t]? = some (n / 256 ^ (k - 1 - t) % 256)
  | k + 1, 0, _ => by simp [numB]
  | k + 1, t + 1, h => by
    rw [numB, List.getElem?_cons_succ, numB_at n k t (by omega)]
    congr 4
    omega
def c8 (l : List Nat) : Array Value := (l.map fun x => Value.int .u8 ((x : Nat) : Int)).toArray
theorem c8_at {l : List Nat} {i x : Nat} (h : l[i]? = some x) : (c8 l)[i]? = some (.int .u8 (x : Int)) := by simp [c8, h]
theorem c8_set (l : List Nat) (i y : Nat) : (c8 l).setIfInBounds i (.int .u8 (y : Int)) = c8 (l.set i y) := by
  unfold c8
  rw [List.map_set]
  simp
theorem ownB_blk {w : World} {B g : Nat} {l : List Nat} (h : Blk w g 5 (c8 l)) (hB : B ≤ g) (hm : l.length ≤ maxLen) : OwnB w B (.slice (some ⟨g, 0, none⟩) l.length l.length) l := by
  refine ⟨by simp, .inr ⟨g, l.length, c8 l, rfl, hB, h, Nat.le_refl _, hm, by simp [c8], ?_⟩⟩
  have : (l.map fun x => Value.int .u8 ((x : Nat) : Int)).length = l.length := by simp
  simp only [c8, List.toList_toArray, Nat.mul_one]
  rw [← this, List.take_length]
set_option maxRecDepth 100000 in
set_option maxHeartbeats 1000000 in
theorem num_any (z kz : Int) (n k : Nat) (w : World) (hkz : kz = k) (hz : z = n) (hn : z < 18446744073709551616) (hk : k ≤ 64) :
    Calls Tryz.prog 24 #[.int .u64 z, .int .i64 kz] w (BytesOut w (numB n k)) := by
  subst hkz
  obtain ⟨i0, hi0, hz0, hz1, hz2⟩ := info_row u8_info
  have hmk := fun W => run_make_rowN (P := Tryz.prog) 24 5 i0 _ Tryz.underlying24 hi0 hz0 .i64 .i64 k k (Nat.le_refl _) (by rw [hz2]; omega) (by omega) W
  rw [hz1] at hmk
  simp only [Nat.mul_one] at hmk
  have HZ := Lib.hid hz
  have h0 : 0 ≤ z := by omega
  clear hi0 hz0 hz1 hz2 hz
  go_enter Tryz.func24, Tryz.ntmps24
  go_wp2_with fail
  go_loopg [6, 0] k (fun g s6 s0 wr => ∃ (i q : Nat) (zi zq : Int) (cur : List Nat), i = g ∧ i ≤ k ∧ zi + 1 = i ∧ zq = q ∧ s6 = .int .i64 zi ∧ s0 = .int .u64 zq ∧ zq < 18446744073709551616 ∧ Hid (q = n / 256 ^ (k - i)) ∧ cur.length = k ∧ Hid (∀ t, i ≤ t → cur[t]? = (numB n k)[t]?) ∧ Hid (Blk wr w.heap.size 5 (c8 cur)) ∧ Hid (Below w.heap.size w wr))
  case atStart =>
    refine ⟨k, n, _, z, List.replicate k 0, rfl, Nat.le_refl _, by go_num, HZ.out, rfl, rfl, hn, Lib.hid (by simp), by simp, Lib.hid (fun t ht => ?_), Lib.hid ?_, Lib.hid ?_⟩
    · rw [List.getElem?_eq_none (by simpa using ht), List.getElem?_eq_none (by rw [numB_length]; exact ht)]
    · have : madeCells #[Value.int .u8 0] k = c8 (List.replicate k 0) := by
        apply Array.ext_getElem?
        intro t
        by_cases ht : t < k
        · rw [made_get _ _ _ ht (by decide), c8_at (x := 0) (by simp [ht])]
          simp [Nat.mod_one]
        · rw [Array.getElem?_eq_none (by simp [madeCells]; omega), Array.getElem?_eq_none (by simp [c8]; omega)]
      rw [this]
      exact Blk.new w _ _
    · exact (Below.refl _ w).alloc (Nat.le_refl _) _
  case round =>
    obtain ⟨i, q, zi, zq, cur, rfl, hik, hzi, hzq, rfl, rfl, hqM, HQ, hcl, HC, HW, HB⟩ := hrel
    have HCL := Lib.hid hcl
    clear hcl
    by_cases hlt : 0 < i
    · obtain ⟨m, rfl⟩ : ∃ m, i = m + 1 := ⟨i - 1, by omega⟩
      have hm : zi = m := by omega
      subst hm
      clear hzi
      obtain ⟨old, ho⟩ : ∃ old, cur[m]? = some old := ⟨_, List.getElem?_eq_getElem (by have := HCL.out; omega)⟩
      have hold : wr.cell? ⟨w.heap.size, m, none⟩ = some (.int .u8 (old : Int)) := by rw [HW.out.cell, c8_at ho]
      have hfr : wr.frozen? ⟨w.heap.size, m, none⟩ = false := HW.out.frozen m
      have hsz := HW.out.lt
      have HQZ := Lib.hid hzq
      have hq0 : 0 ≤ zq := by omega
      clear hzq ho
      go_wp2_with fail
      go_light
      go_roundg m
      case measure => omega
      case rel =>
        refine ⟨m, q / 256, _, _, cur.set m (q % 256), rfl, by omega, by go_num, ?_, rfl, rfl, by omega, Lib.hid ?_, by rw [List.length_set]; exact HCL.out, Lib.hid (fun t ht => ?_), Lib.hid ?_, Lib.hid ?_⟩
        · have := HQZ.out; omega
        · rw [HQ.out, Nat.div_div_eq_div_mul, show k - m = k - (m + 1) + 1 by omega, Nat.pow_succ]
        · by_cases hmt : m = t
          · subst hmt
            rw [List.getElem?_set_self (by have := HCL.out; omega), numB_at n k m (by omega), HQ.out, show k - 1 - m = k - (m + 1) by omega]
          · rw [List.getElem?_set_ne hmt]
            exact HC.out t (by omega)
        · have := HW.out.set m (.int .u8 ((q % 256 : Nat) : Int))
          rw [c8_set] at this
          rw [show zq % 256 = ((q % 256 : Nat) : Int) by have := HQZ.out; omega]
          exact this
        · exact HB.out.setCell (p := ⟨w.heap.size, m, none⟩) (Nat.le_refl _) _
    · have hi0 : i = 0 := by omega
      subst hi0
      have hm : zi = -1 := by omega
      subst hm
      have e : cur = numB n k := by
        apply List.ext_getElem?
        intro t
        exact HC.out t (Nat.zero_le _)
      clear hzi hzq
      go_wp2_with fail
      go_light
      go_ret
      subst e
      have := ownB_blk HW.out (Nat.le_refl _) (by rw [numB_length]; simp only [maxLen]; omega)
      rw [numB_length] at this
      exact ⟨_, rfl, this, HB.out⟩
end R1
end Go.Proofs.YtmiaabpnolebhaaGreatDoor

/-
  The reference's Value (curtilageref01): a number of at most four bytes, the highest first.
-/
namespace Go.Proofs.YtmiaabpnolebhaaGreatDoor
open Go.RowKit

namespace R1
def beVal (l : List Nat) : Nat := l.foldl (fun a b => 256 * a + b) 0
theorem beVal_snoc (l : List Nat) (x : Nat) : beVal (l ++ [x]) = 256 * beVal l + x := by simp [beVal]
set_option maxHeartbeats 1000000 in
theorem value_any (A : Option Addr) (len cap : Nat) (l : List Nat) (w : World) (B : Nat) (hl : l.length = len) (hm : len ≤ 4) (hz : Nats .u8 256 w B A l) :
    Calls Tryz.prog 80 #[.slice A len cap] w fun e w' => e = .returned (.int .u64 ((beVal l : Nat) : Int)) ∧ w = w' := by
  have HN := Lib.hid hz
  subst hl
  clear hz
  go_enter Tryz.func80, Tryz.ntmps80
  go_wp2_with fail
  go_loopg [3, 8] l.length (fun g s3 s8 wr => ∃ i : Nat, i + g = l.length ∧ s8 = .int .i64 (i : Int) ∧ ∃ v : Nat, s3 = .int .u64 (v : Int) ∧ v = beVal (l.take i) ∧ v < 256 ^ i ∧ wr = w)
  case atStart => exact ⟨0, by omega, rfl, 0, rfl, rfl, by decide, rfl⟩
  case round =>
    obtain ⟨i, hg, rfl, v, rfl, hv, hvb, rfl⟩ := hrel
    have HG := Lib.hid hg
    have HV := Lib.hid hv
    have hig : i ≤ l.length := by omega
    clear hg hv
    by_cases hlt : i < l.length
    · obtain ⟨x, hx⟩ : ∃ x, l[i]? = some x := ⟨_, List.getElem?_eq_getElem hlt⟩
      obtain ⟨hxM, g0, off, rfl, hg0, hcx⟩ := HN.out i x hx
      have HS := Lib.hid (show beVal (l.take (i + 1)) = 256 * v + x by rw [take_snoc hx, beVal_snoc, HV.out])
      have hvc : v < 16777216 := Nat.lt_of_lt_of_le hvb (Nat.le_trans (Nat.pow_le_pow_right (by decide) (show i ≤ 3 by omega)) (by decide))
      have HB := Lib.hid (show 256 * v + x < 256 ^ (i + 1) by rw [Nat.pow_succ]; omega)
      clear hx hvb
      go_wp2_with fail
      go_light
      go_roundg (l.length - (i + 1))
      case measure => have := HG.out; omega
      case rel => exact ⟨i + 1, by omega, by go_num, 256 * v + x, by go_num, HS.out.symm, HB.out, rfl⟩
    · have : i = l.length := by omega
      subst this
      have hvl := HV.out
      rw [List.take_length] at hvl
      have HV2 := Lib.hid hvl
      clear hvl HV
      go_wp2_with fail
      go_light
      go_ret
      exact ⟨by rw [HV2.out]; rfl, rfl⟩
end R1
end Go.Proofs.YtmiaabpnolebhaaGreatDoor

/-
  The references' Same.
-/
namespace Go.Proofs.YtmiaabpnolebhaaGreatDoor
open Go.RowKit

namespace R1
def SameOut (w : World) (v : Bool) (e : Ending) (w' : World) : Prop := e = .returned (.bool v) ∧ ∃ n, w' = w.drewN n
theorem Nats.drewN {k : IntKind} {M : Nat} {w : World} {B : Nat} {a : Option Addr} {zs : List Nat} (h : Nats k M w B a zs) (n : Nat) : Nats k M (w.drewN n) B a zs := h
theorem drewN_drewN (w : World) (a b : Nat) : (w.drewN a).drewN b = w.drewN (a + b) := by
  simp [World.drewN, Nat.add_assoc]
set_option maxHeartbeats 1000000 in
theorem same_any (A B : Option Addr) (la lb ca cb : Nat) (x y : List Nat) (v : Bool) (w : World) (BA BB : Nat) (hx : x.length = la) (hy : y.length = lb) (hma : la ≤ maxLen) (hmb : lb ≤ maxLen) (hA : Nats .u8 256 w BA A x) (hB : Nats .u8 256 w BB B y) (hv : decide (x = y) = v) :
    Calls Tryz.prog 17 #[.slice A la ca, .slice B lb cb] w (SameOut w v) := by
  have HA := Lib.hid hA
  have HB := Lib.hid hB
  have HV := Lib.hid hv
  simp only [maxLen] at hma hmb
  clear hA hB hv
  subst hx hy
  by_cases hl : x.length = y.length
  · have HL := Lib.hid hl
    have e1 : ((x.length : Int) != (y.length : Int)) = false := by simp [hl]
    clear hl
    go_enter Tryz.func17, Tryz.ntmps17
    go_wp2_with fail
    go_loopg [5, 13] x.length (fun g s5 s13 wr => ∃ i : Nat, i + g = x.length ∧ s13 = .int .i64 (i : Int) ∧ Hid (x.take i = y.take i) ∧ ∃ n, wr = w.drewN n)
    case atStart => exact ⟨0, by omega, rfl, Lib.hid rfl, 0, rfl⟩
    case round =>
      obtain ⟨i, hg, rfl, HT, n, rfl⟩ := hrel
      have HG := Lib.hid hg
      have hi : i ≤ x.length := by omega
      clear hg
      by_cases hlt : i < x.length
      · obtain ⟨a, ha⟩ : ∃ a, x[i]? = some a := ⟨_, List.getElem?_eq_getElem hlt⟩
        obtain ⟨b, hb⟩ : ∃ b, y[i]? = some b := ⟨_, List.getElem?_eq_getElem (by have := HL.out; omega)⟩
        obtain ⟨haM, ga, oa, rfl, hga, hca⟩ := HA.out i a ha
        obtain ⟨hbM, gb, ob, rfl, hgb, hcb⟩ := HB.out i b hb
        have hlt2 : i < y.length := by have := HL.out; omega
        by_cases hab : a = b
        · subst hab
          have HS := Lib.hid (show x.take (i + 1) = y.take (i + 1) by rw [take_snoc ha, take_snoc hb, HT.out])
          clear ha hb
          go_wp2_with fail
          go_quiet (fail)
          go_wp2_with fail
          go_light
          go_roundg (x.length - (i + 1))
          case measure => have := HG.out; omega
          case rel => exact ⟨i + 1, by have := HG.out; omega, by go_num, HS, _, rfl⟩
        · have hne : ((a : Int) != (b : Int)) = true := by rw [bne_iff_ne]; omega
          have HF := Lib.hid (show v = false by
            rw [← HV.out, decide_eq_false_iff_not]
            intro e
            rw [e, hb] at ha
            exact hab (Option.some.inj ha).symm)
          clear ha hb
          go_wp2_with fail
          go_quiet (fail)
          go_wp2_with fail
          go_light
          go_ret
          obtain rfl := HF.out
          exact ⟨rfl, _, drewN_drewN _ _ _⟩
      · have : i = x.length := by omega
        subst this
        have HE := Lib.hid (show v = true by
          rw [← HV.out, decide_eq_true_eq]
          have := HT.out
          rw [List.take_length, HL.out, List.take_length] at this
          exact this)
        go_wp2_with fail
        go_light
        go_ret
        obtain rfl := HE.out
        exact ⟨rfl, n, rfl⟩
  · have e1 : ((x.length : Int) != (y.length : Int)) = true := by rw [bne_iff_ne]; omega
    have HF := Lib.hid (show v = false by
      rw [← HV.out, decide_eq_false_iff_not]
      intro e
      exact hl (by rw [e]))
    clear hl
    go_enter Tryz.func17, Tryz.ntmps17
    go_wp2_with fail
    go_light
    go_ret
    obtain rfl := HF.out
    exact ⟨rfl, 0, rfl⟩
end R1
end Go.Proofs.YtmiaabpnolebhaaGreatDoor
