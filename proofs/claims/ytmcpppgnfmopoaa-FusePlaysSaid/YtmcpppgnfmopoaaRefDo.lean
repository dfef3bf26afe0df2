/-
  The reference's Do (curtilageref10): what it answers and leaves is what the functions rdV, rdE, cutE, cutV, lockL, setE, setV say. Part 1: bit; Set; out of range; Read; Lock.
-/
import Derived.Test.YtmcpppgnfmopoaaProg
import Derived.Test.YtmcpppgnfmopoaaMem
import Derived.Test.YtmcpppgnfmopoaaRefArr
import Derived.Test.YtmcpppgnfmopoaaBitsLaw
import Derived.Deep.LoopGhost
import Derived.Deep.QuietTactic
import Derived.BigQuiet
namespace Go.Proofs.Ytmcpppgnfmopoaa
open Go.RowKit

namespace Fuse
theorem bit_int' (v k : Nat) : (((v : Int) / 2 ^ k).tmod 2 == 1) = v.testBit k := by
  have e : ((2 : Int) ^ k) = ((2 ^ k : Nat) : Int) := by simp
  rw [e, ← Int.natCast_ediv, Int.tmod_eq_emod_of_nonneg (Int.natCast_nonneg _), Nat.testBit_eq_decide_div_mod_eq, Bool.eq_iff_iff, beq_iff_eq, decide_eq_true_eq]
  omega
set_option maxHeartbeats 400000 in
theorem bit_any (v k : Nat) (w : World) (hk : k < 32) : Calls Try.prog 37 #[.int .u32 (v : Int), .int .i64 (k : Int)] w fun e w' => e = .returned (.bool (v.testBit k)) ∧ w' = w := by
  have hb := Lib.hid (bit_int' v k)
  go_enter Try.func37, Try.ntmps37
  go_wp2
  go_light
  go_ret
  exact ⟨by rw [← hb.out]; rfl, rfl⟩

theorem bit_at (v k : Nat) (a : Int) (w : World) (hk : k < 32) (ha : a = (k : Int)) : Calls Try.prog 37 #[.int .u32 (v : Int), .int .i64 a] w fun e w' => e = .returned (.bool (v.testBit k)) ∧ w' = w := by
  subst ha
  exact bit_any v k w hk

variable {x c d : Nat} {vs : List Nat} {ls : List Bool}
def act (k i j v g : Int) : Value := .agg #[.int .u8 k, .int .i64 i, .int .i64 j, .int .u32 v, .int .u32 g]
def RDo (w : World) (x c d : Nat) (y e0 : Int) (vs' : List Nat) (ls' : List Bool) (e : Ending) (w' : World) : Prop :=
  e = .returned (.tuple #[.int .u32 y, .int .i64 e0]) ∧ Rz w' x c d vs' ls' ∧ Frm [c, d] w w'

set_option maxRecDepth 100000 in
set_option maxHeartbeats 400000 in
theorem rdo_out (k i j v g : Int) (w : World) (h : Rz w x c d vs ls) (hk : (k % 5 == 4) = false) (hk0 : 0 ≤ k) (hi : i < 0 ∨ (vs.length : Int) ≤ i) :
    Calls Try.prog 34 #[.pointer (some ⟨x, 0, none⟩), .agg #[.int .u8 k, .int .i64 i, .int .i64 j, .int .u32 v, .int .u32 g]] w (RDo w x c d 0 9 vs ls) := by
  obtain ⟨h0, h1⟩ := h.hd0
  have hm := h.most
  have hl := h.lts.1
  have HH := Lib.hid (h.frm ((Frm.refl [] w).alloc (.cells #[.int .u8 k, .int .i64 i, .int .i64 j, .int .u32 v, .int .u32 g] 54)) (by simp) (by simp) (by simp))
  clear h
  by_cases hi0 : i < 0
  · clear hi
    go_enter Try.func34, Try.ntmps34
    go_wp2_with fail
    go_quiet (fail)
    go_wp2_with fail
    go_light
    go_ret2
    refine ⟨rfl, (by repeat (first | exact HH.out | (with_reducible refine Rz.drewN ?_ _) | (with_reducible refine Rz.drew ?_) | (with_reducible refine Rz.alloc ?_ _))), by repeat (first | exact Frm.refl _ _ | (with_reducible refine Frm.drewN ?_ _) | (with_reducible refine Frm.alloc ?_ _))⟩
  · have hi1 : (vs.length : Int) ≤ i := by omega
    have hd : decide (i < 0) = false := by simpa using hi0
    have hi2 : 0 ≤ i := by omega
    clear hi
    go_enter Try.func34, Try.ntmps34
    go_wp2_with fail
    go_quiet (fail)
    go_wp2_with fail
    go_light
    go_ret2
    refine ⟨rfl, (by repeat (first | exact HH.out | (with_reducible refine Rz.drewN ?_ _) | (with_reducible refine Rz.drew ?_) | (with_reducible refine Rz.alloc ?_ _))), by repeat (first | exact Frm.refl _ _ | (with_reducible refine Frm.drewN ?_ _) | (with_reducible refine Frm.alloc ?_ _))⟩

theorem rd_in {i : Nat} (hi : i < vs.length) (y : Nat) (l : Bool) (hy : vs[i]? = some y) (hl : ls[i]? = some l) : rdV vs ls (i : Int) = (if l = true then 0 else (y : Int)) ∧ rdE vs ls (i : Int) = (if l = true then 12 else 0) := by
  have hr : inR vs (i : Int) = true := by unfold inR; exact decide_eq_true (by omega)
  simp [rdV, rdE, hr, hy, hl]
theorem rd_out {i : Int} (hi : i < 0 ∨ (vs.length : Int) ≤ i) : rdV vs ls i = 0 ∧ rdE vs ls i = 9 := by
  have hr : inR vs i = false := by unfold inR; exact decide_eq_false (by omega)
  simp [rdV, rdE, hr]

set_option maxRecDepth 100000 in
set_option maxHeartbeats 400000 in
theorem rdo_read_in (k j v g : Int) (i : Nat) (w : World) (h : Rz w x c d vs ls) (hk : (k % 5 == 4) = false) (hk1 : (k % 5 == 0) = true) (hk0 : 0 ≤ k) (hi : i < vs.length) :
    Calls Try.prog 34 #[.pointer (some ⟨x, 0, none⟩), .agg #[.int .u8 k, .int .i64 (i : Int), .int .i64 j, .int .u32 v, .int .u32 g]] w (RDo w x c d (rdV vs ls i) (rdE vs ls i) vs ls) := by
  obtain ⟨h0, h1⟩ := h.hd0
  obtain ⟨y, l, hy, hll, hy2, hcy, hcl, _, _⟩ := h.at_ hi
  obtain ⟨e1, e2⟩ := rd_in hi y l hy hll
  rw [e1, e2]
  have hm := h.most
  obtain ⟨hl1, hl2, hl3⟩ := h.lts
  have HH := Lib.hid (h.frm ((Frm.refl [] w).alloc (.cells #[.int .u8 k, .int .i64 (i : Int), .int .i64 j, .int .u32 v, .int .u32 g] 54)) (by simp) (by simp) (by simp))
  have hi0 : (0 : Int) ≤ (i : Int) := by omega
  have hi1 : (i : Int) < (vs.length : Int) := by omega
  have hd : decide ((i : Int) < 0) = false := by simp
  have hd2 : decide ((vs.length : Int) ≤ (i : Int)) = false := by simp; omega
  clear h hy hll e1 e2
  cases l with
  | true =>
    go_enter Try.func34, Try.ntmps34
    go_wp2_with fail
    go_quiet (fail)
    go_wp2_with fail
    go_quiet (fail)
    go_wp2_with fail
    go_light
    go_ret2
    refine ⟨rfl, (by repeat (first | exact HH.out | (with_reducible refine Rz.drewN ?_ _) | (with_reducible refine Rz.drew ?_) | (with_reducible refine Rz.alloc ?_ _))), by repeat (first | exact Frm.refl _ _ | (with_reducible refine Frm.drewN ?_ _) | (with_reducible refine Frm.alloc ?_ _))⟩
  | false =>
    go_enter Try.func34, Try.ntmps34
    go_wp2_with fail
    go_quiet (fail)
    go_wp2_with fail
    go_quiet (fail)
    go_wp2_with fail
    go_quiet (fail)
    go_wp2_with fail
    go_light
    go_ret2
    refine ⟨rfl, (by repeat (first | exact HH.out | (with_reducible refine Rz.drewN ?_ _) | (with_reducible refine Rz.drew ?_) | (with_reducible refine Rz.alloc ?_ _))), by repeat (first | exact Frm.refl _ _ | (with_reducible refine Frm.drewN ?_ _) | (with_reducible refine Frm.alloc ?_ _))⟩

set_option maxRecDepth 100000 in
set_option maxHeartbeats 400000 in
theorem rdo_lock_in (k j v g : Int) (i : Nat) (w : World) (h : Rz w x c d vs ls) (hk : (k % 5 == 4) = false) (hk1 : (k % 5 == 0) = false) (hk2 : (k % 5 == 3) = true) (hk0 : 0 ≤ k) (hi : i < vs.length) :
    Calls Try.prog 34 #[.pointer (some ⟨x, 0, none⟩), .agg #[.int .u8 k, .int .i64 (i : Int), .int .i64 j, .int .u32 v, .int .u32 g]] w (RDo w x c d 0 (thr vs i) vs (lockL vs ls i)) := by
  obtain ⟨h0, h1⟩ := h.hd0
  obtain ⟨y, l, hy, hll, hy2, hcy, hcl, _, hfl⟩ := h.at_ hi
  have hr : inR vs (i : Int) = true := by unfold inR; exact decide_eq_true (by omega)
  have e1 : thr vs (i : Int) = 0 := by simp [thr, hr]
  have e2 : lockL vs ls (i : Int) = ls.set i true := by simp [lockL, hr]
  rw [e1, e2]
  have hm := h.most
  obtain ⟨hl1, hl2, hl3⟩ := h.lts
  have HH := Lib.hid (h.frm ((Frm.refl [] w).alloc (.cells #[.int .u8 k, .int .i64 (i : Int), .int .i64 j, .int .u32 v, .int .u32 g] 54)) (by simp) (by simp) (by simp))
  have hi0 : (0 : Int) ≤ (i : Int) := by omega
  have hi1 : (i : Int) < (vs.length : Int) := by omega
  have hd : decide ((i : Int) < 0) = false := by simp
  have hd2 : decide ((vs.length : Int) ≤ (i : Int)) = false := by simp; omega
  clear h hy hll e1 e2 hr
  go_enter Try.func34, Try.ntmps34
  go_wp2_with fail
  go_quiet (fail)
  go_wp2_with fail
  go_region
  go_wp2_with fail
  go_light
  go_ret2
  exact ⟨rfl, (HH.out.drewN _).lock hi true, (((Frm.refl _ _).alloc _).drewN _).setCell (.inl (by simp)) _⟩

theorem outB_false {n : Nat} {z : Int} (h : outB n z = false) : 0 ≤ z ∧ z / 32 < n := by
  simp [outB] at h
  omega
theorem outB_true {n : Nat} {z : Int} (h : outB n z = true) : z < 0 ∨ (n : Int) ≤ z / 32 := by
  simp [outB] at h
  omega
set_option maxRecDepth 100000 in
set_option maxHeartbeats 4000000 in
theorem rdo_set (k i j v g : Int) (w : World) (h : Rz w x c d vs ls) (hk : (k % 5 == 4) = true) (hk0 : 0 ≤ k) (hi9 : i ≤ 9223372036854775807) (hj9 : j ≤ 9223372036854775807) :
    Calls Try.prog 34 #[.pointer (some ⟨x, 0, none⟩), .agg #[.int .u8 k, .int .i64 i, .int .i64 j, .int .u32 v, .int .u32 g]] w (RDo w x c d 0 (setE vs.length [i, j]) (setV vs [i, j]) ls) := by
  obtain ⟨h0, h1⟩ := h.hd0
  have hm := h.most
  obtain ⟨hl1, hl2, hl3⟩ := h.lts
  have HH := Lib.hid ((h.alloc (.cells #[.int .u8 k, .int .i64 i, .int .i64 j, .int .u32 v, .int .u32 g] 54)).alloc (.cells #[.int .i64 i, .int .i64 j] 3))
  have HI9 := Lib.hid hi9
  have HJ9 := Lib.hid hj9
  clear h hi9 hj9
  go_enter Try.func34, Try.ntmps34
  go_wp2_with fail
  go_loopg [25] 2 (fun gg s25 wr => ((gg = 2 ∧ s25 = .int .i64 0) ∨ (gg = 1 ∧ s25 = .int .i64 1 ∧ outB vs.length i = false) ∨ (gg = 0 ∧ s25 = .int .i64 2 ∧ outB vs.length i = false ∧ outB vs.length j = false)) ∧
    wr = (w.alloc (.cells #[.int .u8 k, .int .i64 i, .int .i64 j, .int .u32 v, .int .u32 g] 54)).alloc (.cells #[.int .i64 i, .int .i64 j] 3))
  case atStart => exact ⟨.inl ⟨rfl, rfl⟩, rfl⟩
  case round =>
    obtain ⟨hrel, rfl⟩ := hrel
    rcases hrel with ⟨rfl, rfl⟩ | ⟨rfl, rfl, hoi⟩ | ⟨rfl, rfl, hoi, hoj⟩
    · cases hoi : outB vs.length i with
      | true =>
        have e1 : setE vs.length [i, j] = 9 := by simp [setE, anyOut, hoi]
        have e2 : setV vs [i, j] = vs := by simp [setV, anyOut, hoi]
        have E1 := Lib.hid e1
        have E2 := Lib.hid e2
        have hoi' := outB_true hoi
        clear e1 e2 hoi
        by_cases hi0 : i < 0
        · clear hoi'
          go_wp2_with fail
          go_light
          go_ret2
          rw [E1.out, E2.out]
          exact ⟨rfl, HH.out, ((Frm.refl _ _).alloc _).alloc _⟩
        · have hi1 : (vs.length : Int) ≤ i / 32 := by omega
          have hi2 : 0 ≤ i := by omega
          have hi9 := HI9.out
          clear hoi'
          go_wp2_with fail
          go_light
          go_ret2
          rw [E1.out, E2.out]
          exact ⟨rfl, HH.out, ((Frm.refl _ _).alloc _).alloc _⟩
      | false =>
        obtain ⟨hi2, hi1⟩ := outB_false hoi
        have HO := Lib.hid hoi
        clear hoi
        go_wp2_with fail
        go_light
        go_roundg 1
        case measure => omega
        case rel => exact ⟨.inr (.inl ⟨rfl, rfl, HO.out⟩), rfl⟩
    · cases hoj : outB vs.length j with
      | true =>
        have e1 : setE vs.length [i, j] = 9 := by simp [setE, anyOut, hoi, hoj]
        have e2 : setV vs [i, j] = vs := by simp [setV, anyOut, hoi, hoj]
        have E1 := Lib.hid e1
        have E2 := Lib.hid e2
        have hoi' := outB_true hoj
        clear e1 e2 hoi hoj
        by_cases hi0 : j < 0
        · clear hoi'
          go_wp2_with fail
          go_light
          go_ret2
          rw [E1.out, E2.out]
          exact ⟨rfl, HH.out, ((Frm.refl _ _).alloc _).alloc _⟩
        · have hi1 : (vs.length : Int) ≤ j / 32 := by omega
          have hi2 : 0 ≤ j := by omega
          have hi9 := HJ9.out
          clear hoi'
          go_wp2_with fail
          go_light
          go_ret2
          rw [E1.out, E2.out]
          exact ⟨rfl, HH.out, ((Frm.refl _ _).alloc _).alloc _⟩
      | false =>
        obtain ⟨hi2, hi1⟩ := outB_false hoj
        have HO := Lib.hid hoi
        have HO2 := Lib.hid hoj
        clear hoi hoj
        go_wp2_with fail
        go_light
        go_roundg 0
        case measure => omega
        case rel => exact ⟨.inr (.inr ⟨rfl, rfl, HO.out, HO2.out⟩), rfl⟩
    · obtain ⟨hi0, hi1⟩ := outB_false hoi
      obtain ⟨hj0, hj1⟩ := outB_false hoj
      have e1 : setE vs.length [i, j] = 0 := by simp [setE, anyOut, hoi, hoj]
      have e2 : setV vs [i, j] = setBits vs [i, j] := by simp [setV, anyOut, hoi, hoj]
      have E1 := Lib.hid e1
      have E2 := Lib.hid e2
      have HH2 := Lib.hid (HH.out.alloc (.cells #[.int .i64 i, .int .i64 j] 3))
      clear e1 e2 hoi hoj HH
      have hL := Blk.new ((w.alloc (.cells #[.int .u8 k, .int .i64 i, .int .i64 j, .int .u32 v, .int .u32 g] 54)).alloc (.cells #[.int .i64 i, .int .i64 j] 3)) 3 #[.int .i64 i, .int .i64 j]
      have hW1 : ((w.alloc (.cells #[.int .u8 k, .int .i64 i, .int .i64 j, .int .u32 v, .int .u32 g] 54)).alloc (.cells #[.int .i64 i, .int .i64 j] 3)).heap.size = w.heap.size + 1 + 1 := by simp
      rw [hW1] at hL
      clear hW1
      have HL := Lib.hid hL
      clear hL
      have hF3 : Frm [c, d] w (((w.alloc (.cells #[.int .u8 k, .int .i64 i, .int .i64 j, .int .u32 v, .int .u32 g] 54)).alloc (.cells #[.int .i64 i, .int .i64 j] 3)).alloc (.cells #[.int .i64 i, .int .i64 j] 3)) := (((Frm.refl _ _).alloc _).alloc _).alloc _
      have HF3 := Lib.hid hF3
      clear hF3
      go_wp2_with fail
      generalize hw3 : (((w.alloc (.cells #[.int .u8 k, .int .i64 i, .int .i64 j, .int .u32 v, .int .u32 g] 54)).alloc (.cells #[.int .i64 i, .int .i64 j] 3)).alloc (.cells #[.int .i64 i, .int .i64 j] 3)) = w3 at *
      clear hw3
      go_loopg [48] 2 (fun gg s48 wr => ∃ cur, ((gg = 2 ∧ s48 = .int .i64 0 ∧ cur = vs) ∨ (gg = 1 ∧ s48 = .int .i64 1 ∧ cur = setBit vs i) ∨ (gg = 0 ∧ s48 = .int .i64 2 ∧ cur = setBit (setBit vs i) j)) ∧ Rz wr x c d cur ls ∧ Frm [c, d] w3 wr)
      case atStart => exact ⟨vs, .inl ⟨rfl, rfl, rfl⟩, HH2.out, Frm.refl _ _⟩
      case round =>
        obtain ⟨cur, hrel, hRz, hFr⟩ := hrel
        have hLr := HL.out.frm hFr (by simp; omega)
        have hcell : wr.cell? ⟨w.heap.size + 1 + 1, 0, none⟩ = some (.int .i64 i) ∧ wr.cell? ⟨w.heap.size + 1 + 1, 1, none⟩ = some (.int .i64 j) := ⟨by rw [hLr.cell]; rfl, by rw [hLr.cell]; rfl⟩
        clear hLr
        rcases hrel with ⟨rfl, rfl, hcur⟩ | ⟨rfl, rfl, hcur⟩ | ⟨rfl, rfl, hcur⟩
        · have HCU := Lib.hid hcur
          obtain ⟨zn, rfl⟩ : ∃ zn : Nat, i = (zn : Int) := ⟨i.toNat, (Int.toNat_of_nonneg hi0).symm⟩
          have hcl : cur.length = vs.length := by rw [hcur]
          have hkk : zn / 32 < cur.length := by omega
          obtain ⟨y, l, hy, hll, hy2, hcy, hcl2, hfc, hfd⟩ := hRz.at_ hkk
          obtain ⟨hx0, hx1⟩ := hRz.hd0
          have HY := Lib.hid hy
          have hzm : zn % 32 < 32 := by omega
          rw [hcl] at hx0 hx1
          have hlt3 := hRz.lts
          have HR := Lib.hid hRz
          have HFr := Lib.hid hFr
          have HKK := Lib.hid hkk
          have hkv : zn / 32 < vs.length := by omega
          clear hRz hFr hy hll hcl hkk
          cases hb : y.testBit (zn % 32) with
          | true =>
            have hsb : setBit cur (zn : Int) = cur := setBit_has' HY.out (by rw [Nat.testBit_eq_decide_div_mod_eq] at hb; simpa using hb)
            have HSB := Lib.hid hsb
            have HB := Lib.hid hb
            clear hsb hb
            have hcc := hcell.1
            clear hcell
            go_wp2_with (go_at_call 37; (with_reducible refine (bit_at y (zn % 32) _ _ hzm (by omega)).mono ?_); rintro e w' ⟨rfl, rfl⟩; rw [HB.out])
            go_light
            go_roundg 1
            case measure => omega
            case rel => exact ⟨cur, .inr (.inl ⟨rfl, rfl, by rw [← HCU.out]; exact HSB.out.symm⟩), HR.out, HFr.out⟩
          | false =>
            have hb0 : y / 2 ^ (zn % 32) % 2 = 0 := by rw [Nat.testBit_eq_decide_div_mod_eq] at hb; simp at hb; omega
            have hsb : setBit cur (zn : Int) = cur.set (zn / 32) (y + 2 ^ (zn % 32)) := setBit_add' HY.out hb0
            have hor := or_add hb0
            have hpw : (2 : Nat) ^ (zn % 32) < 2 ^ 32 := Nat.pow_lt_pow_right (by decide) (by omega)
            have hlt : y + 2 ^ (zn % 32) < 4294967296 := by rw [← hor]; exact Nat.or_lt_two_pow (n := 32) hy2 hpw
            have hval : ((y : Int) + 2 ^ (zn % 32)) % 4294967296 = ((y + 2 ^ (zn % 32) : Nat) : Int) := by
              have e : ((2 : Int) ^ (zn % 32)) = ((2 ^ (zn % 32) : Nat) : Int) := by simp
              rw [e]
              generalize 2 ^ (zn % 32) = pp at *
              omega
            have HSB := Lib.hid hsb
            have HB := Lib.hid hb
            have HLT := Lib.hid hlt
            have HVAL := Lib.hid hval
            clear hsb hb hb0 hor hpw hlt hval
            have hcc := hcell.1
            clear hcell
            go_wp2_with (go_at_call 37; (with_reducible refine (bit_at y (zn % 32) _ _ hzm (by omega)).mono ?_); rintro e w' ⟨rfl, rfl⟩; rw [HB.out])
            go_region
            go_wp2_with fail
            go_light
            go_roundg 1
            case measure => omega
            case rel =>
              refine ⟨setBit cur (zn : Int), .inr (.inl ⟨rfl, rfl, by rw [HCU.out]⟩), ?_, ?_⟩
              · rw [HSB.out, HVAL.out]
                exact (HR.out.set HKK.out _ HLT.out).drew
              · exact HFr.out.trans ((Frm.refl _ _).setCell (.inl (by simp)) _).drew
        · have HCU := Lib.hid hcur
          obtain ⟨zn, rfl⟩ : ∃ zn : Nat, j = (zn : Int) := ⟨j.toNat, (Int.toNat_of_nonneg hj0).symm⟩
          have hcl : cur.length = vs.length := by rw [hcur, setBit_length]
          have hkk : zn / 32 < cur.length := by omega
          obtain ⟨y, l, hy, hll, hy2, hcy, hcl2, hfc, hfd⟩ := hRz.at_ hkk
          obtain ⟨hx0, hx1⟩ := hRz.hd0
          have HY := Lib.hid hy
          have hzm : zn % 32 < 32 := by omega
          rw [hcl] at hx0 hx1
          have hlt3 := hRz.lts
          have HR := Lib.hid hRz
          have HFr := Lib.hid hFr
          have HKK := Lib.hid hkk
          have hkv : zn / 32 < vs.length := by omega
          clear hRz hFr hy hll hcl hkk
          cases hb : y.testBit (zn % 32) with
          | true =>
            have hsb : setBit cur (zn : Int) = cur := setBit_has' HY.out (by rw [Nat.testBit_eq_decide_div_mod_eq] at hb; simpa using hb)
            have HSB := Lib.hid hsb
            have HB := Lib.hid hb
            clear hsb hb
            have hcc := hcell.2
            clear hcell
            go_wp2_with (go_at_call 37; (with_reducible refine (bit_at y (zn % 32) _ _ hzm (by omega)).mono ?_); rintro e w' ⟨rfl, rfl⟩; rw [HB.out])
            go_light
            go_roundg 0
            case measure => omega
            case rel => exact ⟨cur, .inr (.inr ⟨rfl, rfl, by rw [← HCU.out]; exact HSB.out.symm⟩), HR.out, HFr.out⟩
          | false =>
            have hb0 : y / 2 ^ (zn % 32) % 2 = 0 := by rw [Nat.testBit_eq_decide_div_mod_eq] at hb; simp at hb; omega
            have hsb : setBit cur (zn : Int) = cur.set (zn / 32) (y + 2 ^ (zn % 32)) := setBit_add' HY.out hb0
            have hor := or_add hb0
            have hpw : (2 : Nat) ^ (zn % 32) < 2 ^ 32 := Nat.pow_lt_pow_right (by decide) (by omega)
            have hlt : y + 2 ^ (zn % 32) < 4294967296 := by rw [← hor]; exact Nat.or_lt_two_pow (n := 32) hy2 hpw
            have hval : ((y : Int) + 2 ^ (zn % 32)) % 4294967296 = ((y + 2 ^ (zn % 32) : Nat) : Int) := by
              have e : ((2 : Int) ^ (zn % 32)) = ((2 ^ (zn % 32) : Nat) : Int) := by simp
              rw [e]
              generalize 2 ^ (zn % 32) = pp at *
              omega
            have HSB := Lib.hid hsb
            have HB := Lib.hid hb
            have HLT := Lib.hid hlt
            have HVAL := Lib.hid hval
            clear hsb hb hb0 hor hpw hlt hval
            have hcc := hcell.2
            clear hcell
            go_wp2_with (go_at_call 37; (with_reducible refine (bit_at y (zn % 32) _ _ hzm (by omega)).mono ?_); rintro e w' ⟨rfl, rfl⟩; rw [HB.out])
            go_region
            go_wp2_with fail
            go_light
            go_roundg 0
            case measure => omega
            case rel =>
              refine ⟨setBit cur (zn : Int), .inr (.inr ⟨rfl, rfl, by rw [HCU.out]⟩), ?_, ?_⟩
              · rw [HSB.out, HVAL.out]
                exact (HR.out.set HKK.out _ HLT.out).drew
              · exact HFr.out.trans ((Frm.refl _ _).setCell (.inl (by simp)) _).drew
        · go_wp2_with fail
          go_light
          go_ret2
          rw [E1.out, E2.out]
          refine ⟨rfl, ?_, HF3.out.trans hFr⟩
          show Rz wr x c d (setBit (setBit vs i) j) ls
          rw [← hcur]
          exact hRz
end Fuse
end Go.Proofs.Ytmcpppgnfmopoaa
