/-
  Texts of this claim, joined: SlotE, SlotF, SlotCi, SlotPl, SlotG, R1Join, R2A, R2B, EqDig, SlotAw, U8Ints, ShaTab, R1Same, RelF, ModeV.
-/
import Derived.Test.YtpakdcgcgekcfaaDoorJf4e3f3b5
import Derived.Test.YtpakdcgcgekcfaaDoorProg
import Derived.Test.YtpakdcgcgekcfaaDoorJ2beedb38
import Derived.Test.YtpakdcgcgekcfaaDoorJb4bf508a
import Derived.Deep.LoopGhost
import Derived.Deep.AppendLies
import Derived.ChangeKeysEq
import Derived.Laws.StructEq
import Derived.Deep.DeepCutAuto
import Derived.Test.YtpakdcgcgekcfaaDoorJ5e18a789
import Derived.Lib.LaidTab
import Derived.Test.YtpakdcgcgekcfaaDoorJa4691eff
set_option linter.unusedVariables false
/-
  Package slot: Mac, Lock, Locked, Dead.
-/
set_option linter.unusedSimpArgs false
set_option linter.unusedVariables false
namespace Go.Proofs.YtpakdcgcgekcfaaDoor
open Go.RowKit

namespace Slot
open Otp R1 Sha Mac
def macD (s : Slt) (h : Int) (ps : List (List Nat)) : List Nat := if keyE s h = 0 then macB (keyOf s h) ps.flatten else List.replicate 32 0
def DigErr (w : World) (D : List Nat) (E : Int) (e : Ending) (w' : World) : Prop := e = .returned (.tuple #[.agg (b8 D), .int .i64 E]) ∧ Below w.heap.size w w'
set_option maxRecDepth 100000 in
set_option maxHeartbeats 4000000 in
theorem smac_of (q : Value) (h : Int) (E : Nat) (k : List Nat) (ps : List (List Nat)) (PA : Option Addr) (pn pc : Nat) (w : World) (hT : STab w) (hkb : E = 0 → ∀ x ∈ k, x < 256)
    (HK : ∀ W, Below w.heap.size w W → Calls Tryd.prog 82 #[q, .int .i64 h] W (KeyOut W E k)) (hpn : ps.length = pn) (hpm : pn ≤ 1000) (hP : Parts w w.heap.size PA ps) (hm : ps.flatten.length ≤ 100000) :
    Calls Tryd.prog 39 #[q, .int .i64 h, .slice PA pn pc] w (DigErr w (if E = 0 then macB k ps.flatten else List.replicate 32 0) E) := by
  obtain ⟨W1, hW1⟩ : ∃ W, W = w.alloc (.cells (b8 (List.replicate 32 0)) 23) := ⟨_, rfl⟩
  have HW1 := Lib.hid hW1
  have HB1 := Lib.hid (show Below w.heap.size w W1 by rw [hW1]; exact (Below.refl _ w).alloc (Nat.le_refl _) _)
  have HR1 := Lib.hid (show Blk W1 w.heap.size 23 (b8 (List.replicate 32 0)) by rw [hW1]; exact Blk.new _ _ _)
  have HKY := Lib.hid (HK W1 HB1.out)
  have HT := Lib.hid hT
  have HP := Lib.hid hP
  have HKB := Lib.hid hkb
  clear hW1 HK hT hP hkb
  by_cases h0 : E = 0
  · subst h0
    obtain ⟨d, hd⟩ : ∃ d, macB k ps.flatten = d := ⟨_, rfl⟩
    rw [if_pos rfl, hd]
    have HDL := Lib.hid (show d.length = 32 by rw [← hd]; exact macB_length _ _)
    have HSD := Lib.hid (show (Tryd.prog.info? 23).map (·.size) = some (b8 d).size by rw [b8_size, HDL.out]; exact dig_info)
    have HZD := Lib.hid (show (b8 (List.replicate 32 0)).size = (b8 d).size by rw [b8_size, b8_size, HDL.out]; rfl)
    have HDV := Lib.hid (fun W (h : Below w.heap.size w W) A n c (hn : n = 32) (hkl : k.length = 32) (hN : Nats .u8 256 W W.heap.size A k) => macsum_any k A n c ps PA pn pc W (HT.out.old h) (by rw [hn]; exact hkl) (by omega) hN (HKB.out rfl) hpn (by omega) ((HP.out.below h).more h.size) (by omega))
    rw [hd] at HDV
    clear hd
    go_enter Tryd.func39, Tryd.ntmps39
    go_upto_region 1 with fail
    change Code.wp _ _ _ _ (w.alloc (.cells (b8 (List.replicate 32 0)) 23))
    rw [← HW1.out]
    go_wp2_with fail
    (with_reducible refine HKY.out.mono ?_); rintro e w3 ⟨A, n, c, rfl, hkey, hB3⟩
    obtain ⟨hn32, hnc, hkl, hN⟩ := hkey rfl
    have HKEY := Lib.hid hN
    have HB3 := Lib.hid (below_then HB1.out hB3 (Nat.le_refl _))
    have HR3 := Lib.hid (HR1.out.next hB3 rfl)
    have HN32 := Lib.hid hn32
    have HKL := Lib.hid hkl
    clear hkey hB3 hN hn32 HKY HR1 hkl hnc
    go_wp2_with fail
    (with_reducible refine (HDV.out w3 HB3.out A n c HN32.out HKL.out HKEY.out).mono ?_); rintro e w4 ⟨rfl, hB4⟩
    have HR4 := Lib.hid (HR3.out.next hB4 rfl)
    have HB4 := Lib.hid (below_then HB3.out hB4 (Nat.le_refl _))
    clear hB4 HR3 HKEY
    go_wp2_with (refine wpList_store_row rfl 23 (.tmp 6) _ rfl w.heap.size (b8 d) rfl rfl 23 (b8 (List.replicate 32 0)) HR4.out HSD.out HZD.out (b8_one _) ?_)
    have hb := setRow_heap _ _ _ (b8 d) _ _ HR4.out
    have hB := below_setRow HB4.out (Nat.le_refl _) (b8 d)
    go_light
    exact bodyPost_ret (v := .tuple #[.agg (b8 d), .int .i64 0]) (dig_end Tryd.results39 w.heap.size 0 d rfl rfl hb HDL.out) rfl ⟨rfl, hB⟩
  · have hne : (((E : Nat) : Int) != 0) = true := by rw [bne_iff_ne]; omega
    rw [if_neg h0]
    have HSD := Lib.hid (show (Tryd.prog.info? 23).map (·.size) = some (b8 (List.replicate 32 0)).size by rw [b8_size]; exact dig_info)
    clear HKB HP HT
    go_enter Tryd.func39, Tryd.ntmps39
    go_upto_region 1 with fail
    change Code.wp _ _ _ _ (w.alloc (.cells (b8 (List.replicate 32 0)) 23))
    rw [← HW1.out]
    go_wp2_with fail
    (with_reducible refine HKY.out.mono ?_); rintro e w3 ⟨A, n, c, rfl, hkey, hB3⟩
    have HB3 := Lib.hid (below_then HB1.out hB3 (Nat.le_refl _))
    have HR3 := Lib.hid (HR1.out.next hB3 rfl)
    clear hkey hB3 HKY HR1
    go_wp2_with (refine wpList_store_row rfl 23 (.tmp 6) _ rfl w.heap.size (b8 (List.replicate 32 0)) rfl rfl 23 (b8 (List.replicate 32 0)) HR3.out HSD.out rfl (b8_one _) ?_)
    have hb := setRow_heap _ _ _ (b8 (List.replicate 32 0)) _ _ HR3.out
    have hB := below_setRow HB3.out (Nat.le_refl _) (b8 (List.replicate 32 0))
    go_light
    exact bodyPost_ret (v := .tuple #[.agg (b8 (List.replicate 32 0)), .int .i64 (E : Int)]) (dig_end Tryd.results39 w.heap.size E (List.replicate 32 0) rfl rfl hb (by rw [List.length_replicate])) rfl ⟨rfl, hB⟩
theorem smac_any (g : Nat) (s : Slt) (h : Int) (ps : List (List Nat)) (PA : Option Addr) (pn pc : Nat) (w : World) (hT : STab w) (hS : Sl w g s) (hw : wfI h) (hpn : ps.length = pn) (hpm : pn ≤ 1000) (hP : Parts w w.heap.size PA ps) (hm : ps.flatten.length ≤ 100000) :
    Calls Tryd.prog 39 #[.pointer (some ⟨g, 0, none⟩), .int .i64 h, .slice PA pn pc] w (DigErr w (macD s h ps) (keyE s h)) :=
  smac_of _ h (keyE s h) (keyOf s h) ps PA pn pc w hT (fun h => (keyE_row h hS.ok).2) (fun W hb => key_any g s h W (hS.old hb) hw) hpn hpm hP hm
theorem smac_nil (h : Int) (ps : List (List Nat)) (PA : Option Addr) (pn pc : Nat) (w : World) (hT : STab w) (hpn : ps.length = pn) (hpm : pn ≤ 1000) (hP : Parts w w.heap.size PA ps) (hm : ps.flatten.length ≤ 100000) :
    Calls Tryd.prog 39 #[.pointer none, .int .i64 h, .slice PA pn pc] w (DigErr w (List.replicate 32 0) 3) :=
  smac_of _ h 3 [] ps PA pn pc w hT (fun h => by cases h) (fun W _ => key_nil h W) hpn hpm hP hm
def LkOut (w : World) (g : Nat) (s' : Slt) (e : Ending) (w' : World) : Prop := e = .returned (.tuple #[]) ∧ Sl w' g s' ∧ Frm [g] w w'
theorem slC_lock (s : Slt) (b : Bool) (h : s.Ok) : (slC s).set 264 (.bool b) = slC { s with lk := b } := by
  unfold slC
  rw [List.set_append_right _ _ (by rw [flat_len _ h.rows, List.length_map, h.len]; decide), flat_len _ h.rows, List.length_map, h.len]
  rfl
theorem slC_dead (s : Slt) (b : Bool) (h : s.Ok) : (slC s).set 265 (.bool b) = slC { s with dd := b } := by
  unfold slC
  rw [List.set_append_right _ _ (by rw [flat_len _ h.rows, List.length_map, h.len]; decide), flat_len _ h.rows, List.length_map, h.len]
  rfl
theorem Slt.Ok.flags {s : Slt} (h : s.Ok) (a b : Bool) : Slt.Ok { s with lk := a, dd := b } := ⟨h.len, h.key, h.byte, h.kind⟩
set_option maxRecDepth 100000 in
set_option maxHeartbeats 1000000 in
theorem lock_any (g : Nat) (s : Slt) (w : World) (hS : Sl w g s) : Calls Tryd.prog 49 #[.pointer (some ⟨g, 0, none⟩)] w (LkOut w g { s with lk := true }) := by
  have hc : w.cell? ⟨g, 264, none⟩ = some (.bool s.lk) := hS.cellAt hS.ok.lockAt
  have hf : w.frozen? ⟨g, 264, none⟩ = false := hS.blk.frozen _
  have hl := hS.lt
  have HE := Lib.hid (show Sl (w.setCell ⟨g, 264, none⟩ (.bool true)) g { s with lk := true } from ⟨hS.ok.flags true s.dd, by
    have := hS.blk.set 264 (.bool true)
    simp only [List.setIfInBounds_toArray] at this
    rw [slC_lock s true hS.ok] at this
    exact this⟩)
  have HF := Lib.hid (show Frm [g] w (w.setCell ⟨g, 264, none⟩ (.bool true)) from (Frm.refl _ _).setCell (p := ⟨g, 264, none⟩) (.inl (by simp)) _)
  clear hS
  go_enter Tryd.func49, Tryd.ntmps49
  go_wp2_with fail
  go_light
  go_end0
  exact ⟨rfl, HE.out, HF.out⟩
set_option maxHeartbeats 1000000 in
theorem lock_nil (w : World) : Calls Tryd.prog 49 #[.pointer none] w (fun e w' => e = .returned (.tuple #[]) ∧ w = w') := by
  go_enter Tryd.func49, Tryd.ntmps49
  go_wp2_with fail
  go_light
  go_end0
  exact ⟨rfl, rfl⟩
def BoolSame (w : World) (b : Bool) (e : Ending) (w' : World) : Prop := e = .returned (.bool b) ∧ w = w'
set_option maxHeartbeats 1000000 in
theorem locked_any (g : Nat) (s : Slt) (w : World) (hS : Sl w g s) : Calls Tryd.prog 51 #[.pointer (some ⟨g, 0, none⟩)] w (BoolSame w s.lk) := by
  have hc : w.cell? ⟨g, 264, none⟩ = some (.bool s.lk) := hS.cellAt hS.ok.lockAt
  clear hS
  generalize s.lk = b at *
  go_enter Tryd.func51, Tryd.ntmps51
  cases b
  all_goals
    go_wp2_with fail
    go_light
    go_ret
    exact ⟨rfl, rfl⟩
set_option maxHeartbeats 1000000 in
theorem locked_nil (w : World) : Calls Tryd.prog 51 #[.pointer none] w (BoolSame w false) := by
  go_enter Tryd.func51, Tryd.ntmps51
  go_wp2_with fail
  go_light
  go_ret
  exact ⟨rfl, rfl⟩
set_option maxHeartbeats 1000000 in
theorem dead_any (g : Nat) (s : Slt) (w : World) (hS : Sl w g s) : Calls Tryd.prog 52 #[.pointer (some ⟨g, 0, none⟩)] w (BoolSame w s.dd) := by
  have hc : w.cell? ⟨g, 265, none⟩ = some (.bool s.dd) := hS.cellAt hS.ok.deadAt
  clear hS
  generalize s.dd = b at *
  go_enter Tryd.func52, Tryd.ntmps52
  cases b
  all_goals
    go_wp2_with fail
    go_light
    go_ret
    exact ⟨rfl, rfl⟩
set_option maxHeartbeats 1000000 in
theorem dead_nil (w : World) : Calls Tryd.prog 52 #[.pointer none] w (BoolSame w false) := by
  go_enter Tryd.func52, Tryd.ntmps52
  go_wp2_with fail
  go_light
  go_ret
  exact ⟨rfl, rfl⟩
/-- Nothing in any place. -/
def zRow : Nat × List Nat := (0, List.replicate 32 0)
def zRows : List (Nat × List Nat) := List.replicate 8 zRow
def killSt (s : Slt) : Slt := { rs := zRows, lk := s.lk, dd := true }
theorem zRows_ok (a b : Bool) : Slt.Ok { rs := zRows, lk := a, dd := b } := by
  have h : ∀ p ∈ zRows, p = zRow := fun p hp => (List.mem_replicate.1 hp).2
  refine ⟨rfl, fun p hp => ?_, fun p hp x hx => ?_, fun p hp => ?_⟩ <;> rw [h p hp] at *
  · rfl
  · rw [(List.mem_replicate.1 hx).2]; decide
  · decide
theorem places_info : (Tryd.prog.info? 138).map (·.size) = some 264 := by kernel_rfl
set_option maxRecDepth 100000 in
set_option maxHeartbeats 4000000 in
theorem kill_any (g : Nat) (s : Slt) (w : World) (hS : Sl w g s) : Calls Tryd.prog 50 #[.pointer (some ⟨g, 0, none⟩)] w (LkOut w g (killSt s)) := by
  have HK := Lib.hid hS.blk
  have HSZ := Lib.hid hS.ok.size
  have HZL := Lib.hid (show ((zRows.map row).flatten).toArray.size = 264 by kernel_rfl)
  have HFT := Lib.hid (show 0 + ((zRows.map row).flatten).toArray.size ≤ (slC s).length by rw [HZL.out, HSZ.out]; decide)
  have HI := Lib.hid (show (Tryd.prog.info? 138).map (·.size) = some ((zRows.map row).flatten).toArray.size by rw [HZL.out]; exact places_info)
  have HSP := Lib.hid (show splice (slC s) 0 ((zRows.map row).flatten).toArray.toList = slC { rs := zRows, lk := s.lk, dd := s.dd } by
    unfold splice slC
    have h1 : ((zRows.map row).flatten).toArray.toList.length = 264 := by simpa using HZL.out
    rw [List.take_zero, List.nil_append, List.drop_append, List.drop_of_length_le (by rw [h1, flat_len _ hS.ok.rows, List.length_map, hS.ok.len]; decide), List.nil_append, h1, flat_len _ hS.ok.rows, List.length_map, hS.ok.len, show 0 + 264 - 33 * 8 = 0 from rfl, List.drop_zero, List.toList_toArray])
  have HO := Lib.hid (all_oneCell_toArray (cs := (zRows.map row).flatten) (fun v hv => by
    obtain ⟨r, hr, hv⟩ := List.mem_flatten.1 hv
    obtain ⟨p, _, rfl⟩ := List.mem_map.1 hr
    exact row_one p v hv))
  clear hS
  go_enter Tryd.func50, Tryd.ntmps50
  go_upto_region 2 with (refine wpList_store_frm rfl 138 (.tmp 7) (.tmp 5) rfl g 0 ((zRows.map row).flatten).toArray rfl (by kernel_rfl) 140 (slC s) HK.out HFT.out HI.out HO.out ?_; intro w2 K2 F2)
  rw [HSP.out] at K2
  have hk2 : Sl w2 g { rs := zRows, lk := s.lk, dd := s.dd } := ⟨zRows_ok _ _, K2⟩
  have hc : w2.cell? ⟨g, 265, none⟩ = some (.bool s.dd) := hk2.cellAt hk2.ok.deadAt
  have hf : w2.frozen? ⟨g, 265, none⟩ = false := hk2.blk.frozen _
  have hl := hk2.lt
  have HE := Lib.hid (show Sl (w2.setCell ⟨g, 265, none⟩ (.bool true)) g (killSt s) from ⟨zRows_ok _ _, by
    have := hk2.blk.set 265 (.bool true)
    simp only [List.setIfInBounds_toArray] at this
    rw [slC_dead _ true hk2.ok] at this
    exact this⟩)
  have HF := Lib.hid (show Frm [g] w (w2.setCell ⟨g, 265, none⟩ (.bool true)) from F2.setCell (p := ⟨g, 265, none⟩) (.inl (by simp)) _)
  clear hk2 K2 F2
  go_wp2_with fail
  go_light
  go_end0
  exact ⟨rfl, HE.out, HF.out⟩
set_option maxHeartbeats 1000000 in
theorem kill_nil (w : World) : Calls Tryd.prog 50 #[.pointer none] w (fun e w' => e = .returned (.tuple #[]) ∧ w = w') := by
  go_enter Tryd.func50, Tryd.ntmps50
  go_wp2_with fail
  go_light
  go_end0
  exact ⟨rfl, rfl⟩
end Slot
end Go.Proofs.YtpakdcgcgekcfaaDoor

/-
  Package slot: New, Count, Wipe.
-/
set_option linter.unusedSimpArgs false
set_option linter.unusedVariables false
namespace Go.Proofs.YtpakdcgcgekcfaaDoor
open Go.RowKit

namespace Slot
open Otp R1 Sha Mac
def newSt : Slt := { rs := zRows, lk := false, dd := false }
set_option maxRecDepth 100000 in
set_option maxHeartbeats 1000000 in
theorem snew_any (w : World) : Calls Tryd.prog 34 #[] w (fun e w' => e = .returned (.pointer (some ⟨w.heap.size, 0, none⟩)) ∧ Sl w' w.heap.size newSt ∧ Below w.heap.size w w') := by
  have HZ : (slC newSt).toArray = Tryd.zeroCells140 := by kernel_rfl
  have HK := Lib.hid (show Blk (w.alloc (.cells Tryd.zeroCells140 140)) w.heap.size 140 (slC newSt).toArray by rw [HZ]; exact Blk.new _ _ _)
  have HB := Lib.hid ((Below.refl _ w).alloc (Nat.le_refl _) (.cells Tryd.zeroCells140 140))
  clear HZ
  go_enter Tryd.func34, Tryd.ntmps34
  go_wp2_with fail
  go_light
  go_ret
  exact ⟨rfl, ⟨zRows_ok _ _, HK.out⟩, HB.out⟩
/-- How many of the first places aren't empty. -/
def cntE (s : Slt) : Nat → Nat
  | 0 => 0
  | i + 1 => cntE s i + (if kindE s (i : Int) = 0 then 0 else 1)
theorem cntE_le (s : Slt) : ∀ i, cntE s i ≤ i
  | 0 => Nat.le_refl _
  | i + 1 => by have := cntE_le s i; unfold cntE; split <;> omega
theorem wfI_small {h : Int} (h1 : -1000 ≤ h) (h2 : h ≤ 1000) : wfI h := by
  unfold wfI
  simp only [Lit.wf]
  have hm : IntKind.i64.min = -9223372036854775808 := by decide
  have hx : IntKind.i64.max = 9223372036854775807 := by decide
  rw [hm, hx]
  simp only [Bool.and_eq_true, decide_eq_true_eq]
  omega
set_option maxRecDepth 100000 in
set_option maxHeartbeats 2000000 in
theorem count_of (q : Value) (K : Nat → Nat) (w : World) (HK : ∀ (i : Nat) W, i < 8 → Below w.heap.size w W → Calls Tryd.prog 41 #[q, .int .i64 (i : Int)] W (IntBelow W (K i)))
    (C : Nat → Nat) (h0 : C 0 = 0) (hC : ∀ i, C (i + 1) = C i + (if K i = 0 then 0 else 1)) (hCl : ∀ i, C i ≤ i) : Calls Tryd.prog 42 #[q] w (IntBelow w (C 8)) := by
  have HKK := Lib.hid HK
  have HC := Lib.hid hC
  have HC0 := Lib.hid h0
  have HCL := Lib.hid hCl
  clear HK hC h0 hCl
  go_enter Tryd.func42, Tryd.ntmps42
  go_wp2_with fail
  go_loopg [3, 5] 8 (fun gm s3 s5 wr => ∃ (i c : Nat), i + gm = 8 ∧ s5 = .int .i64 (i : Int) ∧ s3 = .int .i64 (c : Int) ∧ Hid (c = C i) ∧ c ≤ i ∧ Hid (Below w.heap.size w wr))
  case atStart => exact ⟨0, 0, by omega, rfl, rfl, Lib.hid HC0.out.symm, Nat.le_refl _, Lib.hid (Below.refl _ _)⟩
  case round =>
    obtain ⟨i, c, hg, rfl, rfl, HCC, hci, HB⟩ := hrel
    have HG := Lib.hid hg
    have hi : i ≤ 8 := by omega
    clear hg
    by_cases hlt : i < 8
    · have HS := Lib.hid (HC.out i)
      obtain ⟨k, hk⟩ : ∃ k, K i = k := ⟨_, rfl⟩
      have HKI := Lib.hid (HKK.out i wr hlt HB.out)
      rw [hk] at HKI HS
      clear hk
      by_cases hk0 : k = 0
      · have hb : (((k : Nat) : Int) != 0) = false := by rw [bne_eq_false_iff_eq]; omega
        rw [if_pos hk0, Nat.add_zero] at HS
        go_wp2_with fail
        (with_reducible refine HKI.out.mono ?_); rintro e w2 ⟨rfl, hB⟩
        have HB2 := Lib.hid (below_then HB.out hB (Nat.le_refl _))
        clear hB
        go_wp2_with fail
        go_light
        go_roundg (8 - (i + 1))
        case measure => have := HG.out; omega
        case rel => exact ⟨i + 1, c, by omega, by go_num, rfl, Lib.hid (by have := HS.out; rw [HCC.out]; exact this.symm), by omega, HB2⟩
      · have hb : (((k : Nat) : Int) != 0) = true := by rw [bne_iff_ne]; omega
        rw [if_neg hk0] at HS
        go_wp2_with fail
        (with_reducible refine HKI.out.mono ?_); rintro e w2 ⟨rfl, hB⟩
        have HB2 := Lib.hid (below_then HB.out hB (Nat.le_refl _))
        clear hB
        go_wp2_with fail
        go_light
        go_roundg (8 - (i + 1))
        case measure => have := HG.out; omega
        case rel => exact ⟨i + 1, c + 1, by omega, by go_num, by go_num, Lib.hid (by have := HS.out; rw [HCC.out]; exact this.symm), by omega, HB2⟩
    · have : i = 8 := by omega
      subst this
      go_wp2_with fail
      go_light
      go_ret
      exact ⟨by rw [HCC.out]; rfl, HB.out⟩
end Slot
end Go.Proofs.YtpakdcgcgekcfaaDoor

/-
  Package slot: Cipher.
-/
set_option linter.unusedSimpArgs false
set_option linter.unusedVariables false
namespace Go.Proofs.YtpakdcgcgekcfaaDoor
open Go.RowKit

namespace Slot
open Otp R1 Sha Aes
def ciE (K : Nat) (kind : Int) (n : Nat) : Nat := if K ≠ 0 then K else if kind < 0 ∨ 2 < kind ∨ n % 16 ≠ 0 then 1 else 0
def ciM (key : List Nat) (kind : Int) (back : Bool) (st : List Nat) : Md := ⟨key, kind.toNat, back, st⟩
def ciO (K : Nat) (key : List Nat) (kind : Int) (back : Bool) (st p : List Nat) : List Nat := if ciE K kind p.length = 0 then (runM (ciM key kind back st) p (p.length / 16)).2 else []
def CipOut (w : World) (out : List Nat) (E : Nat) (e : Ending) (w' : World) : Prop := ∃ v, e = .returned (.tuple #[v, .int .i64 (E : Int)]) ∧ OwnB w' w.heap.size v out ∧ Below w.heap.size w w'
theorem ciM_ok {key : List Nat} {kind : Int} {back : Bool} {st : List Nat} (hk : key.length = 32) (hkb : ∀ x ∈ key, x < 256) (h1 : 0 ≤ kind) (h2 : kind ≤ 2) (hs : st.length = 16) (hsb : ∀ x ∈ st, x < 256) : (ciM key kind back st).Ok := ⟨⟨.inr hk, hkb⟩, by show kind.toNat ≤ 2; omega, hs, hsb⟩
set_option maxRecDepth 100000 in
set_option maxHeartbeats 4000000 in
theorem cipher_of (q : Value) (h kind : Int) (back : Bool) (st : List Nat) (PA : Option Addr) (n pc : Nat) (p : List Nat) (K : Nat) (key : List Nat) (w : World) (HK : ∀ W, Below w.heap.size w W → Calls Tryd.prog 82 #[q, .int .i64 h] W (KeyOut W K key)) (hkb : K = 0 → ∀ x ∈ key, x < 256)
    (hs : st.length = 16) (hsb : ∀ x ∈ st, x < 256) (hpl : p.length = n) (hnm : n ≤ 1000000) (hpc : n ≤ pc) (hz : Nats .u8 256 w w.heap.size PA p) :
    Calls Tryd.prog 48 #[q, .int .i64 h, .int .i64 kind, .bool back, .agg (b8 st), .slice PA n pc] w (CipOut w (ciO K key kind back st p) (ciE K kind p.length)) := by
  have HKY := wall HK
  have HSB := wall (show (Tryd.prog.info? 90).map (·.size) = some (b8 st).size by rw [b8_size, hs]; exact blk_info16)
  have HZ := wall hz
  have HZM := wall zM_eq.symm
  have HMF := wall (fun A L c (m : Md) (h : m.v.length = 16) => m2f A L c h)
  have HZF := wall zM_f
  have HPL := wall hpl
  obtain ⟨ZM, hZM⟩ : ∃ x, zM.toArray = x := ⟨_, rfl⟩
  obtain ⟨ZL, hZL⟩ : ∃ x, zM = x := ⟨_, rfl⟩
  have HZL := wall (show ZL.toArray = ZM by rw [← hZL]; exact hZM)
  have HZ0 := wall hZM
  rw [hZM] at HMF HZM
  rw [hZM, hZL] at HZF
  obtain ⟨w1, hw1⟩ : ∃ W, W = w.alloc (.cells (b8 st) 90) := ⟨_, rfl⟩
  have HW := wall hw1
  have HB1 := wall (show Below w.heap.size w w1 by rw [hw1]; exact (Below.refl _ w).alloc (Nat.le_refl _) _)
  have HS1 := wall (show Blk w1 w.heap.size 90 (b8 st) by rw [hw1]; exact Blk.new _ _ _)
  have HST := wall (And.intro hs hsb)
  have HKB := wall hkb
  clear hw1 hs hsb hpl hz hZM hZL HK hkb
  go_enter Tryd.func48, Tryd.ntmps48
  go_upto_region 1 with fail
  rw [← HW.out]
  clear HW
  go_wp2_with fail
  (with_reducible refine (HKY.out _ HB1.out).mono ?_); rintro e w2 ⟨KA, kn, kc, rfl, hk0, hB2⟩
  have HS2 := wall (HS1.out.next hB2 rfl)
  have HB2 := wall (below_then HB1.out hB2 (Nat.le_refl _))
  have HK0 := wall hk0
  clear hB2 hk0 HS1 HB1 HKY
  by_cases hK : K = 0
  · obtain ⟨rfl, hkc, hkl, hkn⟩ := HK0.out hK
    have HKN := wall hkn
    have HKL := wall (And.intro hkl (HKB.out hK))
    subst hK
    clear hkl hkn HK0 HKB
    by_cases hkd : kind < 0 ∨ 2 < kind
    · have HCE := wall (show ciE 0 kind p.length = 1 by rw [ciE, if_neg (by simp), if_pos (by omega)])
      have HCO := wall (show ciO 0 key kind back st p = [] by rw [ciO, HCE.out]; rfl)
      have HCN := wall (fun W (h : Below w2.heap.size w2 W) => show Calls Tryd.prog 55 #[.int .i64 kind, .bool back, .slice KA 32 kc, .agg (b8 st)] W (fun e w' => e = .returned (.tuple #[.agg ZM, .int .i64 1]) ∧ Below W.heap.size W w') by
        rw [← HZ0.out]
        exact mnew_badkind KA 32 kc key kind back st W ⟨.inr HKL.out.1, HKL.out.2⟩ HKL.out.1.symm ((HKN.out.below h).more h.size) hkd HST.out.1)
      have HZQ := wall (show (Tryd.prog.info? 96).map (·.size) = some ZM.size ∧ ZM.all (·.oneCell') = true by have h := HZF.out; rw [M2F, HZL.out] at h; exact ⟨h.1, h.2.2⟩)
      clear hkd
      go_wp2_with (refine wpList_load_row rfl 90 _ rfl w.heap.size rfl 90 (b8 st) (0, 0) _ HS2.out Tryd.underlying90 rfl HSB.out ?_)
      (with_reducible refine (HCN.out _ (Below.refl _ _)).mono ?_); rintro e w3 ⟨rfl, hB3⟩
      have HB3 := wall (below_then HB2.out hB3 (Nat.le_refl _))
      clear hB3 HCN HS2
      go_upto_region 5 with (refine wpList_new_row rfl 96 (.tmp 16) (.tmp 34) rfl w3.heap.size ZM rfl rfl 96 ZM (by rw [← HZM.out]; exact Blk.new _ _ _) HZQ.out.1 rfl HZQ.out.2 w3.heap.size w3 ((Below.refl _ w3).alloc (Nat.le_refl _) _) (Nat.le_refl _) ?_; intro w4 K4 B4)
      have HB4 := wall (below_then HB3.out B4.out (Nat.le_refl _))
      clear K4 B4
      go_wp2_with fail
      go_light
      go_ret2
      exact ⟨.slice none 0 0, by rw [HCE.out]; rfl, by rw [HCO.out]; exact World.ownsRow_nil _ _ _ _, HB4.out⟩
    · have hkk : kind = ((ciM key kind back st).kind : Nat) := by show kind = (kind.toNat : Int); omega
      have hok : (ciM key kind back st).Ok := ciM_ok HKL.out.1 HKL.out.2 (by omega) (by omega) HST.out.1 HST.out.2
      have HCN := wall (fun W (h : Below w2.heap.size w2 W) => show Calls Tryd.prog 55 #[.int .i64 kind, .bool back, .slice KA 32 kc, .agg (b8 st)] W (MnOut W (ciM key kind back st)) from mnew_any KA 32 kc kind (ciM key kind back st) W hok hkk HKL.out.1.symm ((HKN.out.below h).more h.size))
      have HCE0 := wall (show ciE 0 kind p.length = if p.length % 16 = 0 then 0 else 1 by
        rw [ciE, if_neg (by simp)]
        by_cases h16 : p.length % 16 = 0
        · rw [if_neg (by omega), if_pos h16]
        · rw [if_pos (by omega), if_neg h16])
      have HCO0 := wall (show ciO 0 key kind back st p = if p.length % 16 = 0 then (runM (ciM key kind back st) p (p.length / 16)).2 else [] by
        rw [ciO, HCE0.out]
        by_cases h16 : p.length % 16 = 0
        · rw [if_pos h16, if_pos rfl, if_pos h16]
        · rw [if_neg h16, if_neg (by decide), if_neg h16])
      obtain ⟨m, hm⟩ : ∃ m, ciM key kind back st = m := ⟨_, rfl⟩
      rw [hm] at HCN HCO0 hok
      have HOK := wall hok
      clear hkd hkk hm hok
      go_wp2_with (refine wpList_load_row rfl 90 _ rfl w.heap.size rfl 90 (b8 st) (0, 0) _ HS2.out Tryd.underlying90 rfl HSB.out ?_)
      (with_reducible refine (HCN.out _ (Below.refl _ _)).mono ?_); rintro e w3 ⟨MA, L, Mc, rfl, hkv, hB3⟩
      have HB3 := wall (below_then HB2.out hB3 (Nat.le_refl _))
      have HM1 := wall (HMF.out MA L Mc m HOK.out.len)
      have HKV := wall hkv
      have HRN := wall (fun W (h : Below w3.heap.size w3 W) (hd : p.length % 16 = 0) => run_any MA L Mc m PA n (p.length / 16) pc p W HOK.out ((HKV.out.below h).more h.size) HPL.out (by have := HPL.out; omega) hnm hpc ((HZ.out.below (HB3.out.trans (h.mono HB3.out.size))).more (Nat.le_trans HB3.out.size h.size)))
      have HRB := wall (fun W (hd : n % 16 ≠ 0) => run_bad MA L Mc m PA n pc W HOK.out.len hd (by simp only [maxLen]; omega))
      have HRO := wall (fun (hd : p.length % 16 = 0) => HMF.out MA L Mc (runM m p (p.length / 16)).1 (runM_ok HOK.out (p := p) (fun x hx => by
        obtain ⟨i, hi⟩ := List.mem_iff_getElem?.1 hx
        exact (HZ.out i x hi).1) (p.length / 16) (by omega)).1.len)
      unfold RunOut at HRN
      unfold RunBad at HRB
      obtain ⟨CL, hCL⟩ : ∃ x, mV MA L Mc m = x := ⟨_, rfl⟩
      rw [hCL] at HM1 HRN HRB ⊢
      clear hB3 HCN HS2 hkv hCL
      go_upto_region 5 with (refine wpList_new_row rfl 96 (.tmp 16) (.tmp 34) rfl w3.heap.size CL.toArray rfl rfl 96 ZM (by rw [← HZM.out]; exact Blk.new _ _ _) HM1.out.1 HM1.out.2.1 HM1.out.2.2 w3.heap.size w3 ((Below.refl _ w3).alloc (Nat.le_refl _) _) (Nat.le_refl _) ?_; intro w4 K4 B4)
      have HK4 := wall K4.out
      have HB4 := wall B4.out
      clear K4 B4
      by_cases h16 : n % 16 = 0
      · have hp16 : p.length % 16 = 0 := by rw [HPL.out]; exact h16
        have hcall := HRN.out _ HB4.out hp16
        have hro := HRO.out hp16
        have hce := HCE0.out
        have hco := HCO0.out
        rw [if_pos hp16] at hce hco
        obtain ⟨⟨q, out⟩, hqo⟩ : ∃ x, runM m p (p.length / 16) = x := ⟨_, rfl⟩
        rw [hqo] at hcall hro hco
        simp only at hcall hro hco
        obtain ⟨CQ, hCQ⟩ : ∃ x, mV MA L Mc q = x := ⟨_, rfl⟩
        rw [hCQ] at hcall hro
        have HCALL := wall hcall
        have HQ := wall hro
        have HCE := wall hce
        have HCO := wall hco
        clear hcall hro hqo hCQ hce hco hp16 HRN HRB HRO HKV
        go_wp2_with (refine wpList_load_row rfl 96 _ rfl w3.heap.size rfl 96 CL.toArray (0, 0) _ HK4.out Tryd.underlying96 rfl HM1.out.1 ?_)
        (with_reducible refine (HCALL.out).mono ?_); rintro e w5 ⟨v5, rfl, hO5, hB5⟩
        have HO5 := wall (show OwnB w5 w.heap.size v5 out from own_less hO5 (Nat.le_trans HB3.out.size HB4.out.size))
        have HB5 := wall (show Below w.heap.size w w5 from HB3.out.trans ((HB4.out.trans (hB5.mono HB4.out.size)).mono HB3.out.size))
        clear hO5 hB5 HB3 HB4 HK4 HCALL
        go_upto_region 8 with (refine wpList_new_row rfl 96 (.tmp 17) (.tmp 43) rfl w5.heap.size CQ.toArray rfl rfl 96 ZM (by rw [← HZM.out]; exact Blk.new _ _ _) HQ.out.1 HQ.out.2.1 HQ.out.2.2 w5.heap.size w5 ((Below.refl _ w5).alloc (Nat.le_refl _) _) (Nat.le_refl _) ?_; intro w6 K6 B6)
        have HO6 := wall (show OwnB w6 w.heap.size v5 out from own_frm HO5.out (Frm.of_below (S := []) B6.out) (fun x hx => by simp at hx))
        have HB6 := wall (show Below w.heap.size w w6 from HB5.out.trans (B6.out.mono HB5.out.size))
        clear K6 B6 HO5 HB5
        go_wp2_with fail
        go_light
        go_ret2
        exact ⟨v5, by rw [HCE.out]; rfl, by rw [HCO.out]; exact HO6.out, HB6.out⟩
      · have hp16 : ¬ p.length % 16 = 0 := by rw [HPL.out]; exact h16
        have hcall := HRB.out w4 h16
        have hce := HCE0.out
        have hco := HCO0.out
        rw [if_neg hp16] at hce hco
        have HCALL := wall hcall
        have HCE := wall hce
        have HCO := wall hco
        clear hcall hce hco hp16 HRN HRB HRO HKV
        go_wp2_with (refine wpList_load_row rfl 96 _ rfl w3.heap.size rfl 96 CL.toArray (0, 0) _ HK4.out Tryd.underlying96 rfl HM1.out.1 ?_)
        (with_reducible refine (HCALL.out).mono ?_); rintro e w5 ⟨rfl, hB5⟩
        have HB5 := wall (show Below w.heap.size w w5 from HB3.out.trans ((HB4.out.trans (hB5.mono HB4.out.size)).mono HB3.out.size))
        clear hB5 HB3 HB4 HK4 HCALL
        go_upto_region 8 with (refine wpList_new_row rfl 96 (.tmp 17) (.tmp 43) rfl w5.heap.size CL.toArray rfl rfl 96 ZM (by rw [← HZM.out]; exact Blk.new _ _ _) HM1.out.1 HM1.out.2.1 HM1.out.2.2 w5.heap.size w5 ((Below.refl _ w5).alloc (Nat.le_refl _) _) (Nat.le_refl _) ?_; intro w6 K6 B6)
        have HB6 := wall (show Below w.heap.size w w6 from HB5.out.trans (B6.out.mono HB5.out.size))
        clear K6 B6 HB5
        go_wp2_with fail
        go_light
        go_ret2
        exact ⟨.slice none 0 0, by rw [HCE.out]; rfl, by rw [HCO.out]; exact World.ownsRow_nil _ _ _ _, HB6.out⟩
  · have HCE := wall (show ciE K kind p.length = K by rw [ciE, if_pos hK])
    have HCO := wall (show ciO K key kind back st p = [] by rw [ciO, HCE.out, if_neg hK])
    have hKne : ((K : Int) != 0) = true := by rw [bne_iff_ne]; omega
    go_wp2_with fail
    go_light
    go_ret2
    exact ⟨.slice none 0 0, by rw [HCE.out]; rfl, by rw [HCO.out]; exact World.ownsRow_nil _ _ _ _, HB2.out⟩
end Slot
end Go.Proofs.YtpakdcgcgekcfaaDoor

/-
  Package slot, plain: wiping, counting, a chain of keys.
-/
set_option linter.unusedSimpArgs false
set_option linter.unusedVariables false
namespace Go.Proofs.YtpakdcgcgekcfaaDoor
open Go.RowKit

namespace Slot
open Otp R1 Sha Mac
theorem mayE_in {s : Slt} (hd : s.dd = false) {i : Nat} (hi : i < 8) : mayE s [(i : Int)] = 0 := by
  unfold mayE
  rw [hd, if_neg (by decide), if_pos]
  simp [inR]
  omega
theorem mayE_put (s : Slt) (i : Nat) (p : Nat × List Nat) (l : List Int) : mayE (s.put i p) l = mayE s l := rfl
theorem row_put {s : Slt} (hok : s.Ok) {i : Nat} (hi : i < 8) (p : Nat × List Nat) (j : Nat) : (s.put i p).rs[j]? = if i = j then some p else s.rs[j]? := by
  show (s.rs.set i p)[j]? = _
  rw [List.getElem?_set]
  by_cases h : i = j
  · rw [if_pos h, if_pos h, if_pos (by rw [hok.len]; exact hi)]
  · rw [if_neg h, if_neg h]
theorem kindE_put {s : Slt} (hok : s.Ok) (hd : s.dd = false) {i : Nat} (hi : i < 8) (p : Nat × List Nat) (h : Int) : kindE (s.put i p) h = if h = (i : Int) then p.1 else kindE s h := by
  unfold kindE
  rw [mayE_put]
  by_cases h0 : mayE s [h] = 0
  · obtain ⟨_, h1, h2⟩ := mayE_zero h0
    rw [if_pos h0, if_pos h0, row_put hok hi]
    by_cases hh : h = (i : Int)
    · rw [if_pos hh, if_pos (by omega)]
      rfl
    · rw [if_neg hh, if_neg (by omega)]
  · have hne : h ≠ (i : Int) := by
      rintro rfl
      exact h0 (mayE_in hd hi)
    rw [if_neg h0, if_neg h0, if_neg hne]
theorem keyOf_put {s : Slt} (hok : s.Ok) {i : Nat} (hi : i < 8) (p : Nat × List Nat) (j : Nat) : keyOf (s.put i p) (j : Int) = if i = j then p.2 else keyOf s (j : Int) := by
  unfold keyOf
  rw [Int.toNat_natCast, row_put hok hi]
  by_cases hh : i = j
  · rw [if_pos hh, if_pos hh]
    rfl
  · rw [if_neg hh, if_neg hh]
theorem kindE_out {s : Slt} {h : Int} (hh : ¬ (0 ≤ h ∧ h < 8)) : kindE s h = 0 := by
  unfold kindE
  rw [if_neg]
  intro h0
  exact hh (mayE_zero h0).2
theorem kindE_ok {s : Slt} {h : Int} (hk : kindE s h ≠ 0) : s.dd = false ∧ 0 ≤ h ∧ h < 8 := by
  unfold kindE at hk
  split at hk
  · rename_i h0
    exact mayE_zero h0
  · exact absurd rfl hk
/-- A chain of n + 1 keys, the last one k. -/
structure Chn (s : Slt) (n : Nat) (k : List Nat) : Prop where
  ok : s.Ok
  le : n < 8
  lk : s.lk = false
  dd : s.dd = false
  kind : ∀ j : Nat, j < 8 → kindE s (j : Int) = if j = 0 then 1 else if j ≤ n then 2 else 0
  key : keyOf s (n : Int) = k
  byte : ∀ x ∈ k, x < 256
  len : k.length = 32
theorem newSt_kind (j : Nat) (hj : j < 8) : kindE newSt (j : Int) = 0 := by
  unfold kindE
  rw [if_pos (mayE_in rfl hj), Int.toNat_natCast]
  have : newSt.rs[j]? = some zRow := by
    show zRows[j]? = _
    unfold zRows
    rw [List.getElem?_replicate, if_pos hj]
  rw [this]
  rfl
theorem newSt_ok : newSt.Ok := zRows_ok _ _
theorem lay_new (key : List Nat) : layE newSt 0 1 = 0 ∧ laySt newSt 0 1 key = newSt.put 0 (1, key) := by
  have h : layE newSt 0 1 = 0 := by
    unfold layE
    have h1 : mayE newSt [0] = 0 := mayE_in (s := newSt) rfl (i := 0) (by decide)
    have h2 : kindE newSt 0 = 0 := newSt_kind 0 (by decide)
    rw [h1, h2, if_neg (by decide), if_neg (by decide), if_neg (by decide), if_neg (by decide)]
  exact ⟨h, by unfold laySt; rw [h]; rfl⟩
theorem chn_start {key : List Nat} (hl : key.length = 32) (hb : ∀ x ∈ key, x < 256) : Chn (newSt.put 0 (1, key)) 0 key := by
  refine ⟨newSt_ok.put 0 hl hb (by simp), by decide, rfl, rfl, fun j hj => ?_, ?_, hb, hl⟩
  · rw [kindE_put newSt_ok rfl (by decide), newSt_kind j hj]
    by_cases h : j = 0
    · subst h; rfl
    · rw [if_neg (by omega), if_neg h, if_neg (by omega)]
  · have := keyOf_put newSt_ok (i := 0) (by decide) (1, key) 0
    rw [if_pos rfl] at this
    exact this
section
variable {s : Slt} {n : Nat} {k : List Nat}
theorem Chn.has (h : Chn s n k) {j : Nat} (hj : j ≤ n) : kindE s (j : Int) ≠ 0 := by
  have hn := h.le
  rw [h.kind j (by omega)]
  by_cases h0 : j = 0
  · rw [if_pos h0]; decide
  · rw [if_neg h0, if_pos hj]; decide
theorem Chn.keyE (h : Chn s n k) {j : Nat} (hj : j ≤ n) : keyE s (j : Int) = 0 := by
  have hn := h.le
  unfold Slot.keyE
  rw [mayE_in h.dd (show j < 8 by omega), if_neg (by decide), if_neg (h.has hj)]
theorem Chn.der (h : Chn s n k) (hn : n < 7) (lb : List Nat) (ps : List (List Nat)) : derE s (n : Int) ((n + 1 : Nat) : Int) = 0 ∧ ∃ s', derSt s (n : Int) ((n + 1 : Nat) : Int) lb ps = s' ∧ Chn s' (n + 1) (deriveB k lb ps) := by
  have h1 : mayE s [(n : Int), ((n + 1 : Nat) : Int)] = 0 := by
    unfold mayE
    rw [h.dd, if_neg (by decide), if_pos]
    simp [inR]
    omega
  have h2 : kindE s ((n + 1 : Nat) : Int) = 0 := by
    rw [h.kind (n + 1) (by omega), if_neg (by omega), if_neg (by omega)]
  have hE : derE s (n : Int) ((n + 1 : Nat) : Int) = 0 := by
    unfold derE
    rw [h1, h2, h.keyE (Nat.le_refl _), if_neg (by decide), if_neg (by decide), if_neg (by decide)]
  refine ⟨hE, _, rfl, ?_⟩
  have hdl := deriveB_length k lb ps
  have hdb := deriveB_byte k lb ps
  unfold derSt
  rw [if_pos hE, Int.toNat_natCast, h.key]
  refine ⟨h.ok.put (n + 1) hdl hdb (by simp), by omega, h.lk, h.dd, fun j hj => ?_, ?_, hdb, hdl⟩
  · rw [kindE_put h.ok h.dd (by omega)]
    by_cases hj1 : (j : Int) = ((n + 1 : Nat) : Int)
    · rw [if_pos hj1, if_neg (by omega), if_pos (by omega)]
    · rw [if_neg hj1, h.kind j hj]
      by_cases h0 : j = 0
      · rw [if_pos h0, if_pos h0]
      · rw [if_neg h0, if_neg h0]
        by_cases hjn : j ≤ n
        · rw [if_pos hjn, if_pos (by omega)]
        · rw [if_neg hjn, if_neg (by omega)]
  · rw [keyOf_put h.ok (by omega), if_pos rfl]
theorem Chn.mac (h : Chn s n k) (ps : List (List Nat)) : macD s (n : Int) ps = macB k ps.flatten := by
  unfold macD
  rw [h.keyE (Nat.le_refl _), if_pos rfl, h.key]
theorem Chn.two (h : Chn s n k) (h1 : 1 ≤ n) : kindE s (n : Int) = 2 := by
  rw [h.kind n h.le, if_neg (by omega), if_pos (Nat.le_refl _)]
theorem Chn.cnt (h : Chn s n k) : cntE s 8 = n + 1 := by
  have hn := h.le
  have key : ∀ i, i ≤ 8 → cntE s i = min i (n + 1) := by
    intro i
    induction i with
    | zero => intro _; simp [cntE]
    | succ i ih =>
      intro hi
      rw [cntE, ih (by omega), h.kind i (by omega)]
      by_cases h0 : i = 0
      · subst h0; simp
      · rw [if_neg h0]
        by_cases hin : i ≤ n
        · rw [if_pos hin, if_neg (by decide)]; omega
        · rw [if_neg hin, if_pos rfl]; omega
  rw [key 8 (Nat.le_refl _)]
  omega
end
/-- A place is emptied, and counted. -/
def wipeOne (s : Slt) (h : Int) : Slt := if kindE s h = 0 then s else s.put h.toNat zRow
def wipe1 (p : Slt × Nat) (h : Int) : Slt × Nat := (wipeOne p.1 h, p.2 + if kindE p.1 h = 0 then 0 else 1)
def wipeL (s : Slt) (l : List Int) : Slt × Nat := l.foldl wipe1 (s, 0)
theorem wipeL_snoc (s : Slt) (l : List Int) (h : Int) : wipeL s (l ++ [h]) = wipe1 (wipeL s l) h := by
  unfold wipeL
  rw [List.foldl_append]
  rfl
theorem zRow_ok : zRow.2.length = 32 ∧ (∀ x ∈ zRow.2, x < 256) ∧ zRow.1 ≤ 3 := ⟨rfl, fun x hx => by rw [(List.mem_replicate.1 hx).2]; decide, by decide⟩
theorem wipeOne_ok {s : Slt} (hok : s.Ok) (h : Int) : (wipeOne s h).Ok := by
  unfold wipeOne
  split
  · exact hok
  · exact hok.put _ zRow_ok.1 zRow_ok.2.1 zRow_ok.2.2
theorem wipeL_le (s : Slt) (l : List Int) : (wipeL s l).2 ≤ l.length := by
  have key : ∀ (l : List Int) (p : Slt × Nat), (l.foldl wipe1 p).2 ≤ p.2 + l.length := by
    intro l
    induction l with
    | nil => intro p; exact Nat.le_refl _
    | cons a l ih =>
      intro p
      have := ih (wipe1 p a)
      rw [List.foldl_cons, List.length_cons]
      have h2 : (wipe1 p a).2 ≤ p.2 + 1 := by
        unfold wipe1
        simp only
        split <;> omega
      omega
  have := key l (s, 0)
  simpa [wipeL] using this
theorem wipe_kind {s : Slt} (hok : s.Ok) (hd : s.dd = false) (h : Int) (j : Int) : kindE (wipeOne s h) j = if j = h then 0 else kindE s j := by
  unfold wipeOne
  by_cases h0 : kindE s h = 0
  · rw [if_pos h0]
    by_cases hj : j = h
    · rw [if_pos hj, hj, h0]
    · rw [if_neg hj]
  · rw [if_neg h0]
    obtain ⟨_, h1, h2⟩ := kindE_ok h0
    rw [kindE_put hok hd (by omega)]
    by_cases hj : j = h
    · rw [if_pos hj, if_pos (by omega)]
      rfl
    · rw [if_neg hj, if_neg (by omega)]
theorem Chn.wipe {s : Slt} {n : Nat} {k : List Nat} (h : Chn s n k) : (wipeL s [0, 0, (n : Int)]).2 = 1 + min n 1 := by
  have h0 : kindE s 0 ≠ 0 := h.has (j := 0) (Nat.zero_le _)
  have hn : kindE s (n : Int) ≠ 0 := h.has (Nat.le_refl _)
  have hok1 := wipeOne_ok h.ok 0
  have hd1 : (wipeOne s 0).dd = false := by unfold wipeOne; rw [if_neg h0]; exact h.dd
  have k1 : kindE (wipeOne s 0) 0 = 0 := by rw [wipe_kind h.ok h.dd, if_pos rfl]
  have k2 : kindE (wipeOne (wipeOne s 0) 0) (n : Int) = if n = 0 then 0 else kindE s (n : Int) := by
    rw [wipe_kind hok1 hd1, wipe_kind h.ok h.dd]
    by_cases hz : n = 0
    · subst hz; rfl
    · rw [if_neg hz, if_neg (by omega), if_neg (by omega)]
  simp only [wipeL, List.foldl_cons, List.foldl_nil, wipe1]
  rw [if_neg h0, k1, if_pos rfl, k2]
  by_cases hz : n = 0
  · subst hz; rfl
  · rw [if_neg hz, if_neg hn]
    omega
theorem wipe_none (s : Slt) : (wipeL s [-1, 9]).2 = 0 ∧ (wipeL s [-1, 9]).1 = s := by
  have h1 : kindE s (-1) = 0 := kindE_out (by decide)
  have h2 : wipeOne s (-1) = s := by unfold wipeOne; rw [if_pos h1]
  have h3 : kindE s 9 = 0 := kindE_out (by decide)
  have h4 : wipeOne s 9 = s := by unfold wipeOne; rw [if_pos h3]
  simp only [wipeL, List.foldl_cons, List.foldl_nil, wipe1]
  rw [h2, h4, h1, h3]
  exact ⟨rfl, rfl⟩
end Slot
end Go.Proofs.YtpakdcgcgekcfaaDoor

/-
  Package slot: Wipe; Cipher of nil slots; the reference's Text.
-/
set_option linter.unusedSimpArgs false
set_option linter.unusedVariables false
namespace Go.Proofs.YtpakdcgcgekcfaaDoor
open Go.RowKit

theorem ints_far {k : IntKind} {w w' : World} {S : List Nat} {B : Nat} {A : Option Addr} {zs : List Int} (h : Ints k w B A zs) (hB : B ≤ w.heap.size) (hf : Frm S w w') (hA : ∀ ad : Addr, A = some ad → ad.block ∉ S) : Ints k w' B A zs := fun i z hz => by
  obtain ⟨h1, b, off, h2, h3, h4⟩ := h i z hz
  refine ⟨h1, b, off, h2, h3, ?_⟩
  rw [← h4]
  exact World.cell?_of_block (hf.block b (by omega) (hA _ h2))
namespace Slot
open Otp R1 Sha Mac
set_option maxRecDepth 100000 in
set_option maxHeartbeats 4000000 in
theorem swipe_any (g : Nat) (s : Slt) (A : Option Addr) (l : List Int) (n c : Nat) (w : World) (hS : Sl w g s) (hl : l.length = n) (hn : n ≤ 1000000) (hz : Ints .i64 w w.heap.size A l) (hA : ∀ ad : Addr, A = some ad → ad.block ≠ g) :
    Calls Tryd.prog 43 #[.pointer (some ⟨g, 0, none⟩), .slice A n c] w (WrOut w g (wipeL s l).2 (wipeL s l).1) := by
  subst hl
  have HN := Lib.hid hz
  have HA := Lib.hid hA
  have HZ := Lib.hid (show (row zRow).toArray.size = 33 from row_size (p := zRow) rfl)
  have HO := Lib.hid (all_oneCell_toArray (row_one zRow))
  have HI := Lib.hid (show (Tryd.prog.info? 137).map (·.size) = some (row zRow).toArray.size by rw [HZ.out]; exact place_info)
  have HS0 := Lib.hid hS
  clear hz hA hS
  go_enter Tryd.func43, Tryd.ntmps43
  go_wp2_with fail
  go_loopg [5, 10] l.length (fun gm s5 s10 wr => ∃ (i c : Nat) (st : Slt), i + gm = l.length ∧ s10 = .int .i64 (i : Int) ∧ s5 = .int .i64 (c : Int) ∧ Hid (wipeL s (l.take i) = (st, c)) ∧ c ≤ i ∧ Hid (Sl wr g st) ∧ Hid (Frm [g] w wr))
  case atStart => exact ⟨0, 0, s, by omega, rfl, rfl, Lib.hid rfl, Nat.le_refl _, HS0, Lib.hid (Frm.refl _ _)⟩
  case round =>
    obtain ⟨i, cn, st, hg, rfl, rfl, HW, hci, HS, HF⟩ := hrel
    have HG := Lib.hid hg
    have hi : i ≤ l.length := by omega
    clear hg
    by_cases hlt : i < l.length
    · obtain ⟨z, hx⟩ : ∃ z, l[i]? = some z := ⟨_, List.getElem?_eq_getElem hlt⟩
      obtain ⟨hwz, b, off, rfl, hb, hcx⟩ := (ints_far HN.out (Nat.le_refl _) HF.out (fun ad h => by simp; exact HA.out ad h)) i z hx
      have HT := Lib.hid (take_snoc hx)
      have hb' : b < wr.heap.size := Nat.lt_of_lt_of_le hb HF.out.size
      have HK := Lib.hid (kind_any g st z wr HS.out hwz)
      obtain ⟨k, hk⟩ : ∃ k, kindE st z = k := ⟨_, rfl⟩
      rw [hk] at HK
      clear hx
      by_cases hk0 : k = 0
      · subst hk0
        have HNX := Lib.hid (show wipeL s (l.take (i + 1)) = (st, cn) by
          rw [HT.out, wipeL_snoc, HW.out]
          unfold wipe1 wipeOne
          simp only [hk, if_true, Nat.add_zero])
        clear hk
        go_wp2_with fail
        (with_reducible refine HK.out.mono ?_); rintro e w2 ⟨rfl, hB⟩
        have HS2 := Lib.hid (HS.out.old hB)
        have HF2 := Lib.hid (HF.out.trans (Frm.of_below hB))
        clear hB
        go_wp2_with fail
        go_light
        go_roundg (l.length - (i + 1))
        case measure => have := HG.out; omega
        case rel => exact ⟨i + 1, cn, st, by omega, by go_num, rfl, HNX, by omega, HS2, HF2⟩
      · have hbk : (((k : Nat) : Int) != 0) = true := by rw [bne_iff_ne]; omega
        obtain ⟨hdd, h1, h2⟩ := kindE_ok (s := st) (h := z) (by rw [hk]; exact hk0)
        obtain ⟨j, rfl⟩ : ∃ j : Nat, z = j := ⟨z.toNat, by omega⟩
        have HNX := Lib.hid (show wipeL s (l.take (i + 1)) = (st.put j zRow, cn + 1) by
          rw [HT.out, wipeL_snoc, HW.out]
          unfold wipe1 wipeOne
          simp only [hk, if_neg hk0, Int.toNat_natCast])
        have hj8 : (j : Int) < 8 := h2
        have hok := HS.out.ok
        have HSP := Lib.hid (show splice (slC st) (j * 33) (row zRow).toArray.toList = slC (st.put j zRow) by
          rw [Nat.mul_comm]
          exact hok.splice (by omega) rfl)
        have HFT := Lib.hid (show j * 33 + (row zRow).toArray.size ≤ (slC st).length by rw [HZ.out, hok.size]; omega)
        have HOK := Lib.hid (hok.put j zRow_ok.1 zRow_ok.2.1 zRow_ok.2.2)
        clear hk hdd h1 h2 hok
        go_wp2_with fail
        (with_reducible refine HK.out.mono ?_); rintro e w2 ⟨rfl, hB⟩
        have HS2 := Lib.hid (HS.out.old hB)
        have HF2 := Lib.hid (HF.out.trans (Frm.of_below hB))
        clear hB
        have KS := Lib.hid HS2.out.blk
        go_wp2_with (refine wpList_store_frm rfl 137 (.tmp 23) (.tmp 20) rfl g (j * 33) (row zRow).toArray rfl (by kernel_rfl) 140 (slC st) KS.out HFT.out HI.out HO.out ?_; intro w7 K7 F7)
        rw [HSP.out] at K7
        have HS7 := Lib.hid (show Sl w7 g (st.put j zRow) from ⟨HOK.out, K7⟩)
        have HF7 := Lib.hid (HF2.out.trans F7)
        clear K7 F7 KS
        go_wp2_with fail
        go_light
        go_roundg (l.length - (i + 1))
        case measure => have := HG.out; omega
        case rel => exact ⟨i + 1, cn + 1, _, by omega, by go_num, by go_num, HNX, by omega, HS7, HF7⟩
    · have hil : i = l.length := by omega
      subst hil
      have HE := Lib.hid (show wipeL s l = (st, cn) by have := HW.out; rwa [List.take_length] at this)
      go_wp2_with fail
      go_light
      go_ret
      rw [HE.out]
      exact ⟨rfl, HS.out, HF.out⟩
set_option maxRecDepth 100000 in
set_option maxHeartbeats 2000000 in
theorem swipe_nil (A : Option Addr) (l : List Int) (n c : Nat) (w : World) (hl : l.length = n) (hn : n ≤ 1000000) (hz : Ints .i64 w w.heap.size A l) :
    Calls Tryd.prog 43 #[.pointer none, .slice A n c] w (IntBelow w 0) := by
  subst hl
  have HN := Lib.hid hz
  clear hz
  go_enter Tryd.func43, Tryd.ntmps43
  go_wp2_with fail
  go_loopg [5, 10] l.length (fun gm s5 s10 wr => ∃ (i : Nat), i + gm = l.length ∧ s10 = .int .i64 (i : Int) ∧ s5 = .int .i64 0 ∧ Hid (Below w.heap.size w wr))
  case atStart => exact ⟨0, by omega, rfl, rfl, Lib.hid (Below.refl _ _)⟩
  case round =>
    obtain ⟨i, hg, rfl, rfl, HB⟩ := hrel
    have HG := Lib.hid hg
    have hi : i ≤ l.length := by omega
    clear hg
    by_cases hlt : i < l.length
    · obtain ⟨z, hx⟩ : ∃ z, l[i]? = some z := ⟨_, List.getElem?_eq_getElem hlt⟩
      obtain ⟨hwz, b, off, rfl, hb, hcx⟩ := (HN.out.below HB.out) i z hx
      have hb' : b < wr.heap.size := Nat.lt_of_lt_of_le hb HB.out.size
      clear hx
      go_wp2_with fail
      (with_reducible refine (kind_nil _ _).mono ?_); rintro e w2 ⟨rfl, hB⟩
      have HB2 := Lib.hid (below_then HB.out hB (Nat.le_refl _))
      clear hB
      go_wp2_with fail
      go_light
      go_roundg (l.length - (i + 1))
      case measure => have := HG.out; omega
      case rel => exact ⟨i + 1, by omega, by go_num, rfl, HB2⟩
    · have hil : i = l.length := by omega
      subst hil
      go_wp2_with fail
      go_light
      go_ret
      exact ⟨rfl, HB.out⟩
end Slot
end Go.Proofs.YtpakdcgcgekcfaaDoor

/-
  The reference's Join (curtilageref01): bytes behind bytes.
-/
set_option linter.unusedSimpArgs false
set_option linter.unusedVariables false
namespace Go.Proofs.YtpakdcgcgekcfaaDoor
open Go.RowKit

namespace R1
/-- A part: where it lies (block, offset), its capacity, its bytes. -/
structure Part where
  g : Nat
  o : Nat
  c : Nat
  l : List Nat
def joinB (ps : List Part) : List Nat := ps.flatMap (·.l)
theorem joinB_le : ∀ (ps : List Part) (n : Nat), (∀ p ∈ ps, p.l.length ≤ n) → (joinB ps).length ≤ n * ps.length
  | [], _, _ => by simp [joinB]
  | p :: ps, n, h => by
    have h1 := joinB_le ps n (fun q hq => h q (by simp [hq]))
    have h2 := h p (by simp)
    simp only [joinB, List.flatMap_cons, List.length_append, List.length_cons, Nat.mul_succ] at h1 ⊢
    omega
theorem joinB_snoc (ps : List Part) (p : Part) : joinB (ps ++ [p]) = joinB ps ++ p.l := by simp [joinB]
set_option maxRecDepth 100000 in
set_option maxHeartbeats 1000000 in
theorem join_any (J jo len cap : Nat) (ps : List Part) (w : World) (hlen : ps.length = len) (hl : len ≤ 8) (hJ : J < w.heap.size)
    (hc : ∀ (i : Nat) (p : Part), ps[i]? = some p → w.cell? ⟨J, jo + i, none⟩ = some (.slice (some ⟨p.g, p.o, none⟩) p.l.length p.c))
    (hn : ∀ p ∈ ps, p.l.length ≤ 64 ∧ Nats .u8 256 w w.heap.size (some ⟨p.g, p.o, none⟩) p.l) :
    Calls Tryd.prog 31 #[.slice (some ⟨J, jo, none⟩) len cap] w (BytesOut w (joinB ps)) := by
  obtain ⟨i0, hi0, hz0, hz1, hz2⟩ := info_row u8_info
  have HI := Lib.hid hi0
  have HI1 := Lib.hid hz0
  have HI2 := Lib.hid hz1
  have HI3 := Lib.hid hz2
  have HN := Lib.hid hn
  have HC := Lib.hid hc
  subst hlen
  clear hi0 hz0 hz1 hz2 hn hc
  go_enter Tryd.func31, Tryd.ntmps31
  go_wp2_with fail
  go_loopg [3, 8] ps.length (fun g s3 s8 wr => ∃ i : Nat, i + g = ps.length ∧ s8 = .int .i64 (i : Int) ∧ OwnB wr w.heap.size s3 (joinB (ps.take i)) ∧ Below w.heap.size w wr)
  case atStart => exact ⟨0, by omega, rfl, World.ownsRow_nil _ _ _ _, Below.refl _ _⟩
  case round =>
    obtain ⟨i, hg, rfl, hO, hB⟩ := hrel
    have HG := Lib.hid hg
    have hig : i ≤ ps.length := by omega
    have HB := Lib.hid hB
    have HO := Lib.hid hO
    have hwl : w.heap.size ≤ wr.heap.size := hB.size
    clear hg hB hO
    by_cases hlt : i < ps.length
    · obtain ⟨p, hx⟩ : ∃ p, ps[i]? = some p := ⟨_, List.getElem?_eq_getElem hlt⟩
      have hcx := (HB.out.cell (p := ⟨J, jo + i, none⟩) hJ).trans (HC.out i p hx)
      obtain ⟨hp64, hpn⟩ := HN.out p (List.mem_of_getElem? hx)
      have hsrc := nats_src (hpn.below HB.out)
      have HS := Lib.hid hsrc
      have HT := Lib.hid (take_snoc hx)
      have hlen : (joinB (ps.take i)).length ≤ 64 * i := by
        have := joinB_le (ps.take i) 64 (fun q hq => (HN.out q (List.mem_of_mem_take hq)).1)
        rw [List.length_take] at this
        omega
      have HL := Lib.hid hlen
      obtain ⟨pg, po, pc, pl⟩ := p
      simp only [] at hcx hp64 HS HT
      have HM := Lib.hid (show (pl.map fun x => Value.int .u8 ((x : Nat) : Int)).length = pl.length by simp)
      clear hx hlen hpn hsrc
      go_wp2_with (at_builtin; refine wpList_append_src rfl (.tmp 12) (.tmp 13) 53 rfl w.heap.size 5 i0 (.int .u8 0) 1 Tryd.underlying53 HI.out HI1.out HI2.out HI3.out rfl _ _ _ rfl HO.out _ _ _ (pl.map fun x => Value.int .u8 ((x : Nat) : Int)) rfl HM.out HS.out (by simp) ?c2 ?c3 ?c4 hwl ?_)
      case c2 =>
        intro u hu
        obtain ⟨a, _, rfl⟩ := List.mem_map.1 hu
        rfl
      case c3 => have := HL.out; simp only [maxLen]; omega
      case c4 => have := HL.out; omega
      intro v2 w2 hO2 hg2 _
      have HB2 := Lib.hid (HB.out.grown hg2 hwl (fun k hk => (World.ownsRow.lt HO.out k hk).1))
      have HO2 := Lib.hid hO2
      clear hO2 hg2
      go_wp2_with fail
      go_light
      go_roundg (ps.length - (i + 1))
      case measure => have := HG.out; omega
      case rel =>
        refine ⟨i + 1, by omega, by go_num, ?_, HB2.out⟩
        have h2 := HO2.out
        unfold OwnB
        rw [HT.out, joinB_snoc, List.length_append, List.map_append]
        exact h2
    · have : i = ps.length := by omega
      subst this
      have HT := Lib.hid (show ps.take ps.length = ps from List.take_length)
      go_wp2_with fail
      go_light
      go_ret
      have hOO := HO.out
      rw [HT.out] at hOO
      exact ⟨_, rfl, hOO, HB.out⟩
end R1
end Go.Proofs.YtpakdcgcgekcfaaDoor

/-
  The reference's Join of any parts, and its Sum by a key (curtilageref01, curtilageref02).
-/
set_option linter.unusedSimpArgs false
set_option linter.unusedVariables false
namespace Go.Proofs.YtpakdcgcgekcfaaDoor
open Go.RowKit

namespace Mac
open Otp R1 Sha
set_option maxRecDepth 100000 in
set_option maxHeartbeats 1000000 in
theorem joinp_any (PA : Option Addr) (pn pc : Nat) (ps : List (List Nat)) (w : World) (hpn : ps.length = pn) (hpm : pn ≤ 1000000) (hP : Parts w w.heap.size PA ps) (hm : ps.flatten.length ≤ 900000) :
    Calls Tryd.prog 31 #[.slice PA pn pc] w (BytesOut w ps.flatten) := by
  subst hpn
  have HP := wall hP
  have HM := wall hm
  clear hP hm
  go_enter Tryd.func31, Tryd.ntmps31
  go_wp2_with fail
  go_loopg [3, 8] ps.length (fun g s3 s8 wr => ∃ i : Nat, i + g = ps.length ∧ s8 = .int .i64 (i : Int) ∧ Wall (OwnB wr w.heap.size s3 (ps.take i).flatten) ∧ Wall (Below w.heap.size w wr))
  case atStart => exact ⟨0, by omega, rfl, wall (World.ownsRow_nil _ _ _ _), wall (Below.refl _ _)⟩
  case round =>
    obtain ⟨i, hg, rfl, HO, HB⟩ := hrel
    have HG := wall hg
    have hig : i ≤ ps.length := by omega
    have hwl : w.heap.size ≤ wr.heap.size := HB.out.size
    clear hg
    by_cases hlt : i < ps.length
    · obtain ⟨p, hp⟩ : ∃ p, ps[i]? = some p := ⟨_, List.getElem?_eq_getElem hlt⟩
      obtain ⟨J, off, v, rfl, hJ, hcv, hBN⟩ := (HP.out.below HB.out) i p hp
      obtain ⟨Ap, cp, rfl, hcp, hnil, hN⟩ := hBN
      have HNP := wall hN
      have HNI := wall hnil
      have HFL := wall (flatten_take_snoc hp)
      have HSZ := wall (mem_flatten_le hp)
      clear hp hnil hN
      go_wp2_with (at_builtin; refine wpList_append_bytes rfl (.tmp 12) (.tmp 13) rfl w.heap.size _ _ rfl HO.out Ap p.length cp p rfl rfl ⟨_, HNP.out⟩ HNI.out (by have := HSZ.out; have := HM.out; omega) hwl ?_)
      intro v2 w2 hO2 hB2
      have HO2 := wall hO2
      have HB2 := wall (HB.out.trans hB2)
      clear hO2 hB2
      go_wp2_with fail
      go_light
      go_roundg (ps.length - (i + 1))
      case measure => have := HG.out; omega
      case rel => exact ⟨i + 1, by omega, by go_num, wall (by rw [HFL.out]; exact HO2.out), HB2⟩
    · have : i = ps.length := by omega
      subst this
      have HT := wall (show ps.take ps.length = ps from List.take_length)
      go_wp2_with fail
      go_light
      go_ret
      have hOO := HO.out
      rw [HT.out] at hOO
      exact ⟨_, rfl, hOO, HB.out⟩
def JoinOut (W : World) (l : List Nat) (e : Ending) (w' : World) : Prop := ∃ A n c, e = .returned (.slice A n c) ∧ l.length = n ∧ n ≤ c ∧ (A = .none → c = 0) ∧ Nats .u8 256 w' w'.heap.size A l ∧ Below W.heap.size W w'
theorem join_out {w W : World} {l : List Nat} {e : Ending} {w' : World} (hb : ∀ x ∈ l, x < 256) (h : BytesOut W l e w') (hw : Below w.heap.size w W) : JoinOut w l e w' := by
  obtain ⟨v, he, hO, hB⟩ := h
  obtain ⟨A, c, rfl, hc, hN, _⟩ := own_nats hO hb
  exact ⟨A, l.length, c, he, rfl, hc, own_nil hO, hN, below_then hw hB (Nat.le_refl _)⟩
theorem join_new2 (W : World) (v1 v2 : Value) (p1 p2 : List Nat) (h1 : BytesN W W.heap.size p1 v1) (h2 : BytesN W W.heap.size p2 v2) (hm : p1.length + p2.length ≤ 900000) :
    Calls Tryd.prog 31 #[.slice (some ⟨W.heap.size, 0, none⟩) 2 2] (W.alloc (.cells #[v1, v2] 53)) (JoinOut W (p1 ++ p2)) := by
  have hP := parts_new (t := 53) W [v1, v2] [p1, p2] rfl (fun i p v hp hv => by
    match i, hp, hv with
    | 0, hp, hv => cases hp; cases hv; exact h1
    | 1, hp, hv => cases hp; cases hv; exact h2)
  have hf : [p1, p2].flatten = p1 ++ p2 := by simp
  have h := joinp_any (some ⟨W.heap.size, 0, none⟩) 2 2 [p1, p2] (W.alloc (.cells #[v1, v2] 53)) rfl (by decide) hP (by rw [hf, List.length_append]; exact hm)
  rw [hf] at h
  exact h.mono fun e w' h => join_out (sub_byte (bytesN_byte h1) (bytesN_byte h2)) h ((Below.refl _ W).alloc (Nat.le_refl _) _)
theorem join_new3 (W : World) (v1 v2 v3 : Value) (p1 p2 p3 : List Nat) (h1 : BytesN W W.heap.size p1 v1) (h2 : BytesN W W.heap.size p2 v2) (h3 : BytesN W W.heap.size p3 v3) (hm : p1.length + p2.length + p3.length ≤ 900000) :
    Calls Tryd.prog 31 #[.slice (some ⟨W.heap.size, 0, none⟩) 3 3] (W.alloc (.cells #[v1, v2, v3] 53)) (JoinOut W (p1 ++ p2 ++ p3)) := by
  have hP := parts_new (t := 53) W [v1, v2, v3] [p1, p2, p3] rfl (fun i p v hp hv => by
    match i, hp, hv with
    | 0, hp, hv => cases hp; cases hv; exact h1
    | 1, hp, hv => cases hp; cases hv; exact h2
    | 2, hp, hv => cases hp; cases hv; exact h3)
  have hf : [p1, p2, p3].flatten = p1 ++ p2 ++ p3 := by simp
  have h := joinp_any (some ⟨W.heap.size, 0, none⟩) 3 3 [p1, p2, p3] (W.alloc (.cells #[v1, v2, v3] 53)) rfl (by decide) hP (by rw [hf, List.length_append, List.length_append]; exact hm)
  rw [hf] at h
  exact h.mono fun e w' h => join_out (sub_byte (sub_byte (bytesN_byte h1) (bytesN_byte h2)) (bytesN_byte h3)) h ((Below.refl _ W).alloc (Nat.le_refl _) _)
theorem bytesN_b8 {w : World} {g n : Nat} {t : TypeId} {l : List Nat} (h : Blk w g t (b8 l)) (hb : ∀ x ∈ l, x < 256) (hn : l.length = n) : BytesN w w.heap.size l (.slice (some ⟨g, 0, .none⟩) n n) :=
  BytesN.of hn (Nat.le_refl _) (fun h => by cases h) (nats_b8 h hb)
theorem set_take_drop {α : Type} {a z : List α} {i : Nat} {y : α} (hi : i < z.length) (ha : a[i]? = some y) : (a.take i ++ z.drop i).set i y = a.take (i + 1) ++ z.drop (i + 1) := by
  have hl : (a.take i).length = i := by rw [List.length_take]; have := (List.getElem?_eq_some_iff.1 ha).1; omega
  rw [take_snoc ha, List.set_append_right _ _ (by omega), hl, Nat.sub_self, List.drop_eq_getElem_cons hi, List.set_cons_zero, List.append_assoc]
  rfl
theorem made8 (k : Nat) : madeCells #[Value.int .u8 0] k = b8 (List.replicate k 0) := by
  apply Array.ext_getElem?
  intro t
  by_cases ht : t < k
  · rw [made_get _ _ _ ht (by decide), b8_at (x := 0) (by simp [ht])]
    simp [Nat.mod_one]
  · rw [Array.getElem?_eq_none (by simp [madeCells]; omega), Array.getElem?_eq_none (by simp [b8]; omega)]
set_option maxRecDepth 100000 in
set_option maxHeartbeats 8000000 in
theorem r2sum_any (k p : List Nat) (A : Option Addr) (len cap : Nat) (PA : Option Addr) (pn pc : Nat) (w : World) (hl : k.length = len) (h64 : len ≤ 64) (hz : Nats .u8 256 w w.heap.size A k) (hp : BytesN w w.heap.size p (.slice PA pn pc)) (hpm : p.length ≤ 700000) :
    Calls Tryd.prog 40 #[.slice A len cap, .slice PA pn pc] w (DigOut w (macB k p)) := by
  obtain ⟨i0, hi0, hz0, hz1, hz2⟩ := info_row u8_info
  have hmk := fun W => run_make_rowN (P := Tryd.prog) 53 5 i0 _ Tryd.underlying53 hi0 hz0 .i64 .i64 64 64 (Nat.le_refl _) (by rw [hz2]; omega) (by omega) W
  have e64 : ((64 : Nat) : Int) = 64 := rfl
  have emk := made8 64
  rw [hz1] at hmk
  simp only [Nat.mul_one, e64] at hmk
  rw [show (Value.int IntKind.u8 0).cells = #[Value.int .u8 0] from rfl, emk] at hmk
  obtain ⟨zz, hzz⟩ : ∃ z, List.replicate 64 0 = z := ⟨_, rfl⟩
  rw [hzz] at hmk
  have HZL := wall (show zz.length = 64 by rw [← hzz, List.length_replicate])
  have hni : ¬ ((len : Int) > 64) := by omega
  have HN := wall hz
  have HP := wall hp
  clear hi0 hz0 hz1 hz2 e64 emk hz hp hzz
  go_enter Tryd.func40, Tryd.ntmps40
  obtain ⟨W1, hW1⟩ : ∃ W, W = w.alloc (.cells (b8 (List.replicate 32 0)) 23) := ⟨_, rfl⟩
  have K0 := wall (show Blk W1 w.heap.size 23 (b8 (List.replicate 32 0)) by rw [hW1]; exact Blk.new _ _ _)
  have HB := wall (show Below w.heap.size w W1 by rw [hW1]; exact (Below.refl _ w).alloc (Nat.le_refl _) _)
  have HW1 := wall hW1
  clear hW1
  go_upto_region 1 with fail
  change Code.wp _ _ _ _ (w.alloc (.cells (b8 (List.replicate 32 0)) 23))
  rw [← HW1.out]
  clear HW1
  go_upto_region 4 with fail
  have hw1 : w.heap.size < W1.heap.size := K0.out.lt
  go_cut [6, 7] (fun s6 s7 w' => ∃ g6 g7 : Nat, s6 = .slice (some ⟨g6, 0, none⟩) 64 64 ∧ s7 = .slice (some ⟨g7, 0, none⟩) 64 64 ∧ g6 ≠ g7 ∧ w.heap.size < g6 ∧ w.heap.size < g7 ∧ Wall (Blk w' g6 5 (b8 zz)) ∧ Wall (Blk w' g7 5 (b8 zz)) ∧ Wall (Below W1.heap.size W1 w'))
  case first =>
    have e1 := wall (show Blk (((W1.alloc (.cells (b8 zz) 5)).alloc (.cells (b8 zz) 5)).drew) W1.heap.size 5 (b8 zz) from ((Blk.new _ _ _).alloc _).drew)
    have e2 := wall (show Blk (((W1.alloc (.cells (b8 zz) 5)).alloc (.cells (b8 zz) 5)).drew) (W1.heap.size + 1) 5 (b8 zz) from Blk.drew (blk_new' (by simp)))
    have e3 := wall (show Below W1.heap.size W1 (((W1.alloc (.cells (b8 zz) 5)).alloc (.cells (b8 zz) 5)).drew) from (((Below.refl _ W1).alloc (Nat.le_refl _) _).alloc (by simp) _).drew)
    go_region
    all_goals go_wp2_with fail
    all_goals go_meet
    all_goals first | exact ⟨_, _, rfl, rfl, by omega, by omega, by omega, e1, e2, e3⟩ | exact ⟨_, _, rfl, rfl, by omega, by omega, by omega, e2, e1, e3⟩
  case rest =>
    obtain ⟨g6, g7, rfl, rfl, hne, hg6, hg7, K6, K7, HB1⟩ := hcut
    have KR := wall (K0.out.next HB1.out rfl)
    have HB2 := wall (below_then HB.out HB1.out (Nat.le_refl _))
    clear hmk HB1 K0 HB
    obtain ⟨w2, rfl⟩ : ∃ wo : World, wo = wc := ⟨_, rfl⟩
    obtain ⟨kb, hkb⟩ : ∃ x, keyB k = x := ⟨_, rfl⟩
    obtain ⟨ip, hip⟩ : ∃ x, ipad k = x := ⟨_, rfl⟩
    obtain ⟨op, hop⟩ : ∃ x, opad k = x := ⟨_, rfl⟩
    have HIL := wall (show ip.length = 64 by rw [← hip]; exact ipad_length k)
    have HOL := wall (show op.length = 64 by rw [← hop]; exact opad_length k)
    have hkB : ∀ x ∈ k, x < 256 := fun x hx => by
      obtain ⟨i, hi⟩ := List.mem_iff_getElem?.1 hx
      exact (HN.out i x hi).1
    have HIB := wall (show ∀ x ∈ ip, x < 256 by rw [← hip]; exact turn_byte (by decide) (keyB_byte hkB))
    have HOB := wall (show ∀ x ∈ op, x < 256 by rw [← hop]; exact turn_byte (by decide) (keyB_byte hkB))
    have HKB := wall (show kb = k ++ List.replicate (64 - len) 0 by rw [← hkb, keyB, if_neg (by omega), hl])
    have HIA := wall (show ∀ i x, kb[i]? = some x → ip[i]? = some (x ^^^ 54) from fun i x h => by rw [← hip, ipad, hkb, List.getElem?_map, h]; rfl)
    have HOA := wall (show ∀ i x, kb[i]? = some x → op[i]? = some (x ^^^ 92) from fun i x h => by rw [← hop, opad, hkb, List.getElem?_map, h]; rfl)
    have HHI := wall hip
    have HHO := wall hop
    have HL := wall hl
    clear hkb hip hop hkB hl
    have K6' := wall (show Blk w2 g6 5 (b8 (ip.take 0 ++ zz.drop 0)) by simpa using K6.out)
    have K7' := wall (show Blk w2 g7 5 (b8 (op.take 0 ++ zz.drop 0)) by simpa using K7.out)
    clear K6 K7
    go_wp2_with fail
    go_loopg [21] 64 (fun gm s21 wr => ∃ i : Nat, i + gm = 64 ∧ s21 = .int .i64 (i : Int) ∧ Wall (Blk wr w.heap.size 23 (b8 (List.replicate 32 0))) ∧ Wall (Blk wr g6 5 (b8 (ip.take i ++ zz.drop i))) ∧ Wall (Blk wr g7 5 (b8 (op.take i ++ zz.drop i))) ∧ Wall (Below w.heap.size w wr))
    case atStart => exact ⟨0, by omega, rfl, KR, K6', K7', HB2⟩
    case round =>
      clear KR K6' K7' HB2
      obtain ⟨i, hg, rfl, KR, K6, K7, HB⟩ := hrel
      have HG := wall hg
      have hi : i ≤ 64 := by omega
      clear hg
      by_cases hlt : i < 64
      · have htl : (ip.take i).length = i := by rw [List.length_take, HIL.out]; omega
        have htl2 : (op.take i).length = i := by rw [List.length_take, HOL.out]; omega
        have hfr6 : wr.frozen? ⟨g6, i, none⟩ = false := K6.out.frozen _
        have hfr7 : wr.frozen? ⟨g7, i, none⟩ = false := K7.out.frozen _
        obtain ⟨old6, hold6⟩ : ∃ v, wr.cell? ⟨g6, i, none⟩ = some v := by
          rw [K6.out.cell]
          refine ⟨_, Array.getElem?_eq_getElem (i := i) ?_⟩
          rw [b8_size, List.length_append, List.length_drop, htl, HZL.out]
          omega
        obtain ⟨old7, hold7⟩ : ∃ v, wr.cell? ⟨g7, i, none⟩ = some v := by
          rw [K7.out.cell]
          refine ⟨_, Array.getElem?_eq_getElem (i := i) ?_⟩
          rw [b8_size, List.length_append, List.length_drop, htl2, HZL.out]
          omega
        have hs6 := K6.out.lt
        have hs7 := K7.out.lt
        by_cases hil : i < len
        · obtain ⟨x, hx⟩ : ∃ x, k[i]? = some x := ⟨_, List.getElem?_eq_getElem (by have := HL.out; omega)⟩
          obtain ⟨hxM, bb, oo, hAe, hbb, hcx⟩ := (HN.out.below HB.out) i x hx
          have hkx : kb[i]? = some x := by rw [HKB.out, List.getElem?_append_left (by have := HL.out; omega)]; exact hx
          obtain ⟨y6, hy6⟩ : ∃ y, x ^^^ 54 = y := ⟨_, rfl⟩
          obtain ⟨y7, hy7⟩ : ∃ y, x ^^^ 92 = y := ⟨_, rfl⟩
          have b6 : bits .xor .u8 (x : Int) 54 = (y6 : Int) := by rw [← hy6]; exact u8_xor_nat x 54 hxM (by decide)
          have b7 : bits .xor .u8 (x : Int) 92 = (y7 : Int) := by rw [← hy7]; exact u8_xor_nat x 92 hxM (by decide)
          have HS6 := wall (set_take_drop (z := zz) (by rw [HZL.out]; exact hlt) (show ip[i]? = some y6 by rw [← hy6]; exact HIA.out i x hkx))
          have HS7 := wall (set_take_drop (z := zz) (by rw [HZL.out]; exact hlt) (show op[i]? = some y7 by rw [← hy7]; exact HOA.out i x hkx))
          subst hAe
          clear hx hkx hy6 hy7 htl htl2
          go_wp2_with fail
          go_light
          go_roundg (64 - (i + 1))
          case measure => have := HG.out; omega
          case rel =>
            refine ⟨i + 1, by have := HG.out; omega, by go_num, wall ?_, wall ?_, wall ?_, wall ?_⟩
            · exact ((KR.out.far' _ _ (by omega) _).far' _ _ (by omega) _)
            · have := (K6.out.set i (.int .u8 (y6 : Int))).far' g7 i (by omega) (.int .u8 (y7 : Int))
              rw [b8_set, HS6.out] at this
              exact this
            · have := (K7.out.far' g6 i (by omega) (.int .u8 (y6 : Int))).set i (.int .u8 (y7 : Int))
              rw [b8_set, HS7.out] at this
              exact this
            · exact (HB.out.setCell (p := ⟨g6, i, none⟩) (by show w.heap.size ≤ g6; omega) _).setCell (p := ⟨g7, i, none⟩) (by show w.heap.size ≤ g7; omega) _
        · have hkx : kb[i]? = some 0 := by
            rw [HKB.out, List.getElem?_append_right (by have := HL.out; omega), HL.out, List.getElem?_replicate, if_pos (by omega)]
          have b6 : bits .xor .u8 0 54 = 54 := by decide
          have b7 : bits .xor .u8 0 92 = 92 := by decide
          have HS6 := wall (set_take_drop (z := zz) (by rw [HZL.out]; exact hlt) (show ip[i]? = some 54 from HIA.out i 0 hkx))
          have HS7 := wall (set_take_drop (z := zz) (by rw [HZL.out]; exact hlt) (show op[i]? = some 92 from HOA.out i 0 hkx))
          clear hkx htl htl2
          go_wp2_with fail
          go_light
          go_roundg (64 - (i + 1))
          case measure => have := HG.out; omega
          case rel =>
            refine ⟨i + 1, by have := HG.out; omega, by go_num, wall ?_, wall ?_, wall ?_, wall ?_⟩
            · exact ((KR.out.far' _ _ (by omega) _).far' _ _ (by omega) _)
            · have := (K6.out.set i (.int .u8 ((54 : Nat) : Int))).far' g7 i (by omega) (.int .u8 92)
              rw [b8_set, HS6.out] at this
              exact this
            · have := (K7.out.far' g6 i (by omega) (.int .u8 54)).set i (.int .u8 ((92 : Nat) : Int))
              rw [b8_set, HS7.out] at this
              exact this
            · exact (HB.out.setCell (p := ⟨g6, i, none⟩) (by show w.heap.size ≤ g6; omega) _).setCell (p := ⟨g7, i, none⟩) (by show w.heap.size ≤ g7; omega) _
      · have hi64 : i = 64 := by omega
        have hni' : ¬ ((i : Int) < 64) := by omega
        replace K6 := wall (show Blk wr g6 5 (b8 ip) by
          have := K6.out
          rw [hi64, List.take_of_length_le (by rw [HIL.out]; omega), List.drop_of_length_le (by rw [HZL.out]; omega), List.append_nil] at this
          exact this)
        replace K7 := wall (show Blk wr g7 5 (b8 op) by
          have := K7.out
          rw [hi64, List.take_of_length_le (by rw [HOL.out]; omega), List.drop_of_length_le (by rw [HZL.out]; omega), List.append_nil] at this
          exact this)
        obtain ⟨d, hd⟩ : ∃ x, sumB (ip ++ p) = x := ⟨_, rfl⟩
        obtain ⟨r, hr⟩ : ∃ x, sumB (op ++ d) = x := ⟨_, rfl⟩
        have HRE := wall (show macB k p = r by rw [macB_pads, HHI.out, HHO.out, hd]; exact hr)
        have HDL := wall (show d.length = 32 by rw [← hd]; exact sumB_length _)
        have HDB := wall (show ∀ x ∈ d, x < 256 by rw [← hd]; exact sumB_byte _)
        have HRL := wall (show r.length = 32 by rw [← hr]; exact sumB_length _)
        have HPB := wall (bytesN_byte HP.out)
        have HIPB := wall (sub_byte HIB.out HPB.out)
        have HODB := wall (sub_byte HOB.out HDB.out)
        have HPM := wall hpm
        have HD := wall hd
        have HR := wall hr
        clear hi64 hlt HIA HOA HKB hpm hd hr
        obtain ⟨gO, rfl⟩ : ∃ q : Nat, q = gk := ⟨_, rfl⟩
        obtain ⟨wO, rfl⟩ : ∃ q : World, q = wr := ⟨_, rfl⟩
        have HJ1 := wall (join_new2 wO _ _ ip p (bytesN_b8 K6.out HIB.out HIL.out) ((HP.out.below HB.out).more HB.out.size) (by rw [HIL.out]; have := HPM.out; omega))
        go_wp2_with fail
        (with_reducible refine HJ1.out.mono ?_); rintro e w3 ⟨A3, n3, c3, rfl, hn3, hc3, hnil3, hN3, hB3⟩
        replace hn3 := wall hn3
        have K73 := wall (K7.out.next hB3 rfl)
        have KR3 := wall (KR.out.next hB3 rfl)
        have HB3 := wall (below_then HB.out hB3 (Nat.le_refl _))
        have HS1 := wall (rsum_any A3 n3 c3 (ip ++ p) w3 hn3.out (by rw [← hn3.out, List.length_append, HIL.out]; have := HPM.out; omega) hN3)
        rw [HD.out] at HS1
        clear hB3 hnil3 hN3 K6 K7 KR HB HJ1
        go_wp2_with fail
        (with_reducible refine HS1.out.mono ?_); rintro e w4 ⟨rfl, hB4⟩
        have K74 := wall (K73.out.next hB4 rfl)
        have KR4 := wall (KR3.out.next hB4 rfl)
        have HB4 := wall (below_then HB3.out hB4 (Nat.le_refl _))
        clear hB4 K73 KR3 HB3 HS1
        have HSD := wall (show (Tryd.prog.info? 23).map (·.size) = some (b8 d).size by rw [b8_size, HDL.out]; exact dig_info)
        have HZD := wall (show (b8 (List.replicate 32 0)).size = (b8 d).size by rw [b8_size, b8_size, HDL.out]; rfl)
        go_upto_region 14 with (refine wpList_new_row rfl 23 (.tmp 10) (.tmp 47) rfl w4.heap.size (b8 d) rfl rfl 23 (b8 (List.replicate 32 0)) (Blk.new _ _ _) HSD.out HZD.out (b8_one _) w4.heap.size w4 ((Below.refl _ w4).alloc (Nat.le_refl _) _) (Nat.le_refl _) ?_; intro w5 KD hB5)
        have KD := wall KD.out
        have K75 := wall (K74.out.next hB5 rfl)
        have KR5 := wall (KR4.out.next hB5 rfl)
        have HB5 := wall (below_then HB4.out hB5 (Nat.le_refl _))
        clear hB5 K74 KR4 HB4
        have hsl := run_slice_arr_all (P := Tryd.prog) 23 5 32 Tryd.underlying23 (fun _ => by kernel_rfl) w4.heap.size 0 (by decide)
        have HJ2 := wall (join_new2 w5 _ _ op d (bytesN_b8 K75.out HOB.out HOL.out) (bytesN_b8 KD.out HDB.out HDL.out) (by rw [HOL.out, HDL.out]; decide))
        go_wp2_with fail
        (with_reducible refine HJ2.out.mono ?_); rintro e w6 ⟨A6, n6, c6, rfl, hn6, hc6, hnil6, hN6, hB6⟩
        replace hn6 := wall hn6
        have KR6 := wall (KR5.out.next hB6 rfl)
        have HB6 := wall (below_then HB5.out hB6 (Nat.le_refl _))
        have HS2 := wall (rsum_any A6 n6 c6 (op ++ d) w6 hn6.out (by rw [← hn6.out, List.length_append, HOL.out, HDL.out]; decide) hN6)
        rw [HR.out] at HS2
        clear hB6 hnil6 hN6 K75 KD KR5 HB5 HJ2 hsl
        go_wp2_with fail
        (with_reducible refine HS2.out.mono ?_); rintro e w7 ⟨rfl, hB7⟩
        have KR7 := wall (KR6.out.next hB7 rfl)
        have HB7 := wall (below_then HB6.out hB7 (Nat.le_refl _))
        clear hB7 KR6 HB6 HS2
        have HSR := wall (show (Tryd.prog.info? 23).map (·.size) = some (b8 r).size by rw [b8_size, HRL.out]; exact dig_info)
        have HZR := wall (show (b8 (List.replicate 32 0)).size = (b8 r).size by rw [b8_size, b8_size, HRL.out]; rfl)
        go_wp2_with (refine wpList_store_row rfl 23 (.tmp 4) _ rfl w.heap.size (b8 r) rfl rfl 23 (b8 (List.replicate 32 0)) KR7.out HSR.out HZR.out (b8_one _) ?_)
        have hb := setRow_heap _ _ _ (b8 r) _ _ KR7.out
        have hB := below_setRow HB7.out (Nat.le_refl _) (b8 r)
        go_light
        exact bodyPost_ret (v := .agg (b8 r)) (results_cell_row Tryd.results40 _ _ w.heap.size 23 (b8 r) (0, 0) _ rfl hb Tryd.underlying23 rfl HSR.out) rfl ⟨by rw [HRE.out], hB⟩
end Mac
end Go.Proofs.YtpakdcgcgekcfaaDoor

/-
  The reference's Derive (curtilageref02).
-/
set_option linter.unusedSimpArgs false
set_option linter.unusedVariables false
namespace Go.Proofs.YtpakdcgcgekcfaaDoor
open Go.RowKit

namespace Mac
open Otp R1 Sha
theorem own_join {w W : World} {l : List Nat} {v : Value} (h : OwnB W w.heap.size v l) (hb : ∀ x ∈ l, x < 256) : ∃ A n c, v = .slice A n c ∧ l.length = n ∧ n ≤ c ∧ (A = .none → c = 0) ∧ Nats .u8 256 W W.heap.size A l := by
  obtain ⟨A, c, rfl, hc, hN, _⟩ := own_nats h hb
  exact ⟨A, l.length, c, rfl, rfl, hc, own_nil h, hN⟩
set_option maxRecDepth 100000 in
set_option maxHeartbeats 8000000 in
theorem r2derive_any (k : List Nat) (A : Option Addr) (len cap : Nat) (s : ByteArray) (ps : List (List Nat)) (PA : Option Addr) (pn pc : Nat) (w : World) (hl : k.length = len) (h64 : len ≤ 64) (hz : Nats .u8 256 w w.heap.size A k)
    (hs : s.size ≤ 100000) (hpn : ps.length = pn) (hpm : pn ≤ 1000) (hP : Parts w w.heap.size PA ps) (hm : ps.flatten.length ≤ 100000) :
    Calls Tryd.prog 38 #[.slice A len cap, .string s, .slice PA pn pc] w (DigOut w (deriveB k (sB s) ps)) := by
  subst hpn
  obtain ⟨r, hr⟩ : ∃ x, deriveB k (sB s) ps = x := ⟨_, rfl⟩
  obtain ⟨lb, hlb⟩ : ∃ x, sB s = x := ⟨_, rfl⟩
  obtain ⟨n1, hn1⟩ : ∃ x, numB s.size 4 = x := ⟨_, rfl⟩
  obtain ⟨n2, hn2⟩ : ∃ x, numB ps.length 4 = x := ⟨_, rfl⟩
  obtain ⟨c3, hc3⟩ : ∃ x, n1 ++ lb ++ n2 = x := ⟨_, rfl⟩
  rw [hr]
  have HN1L := wall (show n1.length = 4 by rw [← hn1]; exact numB_length _ _)
  have HN2L := wall (show n2.length = 4 by rw [← hn2]; exact numB_length _ _)
  have HN1B := wall (show ∀ x ∈ n1, x < 256 by rw [← hn1]; exact numB_byte _ _)
  have HN2B := wall (show ∀ x ∈ n2, x < 256 by rw [← hn2]; exact numB_byte _ _)
  have HLL := wall (show lb.length = s.size by rw [← hlb]; exact sB_length s)
  have HLB := wall (show ∀ x ∈ lb, x < 256 by rw [← hlb]; exact sB_byte s)
  have HC3L := wall (show c3.length = 8 + s.size by rw [← hc3, List.length_append, List.length_append, HN1L.out, HLL.out, HN2L.out]; omega)
  have HC3B := wall (show ∀ x ∈ c3, x < 256 by rw [← hc3]; exact sub_byte (sub_byte HN1B.out HLB.out) HN2B.out)
  have HR := wall (show macB k (c3 ++ partsB ps) = r by
    rw [← hr, deriveB, hlb, hn2, ← hc3, show numB lb.length 4 = n1 by rw [HLL.out]; exact hn1])
  have HRL := wall (show r.length = 32 by rw [← hr]; exact deriveB_length _ _ _)
  have HNU1 := wall (fun W => num_any (s.size : Int) 4 s.size 4 W rfl rfl (by omega) (by decide))
  have HNU2 := wall (fun W => num_any (ps.length : Int) 4 ps.length 4 W rfl rfl (by omega) (by decide))
  rw [hn1] at HNU1
  rw [hn2] at HNU2
  have HN := wall hz
  have HP := wall hP
  have HM := wall hm
  have HPB := wall (parts_byte hP)
  have HLBE := wall hlb
  have HC3 := wall hc3
  have HL := wall hl
  clear hz hP hm hr hlb hn1 hn2 hc3 hl
  obtain ⟨W1, hW1⟩ : ∃ W, W = w.alloc (.cells (b8 (List.replicate 32 0)) 23) := ⟨_, rfl⟩
  have K0 := wall (show Blk W1 w.heap.size 23 (b8 (List.replicate 32 0)) by rw [hW1]; exact Blk.new _ _ _)
  have HB := wall (show Below w.heap.size w W1 by rw [hW1]; exact (Below.refl _ w).alloc (Nat.le_refl _) _)
  have HW1 := wall hW1
  clear hW1
  go_enter Tryd.func38, Tryd.ntmps38
  go_upto_region 1 with fail
  change Code.wp _ _ _ _ (w.alloc (.cells (b8 (List.replicate 32 0)) 23))
  rw [← HW1.out]
  clear HW1
  go_wp2_with fail
  (with_reducible refine (HNU1.out _).mono ?_); rintro e w2 ⟨v2, rfl, hO2, hB2⟩
  obtain ⟨A2, m2, cp2, rfl, hm2, hcp2, hni2, hN2⟩ := own_join hO2 HN1B.out
  have HP2 := wall (BytesN.of hm2 hcp2 hni2 hN2)
  have K2 := wall (K0.out.next hB2 rfl)
  have HB2 := wall (below_then HB.out hB2 (Nat.le_refl _))
  clear hO2 hm2 hcp2 hni2 hN2 hB2 K0 HB HNU1
  go_wp2_with (refine wpList_convert_str rfl 9 53 5 (.tmp 14) rfl Tryd.underlying9 Tryd.underlying53 Tryd.underlying5 s rfl ?_; intro v3 w3 hv3 hB3)
  rw [HLBE.out] at hv3
  obtain ⟨A3, m3, cp3, rfl, hv3⟩ := hv3.form
  have HP3 := wall hv3
  have HP23 := wall ((HP2.out.below hB3).more hB3.size)
  have K3 := wall (K2.out.next hB3 rfl)
  have HB3 := wall (below_then HB2.out hB3 (Nat.le_refl _))
  clear hv3 hB3 K2 HB2 HP2
  (with_reducible refine (HNU2.out _).mono ?_); rintro e w4 ⟨v4, rfl, hO4, hB4⟩
  obtain ⟨A4, m4, cp4, rfl, hm4, hcp4, hni4, hN4⟩ := own_join hO4 HN2B.out
  have HP4 := wall (BytesN.of hm4 hcp4 hni4 hN4)
  have HP24 := wall ((HP23.out.below hB4).more hB4.size)
  have HP34 := wall ((HP3.out.below hB4).more hB4.size)
  have K4 := wall (K3.out.next hB4 rfl)
  have HB4 := wall (below_then HB3.out hB4 (Nat.le_refl _))
  clear hO4 hm4 hcp4 hni4 hN4 hB4 K3 HB3 HP3 HP23 HNU2
  have HJ := wall (join_new3 w4 _ _ _ n1 lb n2 HP24.out HP34.out HP4.out (by rw [HN1L.out, HLL.out, HN2L.out]; omega))
  rw [HC3.out] at HJ
  go_wp2_with fail
  (with_reducible refine HJ.out.mono ?_); rintro e w5 ⟨A5, m5, cp5, rfl, hm5, hcp5, hni5, hN5, hB5⟩
  have HP5 := wall (show BytesN w5 w5.heap.size (c3 ++ partsB (ps.take 0)) (.slice A5 m5 cp5) by
    rw [List.take_zero, show partsB [] = [] from rfl, List.append_nil]
    exact BytesN.of hm5 hcp5 hni5 hN5)
  have K5 := wall (K4.out.next hB5 rfl)
  have HB5 := wall (below_then HB4.out hB5 (Nat.le_refl _))
  clear hm5 hcp5 hni5 hN5 hB5 K4 HB4 HP4 HP24 HP34 HJ
  go_wp2_with fail
  go_loopg [7, 24] ps.length (fun gm s7 s24 wr => ∃ (i : Nat) (B : Option Addr) (m c : Nat), i + gm = ps.length ∧ s24 = .int .i64 (i : Int) ∧ s7 = .slice B m c ∧ Wall (BytesN wr wr.heap.size (c3 ++ partsB (ps.take i)) (.slice B m c)) ∧ Wall (Blk wr w.heap.size 23 (b8 (List.replicate 32 0))) ∧ Wall (Below w.heap.size w wr))
  case atStart => exact ⟨0, A5, m5, cp5, by omega, rfl, rfl, HP5, K5, HB5⟩
  case round =>
    clear HP5 K5 HB5
    obtain ⟨i, B, m, c, hg, rfl, rfl, HQ, K, HB⟩ := hrel
    have HG := wall hg
    have hi : i ≤ ps.length := by omega
    clear hg
    by_cases hlt : i < ps.length
    · obtain ⟨p, hp⟩ : ∃ p, ps[i]? = some p := ⟨_, List.getElem?_eq_getElem hlt⟩
      obtain ⟨J, off, v, rfl, hJ, hcv, hBN⟩ := (HP.out.below HB.out) i p hp
      have HBN := wall (hBN.more HB.out.size)
      obtain ⟨Ap, cp, rfl, hcp, hnil, hN⟩ := hBN
      have HFL := wall (partsB_take hp)
      have hsz := mem_flatten_le hp
      have hpl : p.length ≤ 100000 := by have := HM.out; omega
      obtain ⟨cur, hcur⟩ : ∃ c, c3 ++ partsB (ps.take i) = c := ⟨_, rfl⟩
      have HCL := wall (show cur.length ≤ 300000 by
        rw [← hcur, List.length_append, HC3L.out, partsB_length, List.length_take]
        have := HM.out
        omega)
      rw [hcur] at HQ
      obtain ⟨nb, hnb⟩ : ∃ x, numB p.length 4 = x := ⟨_, rfl⟩
      obtain ⟨d2, hd2⟩ : ∃ x, cur ++ nb ++ p = x := ⟨_, rfl⟩
      have HD2 := wall (show c3 ++ partsB (ps.take (i + 1)) = d2 by
        rw [HFL.out, ← hd2, ← hcur, hnb]
        simp only [List.append_assoc])
      have HNB := wall (show ∀ x ∈ nb, x < 256 by rw [← hnb]; exact numB_byte _ _)
      have HNL := wall (show nb.length = 4 by rw [← hnb]; exact numB_length _ _)
      have HNU := wall (fun W => num_any (p.length : Int) 4 p.length 4 W rfl rfl (by omega) (by decide))
      rw [hnb] at HNU
      have HD2E := wall hd2
      clear hp hnil hN hcur hnb hd2 HFL hsz
      go_wp2_with fail
      (with_reducible refine (HNU.out _).mono ?_); rintro e w6 ⟨v6, rfl, hO6, hB6⟩
      obtain ⟨A6, m6, cp6, rfl, hm6, hcp6, hni6, hN6⟩ := own_join hO6 HNB.out
      have HP6 := wall (BytesN.of hm6 hcp6 hni6 hN6)
      have HQ6 := wall ((HQ.out.below hB6).more hB6.size)
      have HBN6 := wall ((HBN.out.below hB6).more hB6.size)
      have K6 := wall (K.out.next hB6 rfl)
      have HB6 := wall (below_then HB.out hB6 (Nat.le_refl _))
      clear hO6 hm6 hcp6 hni6 hN6 hB6 K HB HQ HBN HNU
      have HJ := wall (join_new3 w6 _ _ _ cur nb p HQ6.out HP6.out HBN6.out (by have := HCL.out; rw [HNL.out]; omega))
      rw [HD2E.out] at HJ
      go_wp2_with fail
      (with_reducible refine HJ.out.mono ?_); rintro e w7 ⟨A7, m7, cp7, rfl, hm7, hcp7, hni7, hN7, hB7⟩
      have HP7 := wall (BytesN.of hm7 hcp7 hni7 hN7)
      have K7 := wall (K6.out.next hB7 rfl)
      have HB7 := wall (below_then HB6.out hB7 (Nat.le_refl _))
      clear hm7 hcp7 hni7 hN7 hB7 K6 HB6 HQ6 HP6 HBN6 HJ
      go_wp2_with fail
      go_light
      go_roundg (ps.length - (i + 1))
      case measure => have := HG.out; omega
      case rel => exact ⟨i + 1, A7, m7, cp7, by have := HG.out; omega, by go_num, rfl, wall (by rw [HD2.out]; exact HP7.out), K7, HB7⟩
    · have hil : i = ps.length := by omega
      subst hil
      have hni : ¬ (((ps.length : Nat) : Int) < ((ps.length : Nat) : Int)) := by omega
      rw [List.take_length] at HQ
      obtain ⟨tot, htot⟩ : ∃ x, c3 ++ partsB ps = x := ⟨_, rfl⟩
      rw [htot] at HQ HR
      have HTL := wall (show tot.length ≤ 700000 by
        rw [← htot, List.length_append, HC3L.out, partsB_length]
        have := HM.out
        omega)
      have HSU := wall (r2sum_any k tot A len cap B m c wr HL.out h64 ((HN.out.below HB.out).more HB.out.size) HQ.out HTL.out)
      rw [HR.out] at HSU
      have HS := wall (show (Tryd.prog.info? 23).map (·.size) = some (b8 r).size by rw [b8_size, HRL.out]; exact dig_info)
      have HZ := wall (show (b8 (List.replicate 32 0)).size = (b8 r).size by rw [b8_size, b8_size, HRL.out]; rfl)
      clear hlt htot
      go_wp2_with fail
      (with_reducible refine HSU.out.mono ?_); rintro e w8 ⟨rfl, hB8⟩
      have K8 := wall (K.out.next hB8 rfl)
      have HB8 := wall (below_then HB.out hB8 (Nat.le_refl _))
      clear hB8 K HB HSU HQ
      go_wp2_with (refine wpList_store_row rfl 23 (.tmp 6) _ rfl w.heap.size (b8 r) rfl rfl 23 (b8 (List.replicate 32 0)) K8.out HS.out HZ.out (b8_one _) ?_)
      have hb := setRow_heap _ _ _ (b8 r) _ _ K8.out
      have hB := below_setRow HB8.out (Nat.le_refl _) (b8 r)
      go_light
      exact bodyPost_ret (v := .agg (b8 r)) (results_cell_row Tryd.results38 _ _ w.heap.size 23 (b8 r) (0, 0) _ rfl hb Tryd.underlying23 rfl HS.out) rfl ⟨rfl, hB⟩
end Mac
end Go.Proofs.YtpakdcgcgekcfaaDoor

/-
  Two digests by value are compared.
-/
set_option linter.unusedSimpArgs false
set_option linter.unusedVariables false
namespace Go.Proofs.YtpakdcgcgekcfaaDoor
open Go.RowKit

namespace Otp
theorem u8_plain : Tryd.prog.plainKey 5 = true := by kernel_rfl
theorem u8_under : Tryd.prog.underlying 5 = some (.int .u8) := by kernel_rfl
theorem run_eqItems_b8 (w : World) (d : Nat) (x y : List Nat) : ∀ is : List Nat, (∀ i ∈ is, i < x.length ∧ i < y.length) →
    (Op.eqItems (d + 1) 5 1 (b8 x) (b8 y) is).run Tryd.prog w = .ok (is.all fun i => decide (x[i]? = y[i]?)) w
  | [], _ => by simp [Op.eqItems]
  | i :: is, h => by
    obtain ⟨h1, h2⟩ := h i (by simp)
    have p1 : (part 5 (b8 x) (i * 1)).run Tryd.prog w = .ok (.int .u8 ((x[i] : Nat) : Int)) w := run_part_plain w u8_plain (by simp [b8, h1])
    have p2 : (part 5 (b8 y) (i * 1)).run Tryd.prog w = .ok (.int .u8 ((y[i] : Nat) : Int)) w := run_part_plain w u8_plain (by simp [b8, h2])
    have ih := run_eqItems_b8 w d x y is (fun j hj => h j (by simp [hj]))
    simp only [Op.eqItems, Sem.run_bind, p1, p2, Result.andThen_ok, run_equalIn_int w d 5 .u8 .u8 _ _ u8_under, List.all_cons]
    rw [List.getElem?_eq_getElem h1, List.getElem?_eq_getElem h2]
    by_cases e : x[i] = y[i]
    · simp only [e, beq_self_eq_true, Bool.not_true, Bool.false_eq_true, if_false, decide_true, Bool.true_and]
      exact ih
    · have e' : ¬ ((x[i] : Nat) : Int) = ((y[i] : Nat) : Int) := by omega
      simp [e, e']
theorem eq_arr (w : World) (n : Nat) (t : TypeId) (x y : List Nat) (hx : x.length = n) (hy : y.length = n) (hu : Tryd.prog.underlying t = some (.array n 5)) :
    (Op.equalIn 10000 t (.agg (b8 x)) (.agg (b8 y))).run Tryd.prog w = .ok (decide (x = y)) w := by
  have hs : (Tryd.prog.info? 5).isSome = true := by kernel_rfl
  obtain ⟨i, hi⟩ := Option.isSome_iff_exists.1 hs
  have hc : Tryd.prog.cellsOf 5 = 1 := by kernel_rfl
  have h1 := run_equalIn_array w 9999 (b8 x) (b8 y) hu hi
  rw [hc] at h1
  have h2 := run_eqItems_b8 w 9998 x y (List.range n) (fun j hj => by have := List.mem_range.1 hj; omega)
  refine (show _ = _ from h1).trans ((show _ = _ from h2).trans ?_)
  refine congrArg (fun b => Result.ok b w) ?_
  by_cases e : x = y
  · subst e
    simp
  · rw [decide_eq_false e]
    rw [Bool.eq_false_iff]
    intro h
    apply e
    apply List.ext_getElem?
    intro j
    rw [List.all_eq_true] at h
    rcases Nat.lt_or_ge j n with hj | hj
    · simpa using h j (List.mem_range.2 hj)
    · rw [List.getElem?_eq_none (by omega), List.getElem?_eq_none (by omega)]
end Otp
end Go.Proofs.YtpakdcgcgekcfaaDoor

/-
  Layer 15 awake: the document's example. A chain of keys, in memory.
-/
set_option linter.unusedSimpArgs false
set_option linter.unusedVariables false
namespace Go.Proofs.YtpakdcgcgekcfaaDoor
open Go.RowKit

namespace Slot
open Otp R1 Sha Mac
/-- A chain in memory. -/
structure Chm (w : World) (g n : Nat) (k : List Nat) : Prop where
  ex : ∃ s, Sl w g s ∧ Chn s n k
theorem Chm.old {w w' : World} {g n : Nat} {k : List Nat} (h : Chm w g n k) (hb : Below w.heap.size w w') : Chm w' g n k := let ⟨s, h1, h2⟩ := h.ex; ⟨s, h1.old hb, h2⟩
theorem Chm.frm {w w' : World} {g n : Nat} {k : List Nat} {S : List Nat} (h : Chm w g n k) (hb : Frm S w w') (hg : g ∉ S) : Chm w' g n k := let ⟨s, h1, h2⟩ := h.ex; ⟨s, h1.frm hb hg, h2⟩
theorem Chm.lt {w : World} {g n : Nat} {k : List Nat} (h : Chm w g n k) : g < w.heap.size := let ⟨_, h1, _⟩ := h.ex; h1.lt
theorem Chm.key {w : World} {g n : Nat} {k : List Nat} (h : Chm w g n k) : k.length = 32 ∧ ∀ x ∈ k, x < 256 := let ⟨_, _, h2⟩ := h.ex; ⟨h2.len, h2.byte⟩
def NewOut (w : World) (e : Ending) (w' : World) : Prop := e = .returned (.pointer (some ⟨w.heap.size, 0, none⟩)) ∧ Sl w' w.heap.size newSt ∧ Below w.heap.size w w'
theorem snew_out (w : World) : Calls Tryd.prog 34 #[] w (NewOut w) := (snew_any w).mono fun _ _ h => h
def ChOut (w : World) (g n : Nat) (k : List Nat) (e : Ending) (w' : World) : Prop := e = .returned (.int .i64 0) ∧ Chm w' g n k ∧ Frm [g] w w'
theorem ch_lay (g : Nat) (key : List Nat) (w : World) (hS : Sl w g newSt) (hl : key.length = 32) (hb : ∀ x ∈ key, x < 256) :
    Calls Tryd.prog 35 #[.pointer (some ⟨g, 0, none⟩), .int .i64 0, .int .i64 1, .agg (b8 key)] w (ChOut w g 0 key) := by
  have := lay_any g newSt 0 1 key w hS (wfI_small (by decide) (by decide)) hl hb
  rw [(lay_new key).1, (lay_new key).2] at this
  exact this.mono fun _ _ ⟨h1, h2, h3⟩ => ⟨h1, ⟨_, h2, chn_start hl hb⟩, h3⟩
theorem ch_derive (g n : Nat) (k : List Nat) (a b : Int) (lb : ByteArray) (ps : List (List Nat)) (PA : Option Addr) (pn pc : Nat) (w : World) (hT : STab w) (hC : Chm w g n k) (hn : n < 7) (ha : a = n) (hb : b = ((n + 1 : Nat) : Int))
    (hlb : lb.size ≤ 100000) (hpn : ps.length = pn) (hpm : pn ≤ 1000) (hP : Parts w w.heap.size PA ps) (hm : ps.flatten.length ≤ 100000) :
    Calls Tryd.prog 37 #[.pointer (some ⟨g, 0, none⟩), .int .i64 a, .int .i64 b, .string lb, .slice PA pn pc] w (ChOut w g (n + 1) (deriveB k (sB lb) ps)) := by
  subst ha hb
  obtain ⟨s, hS, hc⟩ := hC.ex
  obtain ⟨hE, s', hs', hc'⟩ := hc.der hn (sB lb) ps
  have := sderive_any g s n ((n + 1 : Nat) : Int) lb ps PA pn pc w hT hS (wfI_small (by omega) (by omega)) (wfI_small (by omega) (by omega)) hlb hpn hpm hP hm
  rw [hE, hs'] at this
  exact this.mono fun _ _ ⟨h1, h2, h3⟩ => ⟨h1, ⟨_, h2, hc'⟩, h3⟩
theorem ch_mac (g n : Nat) (k : List Nat) (a : Int) (ps : List (List Nat)) (PA : Option Addr) (pn pc : Nat) (w : World) (hT : STab w) (hC : Chm w g n k) (ha : a = n) (hpn : ps.length = pn) (hpm : pn ≤ 1000) (hP : Parts w w.heap.size PA ps) (hm : ps.flatten.length ≤ 100000) :
    Calls Tryd.prog 39 #[.pointer (some ⟨g, 0, none⟩), .int .i64 a, .slice PA pn pc] w (DigErr w (macB k ps.flatten) 0) := by
  subst ha
  obtain ⟨s, hS, hc⟩ := hC.ex
  have hn := hc.le
  have := smac_any g s n ps PA pn pc w hT hS (wfI_small (by omega) (by omega)) hpn hpm hP hm
  rw [hc.mac, hc.keyE (Nat.le_refl _)] at this
  exact this
theorem ch_kind (g n : Nat) (k : List Nat) (a : Int) (w : World) (hC : Chm w g n k) (ha : a = n) (h1 : 1 ≤ n) : Calls Tryd.prog 41 #[.pointer (some ⟨g, 0, none⟩), .int .i64 a] w (IntBelow w 2) := by
  subst ha
  obtain ⟨s, hS, hc⟩ := hC.ex
  have hn := hc.le
  have := kind_any g s n w hS (wfI_small (by omega) (by omega))
  rw [hc.two h1] at this
  exact this
theorem bytesN_mark {t : TypeId} (w : World) (l : List Nat) (hb : ∀ x ∈ l, x < 256) (fr : Nat × Nat) : BytesN (w.alloc (.cells (b8 l) t fr)) (w.alloc (.cells (b8 l) t fr)).heap.size l (.slice (some ⟨w.heap.size, 0, none⟩) l.length l.length) := by
  refine ⟨_, _, rfl, Nat.le_refl _, (fun h => by cases h), fun i z hz => ⟨hb z (List.mem_of_getElem? hz), w.heap.size, 0, rfl, by simp, ?_⟩⟩
  have h0 : (w.alloc (.cells (b8 l) t fr)).heap[w.heap.size]? = some (.cells (b8 l) t fr) := Rel.alloc_at _ _
  unfold World.cell?
  rw [h0, Nat.zero_add]
  simp [b8, hz]
/-- One part: a constant text. -/
theorem part_const {t u : TypeId} (w : World) (l : List Nat) (hb : ∀ x ∈ l, x < 256) (fr : Nat × Nat) (W : World) (hW : W = (w.alloc (.cells (b8 l) t fr)).alloc (.cells #[.slice (some ⟨w.heap.size, 0, none⟩) l.length l.length] u)) :
    Parts W W.heap.size (some ⟨w.heap.size + 1, 0, none⟩) [l] ∧ Below w.heap.size w W := by
  subst hW
  refine ⟨?_, ((Below.refl _ w).alloc (Nat.le_refl _) _).alloc (by simp) _⟩
  have := parts_new (t := u) (w.alloc (.cells (b8 l) t fr)) [.slice (some ⟨w.heap.size, 0, none⟩) l.length l.length] [l] rfl (fun i p v hp hv => by
    have hi : i = 0 := by have := (List.getElem?_eq_some_iff.1 hp).1; simpa using this
    subst hi
    simp only [List.getElem?_cons_zero, Option.some.injEq] at hp hv
    subst hp hv
    exact bytesN_mark w l hb fr)
  have e : (w.alloc (.cells (b8 l) t fr)).heap.size = w.heap.size + 1 := by simp
  rw [e] at this
  exact this
theorem bytesN_lit8 {B : Nat} {t : TypeId} {v : Value} {W : World} (l : List Nat) (hb : ∀ x ∈ l, x < 256) (h : Rel.Lit8 B t (l.map fun x => Value.int .u8 ((x : Nat) : Int)) v W) : ∃ g, v = .slice (some ⟨g, 0, none⟩) l.length l.length ∧ BytesN W W.heap.size l (.slice (some ⟨g, 0, none⟩) l.length l.length) := by
  obtain ⟨g, rfl, _, hlt, _, hc⟩ := h
  rw [List.length_map]
  refine ⟨g, rfl, _, _, rfl, Nat.le_refl _, (fun h => by cases h), fun i z hz => ⟨hb z (List.mem_of_getElem? hz), g, 0, rfl, hlt, ?_⟩⟩
  rw [Nat.zero_add]
  exact hc i _ (by simp [hz])
def k5 : List Nat := 5 :: List.replicate 31 0
theorem k5_ok : k5.length = 32 ∧ ∀ x ∈ k5, x < 256 := by decide
set_option maxRecDepth 100000 in
set_option maxHeartbeats 4000000 in
theorem awake_any (w : World) (hT : STab w) : Calls Tryd.prog 33 #[] w (TrueBelow w) := by
  have HT := Lib.hid hT
  have HSK := Lib.hid (show (Tryd.prog.info? 23).map (·.size) = some (b8 k5).size by kernel_rfl)
  obtain ⟨k1, hk1⟩ : ∃ k1, deriveB k5 (sB ⟨#[120]⟩) [] = k1 := ⟨_, rfl⟩
  obtain ⟨D, hD⟩ : ∃ D, macB k1 [109] = D := ⟨_, rfl⟩
  have HK1 := Lib.hid hk1
  have HD := Lib.hid hD
  clear hT hk1 hD
  go_enter Tryd.func33, Tryd.ntmps33
  go_wp2_with fail
  (with_reducible refine (snew_out _).mono ?_); rintro e w1 ⟨rfl, hS1, hB1⟩
  have HS1 := Lib.hid hS1
  have HB1 := Lib.hid hB1
  clear hS1 hB1
  generalize hg : w.heap.size = g at *
  go_upto_region 3 with (refine wpList_new_row rfl 23 (.tmp 2) (.tmp 7) rfl w1.heap.size (b8 k5) rfl (by kernel_rfl) 23 (b8 (List.replicate 32 0)) (Blk.new _ _ _) HSK.out rfl (b8_one _) w1.heap.size w1 ((Below.refl _ w1).alloc (Nat.le_refl _) _) (Nat.le_refl _) ?_; intro w2 K2 B2)
  have hlt : g < w1.heap.size := HS1.out.lt
  have HS2 := Lib.hid (HS1.out.old B2.out)
  have HB2 := Lib.hid (below_then HB1.out B2.out (by omega))
  have HLY := Lib.hid (ch_lay g k5 w2 HS2.out k5_ok.1 k5_ok.2)
  obtain ⟨gK, hgK⟩ : ∃ x, x = w1.heap.size := ⟨_, rfl⟩
  rw [← hgK] at K2 hlt
  rw [← hgK]
  have HGK := Lib.hid hlt
  clear B2 HS1 HB1 HS2 hgK
  go_wp2_with (refine load_row_g (by rfl) 23 _ rfl gK rfl 23 (b8 k5) _ K2.out Tryd.underlying23 rfl HSK.out ?_)
  (with_reducible refine HLY.out.mono ?_); rintro e w3 ⟨rfl, hC3, hF3⟩
  have K3 := Lib.hid (K2.out.frm hF3 (by simp; have := HGK.out; omega))
  have HB3 := Lib.hid (HB2.out.trans (Frm.below hF3 (by rw [← hg]; exact HB2.out.size) (fun x hx => by simp at hx; omega)))
  have HC3 := Lib.hid hC3
  have HDV := Lib.hid (ch_derive g 0 k5 0 1 ⟨#[120]⟩ [] none 0 0 w3 (HT.out.old (by rw [hg]; exact HB3.out)) hC3 (by decide) rfl rfl (by decide) rfl (by decide) (Parts.nil _ _ _) (by decide))
  rw [HK1.out] at HDV
  clear hC3 hF3 HLY K2 HB2
  go_wp2_with fail
  (with_reducible refine HDV.out.mono ?_); rintro e w4 ⟨rfl, hC4, hF4⟩
  have K4 := Lib.hid (K3.out.frm hF4 (by simp; have := HGK.out; omega))
  have HB4 := Lib.hid (HB3.out.trans (Frm.below hF4 (by rw [← hg]; exact HB3.out.size) (fun x hx => by simp at hx; omega)))
  have HC4 := Lib.hid hC4
  have HK1B := Lib.hid hC4.key
  clear hC4 hF4 HC3 HDV K3 HB3
  obtain ⟨W5, hW5⟩ : ∃ W, W = (w4.alloc (.cells (b8 [109]) 5 (1, 2))).alloc (.cells #[.slice (some ⟨w4.heap.size, 0, none⟩) 1 1] 53) := ⟨_, rfl⟩
  have HW5 := Lib.hid hW5
  obtain ⟨hP5, hB5⟩ := part_const w4 [109] (by decide) (1, 2) W5 hW5
  have HB45 := Lib.hid hB5
  have HB5 := Lib.hid (below_then HB4.out hB5 (Nat.le_of_eq hg.symm))
  have HM := Lib.hid (ch_mac g 1 k1 1 [[109]] (some ⟨w4.heap.size + 1, 0, none⟩) 1 1 W5 (HT.out.old (by rw [hg]; exact HB5.out)) (HC4.out.old hB5) rfl rfl (by decide) hP5 (by decide))
  rw [show [[109]].flatten = [109] from rfl, HD.out] at HM
  clear hW5 hP5 hB5
  have kc := fun (w : World) (C : Array Value) (n c : Nat) => Lib.run_convert_bytes_const (P := Tryd.prog) w 53 5 C n c Tryd.underlying53 Tryd.underlying5
  go_wp2_with fail
  change Calls _ _ _ ((w4.alloc (.cells (b8 [109]) 5 (1, 2))).alloc (.cells #[.slice (some ⟨w4.heap.size, 0, none⟩) 1 1] 53)) _
  rw [← HW5.out]
  (with_reducible refine HM.out.mono ?_); rintro e w6 ⟨rfl, hB6⟩
  have K6 := Lib.hid ((K4.out.next HB45.out rfl).next hB6 rfl)
  have HB6 := Lib.hid (below_then HB5.out hB6 (Nat.le_of_eq hg.symm))
  clear kc HM HW5 hB6 HB45 HB5 HC4 K4
  have HDL := Lib.hid (show D.length = 32 by rw [← HD.out]; exact macB_length _ _)
  have HSD := Lib.hid (show (Tryd.prog.info? 23).map (·.size) = some (b8 D).size by rw [b8_size, HDL.out]; exact dig_info)
  have HZD := Lib.hid (show (b8 (List.replicate 32 0)).size = (b8 D).size by rw [b8_size, b8_size, HDL.out]; rfl)
  have HS1 := Lib.hid (show (Tryd.prog.info? 23).map (·.size) = some (b8 k1).size by rw [b8_size, HK1B.out.1]; exact dig_info)
  have HZ1 := Lib.hid (show (b8 (List.replicate 32 0)).size = (b8 k1).size by rw [b8_size, b8_size, HK1B.out.1]; rfl)
  have hsl := fun b => run_slice_arr_all (P := Tryd.prog) 23 5 32 Tryd.underlying23 (fun _ => by kernel_rfl) b 0 (by decide)
  go_upto_region 6 with (refine wpList_new_row rfl 23 (.tmp 3) (.tmp 27) rfl w6.heap.size (b8 D) rfl rfl 23 (b8 (List.replicate 32 0)) (Blk.new _ _ _) HSD.out HZD.out (b8_one _) w6.heap.size w6 ((Below.refl _ w6).alloc (Nat.le_refl _) _) (Nat.le_refl _) ?_; intro w7 KD B7)
  have K7 := Lib.hid (K6.out.next B7.out rfl)
  have HB7 := Lib.hid (below_then HB6.out B7.out (Nat.le_of_eq hg.symm))
  obtain ⟨gD, hgD⟩ : ∃ x, x = w6.heap.size := ⟨_, rfl⟩
  rw [← hgD] at KD
  rw [← hgD]
  have HDR := Lib.hid (r2derive_any k5 (some ⟨gK, 0, none⟩) 32 32 ⟨#[120]⟩ [] none 0 0 w7 rfl (by decide) (nats_b8 K7.out (fun x hx => k5_ok.2 x hx)) (by decide) rfl (by decide) (Parts.nil _ _ _) (by decide))
  rw [HK1.out] at HDR
  clear B7 HB6 K6 hgD
  go_wp2_with fail
  (with_reducible refine HDR.out.mono ?_); rintro e w8 ⟨rfl, hB8⟩
  have KD8 := Lib.hid (KD.out.next hB8 rfl)
  have HB8 := Lib.hid (below_then HB7.out hB8 (Nat.le_of_eq hg.symm))
  clear HDR hB8 KD K7 HB7
  go_upto_region 7 with (refine wpList_new_row rfl 23 (.tmp 5) (.tmp 30) rfl w8.heap.size (b8 k1) rfl rfl 23 (b8 (List.replicate 32 0)) (Blk.new _ _ _) HS1.out HZ1.out (b8_one _) w8.heap.size w8 ((Below.refl _ w8).alloc (Nat.le_refl _) _) (Nat.le_refl _) ?_; intro w9 KX B9)
  have KD9 := Lib.hid (KD8.out.next B9.out rfl)
  have HB9 := Lib.hid (below_then HB8.out B9.out (Nat.le_of_eq hg.symm))
  have HT9 := Lib.hid (HT.out.old (by rw [hg]; exact HB9.out))
  obtain ⟨gX, hgX⟩ : ∃ x, x = w8.heap.size := ⟨_, rfl⟩
  rw [← hgX] at KX
  rw [← hgX]
  clear B9 HB8 KD8 hgX
  have heq := fun W => eq_arr W 32 23 D D HDL.out HDL.out Tryd.underlying23
  simp only [decide_true] at heq
  refine Rel.wp_region_rel 11 [(36, .any (Rel.Lit8 w9.drew.heap.size 5 [.int .u8 109]) Rel.Lit8.soft), (37, .any (Rel.Lit8 w9.drew.heap.size 5 [.int .u8 109]) Rel.Lit8.soft), (38, .const (.agg (b8 D)))] (by kernel_rfl) (by kernel_rfl) ?_
  simp only [List.take_succ_cons, List.take_zero, List.drop_succ_cons, List.drop_zero, Act.put, List.setIfInBounds_toArray, List.set_cons_zero, List.set_cons_succ]
  repeat (refine Rel.tree_quiet rfl rfl rfl (fun K hK => ?_); go_big_quiet_op; refine hK _ ?_; clear hK K)
  refine Rel.tree_pure rfl rfl rfl (.agg (b8 D)) (fun W hW _ => Rel.exec_load _ _ rfl gD 0 rfl _ _ (Blk.range (hW.blk KD9.out.drew)) Tryd.underlying23 rfl HSD.out) ?_
  simp only [Act.put, List.setIfInBounds_toArray, List.set_cons_zero, List.set_cons_succ]
  (refine Rel.tree_quiet rfl rfl rfl (fun K hK => ?_); go_big_quiet_op; refine hK _ ?_; clear hK K)
  refine Rel.tree_rel rfl (Rel.Lit8 w9.drew.heap.size 5 [.int .u8 109]) Rel.Lit8.soft rfl (fun W hW _ => ?_) (fun v36 => ?_)
  · unfold Rel.relAt
    go_simp
    exact ⟨Rel.Grow.alloc _ _, Rel.lit8_new [.int .u8 109] hW.size⟩
  simp only [Act.put, List.setIfInBounds_toArray, List.set_cons_zero, List.set_cons_succ]
  refine Rel.tree_step rfl (Rel.Lit8 w9.drew.heap.size 5 [.int .u8 109]) Rel.Lit8.soft rfl (fun W hW hF => Rel.stepAt_const rfl Tryd.underlying53 Tryd.underlying5 v36 rfl (hF 36 (by decide))) (fun v37 => ?_)
  simp only [Act.put, List.setIfInBounds_toArray, List.set_cons_zero, List.set_cons_succ]
  refine Rel.tree_const rfl (.agg (b8 D)) rfl (fun W hW hF => ?_) ?_
  · have h37 := hF 37 (by decide)
    obtain ⟨g7, rfl, hp7⟩ := bytesN_lit8 [109] (by decide) h37
    have hK := nats_b8 (hW.blk KX.out.drew) HK1B.out.2
    have hS := r2sum_any k1 [109] (some ⟨gX, 0, none⟩) 32 32 (some ⟨g7, 0, none⟩) 1 1 W HK1B.out.1 (by decide) hK hp7 (by decide)
    rw [HD.out] at hS
    clear hF h37
    unfold Rel.relAt; go_simp; show Calls _ _ _ _ _
    exact const_call hS
  simp only [Act.put, List.setIfInBounds_toArray, List.set_cons_zero, List.set_cons_succ]
  repeat (refine Rel.tree_quiet rfl rfl rfl (fun K hK => ?_); go_big_quiet_op; refine hK _ ?_; clear hK K)
  intro W hW _
  have HW := Lib.hid (HB9.out.trans (hW.undrew.mono (by rw [← hg]; exact HB9.out.size)))
  clear hW
  go_wp2_with fail
  go_light
  go_ret
  exact ⟨rfl, by rw [hg]; exact HW.out⟩
end Slot
end Go.Proofs.YtpakdcgcgekcfaaDoor

/-
  Bytes as the law's frame gives them.
-/
set_option linter.unusedSimpArgs false
set_option linter.unusedVariables false
namespace Go.Proofs.YtpakdcgcgekcfaaDoor
open Go.RowKit

namespace Slot
open Otp
theorem u8_ints (zs : List Int) (h : ∀ z ∈ zs, (Lit.int .u8 z).wf = true) : (zs.map (Value.int .u8)).toArray = b8 (zs.map Int.toNat) ∧ ∀ x ∈ zs.map Int.toNat, x < 256 := by
  refine ⟨?_, fun x hx => ?_⟩
  · unfold b8
    rw [List.map_map]
    congr 1
    exact List.map_congr_left fun z hz => by
      have := bounds_u8 (h z hz)
      simp only [Function.comp_apply, Int.toNat_of_nonneg this.1]
  · obtain ⟨z, hz, rfl⟩ := List.mem_map.1 hx
    have := bounds_u8 (h z hz)
    omega
end Slot
end Go.Proofs.YtpakdcgcgekcfaaDoor

/-
  What a row's list gives: the tables of package sha in their variables.
-/
set_option linter.unusedSimpArgs false
set_option linter.unusedVariables false
namespace Go.Proofs.YtpakdcgcgekcfaaDoor
open Go.RowKit

theorem tabIs_of_vars {P : Program} {W : World} {name : String} {k : IntKind} {zs : List Int} {g : Nat} {t e : TypeId} {n : Nat}
    (hg : P.globalNamed name = some g) (hty : (P.globals[g]?).map (·.type) = some t) (ht : P.underlying t = some (.array n e)) (he : P.underlying e = some (.int k)) (hce : P.cellsOf e = 1) (hct : P.cellsOf t = n) :
    ∀ (laid : List (String × DataW Unit)) (ps : List MemPlace), DataW.LaidVars P W laid ps → (name, Lib.tabData k zs) ∈ laid → Lib.TabIs P W name k zs
  | [], _, _, hm => by cases hm
  | x :: rest, ps, h, hm => by
    obtain ⟨g', t', cs, fuel, p, q, hg', ht', hvar, hd, hr, _⟩ := h
    rcases List.mem_cons.1 hm with rfl | hm
    · obtain rfl := Option.some.inj (hg.symm.trans hg')
      obtain rfl := Option.some.inj (hty.symm.trans ht')
      unfold Lib.TabIs
      rw [hvar, ← Lib.cells_of_tab ht he hce hct hd]
    · exact tabIs_of_vars hg hty ht he hce hct rest q hr hm
namespace Sha
open Otp R1
theorem gFirst : Tryd.prog.globalNamed "curtilage/sha.first" = some 2 := by kernel_rfl
theorem gFirstType : (Tryd.prog.globals[2]?).map (·.type) = some 118 := by kernel_rfl
theorem gFirstCells : Tryd.prog.cellsOf 118 = 8 := by kernel_rfl
theorem gRounds : Tryd.prog.globalNamed "curtilage/sha.rounds" = some 3 := by kernel_rfl
theorem gRoundsType : (Tryd.prog.globals[3]?).map (·.type) = some 44 := by kernel_rfl
theorem gRoundsCells : Tryd.prog.cellsOf 44 = 64 := by kernel_rfl
theorem u32Cells : Tryd.prog.cellsOf 43 = 1 := by kernel_rfl
def zI (l : List Nat) : List Int := l.map fun x => ((x : Nat) : Int)
theorem range_of {W : World} {name : String} {l : List Nat} {g : Nat} (h : Lib.TabIs Tryd.prog W name .u32 (zI l)) (hg : Tryd.prog.globalNamed name = some g) : W.rangeAt g 0 (c32 l).toList := fun j v hv => by
  have hv' : (l.map fun x => Value.int .u32 ((x : Nat) : Int))[j]? = some v := by simpa [c32] using hv
  rw [List.getElem?_map] at hv'
  cases hx : l[j]? with
  | none => rw [hx] at hv'; cases hv'
  | some x =>
    rw [hx] at hv'
    obtain rfl := Option.some.inj hv'
    have hj := (List.getElem?_eq_some_iff.1 hx).1
    have := h.cell hg j (by simpa [zI] using hj)
    rw [Nat.zero_add, this]
    simp [zI, List.getD, hx]
theorem stab_of {W : World} {laid : List (String × DataW Unit)} (h : laidMet Tryd.prog laid W) (h1 : ("curtilage/sha.first", Lib.tabData .u32 (zI rH)) ∈ laid) (h2 : ("curtilage/sha.rounds", Lib.tabData .u32 (zI rK)) ∈ laid) : STab W := by
  obtain ⟨ps, hv, _⟩ := h
  exact ⟨range_of (tabIs_of_vars gRounds gRoundsType Tryd.underlying44 Tryd.underlying43 u32Cells gRoundsCells _ _ hv h2) gRounds, range_of (tabIs_of_vars gFirst gFirstType Tryd.underlying118 Tryd.underlying43 u32Cells gFirstCells _ _ hv h1) gFirst⟩
def errLarge : DataW Unit := .iface "*errors.errorString" (.ptr (.agg [.lit (.string [98, 121, 116, 101, 115, 46, 66, 117, 102, 102, 101, 114, 58, 32, 116, 111, 111, 32, 108, 97, 114, 103, 101])]))
theorem stab2 {W : World} (h : laidMetH Tryd.prog [("curtilage/sha.first", Lib.tabData .u32 (zI rH)), ("curtilage/sha.rounds", Lib.tabData .u32 (zI rK))] W) : STab W :=
  stab_of (laid := [("curtilage/sha.first", Lib.tabData .u32 (zI rH)), ("curtilage/sha.rounds", Lib.tabData .u32 (zI rK))]) h (by simp) (by simp)
theorem stab3 {W : World} (h : laidMetH Tryd.prog [("bytes.ErrTooLarge", errLarge), ("curtilage/sha.first", Lib.tabData .u32 (zI rH)), ("curtilage/sha.rounds", Lib.tabData .u32 (zI rK))] W) : STab W :=
  stab_of (laid := [("bytes.ErrTooLarge", errLarge), ("curtilage/sha.first", Lib.tabData .u32 (zI rH)), ("curtilage/sha.rounds", Lib.tabData .u32 (zI rK))]) h (by simp) (by simp)
end Sha
end Go.Proofs.YtpakdcgcgekcfaaDoor

/-
  The references' Same.
-/
set_option linter.unusedSimpArgs false
set_option linter.unusedVariables false
namespace Go.Proofs.YtpakdcgcgekcfaaDoor
open Go.RowKit

namespace R1
def SameOut (w : World) (v : Bool) (e : Ending) (w' : World) : Prop := e = .returned (.bool v) ∧ ∃ n, w' = w.drewN n
theorem Nats.drewN {k : IntKind} {M : Nat} {w : World} {B : Nat} {a : Option Addr} {zs : List Nat} (h : Nats k M w B a zs) (n : Nat) : Nats k M (w.drewN n) B a zs := h
theorem drewN_drewN (w : World) (a b : Nat) : (w.drewN a).drewN b = w.drewN (a + b) := by
  simp [World.drewN, Nat.add_assoc]
set_option maxHeartbeats 1000000 in
theorem same_any (A B : Option Addr) (la lb ca cb : Nat) (x y : List Nat) (v : Bool) (w : World) (BA BB : Nat) (hx : x.length = la) (hy : y.length = lb) (hma : la ≤ maxLen) (hmb : lb ≤ maxLen) (hA : Nats .u8 256 w BA A x) (hB : Nats .u8 256 w BB B y) (hv : decide (x = y) = v) :
    Calls Tryd.prog 29 #[.slice A la ca, .slice B lb cb] w (SameOut w v) := by
  have HA := Lib.hid hA
  have HB := Lib.hid hB
  have HV := Lib.hid hv
  simp only [maxLen] at hma hmb
  clear hA hB hv
  subst hx hy
  by_cases hl : x.length = y.length
  · have HL := Lib.hid hl
    have e1 : ((x.length : Int) != (y.length : Int)) = false := by simp [hl]
    clear hl
    go_enter Tryd.func29, Tryd.ntmps29
    go_wp2_with fail
    go_loopg [5, 13] x.length (fun g s5 s13 wr => ∃ i : Nat, i + g = x.length ∧ s13 = .int .i64 (i : Int) ∧ Hid (x.take i = y.take i) ∧ ∃ n, wr = w.drewN n)
    case atStart => exact ⟨0, by omega, rfl, Lib.hid rfl, 0, rfl⟩
    case round =>
      obtain ⟨i, hg, rfl, HT, n, rfl⟩ := hrel
      have HG := Lib.hid hg
      have hi : i ≤ x.length := by omega
      clear hg
      by_cases hlt : i < x.length
      · obtain ⟨a, ha⟩ : ∃ a, x[i]? = some a := ⟨_, List.getElem?_eq_getElem hlt⟩
        obtain ⟨b, hb⟩ : ∃ b, y[i]? = some b := ⟨_, List.getElem?_eq_getElem (by have := HL.out; omega)⟩
        obtain ⟨haM, ga, oa, rfl, hga, hca⟩ := HA.out i a ha
        obtain ⟨hbM, gb, ob, rfl, hgb, hcb⟩ := HB.out i b hb
        have hlt2 : i < y.length := by have := HL.out; omega
        by_cases hab : a = b
        · subst hab
          have HS := Lib.hid (show x.take (i + 1) = y.take (i + 1) by rw [take_snoc ha, take_snoc hb, HT.out])
          clear ha hb
          go_wp2_with fail
          go_quiet (fail)
          go_wp2_with fail
          go_light
          go_roundg (x.length - (i + 1))
          case measure => have := HG.out; omega
          case rel => exact ⟨i + 1, by have := HG.out; omega, by go_num, HS, _, rfl⟩
        · have hne : ((a : Int) != (b : Int)) = true := by rw [bne_iff_ne]; omega
          have HF := Lib.hid (show v = false by
            rw [← HV.out, decide_eq_false_iff_not]
            intro e
            rw [e, hb] at ha
            exact hab (Option.some.inj ha).symm)
          clear ha hb
          go_wp2_with fail
          go_quiet (fail)
          go_wp2_with fail
          go_light
          go_ret
          obtain rfl := HF.out
          exact ⟨rfl, _, drewN_drewN _ _ _⟩
      · have : i = x.length := by omega
        subst this
        have HE := Lib.hid (show v = true by
          rw [← HV.out, decide_eq_true_eq]
          have := HT.out
          rw [List.take_length, HL.out, List.take_length] at this
          exact this)
        go_wp2_with fail
        go_light
        go_ret
        obtain rfl := HE.out
        exact ⟨rfl, n, rfl⟩
  · have e1 : ((x.length : Int) != (y.length : Int)) = true := by rw [bne_iff_ne]; omega
    have HF := Lib.hid (show v = false by
      rw [← HV.out, decide_eq_false_iff_not]
      intro e
      exact hl (by rw [e]))
    clear hl
    go_enter Tryd.func29, Tryd.ntmps29
    go_wp2_with fail
    go_light
    go_ret
    obtain rfl := HF.out
    exact ⟨rfl, 0, rfl⟩
end R1
end Go.Proofs.YtpakdcgcgekcfaaDoor

/-
  RelG, some of whose head's operations are plain values that may be taken late: they are taken as soon as they can be.
-/
set_option linter.unusedSimpArgs false
set_option linter.unusedVariables false
namespace Go.Proofs.YtpakdcgcgekcfaaDoor
open Go Go.RowKit

namespace RelG
/-- Values that no memory tells. -/
def plainOp (o : Oper) : Bool := o.dst.isSome && match o.op with
  | .move _ | .assign _ | .extract _ _ => true
  | _ => false
section
variable {P : Program} {ops : Array Oper} {md : Region.Mode} {n : Nat}
theorem plain_run {o : Oper} {ρ : Operand → Value} {w : World} {v : Value} (hp : plainOp o = true) (h : (execOp ρ o).run P w = .ok (.value v) w) : ∀ w', (execOp ρ o).run P w' = .ok (.value v) w' := fun w' => by
  obtain ⟨dst, op, type, pos, after, guard⟩ := o
  cases op <;> simp only [plainOp, Bool.and_false, Bool.false_eq_true] at hp <;> simp only [execOp] at h ⊢
  case move x => simp at h ⊢; exact h
  case assign x => simp at h ⊢; exact h
  case extract x i =>
    rw [Sem.run_bind] at h ⊢
    generalize ρ x = y at *
    cases y <;> simp [Instr.extract, Result.andThen] at h ⊢
    rename_i vs
    cases hx : vs[i]? with
    | none => rw [hx] at h; simp at h
    | some z => rw [hx] at h; simp at h ⊢; exact h
/-- What an operation waits for, through others. -/
def leadsB (md : Region.Mode) (ops : Array Oper) (k : Nat) : Nat → Nat → Bool
  | 0, _ => false
  | f + 1, j => match ops[j]? with
    | none => false
    | some o => o.after.any fun e => Region.binds md e && (e.on == k || leadsB md ops k f e.on)
def behind (md : Region.Mode) (ops : Array Oper) (j : Nat) : Array Bool := ((List.range ops.size).map fun k => leadsB md ops k ops.size j).toArray
theorem leads_listed {s : Array Bool} (inv : HeadInv md ops n s) {k : Nat} : ∀ (f j : Nat) (o : Oper), ops[j]? = some o → (∀ e ∈ o.after, Region.binds md e = true → s.getD e.on false = true) → leadsB md ops k f j = true → s.getD k false = true
  | 0, _, _, _, _, h => by cases h
  | f + 1, j, o, ho, hall, h => by
    rw [leadsB, ho] at h
    simp only [Array.any_eq_true'] at h
    obtain ⟨e, he, hb⟩ := h
    simp only [Bool.and_eq_true, Bool.or_eq_true, beq_iff_eq] at hb
    obtain ⟨hb1, hb2⟩ := hb
    have hl := hall e he hb1
    rcases hb2 with hk | hk
    · rw [← hk]; exact hl
    · cases ho2 : ops[e.on]? with
      | none =>
        cases f with
        | zero => cases hk
        | succ f => rw [leadsB, ho2] at hk; cases hk
      | some o2 => exact leads_listed inv f e.on o2 ho2 (fun e2 he2 hb3 => inv.closed e.on o2 ho2 hl e2 he2 hb3) hk
def floatB (md : Region.Mode) (ops : Array Oper) (n : Nat) (fl : List Nat) : Bool :=
  fl.all fun j => decide (j < n) && Region.free md ops (behind md ops j) j && match ops[j]? with
    | none => false
    | some o => plainOp o && o.after.all fun e => !Region.binds md e || (decide (e.on < n) && !fl.contains e.on)
def kindB (ops : Array Oper) (ks : List (Tmp × Kind)) (fl : List Nat) : Bool := fl.all fun j => match ops[j]? with
  | none => false
  | some o => (kindOf ks o).isNone
def edgesB (md : Region.Mode) (ops : Array Oper) (n : Nat) (fl : List Nat) : Bool :=
  (List.range ops.size).all fun t => decide (t < n) || (List.range n).all fun i => fl.contains i || Region.waitsFor md ops t i
def okF (md : Region.Mode) (ops : Array Oper) (n : Nat) (fl : List Nat) : Bool := Region.noSelect ops && headB md ops n && decide (n ≤ ops.size) && floatB md ops n fl && edgesB md ops n fl && Region.seqB md ops (ops.size - n) n (canon n ops.size)
theorem free_all {j : Nat} {s : Array Bool} (inv : HeadInv md ops n s) (hr : j ∈ Region.ready md ops s) (h : Region.free md ops (behind md ops j) j = true) : Region.free md ops s j = true := by
  obtain ⟨_, oj, hoj, hall⟩ := mem_ready.1 hr
  unfold Region.free at h ⊢
  rw [hoj] at h ⊢
  simp only [List.all_eq_true, List.mem_range] at h ⊢
  intro k hk
  have := h k hk
  simp only [Bool.or_eq_true] at this ⊢
  rcases this with (h1 | h1) | h1
  · exact .inl (.inl h1)
  · refine .inl (.inr ?_)
    have h2 : leadsB md ops k ops.size j = true := by
      simpa [behind, Array.getD_eq_getD_getElem?, hk] using h1
    have h3 := leads_listed inv _ j oj hoj hall h2
    cases hx : s.getD k true with
    | true => rfl
    | false => rw [getD_both hx] at h3; cases h3
  · exact .inr h1
theorem float_turn {fl : List Nat} {s : Array Bool} (hf : floatB md ops n fl = true) (he : edgesB md ops n fl = true) (inv : HeadInv md ops n s) (hn : n ≤ ops.size) {i : Nat} (hi : i < n) (hun : s.getD i true = false) :
    (∀ t, t ∈ Region.ready md ops s → t < n) ∨ (i ∈ fl ∧ i ∈ Region.ready md ops s) := by
  by_cases hx : ∃ k, k < n ∧ k ∉ fl ∧ s.getD k true = false
  · obtain ⟨k, hk, hkf, hku⟩ := hx
    refine .inl (fun t ht => ?_)
    rcases Nat.lt_or_ge t n with h4 | h4
    · exact h4
    · exfalso
      obtain ⟨_, ot, hot, hall⟩ := mem_ready.1 ht
      have htlt : t < ops.size := (Array.getElem?_eq_some_iff.1 hot).1
      have h1 := List.all_eq_true.1 he t (List.mem_range.2 htlt)
      simp only [Bool.or_eq_true, decide_eq_true_eq] at h1
      rcases h1 with h1 | h1
      · omega
      · have h2 := List.all_eq_true.1 h1 k (List.mem_range.2 hk)
        simp only [Bool.or_eq_true, List.contains_iff_mem] at h2
        rcases h2 with h2 | h2
        · exact hkf h2
        · obtain ⟨o', ho', e, hem, hb, hon⟩ := Region.waitsFor_spec h2
          have : o' = ot := Option.some.inj (ho'.symm.trans hot)
          subst this
          have h3 := hall e hem hb
          rw [hon, getD_both hku] at h3
          cases h3
  · have hif : i ∈ fl := by
      by_cases h : i ∈ fl
      · exact h
      · exact absurd ⟨i, hi, h, hun⟩ hx
    refine .inr ⟨hif, ?_⟩
    have h1 := List.all_eq_true.1 hf i hif
    simp only [Bool.and_eq_true, decide_eq_true_eq] at h1
    obtain ⟨⟨_, _⟩, h1⟩ := h1
    cases ho : ops[i]? with
    | none => rw [ho] at h1; simp at h1
    | some o =>
      rw [ho] at h1
      simp only [Bool.and_eq_true] at h1
      refine mem_ready.2 ⟨hun, o, ho, fun e hem hb => ?_⟩
      have h2 := Array.all_eq_true_iff_forall_mem.1 h1.2 e hem
      simp only [hb, Bool.not_true, Bool.false_or, Bool.and_eq_true, decide_eq_true_eq, Bool.not_eq_true'] at h2
      cases hl : s.getD e.on false with
      | true => rfl
      | false =>
        exfalso
        have hs : e.on < s.size := by rw [inv.size]; omega
        have hnf : e.on ∉ fl := fun h => by
          have : fl.contains e.on = true := List.contains_iff_mem.2 h
          rw [h2.2] at this
          cases this
        exact hx ⟨e.on, h2.1, hnf, getD_in hs hl⟩
end
section
variable {P : Program} {ops : Array Oper} {md : Region.Mode} {n : Nat} {ks : List (Tmp × Kind)} {w0 : World} {a0 : Act}
theorem tree_fl {Q : Act → World → Prop} {R : Exit → Act → World → Prop} {g : Nat} {fl : List Nat} (hsel : Region.noSelect ops = true) (hB : headB md ops n = true) (hn : n ≤ ops.size) (hF : floatB md ops n fl = true) (hE : edgesB md ops n fl = true) (hK : kindB ops ks fl = true)
    (hR : ∀ c a w x v, R (.panic c) (a.put (some x) v) w → R (.panic c) a w)
    {L : List Oper} (hL : ∀ j, j < n → L[j]? = ops[j]?) (hLn : L.length = n) (ht : tree P ops ks w0 Q L bare a0) (hQ : ∀ a w, Q a w → wpAny P md ops R g (canon n ops.size) a w) :
    ∀ (m : Nat) (s : Array Bool) (a : Act) (w : World) (u : Nat → Value), Inv P ops md n ks w0 a0 s a w u → cnt s n = m → wpAny P md ops R (m + g) s a w
  | 0, s, a, w, u, inv, hc => by
    have hall := cnt_zero n hc
    obtain ⟨b, F, h, br⟩ := reach hsel hB inv hL hLn ht n (Nat.le_refl _)
    rw [List.drop_of_length_le (by omega)] at h
    have hba : b = a := by
      have e1 : b.tmps = a.tmps := by
        apply Array.ext_getElem?
        intro d
        by_cases hx : ∃ j p, j < n ∧ ops[j]? = some p ∧ p.dst = some d
        · obtain ⟨j, p, hj, hp, hd⟩ := hx
          rw [br.slot j p d hj hp (hall j hj) hd, inv.slot j p d hj hp (hall j hj) hd]
        · rw [br.rest d (fun j p hj hp hd => hx ⟨j, p, hj, hp, hd⟩), inv.rest d (fun j p hj hp _ hd => hx ⟨j, p, hj, hp, hd⟩)]
      have e2 : b.defers = a.defers := br.defers.trans inv.defers.symm
      cases b; cases a
      simp only at e1 e2
      rw [e1, e2]
    rw [hba] at h
    have hq : Q a w := h w inv.grow (fun d => by
      by_cases hx : ∃ j p, j < n ∧ ops[j]? = some p ∧ p.dst = some d
      · obtain ⟨j, p, hj, hp, hd⟩ := hx
        exact br.told j p d hj hp (hall j hj) hd w (told_now inv hj hp (hall j hj))
      · exact br.free d (fun j p hj hp hd => hx ⟨j, p, hj, hp, hd⟩) w)
    rw [Nat.zero_add, canon_eq hn inv.head.size hall (fun j h1 h2 => inv.head.tail j h1 h2)]
    exact hQ a w hq
  | m + 1, s, a, w, u, inv, hc => by
    have e : m + 1 + g = m + g + 1 := by omega
    rw [e]
    obtain ⟨i0, hi0, hf0, hlow⟩ := cnt_pos (s := s) n (by omega)
    have hs0 : i0 < s.size := by rw [inv.head.size]; omega
    obtain ⟨o0, ho0⟩ := head_op hB hi0
    have hr0 : i0 ∈ Region.ready md ops s := mem_ready.2 ⟨getD_in hs0 hf0, o0, ho0, fun e he hb => hlow e.on (head_edges hB hi0 ho0 e he hb)⟩
    -- what each ready operation of the head does
    have one : ∀ i, i ∈ Region.ready md ops s → i < n → ∃ o, ops[i]? = some o ∧ (∀ v w', Step w0.heap.size w w' → Good P ops n ks w0 u o a w' v → wpAny P md ops R (m + g) (s.setIfInBounds i true) (a.put o.dst v) w') ∧
        ∃ b : Act, (execOp b.eval o = execOp a.eval o) ∧ (Region.wanted o (yielded ops b.tmps) = Region.wanted o (yielded ops a.tmps)) ∧ ∃ F : Facts, (∀ d ∈ o.looksAt ops, F d w) ∧ tree P ops ks w0 Q (o :: L.drop (i + 1)) F b ∧
        (∀ d, d ∈ o.looksAt ops → ∀ j p, j < n → ops[j]? = some p → p.dst = some d → Told ops ks p a w (u j)) := fun i hi hin => by
      obtain ⟨hun, o, ho, hall⟩ := mem_ready.1 hi
      have hset : Settled ops n s o := settled_of hB hin ho hall
      obtain ⟨b, F, h, br⟩ := reach hsel hB inv hL hLn ht i (by omega)
      have hd : L.drop i = o :: L.drop (i + 1) := by
        have h1 : L[i]? = some o := by rw [hL i hin]; exact ho
        obtain ⟨hlt, he⟩ := List.getElem?_eq_some_iff.1 h1
        rw [List.drop_eq_getElem_cons hlt, he]
      rw [hd] at h
      obtain ⟨hexec, hwant⟩ := exec_agree o (Region.noSelect_spec hsel i o · · ho) (looks_agree hB inv hin ho hset br)
      have hfw := facts_of hB hin ho hset br (W := w) (fun d hm j p hj hp hpd => told_now inv hj hp (hset j p d hj hp hpd hm))
      have hcs : cnt (s.setIfInBounds i true) n = m := by
        have := cnt_set (s := s) (i := i) (by rw [inv.head.size]; omega) (getD_both hun) n hin
        omega
      exact ⟨o, ho, fun v w' hg hgood => tree_fl hsel hB hn hF hE hK hR hL hLn ht hQ m _ _ _ _ (inv_next hsel hB inv hin ho hi hg hgood) hcs, b, hexec.symm ▸ rfl, hwant.symm ▸ rfl, F, hfw, h, fun d hm j p hj hp hpd => told_now inv hj hp (hset j p d hj hp hpd hm)⟩
    rcases float_turn hF hE inv.head hn hi0 (getD_in hs0 hf0) with hT | ⟨hif, hir⟩
    · refine ⟨fun h => (by rw [h] at hr0; cases hr0), fun i hi => ?_⟩
      have hin : i < n := hT i hi
      obtain ⟨o, ho, next, b, hexec, hwant, F, hfw, h, htold⟩ := one i hi hin
      unfold tree at h
      unfold wpOp
      simp only [ho]
      by_cases hw : Region.wanted o (yielded ops b.tmps) = true
      · rw [if_pos hw] at h
        rw [hwant] at hw
        rw [if_pos hw]
        refine .inl ?_
        have hgd : ∀ v w', (match kindOf ks o with
            | .none => ∃ W, Rel.Grow w0 W ∧ (∀ d, d ∈ o.looksAt ops → ∀ j p, j < n → ops[j]? = some p → p.dst = some d → Told ops ks p a W (u j)) ∧ (execOp a.eval o).run P W = .ok (.value v) W
            | .some (.const c) => v = c
            | .some (.any V _) => V v w') → Good P ops n ks w0 u o a w' v := fun v w' hx => by
          unfold Good
          rw [if_pos hw]
          exact hx
        cases hkd : kindOf ks o with
        | none =>
          rw [hkd] at h
          obtain ⟨_, v, hv, _⟩ := h
          have hrun := hv w inv.grow hfw
          rw [hexec] at hrun
          unfold Oper.wp
          rw [hrun]
          exact next v w (Step.refl _ _) (hgd v w (by
            rw [hkd]
            exact ⟨w, inv.grow, htold, hrun⟩))
        | some kd =>
          rw [hkd] at h
          cases kd with
          | const c =>
            have hr := h.1 w inv.grow hfw
            unfold stepAt at hr
            rw [hexec] at hr
            exact wp_of_rel hr (fun v w' hg hv => next v w' hg (hgd v w' (by rw [hkd]; exact hv)))
          | any V hV =>
            have hr := h.1 w inv.grow hfw
            unfold stepAt at hr
            rw [hexec] at hr
            exact wp_of_rel hr (fun v w' hg hv => next v w' hg (hgd v w' (by rw [hkd]; exact hv)))
      · rw [hwant] at hw
        rw [if_neg hw]
        exact next undef w (Step.refl _ _) (by unfold Good; rw [if_neg hw])
    · obtain ⟨o, ho, next, b, hexec, hwant, F, hfw, h, htold⟩ := one i0 hir hi0
      have hfl := List.all_eq_true.1 hF i0 hif
      rw [ho] at hfl
      simp only [Bool.and_eq_true, decide_eq_true_eq] at hfl
      obtain ⟨⟨_, hfree⟩, hplain, _⟩ := hfl
      obtain ⟨x, hx⟩ : ∃ x, o.dst = some x := Option.isSome_iff_exists.1 (by simp only [plainOp, Bool.and_eq_true] at hplain; exact hplain.1)
      unfold tree at h
      have fin : ∀ v, Yields P ops o v a → wpAny P md ops R (m + g) (s.setIfInBounds i0 true) (a.put o.dst v) w → wpAny P md ops R (m + g + 1) s a w := fun v hy hn' =>
        wpAny_take ho hsel (free_all inv.head hir hfree) (List.contains_iff_mem.2 hir) (by rw [hx]; exact fun c a w => hR c a w x v) hy hn'
      by_cases hw : Region.wanted o (yielded ops b.tmps) = true
      · rw [if_pos hw] at h
        rw [hwant] at hw
        cases hkd : kindOf ks o with
        | none =>
          rw [hkd] at h
          obtain ⟨_, v, hv, _⟩ := h
          have hrun := hv w inv.grow hfw
          rw [hexec] at hrun
          exact fin v (.inl ⟨hw, plain_run hplain hrun⟩) (next v w (Step.refl _ _) (by
            unfold Good
            rw [if_pos hw, hkd]
            exact ⟨w, inv.grow, htold, hrun⟩))
        | some kd =>
          exfalso
          have h1 := List.all_eq_true.1 hK i0 hif
          rw [ho] at h1
          simp only [hkd] at h1
          cases h1
      · rw [hwant] at hw
        exact fin undef (.inr ⟨by simpa using hw, rfl⟩) (next undef w (Step.refl _ _) (by unfold Good; rw [if_neg hw]))
/-- The region's law. -/
theorem wp_region_fl {id : Nat} {Q : Exit → Act → World → Prop} {a : Act} {w : World} {l : List Oper} (n : Nat) (fl : List Nat) (ks : List (Tmp × Kind)) (hm : P.follows .mixedOrders = true) (hB : okF .any l.toArray n fl = true) (hK : kindB l.toArray ks fl = true)
    (hR : ∀ c a w x v, Q (.panic c) (a.put (some x) v) w → Q (.panic c) a w)
    (h : tree P l.toArray ks w.drew (fun a' W => wpList P l.toArray Q (l.drop n) a' W) (l.take n) bare a) : (Code.region id l.toArray true).wp P Q a w := by
  simp only [okF, Bool.and_eq_true, decide_eq_true_eq] at hB
  obtain ⟨⟨⟨⟨⟨hsel, hhead⟩, hn⟩, hF⟩, hE⟩, hseq⟩ := hB
  have hnl : n ≤ l.length := by simpa using hn
  have inv0 : Inv P l.toArray .any n ks w.drew a (Array.replicate l.toArray.size false) a w.drew (fun _ => undef) :=
    ⟨⟨by simp, fun j oj _ hl => (by rw [getD_replicate_false] at hl; cases hl), fun t _ ht => getD_in (by simpa using ht) (getD_replicate_false _ _)⟩, Rel.Grow.refl _, rfl, rfl, fun _ _ => rfl, fun j o d _ _ hl => (by rw [getD_replicate_false] at hl; cases hl), fun j o _ _ hl => (by rw [getD_replicate_false] at hl; cases hl)⟩
  have hc : ∀ m, cnt (Array.replicate l.toArray.size false) m = m := fun m => by
    induction m with
    | zero => rfl
    | succ m ih => rw [cnt, ih, getD_replicate_false]; rfl
  refine wp_region_any hm ?_
  have hdl : (l.drop n).length = l.toArray.size - n := by simp
  have := tree_fl (g := l.toArray.size - n) (R := Q) hsel hhead hn hF hE hK hR (L := l.take n) (fun j hj => by simp [hj]) (by simp; omega) h (fun a' w' hq => by
    have h2 := wpAny_of_seq (md := .any) (Q' := Q) (l.drop n) n (canon n l.toArray.size) a' w' (fun j => by simp [List.getElem?_drop]) (by rw [hdl]; exact hseq) hq
    rwa [hdl] at h2) n _ _ _ _ inv0 (hc n)
  rw [show n + (l.toArray.size - n) = l.toArray.size by omega] at this
  exact this
end
end RelG
end Go.Proofs.YtpakdcgcgekcfaaDoor

/-
  Words for drawn regions that make a mode: a new block, a tuple's parts.
-/
set_option linter.unusedSimpArgs false
set_option linter.unusedVariables false
namespace Go.Proofs.YtpakdcgcgekcfaaDoor
open Go.RowKit

/-- A tuple's part. -/
def cV (v : Value) (i : Nat) : Value := match v with
  | .tuple vs => vs.getD i undef
  | _ => undef
theorem exec_extract {P : Program} {o : Oper} {a : Act} {W : World} (x : Operand) (i : Nat) (ho : o.op = .extract x i) (v : Value) (hx : a.eval x = v) (h : ∃ vs y, v = .tuple vs ∧ vs[i]? = some y) : (execOp a.eval o).run P W = .ok (.value (cV v i)) W := by
  obtain ⟨vs, y, rfl, hy⟩ := h
  unfold execOp
  simp only [ho, hx]
  rw [Sem.run_bind]
  simp [Instr.extract, hy, cV, Result.andThen, Array.getD_eq_getD_getElem?]
namespace Aes
open Otp R1 Fuse Sha
/-- A block for a mode that was just made. -/
def NewM (B : Nat) (ZM : Array Value) (v : Value) (W : World) : Prop := ∃ g, v = .pointer (some ⟨g, 0, none⟩) ∧ B ≤ g ∧ Blk W g 96 ZM
theorem NewM.grow {B : Nat} {ZM : Array Value} : ∀ v W W', Rel.Grow W W' → NewM B ZM v W → NewM B ZM v W' := fun _ _ _ h ⟨g, h1, h2, h3⟩ => ⟨g, h1, h2, h3.next h rfl⟩
theorem rel_newM {o : Oper} {a : Act} {B : Nat} {W : World} {ZM : Array Value} (hZ : Tryd.zeroCells96 = ZM) (ho : o.op = .alloc 96) (hB : B ≤ W.heap.size) : RelG.relAt Tryd.prog o a W (NewM B ZM) := by
  subst hZ
  have hz := Tryd.zeroValue96
  have hs := Tryd.sizeOf96
  unfold RelG.relAt execOp
  simp only [ho]
  go_simp
  exact ⟨Rel.Grow.alloc _ _, W.heap.size, rfl, hB, Blk.new _ _ _⟩
/-- A mode, and no error. -/
def MnV (m : Md) (v : Value) (W : World) : Prop := ∃ A L c, v = .tuple #[.agg (mV A L c m).toArray, .int .i64 0] ∧ KeyV W W.heap.size m.key A L c
theorem MnV.grow {m : Md} : ∀ v W W', Rel.Grow W W' → MnV m v W → MnV m v W' := fun _ _ _ h ⟨A, L, c, h1, h2⟩ => ⟨A, L, c, h1, h2.next h⟩
theorem MnV.part {m : Md} {v : Value} {W : World} (h : MnV m v W) : (∃ vs y, v = .tuple vs ∧ vs[0]? = some y) ∧ ∃ vs y, v = .tuple vs ∧ vs[1]? = some y := by
  obtain ⟨A, L, c, rfl, _⟩ := h
  exact ⟨⟨_, _, rfl, rfl⟩, ⟨_, _, rfl, rfl⟩⟩
theorem mnv_call {f : FuncId} {args : Array Value} {W : World} {m : Md} (h : Calls Tryd.prog f args W (MnOut W m)) : Calls Tryd.prog f args W (fun e w'' => ∃ v, e = .returned v ∧ Rel.Grow W w'' ∧ MnV m v w'') :=
  Calls.mono h fun _ _ ⟨A, L, c, he, hk, hB⟩ => ⟨_, he, hB, A, L, c, rfl, hk⟩
theorem u8_no (z : Int) (l : List Nat) : ∀ v, v ∈ (l.map fun x => Value.int .u8 ((x : Nat) : Int)) → v = Value.int .u32 z → False := fun v h e => by
  obtain ⟨_, _, hx⟩ := List.mem_map.1 h
  rw [e] at hx
  cases hx
theorem app_no {v : Value} {z : Int} {a b : List Value} (ha : v ∈ a → v = Value.int .u32 z → False) (hb : v ∈ b → v = Value.int .u32 z → False) : v ∈ a ++ b → v = Value.int .u32 z → False := fun h e => (List.mem_append.1 h).elim (fun h => ha h e) (fun h => hb h e)
theorem cons_no {v x : Value} {z : Int} {a : List Value} (hx : x ≠ Value.int .u32 z) (ha : v ∈ a → v = Value.int .u32 z → False) : v ∈ x :: a → v = Value.int .u32 z → False := fun h e => (List.mem_cons.1 h).elim (fun h => hx (h ▸ e)) (fun h => ha h e)
theorem zM_no (z : Int) : ∀ v, v ∈ zM → v = Value.int .u32 z → False := fun v => by
  rw [zM, mC, zK, mT]
  exact app_no (app_no (cons_no (by simp) (u8_no z _ v)) (u8_no z _ v)) (cons_no (by simp) (cons_no (by simp) (u8_no z _ v)))
theorem KeyV.apart {W : World} {B g : Nat} {key : List Nat} {A : Option Addr} {L c : Nat} {ZM : Array Value} (h : KeyV W B key A L c) (hZ : zM.toArray = ZM) (hb : Blk W g 96 ZM) : ∀ ad : Addr, A = some ad → ad.block ∉ [g] := fun ad had hx => by
  have hl : 0 < ((kWords key).map wd).length := by rw [List.length_map]; have := h.good.count.2; omega
  have hn := h.nats
  generalize (kWords key).map wd = l at *
  obtain ⟨_, b, off, h1, h2, h3⟩ := hn 0 l[0] (List.getElem?_eq_getElem hl)
  rw [had] at h1
  cases h1
  simp only [List.mem_singleton] at hx
  subst hx
  rw [hb.cell, ← hZ, List.getElem?_toArray] at h3
  exact zM_no _ _ (List.mem_of_getElem? h3) rfl
end Aes
end Go.Proofs.YtpakdcgcgekcfaaDoor
