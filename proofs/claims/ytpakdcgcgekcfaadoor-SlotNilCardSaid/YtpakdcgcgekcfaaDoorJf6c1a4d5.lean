/-
  Texts of this claim, joined: SlotAw, R1Text, Frame, FrameW, SlotCh, ShaTab, SlotChF, SlotNil.
-/
import Derived.Test.YtpakdcgcgekcfaaDoorJ058526fd
import Derived.Deep.DeepCutAuto
import Derived.Test.YtpakdcgcgekcfaaDoorProg
import Derived.Test.YtpakdcgcgekcfaaDoorJ2a0eae4c
import Derived.ChangeOld
import Derived.ChangeArms
import Derived.DataReads
import Derived.Deep.Slices
import Derived.ShutString
import Derived.Test.YtpakdcgcgekcfaaDoorJ14b69ad7
import Derived.Lib.LaidTab
set_option linter.unusedVariables false
/-
  Layer 15 awake: the document's example. A chain of keys, in memory.
-/
namespace Go.Proofs.YtpakdcgcgekcfaaDoor
open Go.RowKit

namespace Slot
open Otp R1 Sha Mac
/-- A chain in memory. -/
structure Chm (w : World) (g n : Nat) (k : List Nat) : Prop where
  ex : ∃ s, Sl w g s ∧ Chn s n k
theorem Chm.old {w w' : World} {g n : Nat} {k : List Nat} (h : Chm w g n k) (hb : Below w.heap.size w w') : Chm w' g n k := let ⟨s, h1, h2⟩ := h.ex; ⟨s, h1.old hb, h2⟩
theorem Chm.frm {w w' : World} {g n : Nat} {k : List Nat} {S : List Nat} (h : Chm w g n k) (hb : Frm S w w') (hg : g ∉ S) : Chm w' g n k := let ⟨s, h1, h2⟩ := h.ex; ⟨s, h1.frm hb hg, h2⟩
theorem Chm.lt {w : World} {g n : Nat} {k : List Nat} (h : Chm w g n k) : g < w.heap.size := let ⟨_, h1, _⟩ := h.ex; h1.lt
theorem Chm.key {w : World} {g n : Nat} {k : List Nat} (h : Chm w g n k) : k.length = 32 ∧ ∀ x ∈ k, x < 256 := let ⟨_, _, h2⟩ := h.ex; ⟨h2.len, h2.byte⟩
def NewOut (w : World) (e : Ending) (w' : World) : Prop := e = .returned (.pointer (some ⟨w.heap.size, 0, none⟩)) ∧ Sl w' w.heap.size newSt ∧ Below w.heap.size w w'
theorem snew_out (w : World) : Calls Tryd.prog 34 #[] w (NewOut w) := (snew_any w).mono fun _ _ h => h
def ChOut (w : World) (g n : Nat) (k : List Nat) (e : Ending) (w' : World) : Prop := e = .returned (.int .i64 0) ∧ Chm w' g n k ∧ Frm [g] w w'
theorem ch_lay (g : Nat) (key : List Nat) (w : World) (hS : Sl w g newSt) (hl : key.length = 32) (hb : ∀ x ∈ key, x < 256) :
    Calls Tryd.prog 35 #[.pointer (some ⟨g, 0, none⟩), .int .i64 0, .int .i64 1, .agg (b8 key)] w (ChOut w g 0 key) := by
  have := lay_any g newSt 0 1 key w hS (wfI_small (by decide) (by decide)) hl hb
  rw [(lay_new key).1, (lay_new key).2] at this
  exact this.mono fun _ _ ⟨h1, h2, h3⟩ => ⟨h1, ⟨_, h2, chn_start hl hb⟩, h3⟩
theorem ch_derive (g n : Nat) (k : List Nat) (a b : Int) (lb : ByteArray) (ps : List (List Nat)) (PA : Option Addr) (pn pc : Nat) (w : World) (hT : STab w) (hC : Chm w g n k) (hn : n < 7) (ha : a = n) (hb : b = ((n + 1 : Nat) : Int))
    (hlb : lb.size ≤ 100000) (hpn : ps.length = pn) (hpm : pn ≤ 1000) (hP : Parts w w.heap.size PA ps) (hm : ps.flatten.length ≤ 100000) :
    Calls Tryd.prog 37 #[.pointer (some ⟨g, 0, none⟩), .int .i64 a, .int .i64 b, .string lb, .slice PA pn pc] w (ChOut w g (n + 1) (deriveB k (sB lb) ps)) := by
  subst ha hb
  obtain ⟨s, hS, hc⟩ := hC.ex
  obtain ⟨hE, s', hs', hc'⟩ := hc.der hn (sB lb) ps
  have := sderive_any g s n ((n + 1 : Nat) : Int) lb ps PA pn pc w hT hS (wfI_small (by omega) (by omega)) (wfI_small (by omega) (by omega)) hlb hpn hpm hP hm
  rw [hE, hs'] at this
  exact this.mono fun _ _ ⟨h1, h2, h3⟩ => ⟨h1, ⟨_, h2, hc'⟩, h3⟩
theorem ch_mac (g n : Nat) (k : List Nat) (a : Int) (ps : List (List Nat)) (PA : Option Addr) (pn pc : Nat) (w : World) (hT : STab w) (hC : Chm w g n k) (ha : a = n) (hpn : ps.length = pn) (hpm : pn ≤ 1000) (hP : Parts w w.heap.size PA ps) (hm : ps.flatten.length ≤ 100000) :
    Calls Tryd.prog 39 #[.pointer (some ⟨g, 0, none⟩), .int .i64 a, .slice PA pn pc] w (DigErr w (macB k ps.flatten) 0) := by
  subst ha
  obtain ⟨s, hS, hc⟩ := hC.ex
  have hn := hc.le
  have := smac_any g s n ps PA pn pc w hT hS (wfI_small (by omega) (by omega)) hpn hpm hP hm
  rw [hc.mac, hc.keyE (Nat.le_refl _)] at this
  exact this
theorem ch_kind (g n : Nat) (k : List Nat) (a : Int) (w : World) (hC : Chm w g n k) (ha : a = n) (h1 : 1 ≤ n) : Calls Tryd.prog 41 #[.pointer (some ⟨g, 0, none⟩), .int .i64 a] w (IntBelow w 2) := by
  subst ha
  obtain ⟨s, hS, hc⟩ := hC.ex
  have hn := hc.le
  have := kind_any g s n w hS (wfI_small (by omega) (by omega))
  rw [hc.two h1] at this
  exact this
theorem bytesN_mark {t : TypeId} (w : World) (l : List Nat) (hb : ∀ x ∈ l, x < 256) (fr : Nat × Nat) : BytesN (w.alloc (.cells (b8 l) t fr)) (w.alloc (.cells (b8 l) t fr)).heap.size l (.slice (some ⟨w.heap.size, 0, none⟩) l.length l.length) := by
  refine ⟨_, _, rfl, Nat.le_refl _, (fun h => by cases h), fun i z hz => ⟨hb z (List.mem_of_getElem? hz), w.heap.size, 0, rfl, by simp, ?_⟩⟩
  have h0 : (w.alloc (.cells (b8 l) t fr)).heap[w.heap.size]? = some (.cells (b8 l) t fr) := Rel.alloc_at _ _
  unfold World.cell?
  rw [h0, Nat.zero_add]
  simp [b8, hz]
/-- One part: a constant text. -/
theorem part_const {t u : TypeId} (w : World) (l : List Nat) (hb : ∀ x ∈ l, x < 256) (fr : Nat × Nat) (W : World) (hW : W = (w.alloc (.cells (b8 l) t fr)).alloc (.cells #[.slice (some ⟨w.heap.size, 0, none⟩) l.length l.length] u)) :
    Parts W W.heap.size (some ⟨w.heap.size + 1, 0, none⟩) [l] ∧ Below w.heap.size w W := by
  subst hW
  refine ⟨?_, ((Below.refl _ w).alloc (Nat.le_refl _) _).alloc (by simp) _⟩
  have := parts_new (t := u) (w.alloc (.cells (b8 l) t fr)) [.slice (some ⟨w.heap.size, 0, none⟩) l.length l.length] [l] rfl (fun i p v hp hv => by
    have hi : i = 0 := by have := (List.getElem?_eq_some_iff.1 hp).1; simpa using this
    subst hi
    simp only [List.getElem?_cons_zero, Option.some.injEq] at hp hv
    subst hp hv
    exact bytesN_mark w l hb fr)
  have e : (w.alloc (.cells (b8 l) t fr)).heap.size = w.heap.size + 1 := by simp
  rw [e] at this
  exact this
theorem bytesN_lit8 {B : Nat} {t : TypeId} {v : Value} {W : World} (l : List Nat) (hb : ∀ x ∈ l, x < 256) (h : Rel.Lit8 B t (l.map fun x => Value.int .u8 ((x : Nat) : Int)) v W) : ∃ g, v = .slice (some ⟨g, 0, none⟩) l.length l.length ∧ BytesN W W.heap.size l (.slice (some ⟨g, 0, none⟩) l.length l.length) := by
  obtain ⟨g, rfl, _, hlt, _, hc⟩ := h
  rw [List.length_map]
  refine ⟨g, rfl, _, _, rfl, Nat.le_refl _, (fun h => by cases h), fun i z hz => ⟨hb z (List.mem_of_getElem? hz), g, 0, rfl, hlt, ?_⟩⟩
  rw [Nat.zero_add]
  exact hc i _ (by simp [hz])
def k5 : List Nat := 5 :: List.replicate 31 0
theorem k5_ok : k5.length = 32 ∧ ∀ x ∈ k5, x < 256 := by decide
set_option maxRecDepth 100000 in
set_option maxHeartbeats 4000000 in
theorem awake_any (w : World) (hT : STab w) : Calls Tryd.prog 33 #[] w (TrueBelow w) := by
  have HT := Lib.hid hT
  have HSK := Lib.hid (show (Tryd.prog.info? 23).map (·.size) = some (b8 k5).size by kernel_rfl)
  obtain ⟨k1, hk1⟩ : ∃ k1, deriveB k5 (sB ⟨#[120]⟩) [] = k1 := ⟨_, rfl⟩
  obtain ⟨D, hD⟩ : ∃ D, macB k1 [109] = D := ⟨_, rfl⟩
  have HK1 := Lib.hid hk1
  have HD := Lib.hid hD
  clear hT hk1 hD
  go_enter Tryd.func33, Tryd.ntmps33
  go_wp2_with fail
  (with_reducible refine (snew_out _).mono ?_); rintro e w1 ⟨rfl, hS1, hB1⟩
  have HS1 := Lib.hid hS1
  have HB1 := Lib.hid hB1
  clear hS1 hB1
  generalize hg : w.heap.size = g at *
  go_upto_region 3 with (refine wpList_new_row rfl 23 (.tmp 2) (.tmp 7) rfl w1.heap.size (b8 k5) rfl (by kernel_rfl) 23 (b8 (List.replicate 32 0)) (Blk.new _ _ _) HSK.out rfl (b8_one _) w1.heap.size w1 ((Below.refl _ w1).alloc (Nat.le_refl _) _) (Nat.le_refl _) ?_; intro w2 K2 B2)
  have hlt : g < w1.heap.size := HS1.out.lt
  have HS2 := Lib.hid (HS1.out.old B2.out)
  have HB2 := Lib.hid (below_then HB1.out B2.out (by omega))
  have HLY := Lib.hid (ch_lay g k5 w2 HS2.out k5_ok.1 k5_ok.2)
  obtain ⟨gK, hgK⟩ : ∃ x, x = w1.heap.size := ⟨_, rfl⟩
  rw [← hgK] at K2 hlt
  rw [← hgK]
  have HGK := Lib.hid hlt
  clear B2 HS1 HB1 HS2 hgK
  go_wp2_with (refine load_row_g (by rfl) 23 _ rfl gK rfl 23 (b8 k5) _ K2.out Tryd.underlying23 rfl HSK.out ?_)
  (with_reducible refine HLY.out.mono ?_); rintro e w3 ⟨rfl, hC3, hF3⟩
  have K3 := Lib.hid (K2.out.frm hF3 (by simp; have := HGK.out; omega))
  have HB3 := Lib.hid (HB2.out.trans (Frm.below hF3 (by rw [← hg]; exact HB2.out.size) (fun x hx => by simp at hx; omega)))
  have HC3 := Lib.hid hC3
  have HDV := Lib.hid (ch_derive g 0 k5 0 1 ⟨#[120]⟩ [] none 0 0 w3 (HT.out.old (by rw [hg]; exact HB3.out)) hC3 (by decide) rfl rfl (by decide) rfl (by decide) (Parts.nil _ _ _) (by decide))
  rw [HK1.out] at HDV
  clear hC3 hF3 HLY K2 HB2
  go_wp2_with fail
  (with_reducible refine HDV.out.mono ?_); rintro e w4 ⟨rfl, hC4, hF4⟩
  have K4 := Lib.hid (K3.out.frm hF4 (by simp; have := HGK.out; omega))
  have HB4 := Lib.hid (HB3.out.trans (Frm.below hF4 (by rw [← hg]; exact HB3.out.size) (fun x hx => by simp at hx; omega)))
  have HC4 := Lib.hid hC4
  have HK1B := Lib.hid hC4.key
  clear hC4 hF4 HC3 HDV K3 HB3
  obtain ⟨W5, hW5⟩ : ∃ W, W = (w4.alloc (.cells (b8 [109]) 5 (1, 2))).alloc (.cells #[.slice (some ⟨w4.heap.size, 0, none⟩) 1 1] 53) := ⟨_, rfl⟩
  have HW5 := Lib.hid hW5
  obtain ⟨hP5, hB5⟩ := part_const w4 [109] (by decide) (1, 2) W5 hW5
  have HB45 := Lib.hid hB5
  have HB5 := Lib.hid (below_then HB4.out hB5 (Nat.le_of_eq hg.symm))
  have HM := Lib.hid (ch_mac g 1 k1 1 [[109]] (some ⟨w4.heap.size + 1, 0, none⟩) 1 1 W5 (HT.out.old (by rw [hg]; exact HB5.out)) (HC4.out.old hB5) rfl rfl (by decide) hP5 (by decide))
  rw [show [[109]].flatten = [109] from rfl, HD.out] at HM
  clear hW5 hP5 hB5
  have kc := fun (w : World) (C : Array Value) (n c : Nat) => Lib.run_convert_bytes_const (P := Tryd.prog) w 53 5 C n c Tryd.underlying53 Tryd.underlying5
  go_wp2_with fail
  change Calls _ _ _ ((w4.alloc (.cells (b8 [109]) 5 (1, 2))).alloc (.cells #[.slice (some ⟨w4.heap.size, 0, none⟩) 1 1] 53)) _
  rw [← HW5.out]
  (with_reducible refine HM.out.mono ?_); rintro e w6 ⟨rfl, hB6⟩
  have K6 := Lib.hid ((K4.out.next HB45.out rfl).next hB6 rfl)
  have HB6 := Lib.hid (below_then HB5.out hB6 (Nat.le_of_eq hg.symm))
  clear kc HM HW5 hB6 HB45 HB5 HC4 K4
  have HDL := Lib.hid (show D.length = 32 by rw [← HD.out]; exact macB_length _ _)
  have HSD := Lib.hid (show (Tryd.prog.info? 23).map (·.size) = some (b8 D).size by rw [b8_size, HDL.out]; exact dig_info)
  have HZD := Lib.hid (show (b8 (List.replicate 32 0)).size = (b8 D).size by rw [b8_size, b8_size, HDL.out]; rfl)
  have HS1 := Lib.hid (show (Tryd.prog.info? 23).map (·.size) = some (b8 k1).size by rw [b8_size, HK1B.out.1]; exact dig_info)
  have HZ1 := Lib.hid (show (b8 (List.replicate 32 0)).size = (b8 k1).size by rw [b8_size, b8_size, HK1B.out.1]; rfl)
  have hsl := fun b => run_slice_arr_all (P := Tryd.prog) 23 5 32 Tryd.underlying23 (fun _ => by kernel_rfl) b 0 (by decide)
  go_upto_region 6 with (refine wpList_new_row rfl 23 (.tmp 3) (.tmp 27) rfl w6.heap.size (b8 D) rfl rfl 23 (b8 (List.replicate 32 0)) (Blk.new _ _ _) HSD.out HZD.out (b8_one _) w6.heap.size w6 ((Below.refl _ w6).alloc (Nat.le_refl _) _) (Nat.le_refl _) ?_; intro w7 KD B7)
  have K7 := Lib.hid (K6.out.next B7.out rfl)
  have HB7 := Lib.hid (below_then HB6.out B7.out (Nat.le_of_eq hg.symm))
  obtain ⟨gD, hgD⟩ : ∃ x, x = w6.heap.size := ⟨_, rfl⟩
  rw [← hgD] at KD
  rw [← hgD]
  have HDR := Lib.hid (r2derive_any k5 (some ⟨gK, 0, none⟩) 32 32 ⟨#[120]⟩ [] none 0 0 w7 rfl (by decide) (nats_b8 K7.out (fun x hx => k5_ok.2 x hx)) (by decide) rfl (by decide) (Parts.nil _ _ _) (by decide))
  rw [HK1.out] at HDR
  clear B7 HB6 K6 hgD
  go_wp2_with fail
  (with_reducible refine HDR.out.mono ?_); rintro e w8 ⟨rfl, hB8⟩
  have KD8 := Lib.hid (KD.out.next hB8 rfl)
  have HB8 := Lib.hid (below_then HB7.out hB8 (Nat.le_of_eq hg.symm))
  clear HDR hB8 KD K7 HB7
  go_upto_region 7 with (refine wpList_new_row rfl 23 (.tmp 5) (.tmp 30) rfl w8.heap.size (b8 k1) rfl rfl 23 (b8 (List.replicate 32 0)) (Blk.new _ _ _) HS1.out HZ1.out (b8_one _) w8.heap.size w8 ((Below.refl _ w8).alloc (Nat.le_refl _) _) (Nat.le_refl _) ?_; intro w9 KX B9)
  have KD9 := Lib.hid (KD8.out.next B9.out rfl)
  have HB9 := Lib.hid (below_then HB8.out B9.out (Nat.le_of_eq hg.symm))
  have HT9 := Lib.hid (HT.out.old (by rw [hg]; exact HB9.out))
  obtain ⟨gX, hgX⟩ : ∃ x, x = w8.heap.size := ⟨_, rfl⟩
  rw [← hgX] at KX
  rw [← hgX]
  clear B9 HB8 KD8 hgX
  have heq := fun W => eq_arr W 32 23 D D HDL.out HDL.out Tryd.underlying23
  simp only [decide_true] at heq
  refine Rel.wp_region_rel 11 [(36, .any (Rel.Lit8 w9.drew.heap.size 5 [.int .u8 109]) Rel.Lit8.soft), (37, .any (Rel.Lit8 w9.drew.heap.size 5 [.int .u8 109]) Rel.Lit8.soft), (38, .const (.agg (b8 D)))] (by kernel_rfl) (by kernel_rfl) ?_
  simp only [List.take_succ_cons, List.take_zero, List.drop_succ_cons, List.drop_zero, Act.put, List.setIfInBounds_toArray, List.set_cons_zero, List.set_cons_succ]
  repeat (refine Rel.tree_quiet rfl rfl rfl (fun K hK => ?_); go_big_quiet_op; refine hK _ ?_; clear hK K)
  refine Rel.tree_pure rfl rfl rfl (.agg (b8 D)) (fun W hW _ => Rel.exec_load _ _ rfl gD 0 rfl _ _ (Blk.range (hW.blk KD9.out.drew)) Tryd.underlying23 rfl HSD.out) ?_
  simp only [Act.put, List.setIfInBounds_toArray, List.set_cons_zero, List.set_cons_succ]
  (refine Rel.tree_quiet rfl rfl rfl (fun K hK => ?_); go_big_quiet_op; refine hK _ ?_; clear hK K)
  refine Rel.tree_rel rfl (Rel.Lit8 w9.drew.heap.size 5 [.int .u8 109]) Rel.Lit8.soft rfl (fun W hW _ => ?_) (fun v36 => ?_)
  · unfold Rel.relAt
    go_simp
    exact ⟨Rel.Grow.alloc _ _, Rel.lit8_new [.int .u8 109] hW.size⟩
  simp only [Act.put, List.setIfInBounds_toArray, List.set_cons_zero, List.set_cons_succ]
  refine Rel.tree_step rfl (Rel.Lit8 w9.drew.heap.size 5 [.int .u8 109]) Rel.Lit8.soft rfl (fun W hW hF => Rel.stepAt_const rfl Tryd.underlying53 Tryd.underlying5 v36 rfl (hF 36 (by decide))) (fun v37 => ?_)
  simp only [Act.put, List.setIfInBounds_toArray, List.set_cons_zero, List.set_cons_succ]
  refine Rel.tree_const rfl (.agg (b8 D)) rfl (fun W hW hF => ?_) ?_
  · have h37 := hF 37 (by decide)
    obtain ⟨g7, rfl, hp7⟩ := bytesN_lit8 [109] (by decide) h37
    have hK := nats_b8 (hW.blk KX.out.drew) HK1B.out.2
    have hS := r2sum_any k1 [109] (some ⟨gX, 0, none⟩) 32 32 (some ⟨g7, 0, none⟩) 1 1 W HK1B.out.1 (by decide) hK hp7 (by decide)
    rw [HD.out] at hS
    clear hF h37
    unfold Rel.relAt; go_simp; show Calls _ _ _ _ _
    exact const_call hS
  simp only [Act.put, List.setIfInBounds_toArray, List.set_cons_zero, List.set_cons_succ]
  repeat (refine Rel.tree_quiet rfl rfl rfl (fun K hK => ?_); go_big_quiet_op; refine hK _ ?_; clear hK K)
  intro W hW _
  have HW := Lib.hid (HB9.out.trans (hW.undrew.mono (by rw [← hg]; exact HB9.out.size)))
  clear hW
  go_wp2_with fail
  go_light
  go_ret
  exact ⟨rfl, by rw [hg]; exact HW.out⟩
end Slot
end Go.Proofs.YtpakdcgcgekcfaaDoor

/-
  The reference's Text (curtilageref01): a text's beginning.
-/
namespace Go.Proofs.YtpakdcgcgekcfaaDoor
open Go.RowKit

namespace R1
set_option maxHeartbeats 1000000 in
theorem text_any (s : ByteArray) (m : Int) (k : Nat) (w : World) (hmk : m = k) (hk : k ≤ 1000000) (hs : s.size ≤ maxLen) :
    Calls Tryd.prog 36 #[.string s, .int .i64 m] w (fun e w' => ∃ s' : ByteArray, e = .returned (.string s') ∧ s'.size ≤ k ∧ w = w') := by
  subst hmk
  simp only [maxLen] at hs
  by_cases hlt : (s.size : Int) ≤ (k : Int)
  · go_enter Tryd.func36, Tryd.ntmps36
    go_wp2_with fail
    go_light
    go_ret
    refine ⟨_, rfl, ?_, rfl⟩
    first | omega | (rw [ByteArray.size_extract]; omega)
  · go_enter Tryd.func36, Tryd.ntmps36
    go_wp2_with fail
    go_light
    go_ret
    refine ⟨_, rfl, ?_, rfl⟩
    first | omega | (rw [ByteArray.size_extract]; omega)
end R1
end Go.Proofs.YtpakdcgcgekcfaaDoor

/-
  What a law's arguments read as: 'flat' types (whose cells are all integers or bools), by value and as elements of a slice; and that all arguments read behind the call as they did. No program in sight.
-/
namespace Go.Proofs.YtpakdcgcgekcfaaDoor
open Go.RowKit

/-- A cell's kind: an integer's, or none: a bool. -/
def fit1 : Option IntKind → Value → Prop
  | none, v => ∃ b, v = .bool b
  | some k, v => ∃ n, v = .int k n ∧ (Lit.int k n).wf = true
def Fits : List (Option IntKind) → List Value → Prop
  | [], [] => True
  | k :: ks, v :: vs => fit1 k v ∧ Fits ks vs
  | _, _ => False

theorem Fits.append : ∀ {a b : List (Option IntKind)} {x y : List Value}, Fits a x → Fits b y → Fits (a ++ b) (x ++ y)
  | [], _, [], _, _, h => h
  | _ :: _, _, _ :: _, _, h, h' => ⟨h.1, Fits.append h.2 h'⟩
theorem Fits.length : ∀ {a : List (Option IntKind)} {x : List Value}, Fits a x → x.length = a.length
  | [], [], _ => rfl
  | _ :: _, _ :: _, h => by simp [Fits.length h.2]
theorem Fits.cons {k : Option IntKind} {ks : List (Option IntKind)} {l : List Value} (h : Fits (k :: ks) l) : ∃ v vs, l = v :: vs ∧ fit1 k v ∧ Fits ks vs := by
  cases l with
  | nil => exact h.elim
  | cons v vs => exact ⟨v, vs, rfl, h.1, h.2⟩
theorem Fits.nil {l : List Value} (h : Fits [] l) : l = [] := by
  cases l with
  | nil => rfl
  | cons v vs => exact h.elim
theorem Fits.get : ∀ {a : List (Option IntKind)} {x : List Value}, Fits a x → ∀ (i : Nat) (k : Option IntKind), a[i]? = some k → ∃ v, x[i]? = some v ∧ fit1 k v
  | _ :: _, _ :: _, h, 0, _, hk => by simp at hk; subst hk; exact ⟨_, rfl, h.1⟩
  | _ :: _, _ :: _, h, i + 1, k, hk => by simpa using Fits.get h.2 i k (by simpa using hk)
theorem Fits.flatten : ∀ {l : List (List (Option IntKind))} {cs : List Value}, cs.length = l.flatten.length →
    (∀ (i : Nat) (a : List (Option IntKind)), l[i]? = some a → Fits a ((cs.drop (l.take i).flatten.length).take a.length)) → Fits l.flatten cs
  | [], cs, hl, _ => by
    obtain rfl : cs = [] := List.eq_nil_of_length_eq_zero (by simpa using hl)
    trivial
  | a :: l, cs, hl, h => by
    have h0 := h 0 a rfl
    simp at h0
    have ih := Fits.flatten (l := l) (cs := cs.drop a.length) (by simp at hl ⊢; omega) (fun i b hb => by
      have := h (i + 1) b (by simpa using hb)
      simpa [List.drop_drop] using this)
    have := h0.append ih
    simpa using this
theorem Fits.all_int : ∀ {k : IntKind} {n : Nat} {x : List Value}, Fits (List.replicate n (some k)) x → ∃ zs : List Int, x = zs.map (.int k) ∧ zs.length = n ∧ ∀ z ∈ zs, (Lit.int k z).wf = true
  | k, 0, [], _ => ⟨[], rfl, rfl, by simp⟩
  | k, n + 1, v :: vs, h => by
    obtain ⟨⟨z, rfl, hz⟩, h2⟩ := h
    obtain ⟨zs, rfl, hl, hw⟩ := Fits.all_int h2
    exact ⟨z :: zs, rfl, by simp [hl], by simpa using ⟨hz, hw⟩⟩

/-- The kinds of a type's cells, where they are all integers or bools. -/
def flat (P : Program) : Nat → TypeId → Option (List (Option IntKind))
  | 0, _ => none
  | m + 1, t => match P.underlying t with
    | some .bool => some [none]
    | some (.int k) => some [some k]
    | some (.struct fs) => match fs.toList.mapM (fun f => flat P m f.type) with
      | some l => if l.flatten.length = P.cellsOf t ∧ ((List.range fs.size).all fun i => match fs[i]?, l[i]? with | some f, some a => f.offset == (l.take i).flatten.length && a.length == P.cellsOf f.type | _, _ => false) = true then some l.flatten else none
      | none => none
    | some (.array n e) => match flat P m e with
      | some a => if a.length = P.cellsOf e ∧ n * a.length = P.cellsOf t then some (List.replicate n a).flatten else none
      | none => none
    | _ => none

theorem flatten_replicate_len {α : Type} (a : List α) : ∀ n, (List.replicate n a).flatten.length = n * a.length
  | 0 => by simp
  | n + 1 => by simp

section
variable {H : Type} {enc : TypeId × Value → H} {P : Program} {w : World} {base : Nat} {spare : Nat → Bool} {held : Bool}
theorem flat_fits : ∀ {m : Nat} {t : TypeId} {ks : List (Option IntKind)} {fuel : Nat} {cs : List Value} {x : DataW H × List MemPlace},
    flat P m t = some ks → DataW.trod enc P w base spare held fuel t cs = some x → Fits ks cs := by
  intro m
  induction m with
  | zero => intro t ks fuel cs x h; simp [flat] at h
  | succ m ih =>
    intro t ks fuel cs x h hx
    unfold flat at h
    split at h
    · rename_i ht
      cases h
      cases fuel with
      | zero => simp [DataW.trod] at hx
      | succ n =>
        unfold DataW.trod at hx
        rw [ht] at hx
        split at hx <;> simp_all [Fits, fit1]
    · rename_i k ht
      cases h
      cases fuel with
      | zero => simp [DataW.trod] at hx
      | succ n =>
        unfold DataW.trod at hx
        rw [ht] at hx
        split at hx <;> simp_all [Fits, fit1]
    · rename_i fs ht
      obtain ⟨xs, n, _, _, hlen, _, hf⟩ := DataW.trod_struct ht hx
      split at h
      · rename_i l hl
        split at h
        · rename_i hc
          cases h
          refine Fits.flatten (by rw [hlen, hc.1]) (fun i a ha => ?_)
          have hi : i < l.length := (List.getElem?_eq_some_iff.1 ha).1
          have hif : i < fs.size := by have := mapM_some_length hl; simp at this; omega
          have hfi : fs[i]? = some fs[i] := Array.getElem?_eq_getElem hif
          have hall := List.all_eq_true.1 hc.2 i (by simpa using hif)
          rw [hfi, ha] at hall
          simp only [Bool.and_eq_true, beq_iff_eq] at hall
          have hfl := mapM_some_get hl i fs[i] (by simp [hfi])
          rw [ha] at hfl
          have ht' := hf i fs[i] hfi
          rw [hall.1, ← hall.2] at ht'
          have hxi : i < xs.length := by omega
          rw [List.getElem?_eq_getElem hxi] at ht'
          exact ih hfl ht'
        · cases h
      · cases h
    · rename_i k e ht
      obtain ⟨xs, n, _, _, hlen, hxl, hf⟩ := DataW.trod_array ht hx
      split at h
      · rename_i a ha
        split at h
        · rename_i hc
          cases h
          refine Fits.flatten (by rw [hlen, flatten_replicate_len, hc.2]) (fun i b hb => ?_)
          obtain ⟨hi, rfl⟩ := List.getElem?_eq_some_iff.1 hb
          have hik : i < k := by simpa using hi
          have ht' := hf i hik
          rw [List.getElem?_eq_getElem (by omega)] at ht'
          have hb2 : (List.replicate k a)[i] = a := by simp
          rw [hb2, List.take_replicate, flatten_replicate_len, Nat.min_eq_left (by omega), hc.1]
          exact ih ha ht'
        · cases h
      · cases h
    · cases h

/-- A slice of flat elements that came in: nil, or a row of 'cap' elements of 'size' cells (the first 'len' are its own, the rest spare). -/
def RowsOf (w : World) (size : Nat) (ks : List (Option IntKind)) (a : Option Addr) (len cap : Nat) (rows : List (List Value)) : Prop :=
  (a = none ∧ len = 0 ∧ cap = 0 ∧ rows = []) ∨
  ∃ x, a = some x ∧ len ≤ cap ∧ cap ≤ maxLen ∧ rows.length = cap ∧ ∀ (i : Nat) (r : List Value), rows[i]? = some r → Fits ks r ∧ ∀ (j : Nat) (v : Value), r[j]? = some v → w.cell? (x.add (i * size + j)) = some v

theorem rows_ints {w : World} {k : IntKind} {a : Option Addr} {len cap : Nat} {rows : List (List Value)} (h : RowsOf w 1 [some k] a len cap rows) : ∃ zs : List Int, zs.length = len ∧ len ≤ cap ∧ cap ≤ maxLen ∧ Ints k w w.heap.size a zs := by
  rcases h with ⟨rfl, rfl, rfl, rfl⟩ | ⟨x, rfl, hl, hm, hr, hx⟩
  · exact ⟨[], rfl, Nat.le_refl _, Nat.zero_le _, fun i z hz => by simp at hz⟩
  · have hone : ∀ i, i < cap → ∃ z : Int, (Lit.int k z).wf = true ∧ w.cell? (x.add i) = some (.int k z) := fun i hi => by
      obtain ⟨hf, hc⟩ := hx i (rows[i]'(by omega)) (List.getElem?_eq_getElem _)
      obtain ⟨v, vs, e, ⟨z, rfl, hz⟩, _⟩ := Fits.cons hf
      have := hc 0 (.int k z) (by rw [e]; rfl)
      exact ⟨z, hz, by simpa using this⟩
    have hone' : ∀ i, ∃ z : Int, i < cap → (Lit.int k z).wf = true ∧ w.cell? (x.add i) = some (.int k z) := fun i => by
      rcases Nat.lt_or_ge i cap with h | h
      · obtain ⟨z, hz⟩ := hone i h
        exact ⟨z, fun _ => hz⟩
      · exact ⟨0, fun h' => absurd h' (by omega)⟩
    obtain ⟨f, hf⟩ : ∃ f : Nat → Int, ∀ i, i < cap → (Lit.int k (f i)).wf = true ∧ w.cell? (x.add i) = some (.int k (f i)) := ⟨fun i => Classical.choose (hone' i), fun i => Classical.choose_spec (hone' i)⟩
    refine ⟨(List.range len).map f, by simp, hl, hm, fun i z hz => ?_⟩
    have hi : i < len := by have := (List.getElem?_eq_some_iff.1 hz).1; simpa using this
    rw [List.getElem?_map, List.getElem?_range hi] at hz
    obtain rfl := Option.some.inj hz
    obtain ⟨h1, h2⟩ := hf i (by omega)
    obtain ⟨_, h20⟩ := hf 0 (by omega)
    obtain ⟨b, off, spot⟩ := x
    have hspot : spot = none := by simpa [Addr.add] using World.cell?_spot h20
    subst hspot
    rw [Go.WideShapes.add_plain] at h2
    exact ⟨h1, b, off, rfl, cell_lt h2, h2⟩
theorem ints_nats {k : IntKind} {w : World} {B M : Nat} {a : Option Addr} {zs : List Int} (hM : ∀ z : Int, (Lit.int k z).wf = true → 0 ≤ z ∧ z < M) (h : Ints k w B a zs) : Nats k M w B a (zs.map Int.toNat) := fun i z hz => by
  rw [List.getElem?_map] at hz
  cases hzi : zs[i]? with
  | none => rw [hzi] at hz; cases hz
  | some y =>
    rw [hzi] at hz
    obtain rfl := Option.some.inj hz
    obtain ⟨h1, b, off, h2, h3, h4⟩ := h i y hzi
    obtain ⟨h5, h6⟩ := hM y h1
    exact ⟨by omega, b, off, h2, h3, by rw [h4, Int.toNat_of_nonneg h5]⟩

theorem open_flat {r : Reach} {b0 : Nat} {t : TypeId} {m : Nat} {ks : List (Option IntKind)} {v : Value} {d : DataW H} {p : List MemPlace} (hfl : flat P m t = some ks) (hs : (∃ fs, P.underlying t = some (.struct fs)) ∨ ∃ n e, P.underlying t = some (.array n e))
    (hv : Value.okWide P w r b0 t v) (h : DataW.Trod enc P w base spare held t v d p) : ∃ cs, v = .agg cs ∧ Fits ks cs.toList := by
  obtain ⟨cs, rfl⟩ : ∃ cs, v = .agg cs := by
    rcases hs with ⟨fs, hs⟩ | ⟨n, e, hs⟩
    · obtain ⟨cs, h, _⟩ := WideShapes.okWide_struct hs hv; exact ⟨cs, h⟩
    · simp only [Value.okWide, hs] at hv
      obtain ⟨cs, h, _⟩ := hv
      exact ⟨cs, h⟩
  obtain ⟨fuel, hf⟩ := h
  exact ⟨cs, rfl, flat_fits hfl (by simpa [Value.cells] using hf)⟩

theorem open_rows {t e : TypeId} {m fuel size : Nat} {ks : List (Option IntKind)} {a : Option Addr} {len cap : Nat} {x : DataW H × List MemPlace} (ht : P.underlying t = some (.slice e)) (hfl : flat P m e = some ks) (hsz : P.cellsOf e = size)
    (h : DataW.trod enc P w base (fun _ => true) held fuel t [.slice a len cap] = some x) : ∃ rows, RowsOf w size ks a len cap rows := by
  rcases Go.Deep.open_slice ht h with ⟨h0, _⟩ | ⟨a', len', cap', mm, n, D, Pl, hcs, _, hl, hm, hmm, _, hi⟩
  · simp at h0
    obtain ⟨rfl, rfl, rfl⟩ := h0
    exact ⟨[], .inl ⟨rfl, rfl, rfl, rfl⟩⟩
  · simp at hcs
    obtain ⟨rfl, rfl, rfl⟩ := hcs
    simp at hmm
    subst hmm
    have hex : ∀ i, ∃ r, i < mm → (Fits ks r ∧ ∀ (j : Nat) (v : Value), r[j]? = some v → w.cell? (a'.add (i * size + j)) = some v) := fun i => by
      rcases Nat.lt_or_ge i mm with hlt | hge
      · obtain ⟨cs', hc, ht'⟩ := hi i hlt
        obtain ⟨_, hcl, hat⟩ := World.cells?_some hc
        refine ⟨cs', fun _ => ⟨flat_fits hfl ht', fun j v hv => ?_⟩⟩
        have hj : j < cs'.length := (List.getElem?_eq_some_iff.1 hv).1
        have h2 := hat j (by omega)
        rw [Go.Deep.add_add] at h2
        rw [hsz] at h2
        rw [h2, hv]
      · exact ⟨[], fun h => absurd h (by omega)⟩
    refine ⟨(List.range mm).map fun i => Classical.choose (hex i), .inr ⟨a', rfl, hl, hm, by simp, fun i r hr => ?_⟩⟩
    have hlt : i < mm := by have := (List.getElem?_eq_some_iff.1 hr).1; simpa using this
    have hr' : r = Classical.choose (hex i) := by
      rw [List.getElem?_map, List.getElem?_range hlt] at hr
      exact (Option.some.inj hr).symm
    rw [hr']
    exact Classical.choose_spec (hex i) hlt

theorem trodAll_below (hl : laidOutB P = true) {W W' : World} (hb : Below W.heap.size W W') : ∀ {ts : List TypeId} {vs : List Value} {ds : List (DataW H)} {ps : List MemPlace},
    (ts.all fun t => P.readableRec t && decide (t < P.types.size)) = true → DataW.TrodAll enc P W 0 (fun _ => true) true ts vs ds ps → DataW.TrodAll enc P W' 0 (fun b => decide (b < W.heap.size)) true ts vs ds ps
  | [], vs, ds, ps, _, h => by
    cases vs with
    | nil => cases ds with
      | nil => exact h
      | cons _ _ => simp [DataW.TrodAll] at h
    | cons _ _ => simp [DataW.TrodAll] at h
  | t :: ts, vs, ds, ps, ha, h => by
    simp only [List.all_cons, Bool.and_eq_true, decide_eq_true_eq] at ha
    obtain ⟨v, vs', d, ds', p, q, rfl, rfl, rfl, h0, h1⟩ := ChangeShapes.trodAll_cons h
    have lt0 : ∀ x ∈ p, x.block < W.heap.size := by obtain ⟨m, hm⟩ := h0; exact DataW.trod_lt m _ _ _ hm
    exact trodAll_cons_mk (Below.trod hl ha.1.1 ha.1.2 h0 hb lt0) (trodAll_below hl hb ha.2 h1)

/-- A law's end: true, and nothing that was there has turned. -/
theorem law_end {fn : Func} {s : ChangeSpec} {tb : TypeId} {W W' : World} {args : Array Value} {ds gs : List (DataW H)} {before : List MemPlace} {e : Ending} (hl : laidOutB P = true)
    (hts : (fn.params.toList.all fun t => P.readableRec t && decide (t < P.types.size)) = true) (hW : DataW.Whole enc P fn.params.toList s.vars false W args.toList ds gs before) (hvars : s.vars = [])
    (hres : fn.resultTypes = #[tb]) (htb : P.underlying tb = some .bool) (hspec : gs = [] → (s.fn H (ds ++ gs)) = { results := [.lit (.bool true)], args := ds }) (he : e = .returned (.bool true)) (hb : Below W.heap.size W W') :
    ∃ v, e = .returned v ∧ s.post enc P fn false true false false W args v W' := by
  have hW' := hW
  obtain ⟨p, q, hA, hV, hpq, hfz, hnd⟩ := hW
  rw [hvars] at hV
  obtain ⟨rfl, rfl⟩ := ChangeShapes.trodVars_none hV
  have hs := hspec rfl
  refine ⟨_, he, ds, [], before, [], p, [], hW', ?_, ?_, ?_, hb.frame _, fun h => by cases h⟩
  · rw [hs, hres]
    exact ChangeShapes.trodAll_mk1 (RowKit.shut_bool htb true)
  · rw [hs]
    exact trodAll_below hl hb hts hA
  · rw [hvars, hs]
    rfl
end
end Go.Proofs.YtpakdcgcgekcfaaDoor

/-
  What a law's arguments read as, wider: types whose cells are integers, bools, strings and slices of integers; slices of such. No program in sight.
-/
namespace Go.Proofs.YtpakdcgcgekcfaaDoor
open Go.RowKit

/-- A cell's kind. -/
inductive Kd where
  | bool
  | int (k : IntKind)
  | str
  | sl (k : IntKind)
def fitW (w : World) : Kd → Value → Prop
  | .bool, v => ∃ b, v = .bool b
  | .int k, v => ∃ n, v = .int k n ∧ (Lit.int k n).wf = true
  | .str, v => ∃ s : ByteArray, v = .string s ∧ s.size ≤ maxLen
  | .sl k, v => ∃ (a : Option Addr) (len cap : Nat) (zs : List Int), v = .slice a len cap ∧ zs.length = len ∧ len ≤ cap ∧ cap ≤ maxLen ∧ Ints k w w.heap.size a zs
def FitsW (w : World) : List Kd → List Value → Prop
  | [], [] => True
  | k :: ks, v :: vs => fitW w k v ∧ FitsW w ks vs
  | _, _ => False
theorem FitsW.append {w : World} : ∀ {a b : List Kd} {x y : List Value}, FitsW w a x → FitsW w b y → FitsW w (a ++ b) (x ++ y)
  | [], _, [], _, _, h => h
  | _ :: _, _, _ :: _, _, h, h' => ⟨h.1, FitsW.append h.2 h'⟩
theorem FitsW.cons {w : World} {k : Kd} {ks : List Kd} {l : List Value} (h : FitsW w (k :: ks) l) : ∃ v vs, l = v :: vs ∧ fitW w k v ∧ FitsW w ks vs := by
  cases l with
  | nil => exact h.elim
  | cons v vs => exact ⟨v, vs, rfl, h.1, h.2⟩
theorem FitsW.nil {w : World} {l : List Value} (h : FitsW w [] l) : l = [] := by
  cases l with
  | nil => rfl
  | cons v vs => exact h.elim
theorem FitsW.split {w : World} : ∀ {a b : List Kd} {x : List Value}, FitsW w (a ++ b) x → ∃ y z, x = y ++ z ∧ FitsW w a y ∧ FitsW w b z
  | [], _, x, h => ⟨[], x, rfl, trivial, h⟩
  | k :: a, b, v :: x, h => by
    obtain ⟨y, z, rfl, h1, h2⟩ := FitsW.split (a := a) (b := b) h.2
    exact ⟨v :: y, z, rfl, ⟨h.1, h1⟩, h2⟩
theorem FitsW.all_int {w : World} : ∀ {k : IntKind} {n : Nat} {x : List Value}, FitsW w (List.replicate n (.int k)) x → ∃ zs : List Int, x = zs.map (.int k) ∧ zs.length = n ∧ ∀ z ∈ zs, (Lit.int k z).wf = true
  | k, 0, [], _ => ⟨[], rfl, rfl, by simp⟩
  | k, n + 1, v :: vs, h => by
    obtain ⟨⟨z, rfl, hz⟩, h2⟩ := h
    obtain ⟨zs, rfl, hl, hw⟩ := FitsW.all_int h2
    exact ⟨z :: zs, rfl, by simp [hl], by simpa using ⟨hz, hw⟩⟩
theorem FitsW.flatten {w : World} : ∀ {l : List (List Kd)} {cs : List Value}, cs.length = l.flatten.length →
    (∀ (i : Nat) (a : List Kd), l[i]? = some a → FitsW w a ((cs.drop (l.take i).flatten.length).take a.length)) → FitsW w l.flatten cs
  | [], cs, hl, _ => by
    obtain rfl : cs = [] := List.eq_nil_of_length_eq_zero (by simpa using hl)
    trivial
  | a :: l, cs, hl, h => by
    have h0 := h 0 a rfl
    simp at h0
    have ih := FitsW.flatten (w := w) (l := l) (cs := cs.drop a.length) (by simp at hl ⊢; omega) (fun i b hb => by
      have := h (i + 1) b (by simpa using hb)
      simpa [List.drop_drop] using this)
    have := h0.append ih
    simpa using this
/-- The kinds of a type's cells. -/
def flatW (P : Program) : Nat → TypeId → Option (List Kd)
  | 0, _ => none
  | m + 1, t => match P.underlying t with
    | some .bool => some [.bool]
    | some (.int k) => some [.int k]
    | some .string => some [.str]
    | some (.slice e) => match P.underlying e with
      | some (.int k) => if P.cellsOf e = 1 then some [.sl k] else none
      | _ => none
    | some (.struct fs) => match fs.toList.mapM (fun f => flatW P m f.type) with
      | some l => if l.flatten.length = P.cellsOf t ∧ ((List.range fs.size).all fun i => match fs[i]?, l[i]? with | some f, some a => f.offset == (l.take i).flatten.length && a.length == P.cellsOf f.type | _, _ => false) = true then some l.flatten else none
      | none => none
    | some (.array n e) => match flatW P m e with
      | some a => if a.length = P.cellsOf e ∧ n * a.length = P.cellsOf t then some (List.replicate n a).flatten else none
      | none => none
    | _ => none
section
variable {H : Type} {enc : TypeId × Value → H} {P : Program} {w : World} {base : Nat} {held : Bool}
theorem flatW_fits : ∀ {m : Nat} {t : TypeId} {ks : List Kd} {fuel : Nat} {cs : List Value} {x : DataW H × List MemPlace},
    flatW P m t = some ks → DataW.trod enc P w base (fun _ => true) held fuel t cs = some x → FitsW w ks cs := by
  intro m
  induction m with
  | zero => intro t ks fuel cs x h; simp [flatW] at h
  | succ m ih =>
    intro t ks fuel cs x h hx
    unfold flatW at h
    split at h
    · rename_i ht
      cases h
      cases fuel with
      | zero => simp [DataW.trod] at hx
      | succ n =>
        unfold DataW.trod at hx
        rw [ht] at hx
        split at hx <;> simp_all [FitsW, fitW]
    · rename_i k ht
      cases h
      cases fuel with
      | zero => simp [DataW.trod] at hx
      | succ n =>
        unfold DataW.trod at hx
        rw [ht] at hx
        split at hx <;> simp_all [FitsW, fitW]
    · rename_i ht
      cases h
      obtain ⟨s, rfl, rfl, hw⟩ := DataW.trod_string ht hx
      exact ⟨⟨s, rfl, hw⟩, trivial⟩
    · rename_i e ht
      split at h
      · rename_i k he
        split at h
        · rename_i hc
          cases h
          have hfl : flat P 1 e = some [some k] := by simp [flat, he]
          have hcs : ∃ a len cap, cs = [.slice a len cap] := by
            rcases Go.Deep.open_slice ht hx with ⟨h0, _⟩ | ⟨a', len', cap', mm, n, D, Pl, hcs, _⟩
            · exact ⟨_, _, _, h0⟩
            · exact ⟨_, _, _, hcs⟩
          obtain ⟨a, len, cap, rfl⟩ := hcs
          obtain ⟨rows, hr⟩ := open_rows ht hfl hc hx
          obtain ⟨zs, h1, h2, h3, h4⟩ := rows_ints hr
          exact ⟨⟨a, len, cap, zs, rfl, h1, h2, h3, h4⟩, trivial⟩
        · cases h
      · cases h
    · rename_i fs ht
      obtain ⟨xs, n, _, _, hlen, _, hf⟩ := DataW.trod_struct ht hx
      split at h
      · rename_i l hl
        split at h
        · rename_i hc
          cases h
          refine FitsW.flatten (by rw [hlen, hc.1]) (fun i a ha => ?_)
          have hi : i < l.length := (List.getElem?_eq_some_iff.1 ha).1
          have hif : i < fs.size := by have := mapM_some_length hl; simp at this; omega
          have hfi : fs[i]? = some fs[i] := Array.getElem?_eq_getElem hif
          have hall := List.all_eq_true.1 hc.2 i (by simpa using hif)
          rw [hfi, ha] at hall
          simp only [Bool.and_eq_true, beq_iff_eq] at hall
          have hfl := mapM_some_get hl i fs[i] (by simp [hfi])
          rw [ha] at hfl
          have ht' := hf i fs[i] hfi
          rw [hall.1, ← hall.2] at ht'
          have hxi : i < xs.length := by omega
          rw [List.getElem?_eq_getElem hxi] at ht'
          exact ih hfl ht'
        · cases h
      · cases h
    · rename_i k e ht
      obtain ⟨xs, n, _, _, hlen, hxl, hf⟩ := DataW.trod_array ht hx
      split at h
      · rename_i a ha
        split at h
        · rename_i hc
          cases h
          have hrl : ∀ n, (List.replicate n a).flatten.length = n * a.length := flatten_replicate_len a
          refine FitsW.flatten (by rw [hlen, hrl, hc.2]) (fun i b hb => ?_)
          obtain ⟨hi, rfl⟩ := List.getElem?_eq_some_iff.1 hb
          have hik : i < k := by simpa using hi
          have ht' := hf i hik
          rw [List.getElem?_eq_getElem (by omega)] at ht'
          have hb2 : (List.replicate k a)[i] = a := by simp
          rw [hb2, List.take_replicate, hrl, Nat.min_eq_left (by omega), hc.1]
          exact ih ha ht'
        · cases h
      · cases h
    · cases h
/-- A slice of such elements that came in. -/
def RowsW (w : World) (size : Nat) (ks : List Kd) (a : Option Addr) (len cap : Nat) (rows : List (List Value)) : Prop :=
  rows.length = len ∧ len ≤ cap ∧ cap ≤ maxLen ∧ ∀ (i : Nat) (r : List Value), rows[i]? = some r → FitsW w ks r ∧ ∃ b off, a = some ⟨b, off, none⟩ ∧ ∀ (j : Nat) (v : Value), r[j]? = some v → b < w.heap.size ∧ w.cell? ⟨b, off + (i * size + j), none⟩ = some v
theorem open_rowsW {t e : TypeId} {m fuel size : Nat} {ks : List Kd} {a : Option Addr} {len cap : Nat} {x : DataW H × List MemPlace} (ht : P.underlying t = some (.slice e)) (hfl : flatW P m e = some ks) (hsz : P.cellsOf e = size) (hne : ks ≠ [])
    (h : DataW.trod enc P w base (fun _ => true) held fuel t [.slice a len cap] = some x) : ∃ rows, RowsW w size ks a len cap rows := by
  rcases Go.Deep.open_slice ht h with ⟨h0, _⟩ | ⟨a', len', cap', mm, n, D, Pl, hcs, _, hl, hm, hmm, _, hi⟩
  · simp at h0
    obtain ⟨rfl, rfl, rfl⟩ := h0
    exact ⟨[], rfl, Nat.le_refl _, Nat.zero_le _, fun i r hr => by simp at hr⟩
  · simp at hcs
    obtain ⟨rfl, rfl, rfl⟩ := hcs
    simp at hmm
    subst hmm
    have hex : ∀ i, ∃ r, i < mm → (FitsW w ks r ∧ ∀ (j : Nat) (v : Value), r[j]? = some v → w.cell? (a'.add (i * size + j)) = some v) := fun i => by
      rcases Nat.lt_or_ge i mm with hlt | hge
      · obtain ⟨cs', hc, ht'⟩ := hi i hlt
        obtain ⟨_, hcl, hat⟩ := World.cells?_some hc
        refine ⟨cs', fun _ => ⟨flatW_fits hfl ht', fun j v hv => ?_⟩⟩
        have hj : j < cs'.length := (List.getElem?_eq_some_iff.1 hv).1
        have h2 := hat j (by omega)
        rw [Go.Deep.add_add] at h2
        rw [hsz] at h2
        rw [h2, hv]
      · exact ⟨[], fun h => absurd h (by omega)⟩
    have hfirst : ∀ {r : List Value}, FitsW w ks r → ∃ v0, r[0]? = some v0 := fun {r} h1 => by
      match ks, hne, h1 with
      | k :: ks', _, h1 =>
        obtain ⟨v, vs, e, _⟩ := FitsW.cons h1
        exact ⟨v, by rw [e]; rfl⟩
    have hspot : 0 < mm → a'.spot = none := fun h0 => by
      obtain ⟨r, hr⟩ := hex 0
      obtain ⟨h1, h2⟩ := hr h0
      obtain ⟨v0, hv0⟩ := hfirst h1
      have h20 := h2 0 v0 hv0
      have := World.cell?_spot h20
      simpa [Addr.add] using this
    refine ⟨(List.range len).map fun i => Classical.choose (hex i), by simp, hl, hm, fun i r hr => ?_⟩
    have hlt : i < len := by have := (List.getElem?_eq_some_iff.1 hr).1; simpa using this
    have hr' : r = Classical.choose (hex i) := by
      rw [List.getElem?_map, List.getElem?_range hlt] at hr
      exact (Option.some.inj hr).symm
    rw [hr']
    obtain ⟨h1, h2⟩ := Classical.choose_spec (hex i) (by omega)
    refine ⟨h1, ?_⟩
    have hsp := hspot (by omega)
    obtain ⟨b, off, spot⟩ := a'
    simp only at hsp
    subst hsp
    refine ⟨b, off, rfl, fun j v hv => ?_⟩
    have := h2 j v hv
    rw [Go.WideShapes.add_plain] at this
    exact ⟨cell_lt this, this⟩
/-- A slice of strings. -/
def Strs (w : World) (B : Nat) (a : Option Addr) (ss : List ByteArray) : Prop := ∀ (i : Nat) (s : ByteArray), ss[i]? = some s → s.size ≤ maxLen ∧ ∃ b off, a = some ⟨b, off, none⟩ ∧ b < B ∧ w.cell? ⟨b, off + i, none⟩ = some (.string s)
theorem rows_strs {w : World} {a : Option Addr} {len cap : Nat} {rows : List (List Value)} (h : RowsW w 1 [.str] a len cap rows) : ∃ ss : List ByteArray, ss.length = len ∧ len ≤ cap ∧ cap ≤ maxLen ∧ Strs w w.heap.size a ss := by
  obtain ⟨h1, h2, h3, h4⟩ := h
  have hone : ∀ i, i < len → ∃ s : ByteArray, s.size ≤ maxLen ∧ ∃ b off, a = some ⟨b, off, none⟩ ∧ b < w.heap.size ∧ w.cell? ⟨b, off + i, none⟩ = some (.string s) := fun i hi => by
    obtain ⟨hf, b, off, e, hc⟩ := h4 i (rows[i]'(by omega)) (List.getElem?_eq_getElem _)
    obtain ⟨v, vs, e1, ⟨s, rfl, hs⟩, _⟩ := FitsW.cons hf
    obtain ⟨hlt, hcell⟩ := hc 0 (.string s) (by rw [e1]; rfl)
    exact ⟨s, hs, b, off, e, hlt, by simpa using hcell⟩
  have hone' : ∀ i, ∃ s : ByteArray, i < len → s.size ≤ maxLen ∧ ∃ b off, a = some ⟨b, off, none⟩ ∧ b < w.heap.size ∧ w.cell? ⟨b, off + i, none⟩ = some (.string s) := fun i => by
    rcases Nat.lt_or_ge i len with h | h
    · obtain ⟨s, hs⟩ := hone i h
      exact ⟨s, fun _ => hs⟩
    · exact ⟨ByteArray.empty, fun h' => absurd h' (by omega)⟩
  refine ⟨(List.range len).map fun i => Classical.choose (hone' i), by simp, h2, h3, fun i s hs => ?_⟩
  have hi : i < len := by have := (List.getElem?_eq_some_iff.1 hs).1; simpa using this
  rw [List.getElem?_map, List.getElem?_range hi] at hs
  obtain rfl := Option.some.inj hs
  exact Classical.choose_spec (hone' i) hi
end
end Go.Proofs.YtpakdcgcgekcfaaDoor

/-
  SlotChains: keys that are derived of one another.
-/
namespace Go.Proofs.YtpakdcgcgekcfaaDoor
open Go.RowKit

theorem Strs.below {w w' : World} {B : Nat} {a : Option Addr} {ss : List ByteArray} (h : Strs w B a ss) (hb : Below B w w') : Strs w' B a ss := fun i s hs => by
  obtain ⟨h1, b, off, h2, h3, h4⟩ := h i s hs
  exact ⟨h1, b, off, h2, h3, (hb.cell (p := ⟨b, off + i, none⟩) h3).trans h4⟩
namespace Otp
/-- An array stored into a block. -/
theorem wpList_set_row {P : Program} {ops : Array Oper} {rest : List Oper} {o : Oper} {a : Act} {w : World} {Q : Exit → Act → World → Prop} (hgd : o.guard = none) (ty : TypeId) (x y : Operand) (ho : o.op = .store ty x y)
    (g : Nat) (cells : Array Value) (hx : a.eval x = .pointer (some ⟨g, 0, none⟩)) (hy : a.eval y = .agg cells)
    (t : TypeId) (old : Array Value) (hg : Blk w g t old) (hi : (P.info? ty).map (·.size) = some cells.size)
    (hold : old.size = cells.size) (h1 : cells.all (·.oneCell') = true)
    (h : ∀ w', Hid (Blk w' g t cells) → Hid (Frm [g] w w') → wpList P ops Q rest (a.put o.dst undef) w') : wpList P ops Q (o :: rest) a w :=
  wpList_store_row hgd ty x y ho g cells hx hy t old hg hi hold h1 (h _ (Lib.hid (setRow_heap _ _ _ cells _ _ hg)) (Lib.hid (frm_setRow w cells)))
end Otp
namespace Slot
open Otp R1 Sha Mac
theorem ch_count (g n : Nat) (k : List Nat) (w : World) (hC : Chm w g n k) : Calls Tryd.prog 42 #[.pointer (some ⟨g, 0, none⟩)] w (IntBelow w ((n + 1 : Nat) : Int)) := by
  obtain ⟨s, hS, hc⟩ := hC.ex
  have := count_of (.pointer (some ⟨g, 0, none⟩)) (fun i => kindE s (i : Int)) w (fun i W hi hb => kind_any g s i W (hS.old hb) (wfI_small (by omega) (by omega))) (cntE s) rfl (fun _ => rfl) (cntE_le s)
  rw [hc.cnt] at this
  exact this
def WpOut (w : World) (g : Nat) (z : Int) (e : Ending) (w' : World) : Prop := e = .returned (.int .i64 z) ∧ (∃ s, Sl w' g s) ∧ Frm [g] w w'
theorem ch_wipe (g n : Nat) (k : List Nat) (m z : Int) (w W : World) (hC : Chm w g n k) (hm : m = n) (hz : z = ((1 + min n 1 : Nat) : Int)) (hW : W = w.alloc (.cells #[.int .i64 0, .int .i64 0, .int .i64 m] 3)) :
    Calls Tryd.prog 43 #[.pointer (some ⟨g, 0, none⟩), .slice (some ⟨w.heap.size, 0, none⟩) 3 3] W (WpOut W g z) := by
  subst hm hW hz
  obtain ⟨s, hS, hc⟩ := hC.ex
  have hn := hc.le
  have hlt := hS.lt
  have hz := (ints_new w [0, 0, (n : Int)] (t := 3) _ rfl (fun z hz => by
    simp at hz
    rcases hz with rfl | rfl <;> exact wfI_small (by omega) (by omega))).more (B' := (w.alloc (.cells #[.int .i64 0, .int .i64 0, .int .i64 (n : Int)] 3)).heap.size) (by simp)
  have := swipe_any g s (some ⟨w.heap.size, 0, none⟩) [0, 0, (n : Int)] 3 3 _ (hS.old ((Below.refl _ w).alloc (Nat.le_refl _) _)) rfl (by decide) hz (fun ad h => by cases h; simp only; omega)
  rw [hc.wipe] at this
  exact this.mono fun _ _ ⟨h1, h2, h3⟩ => ⟨h1, ⟨_, h2⟩, h3⟩
theorem ch_wipe0 (g : Nat) (w W : World) (hS : ∃ s, Sl w g s) (hW : W = w.alloc (.cells #[.int .i64 (-1), .int .i64 9] 3)) :
    Calls Tryd.prog 43 #[.pointer (some ⟨g, 0, none⟩), .slice (some ⟨w.heap.size, 0, none⟩) 2 2] W (WpOut W g 0) := by
  subst hW
  obtain ⟨s, hS⟩ := hS
  have hlt := hS.lt
  have hz := (ints_new w [-1, 9] (t := 3) _ rfl (fun z hz => by
    simp at hz
    rcases hz with rfl | rfl <;> exact wfI_small (by omega) (by omega))).more (B' := (w.alloc (.cells #[.int .i64 (-1), .int .i64 9] 3)).heap.size) (by simp)
  have := swipe_any g s (some ⟨w.heap.size, 0, none⟩) [-1, 9] 2 2 _ (hS.old ((Below.refl _ w).alloc (Nat.le_refl _) _)) rfl (by decide) hz (fun ad h => by cases h; simp only; omega)
  rw [(wipe_none s).1] at this
  exact this.mono fun _ _ ⟨h1, h2, h3⟩ => ⟨h1, ⟨_, h2⟩, h3⟩
set_option maxRecDepth 100000 in
set_option maxHeartbeats 4000000 in
theorem chains_any (key : List Nat) (A : Option Addr) (n c : Nat) (ss : List ByteArray) (w : World) (hT : STab w) (hkl : key.length = 32) (hkb : ∀ x ∈ key, x < 256) (hss : ss.length = n) (hnm : n ≤ maxLen) (hz : Strs w w.heap.size A ss) :
    Calls Tryd.prog 6 #[.agg (b8 key), .slice A n c] w (TrueBelow w) := by
  have HT := Lib.hid hT
  have HZ := Lib.hid hz
  have HDI := Lib.hid dig_info
  have HSK := Lib.hid (fun k (h : k.length = 32) => show (Tryd.prog.info? 23).map (·.size) = some (b8 k).size by rw [b8_size, h]; exact dig_info)
  have HZK := Lib.hid (fun k (h : k.length = 32) => show (b8 (List.replicate 32 0)).size = (b8 k).size by rw [b8_size, b8_size, h]; rfl)
  obtain ⟨w1, hw1⟩ : ∃ W, W = w.alloc (.cells (b8 key) 23) := ⟨_, rfl⟩
  have HW1 := Lib.hid hw1
  have HB1 := Lib.hid (show Below w.heap.size w w1 by rw [hw1]; exact (Below.refl _ w).alloc (Nat.le_refl _) _)
  have HK1 := Lib.hid (show Blk w1 w.heap.size 23 (b8 key) by rw [hw1]; exact Blk.new _ _ _)
  simp only [maxLen] at hnm
  have HKL := Lib.hid hkl
  have HKB := Lib.hid hkb
  clear hT hz hw1 hkl hkb
  go_enter Tryd.func6, Tryd.ntmps6
  go_upto_region 1 with fail
  change Code.wp _ _ _ _ (w.alloc (.cells (b8 key) 23))
  rw [← HW1.out]
  clear HW1
  go_wp2_with fail
  (with_reducible refine (awake_any _ (HT.out.old HB1.out)).mono ?_); rintro e w2 ⟨rfl, hB2⟩
  have HK2 := Lib.hid (HK1.out.next hB2 rfl)
  have HB2 := Lib.hid (below_then HB1.out hB2 (Nat.le_refl _))
  clear hB2 HK1 HB1
  go_wp2_with fail
  (with_reducible refine (snew_out _).mono ?_); rintro e w3 ⟨rfl, hS3, hB3⟩
  have HK3 := Lib.hid (HK2.out.next hB3 rfl)
  have HB3 := Lib.hid (below_then HB2.out hB3 (Nat.le_refl _))
  have HS3 := Lib.hid hS3
  have hg2 : w.heap.size < w2.heap.size := HK2.out.lt
  clear hB3 HK2 HB2 hS3
  generalize w2.heap.size = g at *
  go_wp2_with (refine wpList_load_row rfl 23 _ rfl w.heap.size rfl 23 (b8 key) (0, 0) _ HK3.out Tryd.underlying23 rfl (HSK.out key HKL.out) ?_)
  (with_reducible refine (ch_lay g key w3 HS3.out HKL.out HKB.out).mono ?_); rintro e w4 ⟨rfl, hC4, hF4⟩
  have HK4 := Lib.hid (HK3.out.frm hF4 (by simp; omega))
  have HB4 := Lib.hid (HB3.out.trans (Frm.below hF4 HB3.out.size (fun x hx => by simp at hx; omega)))
  have HC4 := Lib.hid hC4
  clear hC4 hF4 HS3 HK3 HB3
  go_upto_region 6 with (first | refine wpList_load_row rfl 23 _ rfl w.heap.size rfl 23 (b8 key) (0, 0) _ HK4.out Tryd.underlying23 rfl (HSK.out key HKL.out) ?_ | (refine wpList_new_row rfl 23 (.tmp 6) (.tmp 18) rfl w4.heap.size (b8 key) rfl rfl 23 (b8 (List.replicate 32 0)) (Blk.new _ _ _) (HSK.out key HKL.out) (HZK.out key HKL.out) (b8_one _) w4.heap.size w4 ((Below.refl _ w4).alloc (Nat.le_refl _) _) (Nat.le_refl _) ?_; intro w5 K5 B5))
  have HC5 := Lib.hid (HC4.out.old B5.out)
  have HB5 := Lib.hid (below_then HB4.out B5.out (Nat.le_refl _))
  have hg4 : g < w4.heap.size := HC4.out.lt
  have hw4 : w.heap.size < w4.heap.size := HK4.out.lt
  clear HC4 HK4 B5 HB4
  generalize w4.heap.size = gK at *
  go_wp2_with fail
  go_loopg [21] n (fun gm s21 wr => ∃ (i : Nat) (k : List Nat), i + gm = n ∧ i ≤ 7 ∧ s21 = .int .i64 (i : Int) ∧ Hid (Chm wr g i k) ∧ Hid (Blk wr gK 23 (b8 k)) ∧ Hid (Below w.heap.size w wr))
  case atStart => exact ⟨0, key, by omega, by omega, rfl, HC5, K5, HB5⟩
  case round =>
    obtain ⟨i, k, hg, hi7, rfl, HC, HK, HB⟩ := hrel
    have HG := Lib.hid hg
    have hin : i ≤ n := by omega
    clear hg HC5 HB5 K5
    by_cases hx : i < n ∧ i < 7
    · obtain ⟨hlt, h7⟩ := hx
      obtain ⟨s, hs⟩ : ∃ s, ss[i]? = some s := ⟨_, List.getElem?_eq_getElem (by omega)⟩
      obtain ⟨hsm, b, off, rfl, hb, hcx⟩ := (HZ.out.below HB.out) i s hs
      have hb' : b < wr.heap.size := Nat.lt_of_lt_of_le hb HB.out.size
      have HTX := Lib.hid (text_any s 20 20 wr rfl (by decide) hsm)
      have hw8 : IntKind.u8.wrap (i : Int) = i := IntWalk.u8_in _ (by omega)
      clear hs hsm
      go_wp2_with fail
      (with_reducible refine HTX.out.mono ?_); rintro e w2 ⟨s', rfl, hs', rfl⟩
      clear HTX
      have HKK := Lib.hid HC.out.key
      have HI8 := Lib.hid (show ∀ x ∈ [i], x < 256 from fun x hx => by simp at hx; omega)
      obtain ⟨k', hk'⟩ : ∃ k', deriveB k (sB s') [[i]] = k' := ⟨_, rfl⟩
      obtain ⟨D, hD⟩ : ∃ D, macB k' [120] = D := ⟨_, rfl⟩
      have HK' := Lib.hid hk'
      have HD := Lib.hid hD
      obtain ⟨W5, hW5⟩ : ∃ W, W = (wr.alloc (.cells (b8 [i]) 5 (0, 0))).alloc (.cells #[.slice (some ⟨wr.heap.size, 0, none⟩) 1 1] 53) := ⟨_, rfl⟩
      have HW5 := Lib.hid hW5
      obtain ⟨hP5, hB5⟩ := part_const wr [i] HI8.out (0, 0) W5 hW5
      have HB5 := Lib.hid (below_then HB.out hB5 (Nat.le_refl _))
      have HK5 := Lib.hid (HK.out.next hB5 rfl)
      have HDV := Lib.hid (ch_derive g i k (i : Int) ((i : Int) + 1) s' [[i]] (some ⟨wr.heap.size + 1, 0, none⟩) 1 1 W5 (HT.out.old HB5.out) (HC.out.old hB5) h7 rfl (by omega) (by omega) rfl (by decide) hP5 (by simp))
      rw [HK'.out] at HDV
      clear hk' hD hW5 hP5 hB5 HC HK
      go_wp2_with fail
      change Calls _ _ _ ((wr.alloc (.cells (b8 [i]) 5 (0, 0))).alloc (.cells #[.slice (some ⟨wr.heap.size, 0, none⟩) 1 1] 53)) _
      rw [← HW5.out]
      (with_reducible refine HDV.out.mono ?_); rintro e w6 ⟨rfl, hC6, hF6⟩
      have HC6 := Lib.hid hC6
      have HK6 := Lib.hid (HK5.out.frm hF6 (by simp; omega))
      have HB6 := Lib.hid (HB5.out.trans (Frm.below hF6 HB5.out.size (fun x hx => by simp at hx; omega)))
      clear HDV HW5 hC6 hF6 HB5 HK5 HB
      obtain ⟨W7, hW7⟩ : ∃ W, W = (w6.alloc (.cells (b8 [i]) 5 (0, 0))).alloc (.cells #[.slice (some ⟨w6.heap.size, 0, none⟩) 1 1] 53) := ⟨_, rfl⟩
      have HW7 := Lib.hid hW7
      obtain ⟨hP7, hB7⟩ := part_const w6 [i] HI8.out (0, 0) W7 hW7
      have HB7 := Lib.hid (below_then HB6.out hB7 (Nat.le_refl _))
      have HK7 := Lib.hid (HK6.out.next hB7 rfl)
      have HC7 := Lib.hid (HC6.out.old hB7)
      have HDR := Lib.hid (r2derive_any k (some ⟨gK, 0, none⟩) 32 32 s' [[i]] (some ⟨w6.heap.size + 1, 0, none⟩) 1 1 W7 HKK.out.1 (by decide) (nats_b8 HK7.out HKK.out.2) (by omega) rfl (by decide) hP7 (by simp))
      rw [HK'.out] at HDR
      clear hW7 hP7 hB7 HC6 HK6 HB6
      have hsl := fun b => run_slice_arr_all (P := Tryd.prog) 23 5 32 Tryd.underlying23 (fun _ => by kernel_rfl) b 0 (by decide)
      go_wp2_with fail
      change Calls _ _ _ ((w6.alloc (.cells (b8 [i]) 5 (0, 0))).alloc (.cells #[.slice (some ⟨w6.heap.size, 0, none⟩) 1 1] 53)) _
      rw [← HW7.out]
      (with_reducible refine HDR.out.mono ?_); rintro e w8 ⟨rfl, hB8⟩
      have HC8 := Lib.hid (HC7.out.old hB8)
      have HK8 := Lib.hid (HK7.out.next hB8 rfl)
      have HB8 := Lib.hid (below_then HB7.out hB8 (Nat.le_refl _))
      have HKK' := Lib.hid HC8.out.key
      clear HDR HW7 hB8 HC7 HK7 HB7
      go_upto_region 14 with (refine wpList_set_row rfl 23 (.tmp 6) (.tmp 47) rfl gK (b8 k') rfl rfl 23 (b8 k) HK8.out (HSK.out k' HKK'.out.1) (by rw [b8_size, b8_size, HKK.out.1, HKK'.out.1]) (b8_one _) ?_; intro w9 HK9 F9)
      have HC9 := Lib.hid (HC8.out.frm F9.out (by simp; omega))
      have HB9 := Lib.hid (HB8.out.trans (Frm.below F9.out HB8.out.size (fun x hx => by simp at hx; omega)))
      clear HC8 HK8 HB8 F9
      obtain ⟨W10, hW10⟩ : ∃ W, W = (w9.alloc (.cells (b8 [120]) 5 (1, 2))).alloc (.cells #[.slice (some ⟨w9.heap.size, 0, none⟩) 1 1] 53) := ⟨_, rfl⟩
      have HW10 := Lib.hid hW10
      obtain ⟨hP10, hB10⟩ := part_const w9 [120] (by decide) (1, 2) W10 hW10
      have HB10 := Lib.hid (below_then HB9.out hB10 (Nat.le_refl _))
      have HK10 := Lib.hid (HK9.out.next hB10 rfl)
      have HC10 := Lib.hid (HC9.out.old hB10)
      have HM := Lib.hid (ch_mac g (i + 1) k' ((i : Int) + 1) [[120]] (some ⟨w9.heap.size + 1, 0, none⟩) 1 1 W10 (HT.out.old HB10.out) HC10.out (by omega) rfl (by decide) hP10 (by decide))
      rw [show [[120]].flatten = [120] from rfl, HD.out] at HM
      clear hW10 hP10 hB10 HC9 HK9 HB9
      have kc := fun (w : World) (C : Array Value) (n c : Nat) => Lib.run_convert_bytes_const (P := Tryd.prog) w 53 5 C n c Tryd.underlying53 Tryd.underlying5
      go_wp2_with fail
      change Calls _ _ _ ((w9.alloc (.cells (b8 [120]) 5 (1, 2))).alloc (.cells #[.slice (some ⟨w9.heap.size, 0, none⟩) 1 1] 53)) _
      rw [← HW10.out]
      (with_reducible refine HM.out.mono ?_); rintro e w11 ⟨rfl, hB11⟩
      have HC11 := Lib.hid (HC10.out.old hB11)
      have HK11 := Lib.hid (HK10.out.next hB11 rfl)
      have HB11 := Lib.hid (below_then HB10.out hB11 (Nat.le_refl _))
      have HDL := Lib.hid (show D.length = 32 by rw [← HD.out]; exact macB_length _ _)
      clear kc HM HW10 hB11 HC10 HK10 HB10
      go_upto_region 15 with (refine wpList_new_row rfl 23 (.tmp 9) (.tmp 56) rfl w11.heap.size (b8 D) rfl rfl 23 (b8 (List.replicate 32 0)) (Blk.new _ _ _) (HSK.out D HDL.out) (HZK.out D HDL.out) (b8_one _) w11.heap.size w11 ((Below.refl _ w11).alloc (Nat.le_refl _) _) (Nat.le_refl _) ?_; intro w12 KD12 B12)
      have HC12 := Lib.hid (HC11.out.old B12.out)
      have HK12 := Lib.hid (HK11.out.next B12.out rfl)
      have HB12 := Lib.hid (below_then HB11.out B12.out (Nat.le_refl _))
      clear B12 HC11 HK11 HB11
      generalize w11.heap.size = gD at *
      have heq := fun W => eq_arr W 32 23 D D HDL.out HDL.out Tryd.underlying23
      simp only [decide_true] at heq
      refine Rel.wp_region_rel 17 [(63, .any (Rel.Lit8 w12.drew.heap.size 5 [.int .u8 120]) Rel.Lit8.soft), (64, .any (Rel.Lit8 w12.drew.heap.size 5 [.int .u8 120]) Rel.Lit8.soft), (65, .const (.agg (b8 D))), (72, .const (.int .i64 2))] (by kernel_rfl) (by kernel_rfl) ?_
      simp only [List.take_succ_cons, List.take_zero, List.drop_succ_cons, List.drop_zero, Act.put, List.setIfInBounds_toArray, List.set_cons_zero, List.set_cons_succ]
      repeat (refine Rel.tree_quiet rfl rfl rfl (fun K hK => ?_); go_big_quiet_op; refine hK _ ?_; clear hK K)
      refine Rel.tree_pure rfl rfl rfl (.agg (b8 D)) (fun W hW _ => Rel.exec_load _ _ rfl gD 0 rfl _ _ (Blk.range (hW.blk KD12.out.drew)) Tryd.underlying23 rfl (HSK.out D HDL.out)) ?_
      simp only [Act.put, List.setIfInBounds_toArray, List.set_cons_zero, List.set_cons_succ]
      (refine Rel.tree_quiet rfl rfl rfl (fun K hK => ?_); go_big_quiet_op; refine hK _ ?_; clear hK K)
      refine Rel.tree_rel rfl (Rel.Lit8 w12.drew.heap.size 5 [.int .u8 120]) Rel.Lit8.soft rfl (fun W hW _ => ?_) (fun v63 => ?_)
      · unfold Rel.relAt
        go_simp
        exact ⟨Rel.Grow.alloc _ _, Rel.lit8_new [.int .u8 120] hW.size⟩
      simp only [Act.put, List.setIfInBounds_toArray, List.set_cons_zero, List.set_cons_succ]
      refine Rel.tree_step rfl (Rel.Lit8 w12.drew.heap.size 5 [.int .u8 120]) Rel.Lit8.soft rfl (fun W hW hF => Rel.stepAt_const rfl Tryd.underlying53 Tryd.underlying5 v63 rfl (hF 63 (by decide))) (fun v64 => ?_)
      simp only [Act.put, List.setIfInBounds_toArray, List.set_cons_zero, List.set_cons_succ]
      refine Rel.tree_const rfl (.agg (b8 D)) rfl (fun W hW hF => ?_) ?_
      · have h64 := hF 64 (by decide)
        obtain ⟨g7, rfl, hp7⟩ := bytesN_lit8 [120] (by decide) h64
        have hKn := nats_b8 (hW.blk HK12.out.drew) HKK'.out.2
        have hSm := r2sum_any k' [120] (some ⟨gK, 0, none⟩) 32 32 (some ⟨g7, 0, none⟩) 1 1 W HKK'.out.1 (by decide) hKn hp7 (by decide)
        rw [HD.out] at hSm
        clear hF h64
        unfold Rel.relAt; go_simp; show Calls _ _ _ _ _
        exact const_call hSm
      simp only [Act.put, List.setIfInBounds_toArray, List.set_cons_zero, List.set_cons_succ]
      repeat (refine Rel.tree_quiet rfl rfl rfl (fun K hK => ?_); go_big_quiet_op; refine hK _ ?_; clear hK K)
      refine Rel.tree_const rfl (.int .i64 2) rfl (fun W hW hF => ?_) ?_
      · have hKd := ch_kind g (i + 1) k' ((i : Int) + 1) W (HC12.out.old hW.undrew) (by omega) (by omega)
        clear hF
        unfold Rel.relAt; go_simp; show Calls _ _ _ _ _
        exact const_call hKd
      simp only [Act.put, List.setIfInBounds_toArray, List.set_cons_zero, List.set_cons_succ]
      repeat (refine Rel.tree_quiet rfl rfl rfl (fun K hK => ?_); go_big_quiet_op; refine hK _ ?_; clear hK K)
      intro W hW _
      have HB13 := Lib.hid (below_then HB12.out hW.undrew (Nat.le_refl _))
      have HC13 := Lib.hid (HC12.out.old hW.undrew)
      have HK13 := Lib.hid (HK12.out.next hW.undrew rfl)
      clear hW HB12 HC12 HK12 heq KD12
      go_wp2_with fail
      go_light
      go_roundg (n - (i + 1))
      case measure => have := HG.out; omega
      case rel => exact ⟨i + 1, k', by omega, by omega, by go_num, HC13, HK13, HB13⟩
    · have hex : (i = n ∧ n ≤ 1) ∨ (i = n ∧ 2 ≤ n ∧ n ≤ 7) ∨ (i = 7 ∧ 7 < n) := by omega
      have HCT := Lib.hid (ch_count g i k wr HC.out)
      clear hx
      rcases hex with ⟨h1, h2⟩ | ⟨h1, h2, h3⟩ | ⟨h1, h2⟩
      · obtain rfl := h1
        have hw7 : (i : Int) ≤ 7 := by omega
        have hw1 : (i : Int) ≤ 1 := by omega
        have HWP := fun w W (hC : Chm w g i k) hW => ch_wipe g i k (i : Int) (1 + (i : Int)) w W hC rfl (by omega) hW
        clear HK HG hin hi7 HDI HSK HZK HKL HKB HZ HT
        go_wp2_with fail
        (with_reducible refine HCT.out.mono ?_); rintro e w2 ⟨rfl, hB2⟩
        have hC2 := HC.out.old hB2
        have HB2 := Lib.hid (below_then HB.out hB2 (Nat.le_refl _))
        have HWQ := Lib.hid (HWP w2 _ hC2 rfl)
        have HB3 := Lib.hid (HB2.out.alloc HB2.out.size (.cells #[.int .i64 0, .int .i64 0, .int .i64 (i : Int)] 3))
        clear HWP hC2 hB2 HC HB
        go_wp2_with fail
        (with_reducible refine HWQ.out.mono ?_); rintro e w3 ⟨rfl, hS3, hF3⟩
        have HB4 := Lib.hid (HB3.out.trans (Frm.below hF3 HB3.out.size (fun x hx => by simp at hx; omega)))
        have HWR := Lib.hid (ch_wipe0 g w3 _ hS3 rfl)
        have HB5 := Lib.hid (HB4.out.alloc HB4.out.size (.cells #[.int .i64 (-1), .int .i64 9] 3))
        clear HWQ hF3 hS3 HB2 HB3 HB4
        go_wp2_with fail
        (with_reducible refine HWR.out.mono ?_); rintro e w5 ⟨rfl, _, hF5⟩
        have HB6 := Lib.hid (HB5.out.trans (Frm.below hF5 HB5.out.size (fun x hx => by simp at hx; omega)))
        clear hF5 HWR HB5
        go_wp2_with fail
        go_light
        go_ret
        exact ⟨rfl, HB6.out⟩
      · obtain rfl := h1
        have hw7 : (i : Int) ≤ 7 := by omega
        have hw1 : ¬ (i : Int) ≤ 1 := by omega
        have HWP := fun w W (hC : Chm w g i k) hW => ch_wipe g i k (i : Int) 2 w W hC rfl (by omega) hW
        clear HK HG hin hi7 HDI HSK HZK HKL HKB HZ HT
        go_wp2_with fail
        (with_reducible refine HCT.out.mono ?_); rintro e w2 ⟨rfl, hB2⟩
        have hC2 := HC.out.old hB2
        have HB2 := Lib.hid (below_then HB.out hB2 (Nat.le_refl _))
        have HWQ := Lib.hid (HWP w2 _ hC2 rfl)
        have HB3 := Lib.hid (HB2.out.alloc HB2.out.size (.cells #[.int .i64 0, .int .i64 0, .int .i64 (i : Int)] 3))
        clear HWP hC2 hB2 HC HB
        go_wp2_with fail
        (with_reducible refine HWQ.out.mono ?_); rintro e w3 ⟨rfl, hS3, hF3⟩
        have HB4 := Lib.hid (HB3.out.trans (Frm.below hF3 HB3.out.size (fun x hx => by simp at hx; omega)))
        have HWR := Lib.hid (ch_wipe0 g w3 _ hS3 rfl)
        have HB5 := Lib.hid (HB4.out.alloc HB4.out.size (.cells #[.int .i64 (-1), .int .i64 9] 3))
        clear HWQ hF3 hS3 HB2 HB3 HB4
        go_wp2_with fail
        (with_reducible refine HWR.out.mono ?_); rintro e w5 ⟨rfl, _, hF5⟩
        have HB6 := Lib.hid (HB5.out.trans (Frm.below hF5 HB5.out.size (fun x hx => by simp at hx; omega)))
        clear hF5 HWR HB5
        go_wp2_with fail
        go_light
        go_ret
        exact ⟨rfl, HB6.out⟩
      · subst h1
        have hw7 : ¬ (n : Int) ≤ 7 := by omega
        obtain ⟨s, hs⟩ : ∃ s, ss[7]? = some s := ⟨_, List.getElem?_eq_getElem (by omega)⟩
        obtain ⟨hsm, b, off, rfl, hb, hcx⟩ := (HZ.out.below HB.out) 7 s hs
        have hb' : b < wr.heap.size := Nat.lt_of_lt_of_le hb HB.out.size
        clear hs hsm
        have HWP := fun w W (hC : Chm w g 7 k) hW => ch_wipe g 7 k 7 2 w W hC rfl (by omega) hW
        clear HK HG hin hi7 HDI HSK HZK HKL HKB HZ HT
        go_wp2_with fail
        (with_reducible refine HCT.out.mono ?_); rintro e w2 ⟨rfl, hB2⟩
        have hC2 := HC.out.old hB2
        have HB2 := Lib.hid (below_then HB.out hB2 (Nat.le_refl _))
        have HWQ := Lib.hid (HWP w2 _ hC2 rfl)
        have HB3 := Lib.hid (HB2.out.alloc HB2.out.size (.cells #[.int .i64 0, .int .i64 0, .int .i64 7] 3))
        clear HWP hC2 hB2 HC HB
        go_wp2_with fail
        (with_reducible refine HWQ.out.mono ?_); rintro e w3 ⟨rfl, hS3, hF3⟩
        have HB4 := Lib.hid (HB3.out.trans (Frm.below hF3 HB3.out.size (fun x hx => by simp at hx; omega)))
        have HWR := Lib.hid (ch_wipe0 g w3 _ hS3 rfl)
        have HB5 := Lib.hid (HB4.out.alloc HB4.out.size (.cells #[.int .i64 (-1), .int .i64 9] 3))
        clear HWQ hF3 hS3 HB2 HB3 HB4
        go_wp2_with fail
        (with_reducible refine HWR.out.mono ?_); rintro e w5 ⟨rfl, _, hF5⟩
        have HB6 := Lib.hid (HB5.out.trans (Frm.below hF5 HB5.out.size (fun x hx => by simp at hx; omega)))
        clear hF5 HWR HB5
        go_wp2_with fail
        go_light
        go_ret
        exact ⟨rfl, HB6.out⟩
end Slot
end Go.Proofs.YtpakdcgcgekcfaaDoor

/-
  What a row's list gives: the tables of package sha in their variables.
-/
namespace Go.Proofs.YtpakdcgcgekcfaaDoor
open Go.RowKit

theorem tabIs_of_vars {P : Program} {W : World} {name : String} {k : IntKind} {zs : List Int} {g : Nat} {t e : TypeId} {n : Nat}
    (hg : P.globalNamed name = some g) (hty : (P.globals[g]?).map (·.type) = some t) (ht : P.underlying t = some (.array n e)) (he : P.underlying e = some (.int k)) (hce : P.cellsOf e = 1) (hct : P.cellsOf t = n) :
    ∀ (laid : List (String × DataW Unit)) (ps : List MemPlace), DataW.LaidVars P W laid ps → (name, Lib.tabData k zs) ∈ laid → Lib.TabIs P W name k zs
  | [], _, _, hm => by cases hm
  | x :: rest, ps, h, hm => by
    obtain ⟨g', t', cs, fuel, p, q, hg', ht', hvar, hd, hr, _⟩ := h
    rcases List.mem_cons.1 hm with rfl | hm
    · obtain rfl := Option.some.inj (hg.symm.trans hg')
      obtain rfl := Option.some.inj (hty.symm.trans ht')
      unfold Lib.TabIs
      rw [hvar, ← Lib.cells_of_tab ht he hce hct hd]
    · exact tabIs_of_vars hg hty ht he hce hct rest q hr hm
namespace Sha
open Otp R1
theorem gFirst : Tryd.prog.globalNamed "curtilage/sha.first" = some 2 := by kernel_rfl
theorem gFirstType : (Tryd.prog.globals[2]?).map (·.type) = some 118 := by kernel_rfl
theorem gFirstCells : Tryd.prog.cellsOf 118 = 8 := by kernel_rfl
theorem gRounds : Tryd.prog.globalNamed "curtilage/sha.rounds" = some 3 := by kernel_rfl
theorem gRoundsType : (Tryd.prog.globals[3]?).map (·.type) = some 44 := by kernel_rfl
theorem gRoundsCells : Tryd.prog.cellsOf 44 = 64 := by kernel_rfl
theorem u32Cells : Tryd.prog.cellsOf 43 = 1 := by kernel_rfl
def zI (l : List Nat) : List Int := l.map fun x => ((x : Nat) : Int)
theorem range_of {W : World} {name : String} {l : List Nat} {g : Nat} (h : Lib.TabIs Tryd.prog W name .u32 (zI l)) (hg : Tryd.prog.globalNamed name = some g) : W.rangeAt g 0 (c32 l).toList := fun j v hv => by
  have hv' : (l.map fun x => Value.int .u32 ((x : Nat) : Int))[j]? = some v := by simpa [c32] using hv
  rw [List.getElem?_map] at hv'
  cases hx : l[j]? with
  | none => rw [hx] at hv'; cases hv'
  | some x =>
    rw [hx] at hv'
    obtain rfl := Option.some.inj hv'
    have hj := (List.getElem?_eq_some_iff.1 hx).1
    have := h.cell hg j (by simpa [zI] using hj)
    rw [Nat.zero_add, this]
    simp [zI, List.getD, hx]
theorem stab_of {W : World} {laid : List (String × DataW Unit)} (h : laidMet Tryd.prog laid W) (h1 : ("curtilage/sha.first", Lib.tabData .u32 (zI rH)) ∈ laid) (h2 : ("curtilage/sha.rounds", Lib.tabData .u32 (zI rK)) ∈ laid) : STab W := by
  obtain ⟨ps, hv, _⟩ := h
  exact ⟨range_of (tabIs_of_vars gRounds gRoundsType Tryd.underlying44 Tryd.underlying43 u32Cells gRoundsCells _ _ hv h2) gRounds, range_of (tabIs_of_vars gFirst gFirstType Tryd.underlying118 Tryd.underlying43 u32Cells gFirstCells _ _ hv h1) gFirst⟩
def errLarge : DataW Unit := .iface "*errors.errorString" (.ptr (.agg [.lit (.string [98, 121, 116, 101, 115, 46, 66, 117, 102, 102, 101, 114, 58, 32, 116, 111, 111, 32, 108, 97, 114, 103, 101])]))
theorem stab2 {W : World} (h : laidMetH Tryd.prog [("curtilage/sha.first", Lib.tabData .u32 (zI rH)), ("curtilage/sha.rounds", Lib.tabData .u32 (zI rK))] W) : STab W :=
  stab_of (laid := [("curtilage/sha.first", Lib.tabData .u32 (zI rH)), ("curtilage/sha.rounds", Lib.tabData .u32 (zI rK))]) h (by simp) (by simp)
theorem stab3 {W : World} (h : laidMetH Tryd.prog [("bytes.ErrTooLarge", errLarge), ("curtilage/sha.first", Lib.tabData .u32 (zI rH)), ("curtilage/sha.rounds", Lib.tabData .u32 (zI rK))] W) : STab W :=
  stab_of (laid := [("bytes.ErrTooLarge", errLarge), ("curtilage/sha.first", Lib.tabData .u32 (zI rH)), ("curtilage/sha.rounds", Lib.tabData .u32 (zI rK))]) h (by simp) (by simp)
end Sha
end Go.Proofs.YtpakdcgcgekcfaaDoor

/-
  SlotChains, its arguments as the law's frame gives them.
-/
namespace Go.Proofs.YtpakdcgcgekcfaaDoor
open Go.RowKit

namespace Slot
open Otp R1 Sha Mac
theorem u8_ints (zs : List Int) (h : ∀ z ∈ zs, (Lit.int .u8 z).wf = true) : (zs.map (Value.int .u8)).toArray = b8 (zs.map Int.toNat) ∧ ∀ x ∈ zs.map Int.toNat, x < 256 := by
  refine ⟨?_, fun x hx => ?_⟩
  · unfold b8
    rw [List.map_map]
    congr 1
    exact List.map_congr_left fun z hz => by
      have := bounds_u8 (h z hz)
      simp only [Function.comp_apply, Int.toNat_of_nonneg this.1]
  · obtain ⟨z, hz, rfl⟩ := List.mem_map.1 hx
    have := bounds_u8 (h z hz)
    omega
theorem chains_frame (zs : List Int) (A : Option Addr) (n c : Nat) (ss : List ByteArray) (w : World) (hT : STab w) (hkl : zs.length = 32) (hkb : ∀ z ∈ zs, (Lit.int .u8 z).wf = true) (hss : ss.length = n) (hnm : n ≤ maxLen) (hz : Strs w w.heap.size A ss) :
    Calls Tryd.prog 6 #[.agg (zs.map (Value.int .u8)).toArray, .slice A n c] w (TrueBelow w) := by
  obtain ⟨h1, h2⟩ := u8_ints zs hkb
  rw [h1]
  exact chains_any _ A n c ss w hT (by rw [List.length_map]; exact hkl) h2 hss hnm hz
end Slot
end Go.Proofs.YtpakdcgcgekcfaaDoor

/-
  SlotNil: nil slots.
-/
namespace Go.Proofs.YtpakdcgcgekcfaaDoor
open Go.RowKit

namespace Slot
open Otp R1 Sha Mac
theorem nats_byte {w : World} {B : Nat} {A : Option Addr} {l : List Nat} (h : Nats .u8 256 w B A l) : ∀ x ∈ l, x < 256 := fun x hx => by
  obtain ⟨i, hi⟩ := List.mem_iff_getElem?.1 hx
  exact (h i x hi).1
def CiOut (w : World) (E : Int) (e : Ending) (w' : World) : Prop := e = .returned (.tuple #[.slice none 0 0, .int .i64 E]) ∧ Below w.heap.size w w'
set_option maxRecDepth 100000 in
set_option maxHeartbeats 1000000 in
theorem cipher_nil (h kind : Int) (b : Bool) (st : Array Value) (PA : Option Addr) (pn pc : Nat) (w : World) : Calls Tryd.prog 48 #[.pointer none, .int .i64 h, .int .i64 kind, .bool b, .agg st, .slice PA pn pc] w (CiOut w 3) := by
  have HB := Lib.hid ((Below.refl _ w).alloc (Nat.le_refl _) (.cells st 90))
  go_enter Tryd.func48, Tryd.ntmps48
  go_wp2_with fail
  (with_reducible refine (key_nil _ _).mono ?_); rintro e w2 ⟨A, n, c, rfl, _, hB⟩
  have HB2 := Lib.hid (below_then HB.out hB (Nat.le_refl _))
  clear hB HB
  go_wp2_with fail
  go_light
  go_ret2
  exact ⟨rfl, HB2.out⟩
theorem count_nil (w : World) : Calls Tryd.prog 42 #[.pointer none] w (IntBelow w 0) :=
  count_of (.pointer none) (fun _ => 0) w (fun i W _ _ => kind_nil _ _) (fun _ => 0) rfl (fun _ => rfl) (fun _ => Nat.zero_le _)
theorem wipe_nil1 (h : Int) (w W : World) (hh : wfI h) (hW : W = w.alloc (.cells #[.int .i64 h] 3)) : Calls Tryd.prog 43 #[.pointer none, .slice (some ⟨w.heap.size, 0, none⟩) 1 1] W (IntBelow W 0) := by
  subst hW
  exact swipe_nil _ [h] 1 1 _ rfl (by decide) (ints_one w h hh)
set_option maxRecDepth 100000 in
set_option maxHeartbeats 4000000 in
theorem nil_any (h kind : Int) (key : List Nat) (A : Option Addr) (n c : Nat) (p : List Nat) (w : World) (hT : STab w) (hh : wfI h) (hkl : key.length = 32) (hpn : p.length = n) (hnm : n ≤ maxLen) (hz : Nats .u8 256 w w.heap.size A p) :
    Calls Tryd.prog 8 #[.int .i64 h, .int .i64 kind, .agg (b8 key), .slice A n c] w (TrueBelow w) := by
  have HT := Lib.hid hT
  have HZ := Lib.hid hz
  have HSK := Lib.hid (show (Tryd.prog.info? 23).map (·.size) = some (b8 key).size by rw [b8_size, hkl]; exact dig_info)
  have HSZ := Lib.hid (show (Tryd.prog.info? 23).map (·.size) = some (b8 (List.replicate 32 0)).size by rw [b8_size]; exact dig_info)
  obtain ⟨w1, hw1⟩ : ∃ W, W = w.alloc (.cells (b8 key) 23) := ⟨_, rfl⟩
  have HW1 := Lib.hid hw1
  have HB1 := Lib.hid (show Below w.heap.size w w1 by rw [hw1]; exact (Below.refl _ w).alloc (Nat.le_refl _) _)
  have HK1 := Lib.hid (show Blk w1 w.heap.size 23 (b8 key) by rw [hw1]; exact Blk.new _ _ _)
  have HP := Lib.hid hpn
  have HNM := Lib.hid hnm
  have HH := Lib.hid hh
  have HTL := Lib.hid (show (p.take 20).length ≤ 20 by rw [List.length_take]; omega)
  clear hT hz hw1 hkl hpn hnm hh
  go_enter Tryd.func8, Tryd.ntmps8
  go_upto_region 1 with fail
  change Code.wp _ _ _ _ (w.alloc (.cells (b8 key) 23))
  rw [← HW1.out]
  clear HW1
  go_wp2_with fail
  (with_reducible refine (awake_any _ (HT.out.old HB1.out)).mono ?_); rintro e w2 ⟨rfl, hB2⟩
  have HK2 := Lib.hid (HK1.out.next hB2 rfl)
  have HB2 := Lib.hid (below_then HB1.out hB2 (Nat.le_refl _))
  clear hB2 HK1 HB1
  go_wp2_with fail
  (with_reducible refine (cut_any A n c p 20 20 w2 HP.out HNM.out rfl (by decide) ((HZ.out.below HB2.out).more HB2.out.size)).mono ?_); rintro e w3 ⟨v3, rfl, hO3, hB3⟩
  obtain ⟨A3, n3, c3, rfl, hN3⟩ := (own_bytesN hO3 (fun x hx => (nats_byte HZ.out) x (List.mem_of_mem_take hx))).form
  obtain ⟨w4, hw4⟩ : ∃ W, W = w3.alloc (.cells #[.slice A3 n3 c3] 53) := ⟨_, rfl⟩
  have HW4 := Lib.hid hw4
  have HB3 := Lib.hid (below_then HB2.out hB3 (Nat.le_refl _))
  have HK3 := Lib.hid (HK2.out.next hB3 rfl)
  have HB4 := Lib.hid (show Below w.heap.size w w4 by rw [hw4]; exact HB3.out.alloc HB3.out.size _)
  have HK4 := Lib.hid (show Blk w4 w.heap.size 23 (b8 key) by rw [hw4]; exact HK3.out.alloc _)
  have HP4 := Lib.hid (show Parts w4 w4.heap.size (some ⟨w3.heap.size, 0, none⟩) [p.take 20] by
    rw [hw4]
    exact parts_new w3 [.slice A3 n3 c3] [p.take 20] rfl (fun i q v hq hv => by
      have hi : i = 0 := by have := (List.getElem?_eq_some_iff.1 hq).1; simpa using this
      subst hi
      simp only [List.getElem?_cons_zero, Option.some.injEq] at hq hv
      subst hq hv
      exact hN3))
  have HM := Lib.hid (smac_nil h [p.take 20] (some ⟨w3.heap.size, 0, none⟩) 1 1 w4 (HT.out.old HB4.out) rfl (by decide) HP4.out (by have := HTL.out; simp only [List.flatten_cons, List.flatten_nil, List.append_nil]; omega))
  clear hw4 hN3 hO3 hB3 HK2 HB2 HB3 HK3 HP4
  go_wp2_with fail
  change Calls _ _ _ (w3.alloc (.cells #[.slice A3 n3 c3] 53)) _
  rw [← HW4.out]
  (with_reducible refine HM.out.mono ?_); rintro e w5 ⟨rfl, hB5⟩
  have HK5 := Lib.hid (HK4.out.next hB5 rfl)
  have HB5 := Lib.hid (below_then HB4.out hB5 (Nat.le_refl _))
  clear HM HW4 hB5 HK4 HB4
  go_upto_region 5 with (refine wpList_new_row rfl 23 (.tmp 10) (.tmp 23) rfl w5.heap.size (b8 (List.replicate 32 0)) rfl rfl 23 (b8 (List.replicate 32 0)) (Blk.new _ _ _) HSZ.out rfl (b8_one _) w5.heap.size w5 ((Below.refl _ w5).alloc (Nat.le_refl _) _) (Nat.le_refl _) ?_; intro w6 K6 B6)
  have HK6 := Lib.hid (HK5.out.next B6.out rfl)
  have HB6 := Lib.hid (below_then HB5.out B6.out (Nat.le_refl _))
  clear B6 HK5 HB5 K6
  go_wp2_with fail
  (with_reducible refine (cut_any A n c p 20 20 w6 HP.out HNM.out rfl (by decide) ((HZ.out.below HB6.out).more HB6.out.size)).mono ?_); rintro e w7 ⟨v7, rfl, hO7, hB7⟩
  obtain ⟨A7, n7, c7, rfl, hN7⟩ := (own_bytesN hO7 (fun x hx => (nats_byte HZ.out) x (List.mem_of_mem_take hx))).form
  have HK7 := Lib.hid (HK6.out.next hB7 rfl)
  have HB7 := Lib.hid (below_then HB6.out hB7 (Nat.le_refl _))
  clear hO7 hB7 hN7 HK6 HB6
  go_wp2_with fail
  (with_reducible refine (cipher_nil _ _ _ _ _ _ _ _).mono ?_); rintro e w8 ⟨rfl, hB8⟩
  have HK8 := Lib.hid (HK7.out.next hB8 rfl)
  have HB8 := Lib.hid (below_then HB7.out hB8 (Nat.le_refl _))
  clear hB8 HK7 HB7
  go_wp2_with fail
  (with_reducible refine (lock_nil _).mono ?_); rintro e w9 ⟨rfl, rfl⟩
  go_wp2_with fail
  (with_reducible refine (kill_nil _).mono ?_); rintro e w9 ⟨rfl, rfl⟩
  go_wp2_with (refine wpList_load_row rfl 23 _ rfl w.heap.size rfl 23 (b8 key) (0, 0) _ HK8.out Tryd.underlying23 rfl HSK.out ?_)
  (with_reducible refine (lay_nil _ _ _ _).mono ?_); rintro e w10 ⟨rfl, hB10⟩
  have HB10 := Lib.hid (below_then HB8.out hB10 (Nat.le_refl _))
  clear hB10 HK8 HB8
  go_wp2_with fail
  (with_reducible refine (sderive_nil _ _ _ _ _ _ _).mono ?_); rintro e w11 ⟨rfl, hB11⟩
  have HB11 := Lib.hid (below_then HB10.out hB11 (Nat.le_refl _))
  clear hB11 HB10
  go_wp2_with fail
  (with_reducible refine (kind_nil _ _).mono ?_); rintro e w12 ⟨rfl, hB12⟩
  have HB12 := Lib.hid (below_then HB11.out hB12 (Nat.le_refl _))
  clear hB12 HB11
  go_wp2_with fail
  (with_reducible refine (count_nil _).mono ?_); rintro e w13 ⟨rfl, hB13⟩
  have HB13 := Lib.hid (below_then HB12.out hB13 (Nat.le_refl _))
  have HWN := Lib.hid (wipe_nil1 h w13 _ HH.out rfl)
  have HB14 := Lib.hid (HB13.out.alloc HB13.out.size (.cells #[.int .i64 h] 3))
  clear hB13 HB12
  go_wp2_with fail
  (with_reducible refine HWN.out.mono ?_); rintro e w15 ⟨rfl, hB15⟩
  have HB15 := Lib.hid (below_then HB14.out hB15 (Nat.le_refl _))
  clear hB15 HWN HB14 HB13
  go_wp2_with fail
  (with_reducible refine (locked_nil _).mono ?_); rintro e w16 ⟨rfl, rfl⟩
  go_wp2_with fail
  (with_reducible refine (dead_nil _).mono ?_); rintro e w16 ⟨rfl, rfl⟩
  go_wp2_with fail
  go_light
  go_ret
  exact ⟨rfl, HB15.out⟩
theorem nil_frame (h kind : Int) (zs : List Int) (A : Option Addr) (n c : Nat) (p : List Nat) (w : World) (hT : STab w) (hh : (Lit.int .i64 h).wf = true) (hkl : zs.length = 32) (hkb : ∀ z ∈ zs, (Lit.int .u8 z).wf = true) (hpn : p.length = n) (hnm : n ≤ maxLen) (hz : Nats .u8 256 w w.heap.size A p) :
    Calls Tryd.prog 8 #[.int .i64 h, .int .i64 kind, .agg (zs.map (Value.int .u8)).toArray, .slice A n c] w (TrueBelow w) := by
  obtain ⟨h1, h2⟩ := u8_ints zs hkb
  rw [h1]
  exact nil_any h kind _ A n c p w hT hh (by rw [List.length_map]; exact hkl) hpn hnm hz
end Slot
end Go.Proofs.YtpakdcgcgekcfaaDoor
