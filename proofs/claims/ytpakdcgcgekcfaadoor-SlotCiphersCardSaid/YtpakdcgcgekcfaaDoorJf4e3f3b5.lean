/-
  Texts of this claim, joined: ModeE, ModeF, ModeZ, SlotB, SlotC, ShaDig, ShaFin, MacA, MacB, MacC, MacD, MacE, SlotD.
-/
import Derived.Test.YtpakdcgcgekcfaaDoorJa4691eff
import Derived.Lib.BufferOld
import Derived.Test.YtpakdcgcgekcfaaDoorJabb273fb
import Derived.Test.YtpakdcgcgekcfaaDoorJb4bf508a
import Derived.Test.YtpakdcgcgekcfaaDoorProg
import Derived.Test.YtpakdcgcgekcfaaDoorJ2beedb38
import Derived.Test.YtpakdcgcgekcfaaDoorJ5e18a789
import Derived.Deep.LoopGhost
import Derived.Laws.Rows
import Derived.Laws.CopyOwn
import Derived.Laws.ResultCell
import Derived.Test.YtpakdcgcgekcfaaDoorJ536cb98c
import Derived.Laws.BitsAllLaws
import Derived.IntWalk
set_option linter.unusedVariables false
/-
  Package mode: Run.
-/
set_option linter.unusedSimpArgs false
set_option linter.unusedVariables false
namespace Go.Proofs.YtpakdcgcgekcfaaDoor
open Go.RowKit

namespace Aes
open Otp R1 Fuse Sha
def blkAt (p : List Nat) (i : Nat) : List Nat := (p.drop (16 * i)).take 16
def runM (m : Md) (p : List Nat) : Nat → Md × List Nat
  | 0 => (m, [])
  | i + 1 => ((stepM (runM m p i).1 (blkAt p i)).1, (runM m p i).2 ++ (stepM (runM m p i).1 (blkAt p i)).2)
theorem blkAt_ok {p : List Nat} (hb : ∀ x ∈ p, x < 256) {i : Nat} (hi : 16 * i + 16 ≤ p.length) : (blkAt p i).length = 16 ∧ ∀ x ∈ blkAt p i, x < 256 :=
  ⟨by rw [blkAt, List.length_take, List.length_drop]; omega, fun x hx => hb x (List.mem_of_mem_drop (List.mem_of_mem_take hx))⟩
theorem runM_ok {m : Md} (h : m.Ok) {p : List Nat} (hb : ∀ x ∈ p, x < 256) : ∀ i, 16 * i ≤ p.length → (runM m p i).1.Ok ∧ (runM m p i).1.key = m.key ∧ (runM m p i).1.kind = m.kind ∧ (runM m p i).1.back = m.back ∧ (runM m p i).2.length = 16 * i ∧ ∀ x ∈ (runM m p i).2, x < 256
  | 0, _ => ⟨h, rfl, rfl, rfl, rfl, fun x hx => by cases hx⟩
  | i + 1, hi => by
    obtain ⟨h1, h2, h3, h4, h5, h6⟩ := runM_ok h hb i (by omega)
    obtain ⟨k1, k2⟩ := blkAt_ok hb (i := i) (by omega)
    obtain ⟨q1, q2, q3, q4, q5, q6⟩ := stepM_ok h1 k1 k2
    simp only [runM]
    refine ⟨q1, q4.trans h2, q5.trans h3, q6.trans h4, by rw [List.length_append, h5, q2]; omega, fun x hx => ?_⟩
    rcases List.mem_append.1 hx with hx | hx
    · exact h6 x hx
    · exact q3 x hx
/-- Run under way. -/
structure Rb (W : World) (gM gR gU : Nat) (ML : List Value) (ZM : Array Value) (out : List Nat) (w : World) : Prop where
  km : Blk w gM 96 ML.toArray
  kr : Blk w gR 96 ZM
  buf : Lib.IsBuffer 155 5 gU gU (v8 out) w
  bel : Below W.heap.size W w
  o1 : W.heap.size ≤ gM
  o2 : gM < gR
  o3 : gR < gU
section
variable {W w w' : World} {gM gR gU : Nat} {ML ML' : List Value} {ZM : Array Value} {out : List Nat}
theorem Rb.old (h : Rb W gM gR gU ML ZM out w) (hb : Below w.heap.size w w') : Rb W gM gR gU ML ZM out w' := ⟨h.km.next hb rfl, h.kr.next hb rfl, h.buf.old hb, below_then h.bel hb (Nat.le_refl _), h.o1, h.o2, h.o3⟩
theorem isBuffer_frm {T e : TypeId} {B b : Nat} {bs : List Value} {S : List Nat} (h : Lib.IsBuffer T e B b bs w) (hf : Frm S w w') (hS : ∀ x ∈ S, x < B) : Lib.IsBuffer T e B b bs w' := by
  have hlt := h.lt
  obtain ⟨hB, v, lr, hbk, hown, hne⟩ := h
  exact ⟨hB, v, lr, (hf.block b hlt (fun hx => by have := hS b hx; omega)).trans hbk, own_frm hown hf hS, hne⟩
theorem Rb.putM (h : Rb W gM gR gU ML ZM out w) (hf : Frm [gM] w w') (hk : Blk w' gM 96 ML'.toArray) : Rb W gM gR gU ML' ZM out w' := by
  have o1 := h.o1
  have o2 := h.o2
  have o3 := h.o3
  exact ⟨hk, h.kr.frm hf (by simp; omega), isBuffer_frm h.buf hf (fun x hx => by simp at hx; omega), Below.frm h.bel hf (Nat.le_refl _) (fun x hx => by simp at hx; omega), o1, o2, o3⟩
theorem Rb.far (h : Rb W gM gR gU ML ZM out w) {g : Nat} (hf : Frm [g] w w') (hg : gU < g) (ht : ∀ c, ¬ Blk w g 5 c) : Rb W gM gR gU ML ZM out w' := by
  have o1 := h.o1
  have o2 := h.o2
  have o3 := h.o3
  have hlt := h.buf.lt
  obtain ⟨hB, v, lr, hbk, hown, hne⟩ := h.buf
  refine ⟨h.km.frm hf (by simp; omega), h.kr.frm hf (by simp; omega), ⟨hB, v, lr, (hf.block gU hlt (by simp; omega)).trans hbk, ⟨hown.1, ?_⟩, hne⟩, Below.frm h.bel hf (Nat.le_refl _) (fun x hx => by simp at hx; omega), o1, o2, o3⟩
  rcases hown.2 with hn | ⟨q, cap, cur, hv, hbg, hq, rest⟩
  · exact .inl hn
  · refine .inr ⟨q, cap, cur, hv, hbg, (hf.block q (Lib.lt_of_heap hq) (fun hx => ?_)).trans hq, rest⟩
    simp at hx
    subst hx
    exact ht _ hq
theorem Rb.wrote (h : Rb W gM gR gU ML ZM out w) {cs : List Nat} (hb : Below gU w w') (hk : Lib.IsBuffer 155 5 gU gU (v8 out ++ v8 cs) w') : Rb W gM gR gU ML ZM (out ++ cs) w' := by
  have o1 := h.o1
  have o2 := h.o2
  have o3 := h.o3
  refine ⟨h.km.below hb (by omega), h.kr.below hb o3, ?_, h.bel.trans (hb.mono (by omega)), o1, o2, o3⟩
  have : v8 (out ++ cs) = v8 out ++ v8 cs := by simp [v8]
  rw [this]
  exact hk
end
theorem write_any (gU g : Nat) (out cs : List Nat) (n c : Nat) (w : World) (h : Lib.IsBuffer 155 5 gU gU (v8 out) w) (hn : cs.length = n) (hg : g ≠ gU) (hk : Blk w g 90 (b8 cs)) (hlim : out.length + n ≤ 140737488355328) :
    Calls Tryd.prog 90 #[.pointer (some ⟨gU, 0, none⟩), .slice (some ⟨g, 0, none⟩) n c] w (fun e w' => e = .returned (.tuple #[.int .i64 n, .nilIface]) ∧ Lib.IsBuffer 155 5 gU gU (v8 out ++ v8 cs) w' ∧ Below gU w w') := by
  have one : ∀ l : List Nat, ∀ v ∈ v8 l, v.oneCell' = true := fun l v hv => by
    obtain ⟨_, _, rfl⟩ := List.mem_map.1 hv
    rfl
  have hsrc : ∀ (j : Nat) (v : Value), (v8 cs)[j]? = some v → w.cell? ((⟨g, 0, none⟩ : Addr).add j) = some v := fun j v hv => by
    rw [Go.WideShapes.add_plain, hk.cell, Nat.zero_add]
    simpa [b8, v8] using hv
  have H := Any.Buffer_Write_any Tryd.lays180 gU gU (v8 out) (v8 cs) ⟨g, 0, none⟩ n c w h (Nat.le_of_lt h.lt) (one out) (by rw [v8_length]; exact hn) hg hsrc (one cs) (by rw [v8_length]; exact hlim)
  exact Calls.mono H fun e w' ⟨h1, h2, h3, _⟩ => ⟨h1, h2, h3⟩
theorem bytes_any (gU : Nat) (out : List Nat) (w : World) (h : Lib.IsBuffer 155 5 gU gU (v8 out) w) :
    Calls Tryd.prog 91 #[.pointer (some ⟨gU, 0, none⟩)] w (fun e w' => ∃ v, e = .returned v ∧ OwnB w' gU v out ∧ ∃ n, w' = w.drewN n) := by
  have H := Any.Buffer_Bytes Tryd.lays183 gU gU (v8 out) w h
  refine Calls.mono H fun e w' ⟨v, h1, h2, h3⟩ => ⟨v, h1, ?_, h3⟩
  rw [v8_length] at h2
  exact h2
def RunOut (w : World) (A : Option Addr) (L c : Nat) (r : Md × List Nat) (e : Ending) (w' : World) : Prop := ∃ v, e = .returned (.tuple #[.agg (mV A L c r.1).toArray, v, .int .i64 0]) ∧ OwnB w' w.heap.size v r.2 ∧ Below w.heap.size w w'
def RunBad (w : World) (A : Option Addr) (L c : Nat) (m : Md) (e : Ending) (w' : World) : Prop := e = .returned (.tuple #[.agg (mV A L c m).toArray, .slice none 0 0, .int .i64 1]) ∧ Below w.heap.size w w'
def RunBadG (w : World) (ML : List Value) (e : Ending) (w' : World) : Prop := e = .returned (.tuple #[.agg ML.toArray, .slice none 0 0, .int .i64 1]) ∧ Below w.heap.size w w'
set_option maxRecDepth 100000 in
set_option maxHeartbeats 4000000 in
theorem run_badg (ML : List Value) (hM : M2F zM.toArray ML) (PA : Option Addr) (n pc : Nat) (w : World) (hn : n % 16 ≠ 0) (hnm : n ≤ maxLen) :
    Calls Tryd.prog 56 #[.agg ML.toArray, .slice PA n pc] w (RunBadG w ML) := by
  have H2F0 := wall hM
  obtain ⟨ZM, hZM⟩ : ∃ x, zM.toArray = x := ⟨_, rfl⟩
  have HZM := wall (show Tryd.zeroCells96 = ZM by rw [← hZM, zM_eq])
  unfold RunBadG
  rw [hZM] at H2F0
  obtain ⟨w1, hw1⟩ : ∃ W, W = (w.alloc (.cells ML.toArray 96)).alloc (.cells ZM 96) := ⟨_, rfl⟩
  have HW := wall hw1
  have HB1 := wall (show Below w.heap.size w w1 by rw [hw1]; exact ((Below.refl _ w).alloc (Nat.le_refl _) _).alloc (by simp) _)
  have HKM := wall (show Blk w1 w.heap.size 96 ML.toArray by rw [hw1]; exact (Blk.new _ _ _).alloc _)
  have HKR := wall (show Blk w1 (w.heap.size + 1) 96 ZM by rw [hw1]; exact blk_new' (by simp))
  have hr : ((n : Int) % 16 != 0) = true := by rw [bne_iff_ne]; omega
  have hr2 : ((n : Int).tmod 16 != 0) = true := by rw [bne_iff_ne, Int.tmod_eq_emod_of_nonneg (by omega)]; omega
  clear hw1 hZM hn hM
  go_enter Tryd.func56, Tryd.ntmps56
  go_upto_region 1 with fail
  rw [HZM.out]
  rw [← HW.out]
  clear HW
  go_wp2_with (first | refine wpList_load_row rfl 96 _ rfl w.heap.size rfl 96 ML.toArray (0, 0) _ HKM.out Tryd.underlying96 rfl H2F0.out.1 ?_ | (refine wpList_new_row rfl 96 (.tmp 4) (.tmp 13) rfl (w.heap.size + 1) ML.toArray rfl rfl 96 ZM HKR.out H2F0.out.1 H2F0.out.2.1 H2F0.out.2.2 w.heap.size w HB1.out (by omega) ?_; intro w4 K4 B4))
  go_light
  exact bodyPost_ret (v := .tuple #[.agg ML.toArray, .slice none 0 0, .int .i64 1]) (results_two_slots Tryd.results56 _ _ (w.heap.size + 1) 96 ML.toArray _ _ _ rfl rfl rfl K4.out Tryd.underlying96 rfl H2F0.out.1) rfl ⟨rfl, B4.out⟩
theorem run_bad (A : Option Addr) (L c : Nat) (m : Md) (PA : Option Addr) (n pc : Nat) (w : World) (hvl : m.v.length = 16) (hn : n % 16 ≠ 0) (hnm : n ≤ maxLen) :
    Calls Tryd.prog 56 #[.agg (mV A L c m).toArray, .slice PA n pc] w (RunBad w A L c m) := run_badg _ (m2f A L c hvl) PA n pc w hn hnm
end Aes
end Go.Proofs.YtpakdcgcgekcfaaDoor

/-
  Package mode: Run of whole blocks.
-/
set_option linter.unusedSimpArgs false
set_option linter.unusedVariables false
namespace Go.Proofs.YtpakdcgcgekcfaaDoor
open Go.RowKit

namespace Aes
open Otp R1 Fuse Sha
theorem own_less {w : World} {B B' : Nat} {v : Value} {l : List Nat} (h : OwnB w B v l) (hB : B' ≤ B) : OwnB w B' v l := by
  refine ⟨h.1, ?_⟩
  rcases h.2 with hn | ⟨q, cap, cur, hv, hbg, hq, rest⟩
  · exact .inl hn
  · exact .inr ⟨q, cap, cur, hv, Nat.le_trans hB hbg, hq, rest⟩
theorem own_grow {gU : Nat} {out : List Nat} : ∀ v W W', Rel.Grow W W' → (fun v W => OwnB W gU v out) v W → (fun v W => OwnB W gU v out) v W' := fun _ _ _ h k => own_frm k (Frm.of_below (S := []) h) (fun x hx => by simp at hx)
def RunGen (w : World) (ML : List Value) (out : List Nat) (e : Ending) (w' : World) : Prop := ∃ v, e = .returned (.tuple #[.agg ML.toArray, v, .int .i64 0]) ∧ OwnB w' w.heap.size v out ∧ Below w.heap.size w w'
set_option maxRecDepth 100000 in
set_option maxHeartbeats 4000000 in
/-- Run, by what each step does. -/
theorem run_gen (CL : Nat → List Value) (O Bk : Nat → List Nat) (PA : Option Addr) (n nb pc : Nat) (p : List Nat) (w : World) (hM : ∀ i, i ≤ nb → M2F zM.toArray (CL i)) (hO : O 0 = [] ∧ ∀ i, i < nb → O (i + 1) = O i ++ Bk i) (hB : ∀ i, i < nb → (Bk i).length = 16)
    (hS : ∀ i W, i < nb → Below w.heap.size w W → Calls Tryd.prog 63 #[.agg (CL i).toArray, .agg (b8 (blkAt p i))] W (fun e w' => e = .returned (.tuple #[.agg (CL (i + 1)).toArray, .agg (b8 (Bk i))]) ∧ Below W.heap.size W w'))
    (hpl : p.length = n) (hn : n = 16 * nb) (hnm : n ≤ 1000000) (hpc : n ≤ pc) (hz : Nats .u8 256 w w.heap.size PA p) :
    Calls Tryd.prog 56 #[.agg (CL 0).toArray, .slice PA n pc] w (RunGen w (CL nb) (O nb)) := by
  have HPB := wall (show ∀ x ∈ p, x < 256 from fun x hx => by
    obtain ⟨i, hi⟩ := List.mem_iff_getElem?.1 hx
    exact (hz i x hi).1)
  have HBK := wall (fun i (h : i < nb) => blkAt_ok HPB.out (i := i) (by omega))
  have HOL := wall (show ∀ i, i ≤ nb → (O i).length = 16 * i from fun i => by
    induction i with
    | zero => intro _; rw [hO.1]; rfl
    | succ i ih => intro h; rw [hO.2 i (by omega), List.length_append, ih (by omega), hB i (by omega)]; omega)
  have HMV := wall hM
  have HON := wall hO.2
  have H0 := wall hO.1
  have HBL := wall hB
  have HST := wall hS
  have HZ := wall hz
  have HPL := wall hpl
  have HSB := wall (fun (l : List Nat) (h : l.length = 16) => show (Tryd.prog.info? 90).map (·.size) = some (b8 l).size by rw [b8_size, h]; exact blk_info16)
  obtain ⟨ZM, hZM⟩ : ∃ x, zM.toArray = x := ⟨_, rfl⟩
  have HZM := wall (show Tryd.zeroCells96 = ZM by rw [← hZM, zM_eq])
  rw [hZM] at HMV
  unfold RunGen
  obtain ⟨w1, hw1⟩ : ∃ W, W = ((w.alloc (.cells (CL 0).toArray 96)).alloc (.cells ZM 96)).alloc (.cells #[.slice none 0 0, .int .i64 0, .int .i8 0] 155) := ⟨_, rfl⟩
  have HW := wall hw1
  obtain ⟨gU, hgU⟩ : ∃ x, x = w.heap.size + 1 + 1 := ⟨_, rfl⟩
  obtain ⟨gR, hgR⟩ : ∃ x, x = w.heap.size + 1 := ⟨_, rfl⟩
  obtain ⟨gM, hgM⟩ : ∃ x, x = w.heap.size := ⟨_, rfl⟩
  have HGG := wall (show gU = w.heap.size + 1 + 1 ∧ gR = w.heap.size + 1 ∧ gM = w.heap.size from ⟨hgU, hgR, hgM⟩)
  have HR1 := wall (show Rb w gM gR gU (CL 0) ZM (O 0) w1 by
    rw [hw1, hgU, hgR, hgM]
    refine ⟨((Blk.new _ _ _).alloc _).alloc _, (blk_new' (by simp)).alloc _, ?_, (((Below.refl _ w).alloc (Nat.le_refl _) _).alloc (by simp) _).alloc (by simp; omega) _, Nat.le_refl _, by omega, by omega⟩
    have h := Lib.fresh_isBuffer 155 5 ((w.alloc (.cells (CL 0).toArray 96)).alloc (.cells ZM 96))
    rw [H0.out]
    simpa [v8] using h)
  have hr : ((n : Int) % 16 != 0) = false := by rw [bne_eq_false_iff_eq]; omega
  have hr2 : ((n : Int).tmod 16 != 0) = false := by rw [bne_eq_false_iff_eq, Int.tmod_eq_emod_of_nonneg (by omega)]; omega
  have HSA := wall (fun (ad : Option Addr) (k cap : Nat) (h : 16 ≤ k) (hc : k ≤ cap) => And.intro (run_slice_h1 (P := Tryd.prog) 53 5 Tryd.underlying53 (fun _ => by kernel_rfl) ad k cap 16 .i64 16 rfl (by omega) (by omega)) (run_slice_l1 (P := Tryd.prog) 53 5 Tryd.underlying53 (fun _ => by kernel_rfl) ad k cap 16 .i64 16 rfl h))
  have HN := wall hn
  clear hw1 hZM hM hO hB hS hpl hz hgU hgR hgM hn
  go_enter Tryd.func56, Tryd.ntmps56
  go_upto_region 1 with fail
  rw [HZM.out]
  go_upto_region 4 with fail
  change Code.wp _ _ _ _ (((w.alloc (.cells (CL 0).toArray 96)).alloc (.cells ZM 96)).alloc (.cells #[.slice none 0 0, .int .i64 0, .int .i8 0] 155))
  rw [← HW.out, ← HGG.out.1, ← HGG.out.2.1, ← HGG.out.2.2]
  clear HW HGG HZM hr hr2
  go_loopg [1] nb (fun gm s1 wr => ∃ (i : Nat) (ad : Option Addr) (k pc' : Nat), i + gm = nb ∧ s1 = .slice ad k pc' ∧ k = n - 16 * i ∧ k ≤ pc' ∧ Wall (Nats .u8 256 w w.heap.size ad (p.drop (16 * i))) ∧ Wall (Rb w gM gR gU (CL i) ZM (O i) wr))
  case atStart => exact ⟨0, PA, n, pc, by omega, rfl, by omega, hpc, wall (by simpa using HZ.out), HR1⟩
  case round =>
    clear HR1
    obtain ⟨i, ad, k, pc', hg, rfl, hki, hkp, HNA, HR⟩ := hrel
    have HG := wall hg
    have hi : i ≤ nb := by omega
    have hnn := HN.out
    clear hg
    have hol := HOL.out i hi
    by_cases hlt : i < nb
    · have hk16 : 16 ≤ k := by omega
      have hk0 : (0 : Int) < (k : Int) := by omega
      obtain ⟨b, hb⟩ : ∃ b, blkAt p i = b := ⟨_, rfl⟩
      have hbk := HBK.out i hlt
      rw [hb] at hbk
      obtain ⟨sb, so, had, hsb, hrg⟩ := nats_range (HNA.out.below HR.out.bel) 16 (by decide) (by rw [List.length_drop, HPL.out]; omega)
      rw [show (p.drop (16 * i)).take 16 = b from hb] at hrg
      subst had
      have HRG := wall hrg
      have HBB := wall hbk
      have hst := HST.out i
      rw [hb] at hst
      have HSL := wall (HSA.out (some ⟨sb, so, none⟩) k pc' hk16 hkp)
      have HM1 := wall (HMV.out i hi)
      have HM2 := wall (HMV.out (i + 1) (by omega))
      have hnx := HON.out i hlt
      have hb2l := HBL.out i hlt
      obtain ⟨b2, hb2⟩ : ∃ x, Bk i = x := ⟨_, rfl⟩
      obtain ⟨ML2, hML2⟩ : ∃ x, CL (i + 1) = x := ⟨_, rfl⟩
      obtain ⟨ML, hML⟩ : ∃ x, CL i = x := ⟨_, rfl⟩
      obtain ⟨out, hout⟩ : ∃ x, O i = x := ⟨_, rfl⟩
      rw [hML, hML2, hb2] at hst
      rw [hML] at HM1 HR
      rw [hML2] at HM2
      rw [hb2] at hnx hb2l
      rw [hout] at hnx HR hol
      have HSTQ := wall (fun W (h : Below w.heap.size w W) => hst W hlt h)
      have HB2 := wall hb2l
      have HNI := wall hnx
      have HML2 := wall hML2
      have HKI := wall hki
      have hlim : out.length + 16 ≤ 140737488355328 := by omega
      clear hol hb hbk hrg hb2l hML2 hML hnn hki hst hnx hb2 hout
      go_upto_region 6 with fail
      change Code.wp _ _ _ _ (wr.alloc (.cells (b8 z16) 90))
      obtain ⟨w5, hw5⟩ : ∃ W, W = wr.alloc (.cells (b8 z16) 90) := ⟨_, rfl⟩
      have HB5 := wall (show Below wr.heap.size wr w5 by rw [hw5]; exact (Below.refl _ _).alloc (Nat.le_refl _) _)
      have HKB5 := wall (show Blk w5 wr.heap.size 90 (b8 z16) by rw [hw5]; exact Blk.new _ _ _)
      have HR5 := wall (HR.out.old HB5.out)
      have HRG5 := wall (range_below HRG.out (Nat.lt_of_lt_of_le hsb HR.out.bel.size) HB5.out)
      have hgb : gU < wr.heap.size := HR.out.buf.lt
      have hsb5 : sb < w5.heap.size := Nat.lt_of_lt_of_le hsb HR5.out.bel.size
      rw [← hw5]
      clear hw5 HB5 HR HRG
      generalize wr.heap.size = gb at *
      refine Rel.wp_region_rel_pin 6 [(23, .const (.tuple #[.agg ML2.toArray, .agg (b8 b2)]))] (by kernel_rfl) (by kernel_rfl) ?_
      simp only [List.take_succ_cons, List.take_zero, List.drop_succ_cons, List.drop_zero, Act.put, List.setIfInBounds_toArray, List.set_cons_zero, List.set_cons_succ]
      refine Rel.tree_pure rfl rfl rfl (.agg ML.toArray) (fun W hW _ => Rel.exec_load _ _ rfl gM 0 rfl _ _ (Blk.range (hW.blk HR5.out.km.drew)) Tryd.underlying96 rfl HM1.out.1) ?_
      simp only [Act.put, List.setIfInBounds_toArray, List.set_cons_zero, List.set_cons_succ]
      (refine Rel.tree_quiet rfl rfl rfl (fun K hK => ?_); go_big_quiet_op; refine hK _ ?_; clear hK K)
      refine Rel.tree_pure rfl rfl rfl (.slice (some ⟨sb, so, none⟩) 16 pc') (fun W hW _ => Rel.exec_slice _ _ _ _ rfl _ (HSL.out.1 W)) ?_
      simp only [Act.put, List.setIfInBounds_toArray, List.set_cons_zero, List.set_cons_succ]
      refine Rel.tree_pure rfl rfl rfl (.pointer (some ⟨sb, so, none⟩)) (fun W hW _ => Rel.exec_arr _ _ _ rfl 16 _ 16 pc' rfl Tryd.underlying90 (Nat.le_refl _)) ?_
      simp only [Act.put, List.setIfInBounds_toArray, List.set_cons_zero, List.set_cons_succ]
      refine Rel.tree_pure rfl rfl rfl (.agg (b8 b)) (fun W hW _ => Rel.exec_load _ _ rfl sb so rfl _ _ (range_below HRG5.out hsb5 hW.undrew) Tryd.underlying90 rfl (HSB.out _ HBB.out.1)) ?_
      simp only [Act.put, List.setIfInBounds_toArray, List.set_cons_zero, List.set_cons_succ]
      refine Rel.tree_const rfl (.tuple #[.agg ML2.toArray, .agg (b8 b2)]) rfl (fun W hW _ => ?_) ?_
      · have hV := below_then HR5.out.bel hW.undrew (Nat.le_refl _)
        unfold Rel.relAt; go_simp; show Calls _ _ _ _ _
        exact const_call (HSTQ.out W hV)
      simp only [Act.put, List.setIfInBounds_toArray, List.set_cons_zero, List.set_cons_succ]
      (refine Rel.tree_quiet rfl rfl rfl (fun K hK => ?_); go_big_quiet_op; refine hK _ ?_; clear hK K)
      intro W hW _
      have HRW := wall (HR5.out.old hW.undrew)
      have HKB := wall (hW.blk HKB5.out.drew)
      clear hW HR5 HKB5 HRG5 HSTQ
      refine Rel.take_at 7 24 (.agg ML2.toArray) rfl rfl (by kernel_rfl) (by kernel_rfl) (by kernel_rfl) (fun _ _ _ h => h) rfl (fun w => by go_simp) ?_
      simp only [Act.put, List.setIfInBounds_toArray, List.set_cons_zero, List.set_cons_succ]
      refine Rel.take_at 8 25 (.agg (b8 b2)) rfl rfl (by kernel_rfl) (by kernel_rfl) (by kernel_rfl) (fun _ _ _ h => h) rfl (fun w => by go_simp) ?_
      simp only [Act.put, List.setIfInBounds_toArray, List.set_cons_zero, List.set_cons_succ]
      refine Rel.rest_idx [(9, _), (10, _)] rfl (fun p hp => by simp at hp; rcases hp with rfl | rfl <;> rfl) (by kernel_rfl) ?_
      simp only [List.map_cons, List.map_nil]
      have o2 := HRW.out.o2
      have o3 := HRW.out.o3
      go_upto_region 7 with (first | (refine wpList_set_row rfl 90 (.tmp 8) (.tmp 25) rfl gb (b8 b2) rfl rfl 90 (b8 z16) (HKB.out.frm F8.out (by simp; omega)) (HSB.out _ HB2.out) (by rw [b8_size, b8_size, HB2.out]; rfl) (b8_one _) ?_; intro w9 K9 F9) | (refine wpList_set_row rfl 96 (.tmp 2) (.tmp 24) rfl gM ML2.toArray rfl rfl 96 ML.toArray HRW.out.km HM2.out.1 (HM1.out.2.1.symm.trans HM2.out.2.1) HM2.out.2.2 ?_; intro w8 K8 F8))
      have HR8 := wall (HRW.out.putM F8.out K8.out)
      have HR9 := wall (HR8.out.far F9.out hgb (fun c hc => by have := (Blk.eq hc (HKB.out.frm F8.out (by simp; omega))).1; exact absurd this (by decide)))
      replace K9 := wall K9.out
      have hs7 := Slot.run_slice_arr_all' (P := Tryd.prog) 90 5 16 Tryd.underlying90 (fun _ => by kernel_rfl) gb 0 (by decide)
      clear HRW HKB F8 K8 F9 HR8 HM1
      go_wp2_with fail
      (with_reducible refine (write_any gU gb out b2 16 16 w9 HR9.out.buf HB2.out (by omega) K9.out hlim).mono ?_); rintro e w10 ⟨rfl, hU, hB⟩
      have HR10 := wall (HR9.out.wrote hB hU)
      have hs8 := HSL.out.2
      clear hU hB HR9 K9 hs7
      go_wp2_with fail
      go_light
      go_roundg (nb - (i + 1))
      case measure => have := HG.out; omega
      case rel =>
        have hn16 := HN.out
        exact ⟨i + 1, slA (some ⟨sb, so, none⟩) 16 pc', k - 16, pc' - 16, by omega, rfl, by have := HKI.out; omega, by omega, wall (by have h := nats_slA (i := 16) (cap := pc') HNA.out (by rw [List.length_drop, HPL.out]; have := HKI.out; omega); rw [List.drop_drop] at h; rw [show 16 * (i + 1) = 16 * i + 16 by omega]; exact h), by rw [HNI.out, HML2.out]; exact HR10⟩
    · have hinb : i = nb := by omega
      subst hinb
      have hk0 : k = 0 := by omega
      subst hk0
      have HM1 := wall (HMV.out i hi)
      obtain ⟨ML, hML⟩ : ∃ x, CL i = x := ⟨_, rfl⟩
      obtain ⟨out, hout⟩ : ∃ x, O i = x := ⟨_, rfl⟩
      have HML := wall hML
      have HQ := wall hout
      rw [hML] at HM1 HR
      rw [hout] at HR hol
      clear hol hnn hki hML hout
      go_wp2_with fail
      refine RelG.wp_region_rel 2 [(31, .any (fun v W => OwnB W gU v out) own_grow)] (by kernel_rfl) (by kernel_rfl) ?_
      simp only [List.take_succ_cons, List.take_zero, List.drop_succ_cons, List.drop_zero, Act.put, List.setIfInBounds_toArray, List.set_cons_zero, List.set_cons_succ]
      refine RelG.tree_pure rfl rfl rfl (.agg ML.toArray) (fun W hW _ => Rel.exec_load _ _ rfl gM 0 rfl _ _ (Blk.range (hW.blk HR.out.km.drew)) Tryd.underlying96 rfl HM1.out.1) ?_
      simp only [Act.put, List.setIfInBounds_toArray, List.set_cons_zero, List.set_cons_succ]
      refine RelG.tree_rel rfl (fun v W => OwnB W gU v out) own_grow rfl (fun W hW _ => ?_) (fun v31 => ?_)
      · have hb := (HR.out.old hW.undrew).buf
        unfold RelG.relAt; go_simp; show Calls _ _ _ _ _
        exact Calls.mono (bytes_any gU out W hb) fun e w' ⟨v, h1, h2, k, h3⟩ => ⟨v, h1, by rw [h3]; exact below_drewN (Below.refl _ _) k, h2⟩
      simp only [Act.put, List.setIfInBounds_toArray, List.set_cons_zero, List.set_cons_succ]
      intro W hW hF
      have HOW := wall (show OwnB W gU v31 out from hF 31)
      have HRW := wall (HR.out.old hW.undrew)
      clear hF hW HR
      go_wp2_with (refine wpList_set_row rfl 96 (.tmp 4) (.tmp 30) rfl gR ML.toArray rfl rfl 96 ZM HRW.out.kr HM1.out.1 HM1.out.2.1 HM1.out.2.2 ?_; intro w8 K8 F8)
      have o1 := HRW.out.o1
      have o2 := HRW.out.o2
      have o3 := HRW.out.o3
      have HOZ := wall (show OwnB w8 w.heap.size v31 out by
        have h : OwnB w8 gU v31 out := own_frm HOW.out F8.out (fun x hx => by simp at hx; omega)
        exact own_less h (by omega))
      have HBZ := wall (show Below w.heap.size w w8 from Below.frm HRW.out.bel F8.out (Nat.le_refl _) (fun x hx => by simp at hx; omega))
      replace K8 := wall K8.out
      clear F8 HRW HOW
      go_light
      exact bodyPost_ret (v := .tuple #[.agg ML.toArray, v31, .int .i64 0]) (results_two_slots Tryd.results56 _ _ gR 96 ML.toArray _ _ _ rfl rfl rfl K8.out Tryd.underlying96 rfl HM1.out.1) rfl ⟨v31, by rw [HML.out], by rw [HQ.out]; exact HOZ.out, HBZ.out⟩
theorem run_any (A : Option Addr) (L c : Nat) (m : Md) (PA : Option Addr) (n nb pc : Nat) (p : List Nat) (w : World) (hm : m.Ok) (hk : KeyV w w.heap.size m.key A L c) (hpl : p.length = n) (hn : n = 16 * nb) (hnm : n ≤ 1000000) (hpc : n ≤ pc) (hz : Nats .u8 256 w w.heap.size PA p) :
    Calls Tryd.prog 56 #[.agg (mV A L c m).toArray, .slice PA n pc] w (RunOut w A L c (runM m p nb)) := by
  have hb : ∀ x ∈ p, x < 256 := fun x hx => by
    obtain ⟨i, hi⟩ := List.mem_iff_getElem?.1 hx
    exact (hz i x hi).1
  have ok := fun i (h : i ≤ nb) => runM_ok hm hb i (by omega)
  exact run_gen (fun i => mV A L c (runM m p i).1) (fun i => (runM m p i).2) (fun i => (stepM (runM m p i).1 (blkAt p i)).2) PA n nb pc p w (fun i h => m2f A L c (ok i h).1.len) ⟨rfl, fun i _ => rfl⟩
    (fun i h => (stepM_ok (ok i (by omega)).1 (blkAt_ok hb (i := i) (by omega)).1 (blkAt_ok hb (i := i) (by omega)).2).2.1)
    (fun i W h hB => step_any A L c _ _ W (ok i (by omega)).1 (by rw [(ok i (by omega)).2.1]; exact (hk.below hB).more hB.size) (blkAt_ok hb (i := i) (by omega)).1 (blkAt_ok hb (i := i) (by omega)).2) hpl hn hnm hpc hz
end Aes
end Go.Proofs.YtpakdcgcgekcfaaDoor

/-
  Package mode: a mode that is none leaves blocks as they are.
-/
set_option linter.unusedSimpArgs false
set_option linter.unusedVariables false
namespace Go.Proofs.YtpakdcgcgekcfaaDoor
open Go.RowKit

namespace Aes
open Otp R1 Fuse Sha
set_option maxRecDepth 100000 in
set_option maxHeartbeats 1000000 in
theorem rounds_zero (w : World) : Calls Tryd.prog 116 #[.agg zK.toArray] w (fun e w' => e = .returned (.int .i64 0) ∧ Below w.heap.size w w') := by
  obtain ⟨ZK, hZK⟩ : ∃ x, zK.toArray = x := ⟨_, rfl⟩
  obtain ⟨w1, hw1⟩ : ∃ W, W = w.alloc (.cells ZK 94) := ⟨_, rfl⟩
  have HB := wall (show Below w.heap.size w w1 by rw [hw1]; exact (Below.refl _ w).alloc (Nat.le_refl _) _)
  have hK : Blk w1 w.heap.size 94 ZK := by rw [hw1]; exact Blk.new _ _ _
  have hcv : w1.cell? ⟨w.heap.size, 0, none⟩ = some (.slice none 0 0) := by rw [hK.cell, ← hZK]; rfl
  have hlt := hK.lt
  rw [hZK]
  clear hZK
  go_enter Tryd.func116, Tryd.ntmps116
  go_upto_region 1 with fail
  rw [← hw1]
  clear hw1 hK
  go_wp2_with fail
  go_light
  go_ret
  exact ⟨rfl, HB.out⟩
set_option maxRecDepth 100000 in
set_option maxHeartbeats 2000000 in
theorem encrypt_zero (b : List Nat) (w : World) (hb : b.length = 16) : Calls Tryd.prog 96 #[.agg zK.toArray, .agg (b8 b)] w (BkOut w b) := by
  have HRZ := wall (fun W => rounds_zero W)
  have HSK0 : (Tryd.prog.info? 94).map (·.size) = some zK.toArray.size := by rw [List.size_toArray, zK_length]; exact key_info
  obtain ⟨ZK, hZK⟩ : ∃ x, zK.toArray = x := ⟨_, rfl⟩
  rw [hZK] at HRZ HSK0 ⊢
  have HSK := wall HSK0
  have HSB := wall (show (Tryd.prog.info? 90).map (·.size) = some (b8 b).size by rw [b8_size, hb]; exact blk_info16)
  have HZZ := wall (show (b8 z16).size = (b8 b).size by rw [b8_size, b8_size, hb]; rfl)
  obtain ⟨w1, hw1⟩ : ∃ W, W = ((w.alloc (.cells ZK 94)).alloc (.cells (b8 b) 90)).alloc (.cells (b8 z16) 90) := ⟨_, rfl⟩
  have HW := wall hw1
  have HKK := wall (show Blk w1 w.heap.size 94 ZK by rw [hw1]; exact ((Blk.new _ _ _).alloc _).alloc _)
  have HKB := wall (show Blk w1 (w.heap.size + 1) 90 (b8 b) by rw [hw1]; exact (blk_new' (by simp)).alloc _)
  have HKR := wall (show Blk w1 (w.heap.size + 1 + 1) 90 (b8 z16) by rw [hw1]; exact blk_new' (by simp))
  have HB1 := wall (show Below w.heap.size w w1 by rw [hw1]; exact (((Below.refl _ w).alloc (Nat.le_refl _) _).alloc (by simp) _).alloc (by simp; omega) _)
  clear hw1 hZK HSK0 hb
  go_enter Tryd.func96, Tryd.ntmps96
  go_upto_region 1 with fail
  change Code.wp _ _ _ _ (((w.alloc (.cells ZK 94)).alloc (.cells (b8 b) 90)).alloc (.cells (b8 z16) 90))
  rw [← HW.out]
  clear HW
  go_wp2_with (refine wpList_load_row rfl 94 _ rfl w.heap.size rfl 94 ZK (0, 0) _ HKK.out Tryd.underlying94 rfl HSK.out ?_)
  (with_reducible refine (HRZ.out _).mono ?_); rintro e w2 ⟨rfl, hB2⟩
  have HKB2 := wall (HKB.out.next hB2 rfl)
  have HKR2 := wall (HKR.out.next hB2 rfl)
  have HB2 := wall (below_then HB1.out hB2 (Nat.le_refl _))
  clear hB2 HKB HKR HB1 HKK HRZ
  go_wp2_with (first | refine wpList_load_row rfl 90 _ rfl (w.heap.size + 1) rfl 90 (b8 b) (0, 0) _ HKB2.out Tryd.underlying90 rfl HSB.out ?_ | (refine wpList_new_row rfl 90 (.tmp 4) (.tmp 11) rfl (w.heap.size + 1 + 1) (b8 b) rfl rfl 90 (b8 z16) HKR2.out HSB.out HZZ.out (b8_one _) w.heap.size w HB2.out (by omega) ?_; intro w7 KD B7))
  go_light
  exact bodyPost_ret (v := .agg (b8 b)) (results_cell_row Tryd.results96 _ _ (w.heap.size + 1 + 1) 90 (b8 b) (0, 0) _ rfl KD.out Tryd.underlying90 rfl HSB.out) rfl ⟨rfl, B7.out⟩
theorem zM_key : ∀ j v, zK[j]? = some v → zM.toArray[0 + j]? = some v := fun j v hv => by
  have hj : j < zK.length := (List.getElem?_eq_some_iff.1 hv).1
  rw [List.getElem?_toArray, Nat.zero_add, zM, mC, List.getElem?_append_left hj]
  exact hv
theorem zM_kind : zM.toArray[513]? = some (.int .i64 0) ∧ zM.toArray[514]? = some (.bool false) := by
  have hl := zK_length
  constructor
  · rw [List.getElem?_toArray, zM, mC, List.getElem?_append_right (by omega), hl]
    rfl
  · rw [List.getElem?_toArray, zM, mC, List.getElem?_append_right (by omega), hl]
    rfl
theorem zM_f : M2F zM.toArray zM := ⟨by rw [List.size_toArray, zM_length]; exact mode_info, rfl, mC_one zK_ones _ _ _⟩
set_option maxRecDepth 100000 in
set_option maxHeartbeats 4000000 in
theorem step_zero (b : List Nat) (w : World) (hb : b.length = 16) :
    Calls Tryd.prog 63 #[.agg zM.toArray, .agg (b8 b)] w (fun e w' => e = .returned (.tuple #[.agg zM.toArray, .agg (b8 b)]) ∧ Below w.heap.size w w') := by
  have H2F := wall zM_f
  have HSK0 : (Tryd.prog.info? 94).map (·.size) = some zK.toArray.size := by rw [List.size_toArray, zK_length]; exact key_info
  have HSB := wall (fun (l : List Nat) (h : l.length = 16) => show (Tryd.prog.info? 90).map (·.size) = some (b8 l).size by rw [b8_size, h]; exact blk_info16)
  have HRK := wall (fun (W : World) (g : Nat) (h : Blk W g 96 zM.toArray) => show W.rangeAt g 0 zK.toArray.toList from fun j x hx => by rw [h.cell]; exact zM_key j x (by simpa using hx))
  have HCE := wall (fun W => encrypt_zero b W hb)
  have HC := wall zM_kind
  have HB2 := wall hb
  obtain ⟨KL, hKL⟩ : ∃ x, zK.toArray = x := ⟨_, rfl⟩
  rw [hKL] at HSK0 HRK HCE
  have HSK := wall HSK0
  have HZM := wall zM_eq.symm
  obtain ⟨ML2, hML⟩ : ∃ x, zM = x := ⟨_, rfl⟩
  rw [hML] at H2F HRK HC HZM ⊢
  obtain ⟨w1, hw1⟩ : ∃ W, W = (((w.alloc (.cells ML2.toArray 96)).alloc (.cells (b8 b) 90)).alloc (.cells ML2.toArray 96)).alloc (.cells (b8 z16) 90) := ⟨_, rfl⟩
  have HW := wall hw1
  have HS1 := wall (show Sb w w.heap.size (w.heap.size + 1) (w.heap.size + 1 + 1) (w.heap.size + 1 + 1 + 1) ML2.toArray ML2.toArray b w1 by
    rw [hw1]
    exact ⟨(((Blk.new _ _ _).alloc _).alloc _).alloc _, ((blk_new' (by simp)).alloc _).alloc _, (blk_new' (by simp)).alloc _, blk_new' (by simp), ((((Below.refl _ w).alloc (Nat.le_refl _) _).alloc (by simp) _).alloc (by simp; omega) _).alloc (by simp; omega) _, Nat.le_refl _, by omega, by omega, by omega⟩)
  obtain ⟨gR, hgR⟩ : ∃ x, x = w.heap.size + 1 + 1 + 1 := ⟨_, rfl⟩
  obtain ⟨gS, hgS⟩ : ∃ x, x = w.heap.size + 1 + 1 := ⟨_, rfl⟩
  obtain ⟨gB, hgB⟩ : ∃ x, x = w.heap.size + 1 := ⟨_, rfl⟩
  obtain ⟨gM, hgM⟩ : ∃ x, x = w.heap.size := ⟨_, rfl⟩
  have HGG := wall (show gR = w.heap.size + 1 + 1 + 1 ∧ gS = w.heap.size + 1 + 1 ∧ gB = w.heap.size + 1 ∧ gM = w.heap.size from ⟨hgR, hgS, hgB, hgM⟩)
  rw [← hgR, ← hgS, ← hgB] at HS1
  have HS1 := wall (show Sb w gM gB gS gR ML2.toArray ML2.toArray b w1 by rw [hgM]; exact HS1.out)
  have hkc := HS1.out.km.cell 513
  have hbc := HS1.out.km.cell 514
  rw [HC.out.1] at hkc
  rw [HC.out.2] at hbc
  have hlt := HS1.out.km.lt
  clear hw1 hb hML hKL hgR hgS hgB hgM HC HSK0
  go_enter Tryd.func63, Tryd.ntmps63
  go_upto_region 2 with fail
  rw [HZM.out]
  change Code.wp _ _ _ _ ((((w.alloc (.cells ML2.toArray 96)).alloc (.cells (b8 b) 90)).alloc (.cells ML2.toArray 96)).alloc (.cells (b8 z16) 90))
  rw [← HW.out, ← HGG.out.1, ← HGG.out.2.1, ← HGG.out.2.2.1, ← HGG.out.2.2.2]
  clear HW HGG HZM
  go_wp2_with (first | refine wpList_load_arr rfl 94 _ rfl gM 0 rfl KL _ (HRK.out _ _ HS1.out.km) Tryd.underlying94 rfl HSK.out ?_ | refine wpList_load_row rfl 90 _ rfl gB rfl 90 (b8 b) (0, 0) _ HS1.out.kb Tryd.underlying90 rfl (HSB.out _ HB2.out) ?_)
  (with_reducible refine (HCE.out _).mono ?_); rintro e w5 ⟨rfl, hB5⟩
  have HS5 := wall (HS1.out.old hB5)
  clear hB5 HS1 HCE
  go_upto_region 13 with (refine wpList_set_row rfl 90 (.tmp 3) (.tmp 10) rfl gB (b8 b) rfl rfl 90 (b8 b) HS5.out.kb (HSB.out _ HB2.out) rfl (b8_one _) ?_; intro w4 K4 F4)
  have HSX := wall (HS5.out.putB F4.out K4.out)
  clear HS5 K4 F4
  have o2 := HSX.out.o2
  have o3 := HSX.out.o3
  have o4 := HSX.out.o4
  refine wp_two_rows (by kernel_rfl) (by kernel_rfl) rfl rfl rfl rfl rfl rfl 96 90 _ _ _ _ 67 68 (by decide) rfl rfl rfl rfl rfl rfl gM gB gS gR ML2.toArray (b8 b) 96 90 96 90 ML2.toArray (b8 z16) _ _ rfl rfl rfl rfl rfl rfl rfl rfl rfl rfl HSX.out.km HSX.out.kb HSX.out.ks HSX.out.kr (by omega) (by omega) Tryd.underlying96 rfl (H2F.out).1 rfl (H2F.out).2.2 Tryd.underlying90 rfl (HSB.out _ HB2.out) (by rw [b8_size, b8_size, HB2.out]; rfl) (b8_one _) ?_
  intro wz KS KR FZ
  replace KS := wall KS
  replace KR := wall KR
  have HBZ := wall (show Below w.heap.size w wz by have o1 := HSX.out.o1; exact Below.frm HSX.out.bel FZ (Nat.le_refl _) (fun x hx => by simp at hx; omega))
  clear FZ
  go_wp2_with fail
  go_light
  exact bodyPost_ret (v := .tuple #[.agg ML2.toArray, .agg (b8 b)]) (results_two Tryd.results63 _ _ gS gR 96 90 ML2.toArray (b8 b) _ _ rfl rfl KS.out KR.out Tryd.underlying96 rfl (H2F.out).1 Tryd.underlying90 rfl (HSB.out _ HB2.out)) rfl ⟨rfl, HBZ.out⟩
/-- Run of a mode that is none: it does not fail. -/
theorem run_zero (PA : Option Addr) (n nb pc : Nat) (p : List Nat) (w : World) (hpl : p.length = n) (hn : n = 16 * nb) (hnm : n ≤ 1000000) (hpc : n ≤ pc) (hz : Nats .u8 256 w w.heap.size PA p) :
    Calls Tryd.prog 56 #[.agg zM.toArray, .slice PA n pc] w (RunGen w zM (p.take (16 * nb))) := by
  have hb : ∀ x ∈ p, x < 256 := fun x hx => by
    obtain ⟨i, hi⟩ := List.mem_iff_getElem?.1 hx
    exact (hz i x hi).1
  exact run_gen (fun _ => zM) (fun i => p.take (16 * i)) (fun i => blkAt p i) PA n nb pc p w (fun i h => zM_f) ⟨by simp, fun i _ => by rw [show 16 * (i + 1) = 16 * i + 16 by omega, List.take_add, blkAt]⟩
    (fun i h => (blkAt_ok hb (i := i) (by omega)).1) (fun i W h hB => step_zero _ W (blkAt_ok hb (i := i) (by omega)).1) hpl hn hnm hpc hz
end Aes
end Go.Proofs.YtpakdcgcgekcfaaDoor

/-
  Package slot: Kind, key.
-/
set_option linter.unusedSimpArgs false
set_option linter.unusedVariables false
namespace Go.Proofs.YtpakdcgcgekcfaaDoor
open Go.RowKit

namespace Slot
open Otp R1 Sha
def wfI (h : Int) : Prop := (Lit.int .i64 h).wf = true
theorem ints_one (w : World) (h : Int) (hw : wfI h) : Ints .i64 (w.alloc (.cells #[.int .i64 h] 3)) (w.alloc (.cells #[.int .i64 h] 3)).heap.size (some ⟨w.heap.size, 0, none⟩) [h] :=
  (ints_new w [h] _ rfl (fun z hz => by simp at hz; subst hz; exact hw)).more (by simp)
theorem ints_two (w : World) (h k : Int) (hw : wfI h) (kw : wfI k) : Ints .i64 (w.alloc (.cells #[.int .i64 h, .int .i64 k] 3)) (w.alloc (.cells #[.int .i64 h, .int .i64 k] 3)).heap.size (some ⟨w.heap.size, 0, none⟩) [h, k] :=
  (ints_new w [h, k] _ rfl (fun z hz => by simp at hz; rcases hz with rfl | rfl; exact hw; exact kw)).more (by simp)
/-- A place's kind. -/
def kindE (s : Slt) (h : Int) : Nat := if mayE s [h] = 0 then (s.rs[h.toNat]?.getD (0, [])).1 else 0
theorem mayE_le (s : Slt) (l : List Int) : mayE s l ≤ 17 := by
  unfold mayE
  split
  · decide
  · split <;> decide
theorem mayE_zero {s : Slt} {h : Int} (hm : mayE s [h] = 0) : s.dd = false ∧ 0 ≤ h ∧ h < 8 := by
  unfold mayE at hm
  split at hm
  · cases hm
  · split at hm
    · rename_i h1 h2
      simp [inR] at h2
      exact ⟨by simpa using h1, h2⟩
    · cases hm
theorem row_at {s : Slt} (hk : s.Ok) {i : Nat} (hi : i < 8) : ∃ p, s.rs[i]? = some p ∧ p.2.length = 32 ∧ (∀ x ∈ p.2, x < 256) ∧ p.1 ≤ 3 := by
  have hl : i < s.rs.length := by rw [hk.len]; exact hi
  have hm := List.getElem_mem hl
  exact ⟨s.rs[i], List.getElem?_eq_getElem hl, hk.key _ hm, hk.byte _ hm, hk.kind _ hm⟩
def IntBelow (w : World) (z : Int) (e : Ending) (w' : World) : Prop := e = .returned (.int .i64 z) ∧ Below w.heap.size w w'
set_option maxRecDepth 100000 in
set_option maxHeartbeats 1000000 in
theorem kind_any (g : Nat) (s : Slt) (h : Int) (w : World) (hS : Sl w g s) (hw : wfI h) :
    Calls Tryd.prog 41 #[.pointer (some ⟨g, 0, none⟩), .int .i64 h] w (IntBelow w (kindE s h)) := by
  have HM := Lib.hid (may_any g s _ [h] 1 1 _ (hS.old ((Below.refl _ w).alloc (Nat.le_refl _) (.cells #[.int .i64 h] 3))) rfl (by decide) (ints_one w h hw))
  have HB := Lib.hid ((Below.refl _ w).alloc (Nat.le_refl _) (.cells #[.int .i64 h] 3))
  obtain ⟨E, hE⟩ : ∃ E, mayE s [h] = E := ⟨_, rfl⟩
  rw [hE] at HM
  by_cases h0 : E = 0
  · subst h0
    obtain ⟨hdd, h1, h2⟩ := mayE_zero hE
    obtain ⟨i, rfl⟩ : ∃ i : Nat, h = i := ⟨h.toNat, by omega⟩
    obtain ⟨p, hp, _, _, _⟩ := row_at hS.ok (show i < 8 by omega)
    have HK := Lib.hid (show kindE s (i : Int) = p.1 by rw [kindE, if_pos hE, Int.toNat_natCast, hp]; rfl)
    have hck : (w.alloc (.cells #[.int .i64 (i : Int)] 3)).cell? ⟨g, i * 33, none⟩ = some (.int .i64 (p.1 : Int)) := (hS.old HB.out).cellAt (by rw [Nat.mul_comm]; exact hS.ok.kindAt hp)
    have hi8 : (i : Int) < 8 := h2
    rw [HK.out]
    clear hE hdd hp h1 h2 hS hw
    go_enter Tryd.func41, Tryd.ntmps41
    go_wp2_with fail
    (with_reducible refine HM.out.mono ?_); rintro e w2 ⟨rfl, rfl⟩
    go_wp2_with fail
    go_light
    go_ret
    exact ⟨rfl, HB.out⟩
  · have HK := Lib.hid (show kindE s h = 0 by rw [kindE, hE, if_neg h0])
    have hne : (((E : Nat) : Int) != 0) = true := by rw [bne_iff_ne]; omega
    rw [HK.out]
    clear hE hS hw
    go_enter Tryd.func41, Tryd.ntmps41
    go_wp2_with fail
    (with_reducible refine HM.out.mono ?_); rintro e w2 ⟨rfl, rfl⟩
    go_wp2_with fail
    go_light
    go_ret
    exact ⟨rfl, HB.out⟩
set_option maxHeartbeats 1000000 in
theorem kind_nil (h : Int) (w : World) : Calls Tryd.prog 41 #[.pointer none, .int .i64 h] w (IntBelow w 0) := by
  have HB := Lib.hid ((Below.refl _ w).alloc (Nat.le_refl _) (.cells #[.int .i64 h] 3))
  go_enter Tryd.func41, Tryd.ntmps41
  go_wp2_with fail
  (with_reducible refine (may_nil _ _ _ _).mono ?_); rintro e w2 ⟨rfl, rfl⟩
  go_wp2_with fail
  go_light
  go_ret
  exact ⟨rfl, HB.out⟩
/-- A place's key: why not, or the key. -/
def keyE (s : Slt) (h : Int) : Nat := if mayE s [h] ≠ 0 then mayE s [h] else if kindE s h = 0 then 3 else 0
def keyOf (s : Slt) (h : Int) : List Nat := (s.rs[h.toNat]?.getD (0, [])).2
def KeyOut (w : World) (E : Nat) (k : List Nat) (e : Ending) (w' : World) : Prop := ∃ A n c, e = .returned (.tuple #[.slice A n c, .int .i64 (E : Int)]) ∧ (E = 0 → n = 32 ∧ n ≤ c ∧ k.length = 32 ∧ Nats .u8 256 w' w'.heap.size A k) ∧ Below w.heap.size w w'
set_option maxRecDepth 100000 in
set_option maxHeartbeats 2000000 in
theorem key_any (g : Nat) (s : Slt) (h : Int) (w : World) (hS : Sl w g s) (hw : wfI h) :
    Calls Tryd.prog 82 #[.pointer (some ⟨g, 0, none⟩), .int .i64 h] w (KeyOut w (keyE s h) (keyOf s h)) := by
  have HM := Lib.hid (may_any g s _ [h] 1 1 _ (hS.old ((Below.refl _ w).alloc (Nat.le_refl _) (.cells #[.int .i64 h] 3))) rfl (by decide) (ints_one w h hw))
  have HB := Lib.hid ((Below.refl _ w).alloc (Nat.le_refl _) (.cells #[.int .i64 h] 3))
  obtain ⟨E, hE⟩ : ∃ E, mayE s [h] = E := ⟨_, rfl⟩
  rw [hE] at HM
  by_cases h0 : E = 0
  · subst h0
    obtain ⟨hdd, h1, h2⟩ := mayE_zero hE
    obtain ⟨i, rfl⟩ : ∃ i : Nat, h = i := ⟨h.toNat, by omega⟩
    obtain ⟨p, hp, hpl, hpb, hp3⟩ := row_at hS.ok (show i < 8 by omega)
    have hkd : kindE s (i : Int) = p.1 := by rw [kindE, if_pos hE, Int.toNat_natCast, hp]; rfl
    have HKO := Lib.hid (show keyOf s (i : Int) = p.2 by rw [keyOf, Int.toNat_natCast, hp]; rfl)
    have HS2 := Lib.hid (hS.old HB.out)
    have hck : (w.alloc (.cells #[.int .i64 (i : Int)] 3)).cell? ⟨g, i * 33, none⟩ = some (.int .i64 (p.1 : Int)) := HS2.out.cellAt (by rw [Nat.mul_comm]; exact hS.ok.kindAt hp)
    have hi8 : (i : Int) < 8 := h2
    have HNK := Lib.hid (show Nats .u8 256 (w.alloc (.cells #[.int .i64 (i : Int)] 3)) (w.alloc (.cells #[.int .i64 (i : Int)] 3)).heap.size (some ⟨g, i * 33 + 1, none⟩) p.2 from fun j z hz =>
      ⟨hpb z (List.mem_of_getElem? hz), g, i * 33 + 1, rfl, HS2.out.lt, HS2.out.cellAt (by rw [Nat.mul_comm]; exact hS.ok.keyAt hp j _ (by simp [v8, hz]))⟩)
    have hsl := run_slice_arr_all' (P := Tryd.prog) 23 5 32 Tryd.underlying23 (fun _ => by kernel_rfl) g (i * 33 + 1) (by decide)
    by_cases hk0 : p.1 = 0
    · have HK := Lib.hid (show keyE s (i : Int) = 3 by rw [keyE, hE, hkd, hk0]; rfl)
      rw [HK.out]
      rw [hk0] at hck
      clear hE hdd hp h1 h2 hS hw hkd hk0 hsl
      go_enter Tryd.func82, Tryd.ntmps82
      go_wp2_with fail
      (with_reducible refine HM.out.mono ?_); rintro e w2 ⟨rfl, rfl⟩
      go_wp2_with fail
      go_light
      go_ret2
      exact ⟨_, _, _, rfl, (fun h => by cases h), HB.out⟩
    · have HK := Lib.hid (show keyE s (i : Int) = 0 by rw [keyE, hE, hkd, if_neg (by decide), if_neg hk0])
      rw [HK.out, HKO.out]
      have hne : (((p.1 : Nat) : Int) == 0) = false := by rw [beq_eq_false_iff_ne]; omega
      clear hE hdd hp h1 h2 hS hw hkd hk0
      go_enter Tryd.func82, Tryd.ntmps82
      go_wp2_with fail
      (with_reducible refine HM.out.mono ?_); rintro e w2 ⟨rfl, rfl⟩
      go_wp2_with fail
      go_light
      go_ret2
      exact ⟨_, _, _, rfl, fun _ => ⟨rfl, Nat.le_refl _, hpl, HNK.out⟩, HB.out⟩
  · have HK := Lib.hid (show keyE s h = E by rw [keyE, hE, if_pos h0])
    have hne : (((E : Nat) : Int) != 0) = true := by rw [bne_iff_ne]; omega
    rw [HK.out]
    clear hE hS hw
    go_enter Tryd.func82, Tryd.ntmps82
    go_wp2_with fail
    (with_reducible refine HM.out.mono ?_); rintro e w2 ⟨rfl, rfl⟩
    go_wp2_with fail
    go_light
    go_ret2
    exact ⟨_, _, _, rfl, fun h => absurd h h0, HB.out⟩
set_option maxHeartbeats 1000000 in
theorem key_nil (h : Int) (w : World) : Calls Tryd.prog 82 #[.pointer none, .int .i64 h] w (KeyOut w 3 []) := by
  have HB := Lib.hid ((Below.refl _ w).alloc (Nat.le_refl _) (.cells #[.int .i64 h] 3))
  go_enter Tryd.func82, Tryd.ntmps82
  go_wp2_with fail
  (with_reducible refine (may_nil _ _ _ _).mono ?_); rintro e w2 ⟨rfl, rfl⟩
  go_wp2_with fail
  go_light
  go_ret2
  exact ⟨_, _, _, rfl, (fun h => by cases h), HB.out⟩
end Slot
end Go.Proofs.YtpakdcgcgekcfaaDoor

/-
  Package slot: Lay, Lock, Locked, Dead.
-/
set_option linter.unusedSimpArgs false
set_option linter.unusedVariables false
namespace Go.Proofs.YtpakdcgcgekcfaaDoor
open Go.RowKit

namespace Slot
open Otp R1 Sha
def layE (s : Slt) (h kind : Int) : Nat := if mayE s [h] ≠ 0 then mayE s [h] else if kind < 1 ∨ 3 < kind then 1 else if s.lk = true ∧ kind = 1 then 12 else if kindE s h ≠ 0 then 13 else 0
def laySt (s : Slt) (h kind : Int) (key : List Nat) : Slt := if layE s h kind = 0 then s.put h.toNat (kind.toNat, key) else s
/-- A call that may write into the chip's places. -/
def WrOut (w : World) (g : Nat) (z : Int) (s' : Slt) (e : Ending) (w' : World) : Prop := e = .returned (.int .i64 z) ∧ Sl w' g s' ∧ Frm [g] w w'
theorem place_info : (Tryd.prog.info? 137).map (·.size) = some 33 := by kernel_rfl
theorem place_built (k : Nat) (y : List Nat) (hy : y.length = 32) : Tryd.prog.built 137 [(0, .int .i64 (k : Int)), (1, .agg (b8 y))] = some (row (k, y)).toArray := by
  have h : Tryd.prog.built 137 [(0, .int .i64 (k : Int)), (1, .agg (b8 y))] = Instr.fill ((#[(0, 1), (1, 32)] : Array (Nat × Nat))[·]?) (Value.int .i64 0 :: v8 (List.replicate 32 0)).toArray [(0, .int .i64 (k : Int)), (1, .agg (b8 y))] := by kernel_rfl
  have hz : (Value.int .i64 0 :: v8 (List.replicate 32 0)).length = 33 := rfl
  have hp := fill_part ((#[(0, 1), (1, 32)] : Array (Nat × Nat))[·]?) ((Value.int .i64 0 :: v8 (List.replicate 32 0)).set 0 (.int .i64 (k : Int))) 1 (v8 y) [] 1 (by rw [v8_length, hy]; rfl) (by rw [List.length_set, hz, v8_length, hy]; decide)
  rw [h, fill_one _ _ 0 (.int .i64 (k : Int)) _ 0 rfl rfl (by decide)]
  have hs : splice ((Value.int .i64 0 :: v8 (List.replicate 32 0)).set 0 (.int .i64 (k : Int))) 1 (v8 y) = row (k, y) := by
    unfold splice
    rw [List.drop_of_length_le (by rw [List.length_set, hz, v8_length, hy]; decide), List.append_nil, List.set_cons_zero, List.take_succ_cons, List.take_zero]
    rfl
  rw [hs] at hp
  exact hp
theorem row_one (p : Nat × List Nat) : ∀ v ∈ row p, v.oneCell' = true := fun v hv => by
  rcases List.mem_cons.1 hv with rfl | hv
  · rfl
  · obtain ⟨_, _, rfl⟩ := List.mem_map.1 hv
    rfl
theorem row_size {p : Nat × List Nat} (h : p.2.length = 32) : (row p).toArray.size = 33 := by simp [row, v8_length, h]
set_option maxRecDepth 100000 in
set_option maxHeartbeats 4000000 in
theorem lay_any (g : Nat) (s : Slt) (h kind : Int) (key : List Nat) (w : World) (hS : Sl w g s) (hw : wfI h) (hkl : key.length = 32) (hkb : ∀ x ∈ key, x < 256) :
    Calls Tryd.prog 35 #[.pointer (some ⟨g, 0, none⟩), .int .i64 h, .int .i64 kind, .agg (b8 key)] w (WrOut w g (layE s h kind) (laySt s h kind key)) := by
  obtain ⟨W1, hW1⟩ : ∃ W, W = w.alloc (.cells (b8 key) 23) := ⟨_, rfl⟩
  have HB1 := Lib.hid (show Below w.heap.size w W1 by rw [hW1]; exact (Below.refl _ w).alloc (Nat.le_refl _) _)
  have HK1 := Lib.hid (show Blk W1 w.heap.size 23 (b8 key) by rw [hW1]; exact Blk.new _ _ _)
  have HW1 := Lib.hid hW1
  obtain ⟨W2, hW2⟩ : ∃ W, W = W1.alloc (.cells #[.int .i64 h] 3) := ⟨_, rfl⟩
  have HW2 := Lib.hid hW2
  have HB2 := Lib.hid (show Below w.heap.size w W2 by rw [hW2]; exact HB1.out.alloc HB1.out.size _)
  have HK2 := Lib.hid (show Blk W2 w.heap.size 23 (b8 key) by rw [hW2]; exact HK1.out.alloc _)
  have HS2 := Lib.hid (hS.old HB2.out)
  have HM := Lib.hid (may_any g s (some ⟨W1.heap.size, 0, none⟩) [h] 1 1 W2 HS2.out rfl (by decide) (by rw [hW2]; exact ints_one W1 h hw))
  obtain ⟨E, hE⟩ : ∃ E, mayE s [h] = E := ⟨_, rfl⟩
  rw [hE] at HM
  have hok := HS2.out.ok
  have HEND := Lib.hid (show Frm [g] w W2 from Frm.of_below HB2.out)
  clear hW1 hW2 hS
  by_cases h0 : E = 0
  · subst h0
    obtain ⟨hdd, h1, h2⟩ := mayE_zero hE
    obtain ⟨i, rfl⟩ : ∃ i : Nat, h = i := ⟨h.toNat, by omega⟩
    obtain ⟨p, hp, hpl, hpb, hp3⟩ := row_at hok (show i < 8 by omega)
    have hkd : kindE s (i : Int) = p.1 := by rw [kindE, if_pos hE, Int.toNat_natCast, hp]; rfl
    have hck : W2.cell? ⟨g, i * 33, none⟩ = some (.int .i64 (p.1 : Int)) := HS2.out.cellAt (by rw [Nat.mul_comm]; exact hok.kindAt hp)
    have hcl : W2.cell? ⟨g, 264, none⟩ = some (.bool s.lk) := HS2.out.cellAt hok.lockAt
    have hi8 : (i : Int) < 8 := h2
    by_cases hkr : kind < 1 ∨ 3 < kind
    · have HE := Lib.hid (show layE s (i : Int) kind = 1 by rw [layE, hE, if_neg (by decide), if_pos hkr])
      have HL := Lib.hid (show laySt s (i : Int) kind key = s by rw [laySt, HE.out]; rfl)
      rw [HE.out, HL.out]
      clear hE hdd hp h1 h2 hw hkd hck hcl HE HL hok
      by_cases hk1 : kind < 1
      all_goals
        (try have hk3 : kind > 3 := by omega)
        go_enter Tryd.func35, Tryd.ntmps35
        go_upto_region 1 with fail
        change Code.wp _ _ _ _ (w.alloc (.cells (b8 key) 23))
        rw [← HW1.out]
        go_upto_region 2 with (go_at_call 81; change Calls _ _ _ (W1.alloc (.cells #[.int .i64 (i : Int)] 3)) _; rw [← HW2.out]; (with_reducible refine HM.out.mono ?_); rintro e w2 ⟨rfl, rfl⟩)
        go_wp2_with fail
        go_light
        go_ret
        exact ⟨rfl, HS2.out, HEND.out⟩
    · have hk1 : ¬ kind < 1 := by omega
      have hk3 : ¬ kind > 3 := by omega
      by_cases hlk : s.lk = true ∧ kind = 1
      · obtain ⟨hl, hk⟩ := hlk
        have HE := Lib.hid (show layE s (i : Int) kind = 12 by rw [layE, hE, if_neg (by decide), if_neg hkr, if_pos ⟨hl, hk⟩])
        have HL := Lib.hid (show laySt s (i : Int) kind key = s by rw [laySt, HE.out]; rfl)
        rw [HE.out, HL.out]
        rw [hl] at hcl
        subst hk
        clear hE hdd hp h1 h2 hw hkd hck hl HE HL hok hkr hk1 hk3
        go_enter Tryd.func35, Tryd.ntmps35
        go_upto_region 1 with fail
        change Code.wp _ _ _ _ (w.alloc (.cells (b8 key) 23))
        rw [← HW1.out]
        go_upto_region 2 with (go_at_call 81; change Calls _ _ _ (W1.alloc (.cells #[.int .i64 (i : Int)] 3)) _; rw [← HW2.out]; (with_reducible refine HM.out.mono ?_); rintro e w2 ⟨rfl, rfl⟩)
        go_wp2_with fail
        go_light
        go_ret
        exact ⟨rfl, HS2.out, HEND.out⟩
      · have hb33 : s.lk = false ∨ (s.lk = true ∧ (kind == 1) = false) := by
          cases hl : s.lk
          · exact .inl rfl
          · exact .inr ⟨rfl, by rw [beq_eq_false_iff_ne]; exact fun h => hlk ⟨hl, h⟩⟩
        by_cases hkk : p.1 = 0
        · have HE := Lib.hid (show layE s (i : Int) kind = 0 by rw [layE, hE, if_neg (by decide), if_neg hkr, if_neg hlk, hkd, hkk]; rfl)
          obtain ⟨kn, rfl⟩ : ∃ n : Nat, kind = n := ⟨kind.toNat, by omega⟩
          have HL := Lib.hid (show laySt s (i : Int) (kn : Int) key = s.put i (kn, key) by rw [laySt, HE.out, if_pos rfl]; rfl)
          rw [HE.out, HL.out]
          rw [hkk] at hck
          have HSP := Lib.hid (show splice (slC s) (i * 33) (row (kn, key)).toArray.toList = slC (s.put i (kn, key)) by
            rw [Nat.mul_comm]
            exact hok.splice (by omega) hkl)
          have HOK := Lib.hid (hok.put i (p := (kn, key)) hkl hkb (by simp only; omega))
          have HSZ := Lib.hid (show (Tryd.prog.info? 137).map (·.size) = some (row (kn, key)).toArray.size by rw [row_size hkl]; exact place_info)
          have HFT := Lib.hid (show i * 33 + (row (kn, key)).toArray.size ≤ (slC s).length by rw [row_size hkl, hok.size]; omega)
          have HSK := Lib.hid (show (Tryd.prog.info? 23).map (·.size) = some (b8 key).size by rw [b8_size, hkl]; exact dig_info)
          have HPB := Lib.hid (place_built kn key hkl)
          clear hE hdd hp h1 h2 hw hkd HE HL hok hkr hlk hkl hkb
          rcases hb33 with hl | ⟨hl, hkb1⟩
          all_goals
            rw [hl] at hcl
            clear hl
            go_enter Tryd.func35, Tryd.ntmps35
            go_upto_region 1 with fail
            change Code.wp _ _ _ _ (w.alloc (.cells (b8 key) 23))
            rw [← HW1.out]
            go_upto_region 2 with (go_at_call 81; change Calls _ _ _ (W1.alloc (.cells #[.int .i64 (i : Int)] 3)) _; rw [← HW2.out]; (with_reducible refine HM.out.mono ?_); rintro e w2 ⟨rfl, rfl⟩)
            go_wp2_with fail
            refine Rel.wp_region_rel 8 [(48, .const (.pointer (some ⟨g, 0, none⟩)))] (by kernel_rfl) (by kernel_rfl) ?_
            simp only [List.take_succ_cons, List.take_zero, List.drop_succ_cons, List.drop_zero, Act.put, List.setIfInBounds_toArray, List.set_cons_zero, List.set_cons_succ]
            repeat (refine Rel.tree_quiet rfl rfl rfl (fun K hK => ?_); go_big_quiet_op; refine hK _ ?_; clear hK K)
            refine Rel.tree_pure rfl rfl rfl (.agg (b8 key)) (fun W hW _ => Rel.exec_load _ _ rfl w.heap.size 0 rfl _ _ (Blk.range (hW.blk HK2.out.drew)) Tryd.underlying23 rfl HSK.out) ?_
            simp only [Act.put, List.setIfInBounds_toArray, List.set_cons_zero, List.set_cons_succ]
            refine Rel.tree_pure rfl rfl rfl (.agg (row (kn, key)).toArray) (fun W hW _ => Rel.exec_build _ _ rfl _ HPB.out) ?_
            simp only [Act.put, List.setIfInBounds_toArray, List.set_cons_zero, List.set_cons_succ]
            refine Rel.tree_const rfl (.pointer (some ⟨g, 0, none⟩)) rfl (fun W hW _ => ?_) ?_
            · unfold Rel.relAt; go_simp; exact ⟨Rel.Grow.refl _, rfl⟩
            simp only [Act.put, List.setIfInBounds_toArray, List.set_cons_zero, List.set_cons_succ]
            repeat (refine Rel.tree_quiet rfl rfl rfl (fun K hK => ?_); go_big_quiet_op; refine hK _ ?_; clear hK K)
            intro W hW _
            have KS := Lib.hid (hW.blk HS2.out.blk.drew)
            have HBW := Lib.hid (below_then HB2.out hW.undrew (Nat.le_refl _))
            clear hW
            go_wp2_with (refine wpList_store_frm rfl 137 (.tmp 50) (.tmp 47) rfl g (i * 33) (row (kn, key)).toArray rfl rfl 140 (slC s) KS.out HFT.out HSZ.out (all_oneCell_toArray (row_one _)) ?_; intro w7 K7 F7)
            rw [HSP.out] at K7
            go_light
            go_ret
            exact ⟨rfl, ⟨HOK.out, K7⟩, (Frm.of_below HBW.out).trans' F7 (fun x hx _ => hx)⟩
        · have HE := Lib.hid (show layE s (i : Int) kind = 13 by rw [layE, hE, if_neg (by decide), if_neg hkr, if_neg hlk, hkd, if_pos hkk])
          have HL := Lib.hid (show laySt s (i : Int) kind key = s by rw [laySt, HE.out]; rfl)
          rw [HE.out, HL.out]
          have hne : (((p.1 : Nat) : Int) != 0) = true := by rw [bne_iff_ne]; omega
          clear hE hdd hp h1 h2 hw hkd HE HL hok hkr hlk
          rcases hb33 with hl | ⟨hl, hkb1⟩
          all_goals
            rw [hl] at hcl
            clear hl
            go_enter Tryd.func35, Tryd.ntmps35
            go_upto_region 1 with fail
            change Code.wp _ _ _ _ (w.alloc (.cells (b8 key) 23))
            rw [← HW1.out]
            go_upto_region 2 with (go_at_call 81; change Calls _ _ _ (W1.alloc (.cells #[.int .i64 (i : Int)] 3)) _; rw [← HW2.out]; (with_reducible refine HM.out.mono ?_); rintro e w2 ⟨rfl, rfl⟩)
            go_wp2_with fail
            go_light
            go_ret
            exact ⟨rfl, HS2.out, HEND.out⟩
  · have HE := Lib.hid (show layE s h kind = E by rw [layE, hE, if_pos h0])
    have HL := Lib.hid (show laySt s h kind key = s by rw [laySt, HE.out, if_neg h0])
    have hne : (((E : Nat) : Int) != 0) = true := by rw [bne_iff_ne]; omega
    rw [HE.out, HL.out]
    clear hE hw HE HL hok
    go_enter Tryd.func35, Tryd.ntmps35
    go_upto_region 1 with fail
    change Code.wp _ _ _ _ (w.alloc (.cells (b8 key) 23))
    rw [← HW1.out]
    go_upto_region 2 with (go_at_call 81; change Calls _ _ _ (W1.alloc (.cells #[.int .i64 h] 3)) _; rw [← HW2.out]; (with_reducible refine HM.out.mono ?_); rintro e w2 ⟨rfl, rfl⟩)
    go_wp2_with fail
    go_light
    go_ret
    exact ⟨rfl, HS2.out, HEND.out⟩
set_option maxHeartbeats 1000000 in
theorem lay_nil (h kind : Int) (key : List Nat) (w : World) : Calls Tryd.prog 35 #[.pointer none, .int .i64 h, .int .i64 kind, .agg (b8 key)] w (IntBelow w 3) := by
  have HB := Lib.hid (((Below.refl _ w).alloc (Nat.le_refl _) (.cells (b8 key) 23)).alloc (by simp) (.cells #[.int .i64 h] 3))
  go_enter Tryd.func35, Tryd.ntmps35
  go_wp2_with fail
  (with_reducible refine (may_nil _ _ _ _).mono ?_); rintro e w2 ⟨rfl, rfl⟩
  go_wp2_with fail
  go_light
  go_ret
  exact ⟨rfl, HB.out⟩
end Slot
end Go.Proofs.YtpakdcgcgekcfaaDoor

/-
  Package sha: Digest.
-/
set_option linter.unusedSimpArgs false
set_option linter.unusedVariables false
namespace Go.Proofs.YtpakdcgcgekcfaaDoor
open Go.RowKit

namespace Otp
open Fuse R1
set_option maxRecDepth 100000 in
set_option maxHeartbeats 1000000 in
theorem digest_any (ws : List Nat) (w : World) (hl : ws.length = 8) (hw : ∀ x ∈ ws, x < 4294967296) :
    Calls Tryd.prog 72 #[.agg (c32 ws)] w (fun e w' => e = .returned (.agg (b8 (wordsB ws))) ∧ Below w.heap.size w w') := by
  have HL := Lib.hid hl
  have HW := Lib.hid hw
  have HSZ := Lib.hid (show (Tryd.prog.info? 118).map (·.size) = some (c32 ws).size by
    rw [show (c32 ws).size = 8 by simp [c32, hl]]
    kernel_rfl)
  have HK := Lib.hid (Blk.new w 118 (c32 ws))
  clear hl hw
  go_enter Tryd.func72, Tryd.ntmps72
  go_wp2_with (refine wpList_load_row rfl 118 _ rfl w.heap.size rfl 118 (c32 ws) (0, 0) _ ((HK.out.alloc _).alloc _) Tryd.underlying118 rfl HSZ.out ?_)
  obtain ⟨W2, hW2⟩ : ∃ W2, W2 = (w.alloc (.cells (c32 ws) 118)).alloc (.cells (b8 (List.replicate 32 0)) 23) := ⟨_, rfl⟩
  have HW2 := Lib.hid hW2
  clear hW2
  go_loopg [4, 5, 7] 8 (fun g s4 s5 s7 wr => ∃ i : Nat, i + g = 8 ∧ s7 = .int .i64 (i : Int) ∧ Hid (Blk wr (w.heap.size + 1 + 1) 23 (b8 (wordsB (ws.take i) ++ List.replicate (32 - 4 * i) 0))) ∧ Hid (Below (w.heap.size + 1 + 1) W2 wr))
  case atStart =>
    refine ⟨0, by omega, rfl, Lib.hid ?_, Lib.hid ?_⟩
    · exact blk_new' (by simp)
    · rw [HW2.out]
      exact (Below.refl _ _).alloc (by simp) _
  case round =>
    obtain ⟨i, hg, rfl, HD, HB⟩ := hrel
    have HG := Lib.hid hg
    have hi : i ≤ 8 := by omega
    clear hg
    by_cases hlt : i < 8
    · obtain ⟨x, hx⟩ : ∃ x, ws[i]? = some x := ⟨_, List.getElem?_eq_getElem (by have := HL.out; omega)⟩
      have hxM := HW.out x (List.mem_of_getElem? hx)
      have hix := run_index_arr (P := Tryd.prog) 118 43 8 Tryd.underlying118 (fun _ => by kernel_rfl) (fun _ => by kernel_rfl) (c32 ws) .i64 (i : Int) i rfl hlt _ (c32_at hx)
      have HX := Lib.hid hx
      have hsl := run_slice_arr_l (P := Tryd.prog) 23 5 32 Tryd.underlying23 (fun _ => by kernel_rfl) (w.heap.size + 1 + 1) (4 * i) .i64 (4 * (i : Int)) (by omega) (by omega)
      have hbl : w.heap.size + 1 + 1 ≤ wr.heap.size := Nat.le_of_lt HD.out.lt
      have HN := Lib.hid (numB_four x hxM)
      clear hx
      have hwl : (wordsB (ws.take i)).length = 4 * i := by rw [wordsB_length, List.length_take]; have := HL.out; omega
      have HWL := Lib.hid hwl
      have HC1 := Lib.hid (show (numB x 4).length = Nat.min 4 (32 - 4 * i) by rw [numB_length]; exact (Nat.min_eq_left (by omega)).symm)
      have HC3 := Lib.hid (show 4 * i + (numB x 4).length ≤ (wordsB (ws.take i) ++ List.replicate (32 - 4 * i) 0).length by simp only [numB_length, List.length_append, List.length_replicate, hwl]; omega)
      clear hwl
      go_wp2_with (refine wpList_copy_b8 rfl (.tmp 13) (.tmp 25) 53 53 rfl 5 Tryd.underlying53 (by kernel_rfl) _ _ (32 - 4 * i) (32 - 4 * i) 4 4 rfl rfl (w.heap.size + 1 + 1) (4 * i) 23 _ (HD.out.alloc _) (numB x 4) HC1.out (by exact fun _ => ⟨rfl, _, rfl, cells_new _ _ _ (by rw [HN.out]) _⟩) HC3.out (w.heap.size + 1 + 1) W2 (HB.out.alloc hbl _) (Nat.le_refl _) ?_)
      intro w3 HD3 HB3
      have HE := Lib.hid (show splice (wordsB (ws.take i) ++ List.replicate (32 - 4 * i) 0) (4 * i) (numB x 4) = wordsB (ws.take (i + 1)) ++ List.replicate (32 - 4 * (i + 1)) 0 by
        have := splice_next (wordsB (ws.take i)) (numB x 4) (32 - 4 * i) (by rw [numB_length]; omega)
        rw [HWL.out, numB_length] at this
        rw [this, take_snoc HX.out, wordsB_snoc]
        congr 2)
      rw [numB_length]
      clear HD HB HN
      go_wp2_with fail
      go_light
      go_roundg (8 - (i + 1))
      case measure => have := HG.out; omega
      case rel => exact ⟨i + 1, by have := HG.out; omega, by go_num, by rw [← HE.out]; exact HD3, HB3⟩
    · have : i = 8 := by omega
      subst this
      have HD8 : Hid (Blk wr (w.heap.size + 1 + 1) 23 (b8 (wordsB ws))) := by
        have := HD.out
        rw [List.take_of_length_le (by have := HL.out; omega), show 32 - 4 * 8 = 0 from rfl, List.replicate_zero, List.append_nil] at this
        exact Lib.hid this
      have hlw : (wordsB ws).length = 32 := by rw [wordsB_length, HL.out]
      have HS := Lib.hid (show (Tryd.prog.info? 23).map (·.size) = some (b8 (wordsB ws)).size by rw [b8_size, hlw]; exact dig_info)
      have HR : Hid (Blk wr (w.heap.size + 1) 23 (b8 (List.replicate 32 0))) := by
        have h2 := HB.out
        rw [HW2.out] at h2
        exact Lib.hid (Blk.below (blk_new' (by simp)) h2 (by omega))
      have HBB : Hid (Below w.heap.size w wr) := by
        have h2 := HB.out
        rw [HW2.out] at h2
        exact Lib.hid ((((Below.refl _ w).alloc (Nat.le_refl _) _).alloc (by simp) _).trans (h2.mono (by omega)))
      have HZ := Lib.hid (show (b8 (List.replicate 32 0)).size = (b8 (wordsB ws)).size by rw [b8_size, b8_size, hlw]; rfl)
      have HO := Lib.hid (b8_one (wordsB ws))
      clear HD HB hlw
      go_wp2_with (first | refine wpList_load_row rfl 23 _ rfl (w.heap.size + 1 + 1) rfl 23 (b8 (wordsB ws)) (0, 0) _ HD8.out Tryd.underlying23 rfl HS.out ?_ | refine wpList_store_row rfl 23 (.tmp 2) _ rfl (w.heap.size + 1) (b8 (wordsB ws)) rfl rfl 23 (b8 (List.replicate 32 0)) HR.out HS.out HZ.out HO.out ?_)
      have hb := setRow_heap _ _ _ (b8 (wordsB ws)) _ _ HR.out
      have hB := below_setRow HBB.out (show w.heap.size ≤ w.heap.size + 1 by omega) (b8 (wordsB ws))
      go_light
      exact bodyPost_ret (v := .agg (b8 (wordsB ws))) (results_cell_row Tryd.results72 _ _ (w.heap.size + 1) 23 (b8 (wordsB ws)) (0, 0) _ rfl hb Tryd.underlying23 rfl HS.out) rfl ⟨rfl, hB⟩
end Otp
end Go.Proofs.YtpakdcgcgekcfaaDoor

/-
  Package sha: a state's Sum.
-/
set_option linter.unusedSimpArgs false
set_option linter.unusedVariables false
namespace Go.Proofs.YtpakdcgcgekcfaaDoor
open Go.RowKit

namespace Sha
open Otp R1
theorem field_h (cs : Array Value) (w : World) : (Instr.field 175 (.agg cs) 0).run Tryd.prog w = .ok (.agg (cs.extract 0 8)) w := by kernel_rfl
theorem cS_words (t : List Nat) : (cS t).toArray.extract 0 8 = c32 (stH t) := by
  unfold cS c32
  apply Array.ext'
  simp [stH_length]
set_option maxRecDepth 100000 in
set_option maxHeartbeats 2000000 in
theorem sum_any (t : List Nat) (w : World) (hT : STab w) (hb : ∀ x ∈ t, x < 256) (hm : t.length ≤ 900000) :
    Calls Tryd.prog 124 #[.agg (cS t).toArray] w (fun e w' => e = .returned (.agg (b8 (sumB t))) ∧ Below w.heap.size w w') := by
  obtain ⟨n, hn⟩ : ∃ n, t.length = n := ⟨_, rfl⟩
  obtain ⟨pd, hpd⟩ : ∃ p, padB n = p := ⟨_, rfl⟩
  obtain ⟨T, hTT⟩ : ∃ T, t ++ pd = T := ⟨_, rfl⟩
  obtain ⟨hs, hhs⟩ : ∃ h, stH T = h := ⟨_, rfl⟩
  have HSB := wall (show sumB t = wordsB hs by rw [← hhs, ← hTT, ← hpd, ← hn]; rfl)
  have HPL := wall (show pd.length ≤ 72 by rw [← hpd]; exact padB_le n)
  have HPB := wall (show ∀ x ∈ pd, x < 256 by rw [← hpd]; exact padB_byte n)
  have HHL := wall (show hs.length = 8 by rw [← hhs]; exact stH_length T)
  have HHW := wall (show ∀ x ∈ hs, x < 4294967296 by rw [← hhs]; exact stH_word T)
  have HEX := wall (show (cS T).toArray.extract 0 8 = c32 hs by rw [← hhs]; exact cS_words T)
  have HTB := wall hb
  have hn9 : n ≤ 900000 := by omega
  have HN := wall hn
  have HPD := wall hpd
  have HTT := wall hTT
  have HSS := wall (show (Tryd.prog.info? 175).map (·.size) = some (cS t).toArray.size by rw [List.size_toArray, cS_length]; exact st_info)
  obtain ⟨W1, hW1⟩ : ∃ W, W = (w.alloc (.cells (cS t).toArray 175)).alloc (.cells (b8 (List.replicate 32 0)) 23) := ⟨_, rfl⟩
  have K0 := wall (show Blk W1 w.heap.size 175 (cS t).toArray by rw [hW1]; exact (Blk.new w _ _).alloc _)
  have K1 := wall (show Blk W1 (w.heap.size + 1) 23 (b8 (List.replicate 32 0)) by rw [hW1]; exact blk_new' (by simp))
  have HB := wall (show Below w.heap.size w W1 by rw [hW1]; exact ((Below.refl _ w).alloc (Nat.le_refl _) _).alloc (by simp) _)
  have HT1 := wall (hT.old HB.out)
  have hcn : W1.drew.cell? ⟨w.heap.size, 72, none⟩ = some (.int .u64 (n : Int)) := by
    have := K0.out.drew.cell 72
    rw [this]
    have h := cS_num t
    rw [hn] at h
    simpa using h
  have HW1 := wall hW1
  clear hT hb hm hn hpd hTT hhs hW1
  go_enter Tryd.func124, Tryd.ntmps124
  go_upto_region 1 with fail
  change Code.wp _ _ _ _ ((w.alloc (.cells (cS t).toArray 175)).alloc (.cells (b8 (List.replicate 32 0)) 23))
  rw [← HW1.out]
  clear HW1
  have hcr := fun d os => Go.cell_regrown hcn d os
  go_wp2_with fail
  refine Rel.wp_region_rel 7 [(6, .any (Bytes pd) Bytes.grow), (7, .const (.agg (cS T).toArray)), (9, .const (.agg (b8 (wordsB hs))))] (by kernel_rfl) (by kernel_rfl) ?_
  simp only [List.take_succ_cons, List.take_zero, List.drop_succ_cons, List.drop_zero]
  refine Rel.tree_pure rfl rfl rfl (.agg (cS t).toArray) (fun W hW _ => Rel.exec_load _ _ rfl w.heap.size 0 rfl _ _ (Blk.range (hW.blk K0.out.drew)) Tryd.underlying175 rfl HSS.out) ?_
  simp only [Act.put, List.setIfInBounds_toArray, List.set_cons_zero, List.set_cons_succ]
  repeat (refine Rel.tree_quiet rfl rfl rfl (fun K hK => ?_); go_big_quiet_op; refine hK _ ?_; clear hK K)
  refine Rel.tree_rel rfl (Bytes pd) Bytes.grow rfl (fun W hW _ => ?_) (fun v6 => ?_)
  · unfold Rel.relAt; go_simp; show Calls _ _ _ _ _
    have h := pad_any n W (by omega)
    rw [HPD.out] at h
    exact bytes_call h HPB.out
  simp only [Act.put, List.setIfInBounds_toArray, List.set_cons_zero, List.set_cons_succ]
  refine Rel.tree_const rfl (.agg (cS T).toArray) rfl (fun W hW hF => ?_) ?_
  · obtain ⟨A, c, rfl, hc, hN⟩ : Bytes pd v6 W := hF 6 (by decide)
    clear hF
    unfold Rel.relAt; go_simp; show Calls _ _ _ _ _
    have hS : STab W := HT1.out.old hW.undrew
    have h := feed_any t pd A pd.length c W hS HTB.out rfl (by have := HPL.out; have := HN.out; omega) hc hN
    rw [HTT.out] at h
    exact const_call h
  simp only [Act.put, List.setIfInBounds_toArray, List.set_cons_zero, List.set_cons_succ]
  refine Rel.tree_pure rfl rfl rfl (.agg (c32 hs)) (fun W _ _ => Rel.exec_field _ _ _ rfl (.agg (cS T).toArray) _ rfl (by rw [field_h, HEX.out])) ?_
  simp only [Act.put, List.setIfInBounds_toArray, List.set_cons_zero, List.set_cons_succ]
  refine Rel.tree_const rfl (.agg (b8 (wordsB hs))) rfl (fun W hW _ => ?_) ?_
  · unfold Rel.relAt; go_simp; show Calls _ _ _ _ _
    exact const_call (digest_any hs W HHL.out HHW.out)
  simp only [Act.put, List.setIfInBounds_toArray, List.set_cons_zero, List.set_cons_succ]
  intro W hW _
  have KR := wall (hW.blk K1.out.drew)
  have HBW := wall (show Below w.heap.size w W from below_then HB.out hW.undrew (Nat.le_refl _))
  have hwl : (wordsB hs).length = 32 := by rw [wordsB_length, HHL.out]
  have HS := wall (show (Tryd.prog.info? 23).map (·.size) = some (b8 (wordsB hs)).size by rw [b8_size, hwl]; exact dig_info)
  have HZ := wall (show (b8 (List.replicate 32 0)).size = (b8 (wordsB hs)).size by rw [b8_size, b8_size, hwl]; rfl)
  have HO := wall (b8_one (wordsB hs))
  clear hwl hcr hcn hW
  go_wp2_with (refine wpList_store_row rfl 23 (.tmp 2) _ rfl (w.heap.size + 1) (b8 (wordsB hs)) rfl rfl 23 (b8 (List.replicate 32 0)) KR.out HS.out HZ.out HO.out ?_)
  have hb := setRow_heap _ _ _ (b8 (wordsB hs)) _ _ KR.out
  have hB := below_setRow HBW.out (show w.heap.size ≤ w.heap.size + 1 by omega) (b8 (wordsB hs))
  go_light
  exact bodyPost_ret (v := .agg (b8 (wordsB hs))) (results_cell_row Tryd.results124 _ _ (w.heap.size + 1) 23 (b8 (wordsB hs)) (0, 0) _ rfl hb Tryd.underlying23 rfl HS.out) rfl ⟨by rw [HSB.out], hB⟩
end Sha
end Go.Proofs.YtpakdcgcgekcfaaDoor

/-
  Package mac: pad, num, New (keys of at most a block), Feed.
-/
set_option linter.unusedSimpArgs false
set_option linter.unusedVariables false
namespace Go.Proofs.YtpakdcgcgekcfaaDoor
open Go.RowKit

namespace Mac
open Otp R1 Sha
def BytesRet (w : World) (l : List Nat) (e : Ending) (w' : World) : Prop := ∃ v, e = .returned v ∧ Bytes l v w' ∧ Below w.heap.size w w'
theorem bytes_ret {P : Program} {f : FuncId} {args : Array Value} {W : World} {l : List Nat} (h : Calls P f args W (BytesRet W l)) : Calls P f args W (fun e w'' => ∃ v, e = .returned v ∧ Rel.Grow W w'' ∧ Bytes l v w'') :=
  h.mono fun _ _ ⟨v, he, ho, hB⟩ => ⟨v, he, hB, ho⟩
theorem bytes_blk {w : World} {g o n : Nat} {t : TypeId} {L : List Value} {l : List Nat} (h : Blk w g t L.toArray) (hb : ∀ x ∈ l, x < 256) (hc : ∀ (j : Nat) (v : Value), (v8 l)[j]? = some v → L[o + j]? = some v) (hn : l.length = n) (c : Nat) (hcap : n ≤ c) : Bytes l (.slice (some ⟨g, o, none⟩) n c) w := by
  subst hn
  refine ⟨_, c, rfl, hcap, fun i z hz => ⟨hb z (List.mem_of_getElem? hz), g, o, rfl, h.lt, ?_⟩⟩
  rw [h.cell]
  have := hc i (.int .u8 (z : Int)) (by simp [v8, hz])
  simpa using this
theorem bytes_b8 {w : World} {g n : Nat} {t : TypeId} {l : List Nat} (h : Blk w g t (b8 l)) (hb : ∀ x ∈ l, x < 256) (hn : l.length = n) : Bytes l (.slice (some ⟨g, 0, none⟩) n n) w :=
  bytes_blk (o := 0) (L := v8 l) h hb (fun j v hv => by simpa using hv) hn n (Nat.le_refl _)
set_option maxRecDepth 100000 in
set_option maxHeartbeats 2000000 in
theorem pad_to (kb : List Nat) (c : Nat) (ci : Int) (w : World) (hci : ci = c) (hk : kb.length = 64) (hb : ∀ x ∈ kb, x < 256) (hc : c < 256) :
    Calls Tryd.prog 123 #[.agg (b8 kb), .int .u8 ci] w (BytesRet w (kb.map (· ^^^ c))) := by
  subst hci
  obtain ⟨res, hres⟩ : ∃ r, kb.map (· ^^^ c) = r := ⟨_, rfl⟩
  rw [hres]
  have HRL := wall (show res.length = 64 by rw [← hres, List.length_map, hk])
  have HRB := wall (show ∀ x ∈ res, x < 256 by rw [← hres]; exact turn_byte hc hb)
  have HRA := wall (show ∀ i x, kb[i]? = some x → res[i]? = some (x ^^^ c) from fun i x h => by rw [← hres, List.getElem?_map, h]; rfl)
  have HK := wall hk
  have HKB := wall hb
  clear hk hb hres
  go_enter Tryd.func123, Tryd.ntmps123
  go_wp2_with fail
  go_loopg [5, 6] 64 (fun g s5 s6 wr => ∃ i : Nat, i + g = 64 ∧ s6 = .int .i64 (i : Int) ∧ Wall (Blk wr w.heap.size 173 (b8 (res.take i ++ kb.drop i))) ∧ Wall (Below w.heap.size w wr))
  case atStart => exact ⟨0, by omega, rfl, wall (Blk.new w _ _), wall ((Below.refl _ w).alloc (Nat.le_refl _) _)⟩
  case round =>
    obtain ⟨i, hg, rfl, K, HB⟩ := hrel
    have HG := wall hg
    have hi : i ≤ 64 := by omega
    clear hg
    by_cases hlt : i < 64
    · obtain ⟨x, hx⟩ : ∃ x, kb[i]? = some x := ⟨_, List.getElem?_eq_getElem (by have := HK.out; omega)⟩
      have hxM := HKB.out x (List.mem_of_getElem? hx)
      have htl : (res.take i).length = i := by rw [List.length_take, HRL.out]; omega
      have hcx : wr.cell? ⟨w.heap.size, i, none⟩ = some (.int .u8 (x : Int)) := by
        rw [K.out.cell]
        refine b8_at ?_
        rw [List.getElem?_append_right (by omega), htl, Nat.sub_self, List.getElem?_drop, Nat.add_zero]
        exact hx
      have hfr : wr.frozen? ⟨w.heap.size, i, none⟩ = false := K.out.frozen _
      have hxo := u8_xor_nat x c hxM hc
      have HS := wall (show (res.take i ++ kb.drop i).set i (x ^^^ c) = res.take (i + 1) ++ kb.drop (i + 1) by
        rw [take_snoc (HRA.out i x hx), List.set_append_right _ _ (by omega), htl, Nat.sub_self, List.drop_eq_getElem_cons (by have := HK.out; omega), List.set_cons_zero, List.append_assoc]
        rfl)
      have hsz := K.out.lt
      obtain ⟨y, hy⟩ : ∃ y, x ^^^ c = y := ⟨_, rfl⟩
      rw [hy] at hxo HS
      clear hx htl hy
      go_wp2_with fail
      go_light
      go_roundg (64 - (i + 1))
      case measure => have := HG.out; omega
      case rel =>
        refine ⟨i + 1, by omega, by go_num, wall ?_, wall ?_⟩
        · have := K.out.set i (.int .u8 (y : Int))
          rw [b8_set, HS.out] at this
          exact this
        · exact HB.out.setCell (p := ⟨w.heap.size, i, none⟩) (Nat.le_refl _) _
    · have hi64 : i = 64 := by omega
      have hni : ¬ ((i : Int) < 64) := by omega
      have K2 := wall (show Blk wr w.heap.size 173 (b8 res) by
        have := K.out
        rw [hi64, List.take_of_length_le (by rw [HRL.out]; omega), List.drop_of_length_le (by rw [HK.out]; omega), List.append_nil] at this
        exact this)
      clear K hi64 hlt
      go_wp2_with fail
      go_light
      go_ret
      exact ⟨_, rfl, bytes_b8 K2.out HRB.out HRL.out, HB.out⟩
set_option maxHeartbeats 1000000 in
theorem num4_any (z : Int) (n : Nat) (w : World) (hz : z = n) (hn : z ≤ 1000000) : Calls Tryd.prog 106 #[.int .i64 z] w (BytesOut w (numB n 4)) := by
  have HZ := wall hz
  have h0 : 0 ≤ z := by omega
  clear hz
  go_enter Tryd.func106, Tryd.ntmps106
  go_wp2_with fail
  go_light
  go_ret
  refine ⟨.slice (some ⟨w.heap.size, 0, none⟩) 4 4, rfl, ?_, (Below.refl _ w).alloc (Nat.le_refl _) _⟩
  have hl : (numB n 4).length = 4 := numB_length n 4
  have hc : ((numB n 4).map fun x => Value.int .u8 ((x : Nat) : Int)) = [Value.int .u8 (z / 16777216), Value.int .u8 (z / 65536), Value.int .u8 (z / 256 % 256), Value.int .u8 (z % 256)] := by
    have e1 : z / 16777216 = ((n / 256 ^ 3 % 256 : Nat) : Int) := by have := HZ.out; omega
    have e2 : z / 65536 = ((n / 256 ^ 2 % 256 : Nat) : Int) := by have := HZ.out; omega
    have e3 : z / 256 % 256 = ((n / 256 ^ 1 % 256 : Nat) : Int) := by have := HZ.out; omega
    have e4 : z % 256 = ((n / 256 ^ 0 % 256 : Nat) : Int) := by have := HZ.out; omega
    rw [e1, e2, e3, e4]
    rfl
  unfold OwnB
  rw [hc, hl]
  exact ⟨rfl, .inr ⟨w.heap.size, 4, _, rfl, Nat.le_refl _, heap_alloc_new w _, Nat.le_refl _, by decide, rfl, rfl⟩⟩
end Mac
end Go.Proofs.YtpakdcgcgekcfaaDoor

/-
  Package mac: New (keys of at most a block), Feed, Mac.Sum.
-/
set_option linter.unusedSimpArgs false
set_option linter.unusedVariables false
namespace Go.Proofs.YtpakdcgcgekcfaaDoor
open Go.RowKit

namespace Mac
open Otp R1 Sha
/-- The cells of a sum by a key. -/
def mC (a b : List Nat) : List Value := cS a ++ cS b
theorem mC_length (a b : List Nat) : (mC a b).length = 146 := by unfold mC; rw [List.length_append, cS_length, cS_length]
theorem mC_one (a b : List Nat) : ∀ v ∈ mC a b, v.oneCell' = true := fun v hv => by
  unfold mC at hv
  rcases List.mem_append.1 hv with h | h
  · exact cS_one a v h
  · exact cS_one b v h
def zM : List Value := zS ++ zS
theorem mac_info : (Tryd.prog.info? 177).map (·.size) = some 146 := by kernel_rfl
theorem mac_built (x y : List Value) (hx : x.length = 73) (hy : y.length = 73) : Tryd.prog.built 177 [(0, .agg x.toArray), (1, .agg y.toArray)] = some (x ++ y).toArray := by
  have h : Tryd.prog.built 177 [(0, .agg x.toArray), (1, .agg y.toArray)] = Instr.fill ((#[(0, 73), (73, 73)] : Array (Nat × Nat))[·]?) zM.toArray [(0, .agg x.toArray), (1, .agg y.toArray)] := by kernel_rfl
  have hz : zM.length = 146 := rfl
  rw [h, fill_part _ zM 0 x _ 0 (by rw [hx]; rfl) (by rw [hx, hz]; decide), fill_part _ _ 1 y _ 73 (by rw [hy]; rfl) (by rw [length_splice _ _ _ (by rw [hx, hz]; decide), hy, hz]; decide)]
  rw [Instr.fill, show (73 : Nat) = x.length from hx.symm, splice_two zM x y (by rw [hz, hx, hy])]
theorem run_slice_arr_all {P : Program} (t e : TypeId) (N : Nat) (ht : P.underlying t = some (.array N e)) (hs : ∀ w, (sizeOf e).run P w = .ok 1 w) (b o : Nat) (h3 : 0 < N) (w : World) :
    (Instr.sliceAt t (.pointer (some ⟨b, o, none⟩)) none none none).run P w = .ok (.slice (some ⟨b, o, none⟩) N N) w := by
  have hn : P.arrayLen t = N := by simp [Program.arrayLen, ht]
  have he : P.elem t = e := by simp [Program.elem, ht]
  have ht' : P.underlying t = some (.array (P.arrayLen t) (P.elem t)) := by rw [hn, he]; exact ht
  rw [run_sliceAt_array_all w t ⟨b, o, none⟩ ht', he, hs, hn]
  have hne : ¬ N = 0 := by omega
  simp [Result.andThen, slicedAt, hne, Go.WideShapes.add_plain]
set_option maxRecDepth 100000 in
set_option maxHeartbeats 4000000 in
theorem mnew_any (k : List Nat) (A : Option Addr) (len cap : Nat) (w : World) (hT : STab w) (hl : k.length = len) (h64 : len ≤ 64) (hz : Nats .u8 256 w w.heap.size A k) :
    Calls Tryd.prog 104 #[.slice A len cap] w (fun e w' => e = .returned (.agg (mC ((keyB k).map (· ^^^ 54)) ((keyB k).map (· ^^^ 92))).toArray) ∧ Below w.heap.size w w') := by
  obtain ⟨kb, hkb⟩ : ∃ b, keyB k = b := ⟨_, rfl⟩
  obtain ⟨p1, hp1⟩ : ∃ b, kb.map (· ^^^ 54) = b := ⟨_, rfl⟩
  obtain ⟨p2, hp2⟩ : ∃ b, kb.map (· ^^^ 92) = b := ⟨_, rfl⟩
  rw [hkb, hp1, hp2]
  have HKB := wall (show ∀ x ∈ k, x < 256 from fun x hx => by
    obtain ⟨i, hi⟩ := List.mem_iff_getElem?.1 hx
    exact (hz i x hi).1)
  have HBL := wall (show kb.length = 64 by rw [← hkb]; exact keyB_length k)
  have HBB := wall (show ∀ x ∈ kb, x < 256 by rw [← hkb]; exact keyB_byte HKB.out)
  have HP1 := wall (show p1.length = 64 by rw [← hp1, List.length_map]; exact HBL.out)
  have HP2 := wall (show p2.length = 64 by rw [← hp2, List.length_map]; exact HBL.out)
  have HPA1 := wall (fun W => pad_to kb 54 54 W rfl HBL.out HBB.out (by decide))
  have HPA2 := wall (fun W => pad_to kb 92 92 W rfl HBL.out HBB.out (by decide))
  rw [hp1] at HPA1
  rw [hp2] at HPA2
  have HCP := wall (show splice (v8 (List.replicate 64 0)) 0 (v8 k) = v8 kb by
    rw [← hkb, keyB, if_neg (by omega)]
    unfold splice
    rw [List.take_zero, List.nil_append, v8_append, v8_length, hl, Nat.zero_add, v8, v8, v8, ← List.map_drop, List.drop_replicate])
  have HKL := wall (show (v8 k).length = len by rw [v8_length]; exact hl)
  have HT := wall hT
  have HN := wall hz
  have hN0 : 0 < len → ∃ b off, A = some ⟨b, off, none⟩ := fun h => by
    obtain ⟨x, hx⟩ : ∃ x, k[0]? = some x := ⟨_, List.getElem?_eq_getElem (by omega)⟩
    obtain ⟨_, b, off, h, _⟩ := hz 0 x hx
    exact ⟨b, off, h⟩
  have HN0 := wall hN0
  have HSB := wall (show (Tryd.prog.info? 173).map (·.size) = some (b8 kb).size by rw [b8_size, HBL.out]; exact blk64_info)
  clear hkb hp1 hp2 hT hz hl hN0
  obtain ⟨W1, hW1⟩ : ∃ W, W = (w.alloc (.cells zM.toArray 177)).alloc (.cells (v8 (List.replicate 64 0)).toArray 173) := ⟨_, rfl⟩
  have K0 := wall (show Blk W1 w.heap.size 177 zM.toArray by rw [hW1]; exact (Blk.new w _ _).alloc _)
  have K1 := wall (show Blk W1 (w.heap.size + 1) 173 (v8 (List.replicate 64 0)).toArray by rw [hW1]; exact blk_new' (by simp))
  have HB := wall (show Below w.heap.size w W1 by rw [hW1]; exact ((Below.refl _ w).alloc (Nat.le_refl _) _).alloc (by simp) _)
  have HW1 := wall hW1
  clear hW1
  have hsl := run_slice_arr_all (P := Tryd.prog) 173 5 64 Tryd.underlying173 (fun _ => by kernel_rfl) (w.heap.size + 1) 0 (by decide)
  have hni : ¬ ((len : Int) > 64) := by omega
  go_enter Tryd.func104, Tryd.ntmps104
  go_upto_region 2 with fail
  change Code.wp _ _ _ _ ((w.alloc (.cells zM.toArray 177)).alloc (.cells (v8 (List.replicate 64 0)).toArray 173))
  rw [← HW1.out]
  clear HW1
  go_upto_region 6 with (refine wpList_copy_frm rfl (.tmp 12) (.tmp 13) 53 53 rfl 5 Tryd.underlying53 u8_size _ _ 64 64 len cap rfl rfl (w.heap.size + 1) 0 173 _ K1.out (v8 k) len HKL.out (Nat.min_eq_left h64).symm (fun h => ⟨rfl, by obtain ⟨b, off, hA⟩ := HN0.out h; exact ⟨⟨b, off, none⟩, hA, fun j v hv => by obtain ⟨ad, h1, h2⟩ := nats_src (HN.out.below HB.out) j v hv; rw [hA] at h1; cases h1; exact h2⟩⟩) (by rw [v8_length, List.length_replicate]; omega) (fun v hv => by obtain ⟨_, _, rfl⟩ := List.mem_map.1 hv; rfl) ?_; intro w4 hK4 hF4)
  rw [HCP.out] at hK4
  have K14 := wall (show Blk w4 (w.heap.size + 1) 173 (b8 kb) from hK4)
  have K04 := wall (K0.out.frm hF4 (by simp))
  have HB4 := wall (Below.frm HB.out hF4 (Nat.le_refl _) (by simp))
  have HT4 := wall (HT.out.old HB4.out)
  clear hK4 hF4 K0 K1 HB hsl
  refine Rel.wp_region_rel 9 [(15, .const (.agg (cS []).toArray)), (17, .any (Bytes p1) Bytes.grow), (18, .const (.agg (cS p1).toArray)), (19, .const (.agg (cS []).toArray)), (21, .any (Bytes p2) Bytes.grow), (22, .const (.agg (cS p2).toArray))] (by kernel_rfl) (by kernel_rfl) ?_
  simp only [List.take_succ_cons, List.take_zero, List.drop_succ_cons, List.drop_zero]
  refine Rel.tree_const rfl (.agg (cS []).toArray) rfl (fun W hW _ => ?_) ?_
  · unfold Rel.relAt; go_simp; show Calls _ _ _ _ _
    exact const_call (new_any W (HT4.out.old hW.undrew))
  simp only [Act.put, List.setIfInBounds_toArray, List.set_cons_zero, List.set_cons_succ]
  refine Rel.tree_pure rfl rfl rfl (.agg (b8 kb)) (fun W hW _ => Rel.exec_load _ _ rfl (w.heap.size + 1) 0 rfl _ _ (Blk.range (hW.blk K14.out.drew)) Tryd.underlying173 rfl HSB.out) ?_
  simp only [Act.put, List.setIfInBounds_toArray, List.set_cons_zero, List.set_cons_succ]
  refine Rel.tree_rel rfl (Bytes p1) Bytes.grow rfl (fun W hW _ => ?_) (fun v17 => ?_)
  · unfold Rel.relAt; go_simp; show Calls _ _ _ _ _
    exact bytes_ret (HPA1.out W)
  simp only [Act.put, List.setIfInBounds_toArray, List.set_cons_zero, List.set_cons_succ]
  refine Rel.tree_const rfl (.agg (cS p1).toArray) rfl (fun W hW hF => ?_) ?_
  · obtain ⟨A2, c, rfl, hc, hN⟩ : Bytes p1 v17 W := hF 17 (by decide)
    clear hF
    unfold Rel.relAt; go_simp; show Calls _ _ _ _ _
    exact const_call (feed_any [] p1 A2 p1.length c W (HT4.out.old hW.undrew) (by simp) rfl (by have := HP1.out; simp; omega) hc hN)
  simp only [Act.put, List.setIfInBounds_toArray, List.set_cons_zero, List.set_cons_succ]
  refine Rel.tree_const rfl (.agg (cS []).toArray) rfl (fun W hW _ => ?_) ?_
  · unfold Rel.relAt; go_simp; show Calls _ _ _ _ _
    exact const_call (new_any W (HT4.out.old hW.undrew))
  simp only [Act.put, List.setIfInBounds_toArray, List.set_cons_zero, List.set_cons_succ]
  refine Rel.tree_pure rfl rfl rfl (.agg (b8 kb)) (fun W hW _ => Rel.exec_load _ _ rfl (w.heap.size + 1) 0 rfl _ _ (Blk.range (hW.blk K14.out.drew)) Tryd.underlying173 rfl HSB.out) ?_
  simp only [Act.put, List.setIfInBounds_toArray, List.set_cons_zero, List.set_cons_succ]
  refine Rel.tree_rel rfl (Bytes p2) Bytes.grow rfl (fun W hW _ => ?_) (fun v21 => ?_)
  · unfold Rel.relAt; go_simp; show Calls _ _ _ _ _
    exact bytes_ret (HPA2.out W)
  simp only [Act.put, List.setIfInBounds_toArray, List.set_cons_zero, List.set_cons_succ]
  refine Rel.tree_const rfl (.agg (cS p2).toArray) rfl (fun W hW hF => ?_) ?_
  · obtain ⟨A2, c, rfl, hc, hN⟩ : Bytes p2 v21 W := hF 21 (by decide)
    clear hF
    unfold Rel.relAt; go_simp; show Calls _ _ _ _ _
    exact const_call (feed_any [] p2 A2 p2.length c W (HT4.out.old hW.undrew) (by simp) rfl (by have := HP2.out; simp; omega) hc hN)
  simp only [Act.put, List.setIfInBounds_toArray, List.set_cons_zero, List.set_cons_succ]
  refine Rel.tree_pure rfl rfl rfl (.agg (mC p1 p2).toArray) (fun W hW _ => Rel.exec_build _ _ rfl _ (mac_built (cS p1) (cS p2) (cS_length _) (cS_length _))) ?_
  simp only [Act.put, List.setIfInBounds_toArray, List.set_cons_zero, List.set_cons_succ]
  intro W hW _
  have KR := wall (hW.blk K04.out.drew)
  have HBW := wall (below_then HB4.out hW.undrew (Nat.le_refl _))
  have HS := wall (show (Tryd.prog.info? 177).map (·.size) = some (mC p1 p2).toArray.size by rw [List.size_toArray, mC_length]; exact mac_info)
  have HZ := wall (show zM.toArray.size = (mC p1 p2).toArray.size by rw [List.size_toArray, List.size_toArray, mC_length]; rfl)
  have HO := wall (all_oneCell_toArray (mC_one p1 p2))
  clear hW
  go_wp2_with (refine wpList_store_row rfl 177 (.tmp 2) _ rfl w.heap.size (mC p1 p2).toArray rfl rfl 177 zM.toArray KR.out HS.out HZ.out HO.out ?_)
  have hb := setRow_heap _ _ _ (mC p1 p2).toArray _ _ KR.out
  have hB := below_setRow HBW.out (Nat.le_refl _) (mC p1 p2).toArray
  go_light
  exact bodyPost_ret (v := .agg (mC p1 p2).toArray) (results_cell_row Tryd.results104 _ _ w.heap.size 177 (mC p1 p2).toArray (0, 0) _ rfl hb Tryd.underlying177 rfl HS.out) rfl ⟨rfl, hB⟩
end Mac
end Go.Proofs.YtpakdcgcgekcfaaDoor

/-
  Package mac: Feed, Sum of a sum by a key.
-/
set_option linter.unusedSimpArgs false
set_option linter.unusedVariables false
namespace Go.Proofs.YtpakdcgcgekcfaaDoor
open Go.RowKit

namespace Mac
open Otp R1 Sha
def MFeedOut (w : World) (a b : List Nat) (e : Ending) (w' : World) : Prop := e = .returned (.agg (mC a b).toArray) ∧ Below w.heap.size w w'
set_option maxRecDepth 100000 in
set_option maxHeartbeats 4000000 in
theorem mfeed_any (a b p : List Nat) (A : Option Addr) (len cap : Nat) (w : World) (hT : STab w) (ha : ∀ x ∈ a, x < 256) (hpl : p.length = len) (hm : a.length + p.length ≤ 1000000) (hc : len ≤ cap) (hz : Nats .u8 256 w w.heap.size A p) :
    Calls Tryd.prog 105 #[.agg (mC a b).toArray, .slice A len cap] w (MFeedOut w (a ++ p) b) := by
  obtain ⟨W1, hW1⟩ : ∃ W, W = (w.alloc (.cells (mC a b).toArray 177)).alloc (.cells zM.toArray 177) := ⟨_, rfl⟩
  have K0 := wall (show Blk W1 w.heap.size 177 (mC a b).toArray by rw [hW1]; exact (Blk.new w _ _).alloc _)
  have K1 := wall (show Blk W1 (w.heap.size + 1) 177 zM.toArray by rw [hW1]; exact blk_new' (by simp))
  have HB := wall (show Below w.heap.size w W1 by rw [hW1]; exact ((Below.refl _ w).alloc (Nat.le_refl _) _).alloc (by simp) _)
  have HW1 := wall hW1
  have HF := wall (feed_any a p A len cap W1 (hT.old HB.out) ha hpl hm hc ((hz.below HB.out).more HB.out.size))
  have HR := wall (show W1.rangeAt w.heap.size 0 (cS a).toArray.toList from K0.out.rangeAt 0 _ (fun j v hv => by
    rw [Nat.zero_add, mC, List.getElem?_append_left (List.getElem?_eq_some_iff.1 hv).1]
    exact hv))
  have HS1 := wall (show (Tryd.prog.info? 175).map (·.size) = some (cS a).toArray.size by rw [List.size_toArray, cS_length]; exact st_info)
  have HS2 := wall (show (Tryd.prog.info? 175).map (·.size) = some (cS (a ++ p)).toArray.size by rw [List.size_toArray, cS_length]; exact st_info)
  have HFT := wall (show 0 + (cS (a ++ p)).toArray.size ≤ (mC a b).length by rw [List.size_toArray, cS_length, mC_length]; decide)
  have HSP := wall (show splice (mC a b) 0 (cS (a ++ p)).toArray.toList = mC (a ++ p) b by
    unfold splice mC
    rw [List.take_zero, List.nil_append, List.toList_toArray, List.drop_append, List.drop_of_length_le (by rw [cS_length, cS_length]; decide), List.nil_append, cS_length, cS_length, show 0 + 73 - 73 = 0 from rfl, List.drop_zero])
  clear hW1 hT hz hm ha
  go_enter Tryd.func105, Tryd.ntmps105
  go_upto_region 1 with fail
  change Code.wp _ _ _ _ ((w.alloc (.cells (mC a b).toArray 177)).alloc (.cells zM.toArray 177))
  rw [← HW1.out]
  clear HW1
  go_wp2_with (refine wpList_load_arr rfl 175 (.tmp 5) rfl w.heap.size 0 rfl (cS a).toArray _ HR.out Tryd.underlying175 rfl HS1.out ?_)
  (with_reducible refine HF.out.mono ?_); rintro e w6 ⟨rfl, hB6⟩
  have K6 := wall (K0.out.next hB6 rfl)
  have K16 := wall (K1.out.next hB6 rfl)
  have HB6 := wall (below_then HB.out hB6 (Nat.le_refl _))
  clear hB6 K0 K1 HB HF HR
  go_upto_region 2 with (refine wpList_store_frm rfl 175 (.tmp 9) (.tmp 8) rfl w.heap.size 0 (cS (a ++ p)).toArray rfl rfl 177 (mC a b) K6.out HFT.out HS2.out (all_oneCell_toArray (cS_one _)) ?_; intro w7 K7 F7)
  rw [HSP.out] at K7
  have K07 := wall K7
  have K17 := wall (K16.out.frm F7 (by simp))
  have HB7 := wall (Below.frm HB6.out F7 (Nat.le_refl _) (by simp))
  clear K7 F7 K6 K16 HB6
  have HS := wall (show (Tryd.prog.info? 177).map (·.size) = some (mC (a ++ p) b).toArray.size by rw [List.size_toArray, mC_length]; exact mac_info)
  have HZ := wall (show zM.toArray.size = (mC (a ++ p) b).toArray.size by rw [List.size_toArray, List.size_toArray, mC_length]; rfl)
  have HO := wall (all_oneCell_toArray (mC_one (a ++ p) b))
  go_wp2_with (first | refine wpList_load_row rfl 177 _ rfl w.heap.size rfl 177 (mC (a ++ p) b).toArray (0, 0) _ K07.out Tryd.underlying177 rfl HS.out ?_ | refine wpList_store_row rfl 177 (.tmp 4) _ rfl (w.heap.size + 1) (mC (a ++ p) b).toArray rfl rfl 177 zM.toArray K17.out HS.out HZ.out HO.out ?_)
  have hb := setRow_heap _ _ _ (mC (a ++ p) b).toArray _ _ K17.out
  have hB := below_setRow HB7.out (show w.heap.size ≤ w.heap.size + 1 by omega) (mC (a ++ p) b).toArray
  go_light
  exact bodyPost_ret (v := .agg (mC (a ++ p) b).toArray) (results_cell_row Tryd.results105 _ _ (w.heap.size + 1) 177 (mC (a ++ p) b).toArray (0, 0) _ rfl hb Tryd.underlying177 rfl HS.out) rfl ⟨rfl, hB⟩
set_option maxRecDepth 100000 in
set_option maxHeartbeats 4000000 in
theorem msum_any (a b : List Nat) (w : World) (hT : STab w) (ha : ∀ x ∈ a, x < 256) (hb : ∀ x ∈ b, x < 256) (hma : a.length ≤ 900000) (hmb : b.length ≤ 800000) :
    Calls Tryd.prog 107 #[.agg (mC a b).toArray] w (fun e w' => e = .returned (.agg (b8 (sumB (b ++ sumB a)))) ∧ Below w.heap.size w w') := by
  obtain ⟨d, hd⟩ : ∃ d, sumB a = d := ⟨_, rfl⟩
  obtain ⟨r, hr⟩ : ∃ x, sumB (b ++ d) = x := ⟨_, rfl⟩
  obtain ⟨W1, hW1⟩ : ∃ W, W = (w.alloc (.cells (mC a b).toArray 177)).alloc (.cells (b8 (List.replicate 32 0)) 23) := ⟨_, rfl⟩
  have K0 := wall (show Blk W1 w.heap.size 177 (mC a b).toArray by rw [hW1]; exact (Blk.new w _ _).alloc _)
  have K1 := wall (show Blk W1 (w.heap.size + 1) 23 (b8 (List.replicate 32 0)) by rw [hW1]; exact blk_new' (by simp))
  have HB := wall (show Below w.heap.size w W1 by rw [hW1]; exact ((Below.refl _ w).alloc (Nat.le_refl _) _).alloc (by simp) _)
  have HW1 := wall hW1
  have HF := wall (sum_any a W1 (hT.old HB.out) ha hma)
  rw [hd] at HF
  have HDL := wall (show d.length = 32 by rw [← hd]; exact sumB_length _)
  have HDB := wall (show ∀ x ∈ d, x < 256 by rw [← hd]; exact sumB_byte _)
  have HRE := wall (show sumB (b ++ sumB a) = r by rw [hd]; exact hr)
  have HRL := wall (show r.length = 32 by rw [← hr]; exact sumB_length _)
  have HR0 := wall (show W1.rangeAt w.heap.size 0 (cS a).toArray.toList from K0.out.rangeAt 0 _ (fun j v hv => by
    rw [Nat.zero_add, mC, List.getElem?_append_left (List.getElem?_eq_some_iff.1 hv).1]
    exact hv))
  have HS1 := wall (show (Tryd.prog.info? 175).map (·.size) = some (cS a).toArray.size by rw [List.size_toArray, cS_length]; exact st_info)
  have HS2 := wall (show (Tryd.prog.info? 175).map (·.size) = some (cS b).toArray.size by rw [List.size_toArray, cS_length]; exact st_info)
  have HSD := wall (show (Tryd.prog.info? 23).map (·.size) = some (b8 d).size by rw [b8_size, HDL.out]; exact dig_info)
  have HSR := wall (show (Tryd.prog.info? 23).map (·.size) = some (b8 r).size by rw [b8_size, HRL.out]; exact dig_info)
  have HZD := wall (show (b8 (List.replicate 32 0)).size = (b8 d).size by rw [b8_size, b8_size, HDL.out]; rfl)
  have HZR := wall (show (b8 (List.replicate 32 0)).size = (b8 r).size by rw [b8_size, b8_size, HRL.out]; rfl)
  have HTB := wall (show ∀ x ∈ b ++ d, x < 256 from fun x hx => by
    rcases List.mem_append.1 hx with h | h
    · exact hb x h
    · exact HDB.out x h)
  have HT := wall hT
  have HBB := wall hb
  have HRR := wall hr
  clear hW1 hT ha hb hma hd hr
  go_enter Tryd.func107, Tryd.ntmps107
  go_upto_region 1 with fail
  change Code.wp _ _ _ _ ((w.alloc (.cells (mC a b).toArray 177)).alloc (.cells (b8 (List.replicate 32 0)) 23))
  rw [← HW1.out]
  clear HW1
  go_wp2_with (refine wpList_load_arr rfl 175 (.tmp 4) rfl w.heap.size 0 rfl (cS a).toArray _ HR0.out Tryd.underlying175 rfl HS1.out ?_)
  (with_reducible refine HF.out.mono ?_); rintro e w6 ⟨rfl, hB6⟩
  have K6 := wall (K0.out.next hB6 rfl)
  have K16 := wall (K1.out.next hB6 rfl)
  have HB6 := wall (below_then HB.out hB6 (Nat.le_refl _))
  clear hB6 K0 K1 HB HF HR0
  go_upto_region 2 with (refine wpList_new_row rfl 23 (.tmp 3) (.tmp 6) rfl w6.heap.size (b8 d) rfl rfl 23 (b8 (List.replicate 32 0)) (Blk.new _ _ _) HSD.out HZD.out (b8_one _) w6.heap.size w6 ((Below.refl _ w6).alloc (Nat.le_refl _) _) (Nat.le_refl _) ?_; intro w7 KD hB7)
  have hw6 : w.heap.size + 1 < w6.heap.size := K16.out.lt
  have KD := wall (show Blk w7 w6.heap.size 23 (b8 d) from KD.out)
  have K7 := wall (K6.out.next hB7 rfl)
  have K17 := wall (K16.out.next hB7 rfl)
  have HB7 := wall (below_then HB6.out hB7 (Nat.le_refl _))
  have HT7 := wall (HT.out.old HB7.out)
  clear hB7 K6 K16 HB6
  generalize w6.heap.size = gD at *
  have hsl := run_slice_arr_all (P := Tryd.prog) 23 5 32 Tryd.underlying23 (fun _ => by kernel_rfl) gD 0 (by decide)
  go_wp2_with fail
  refine Rel.wp_region_rel 5 [(10, .const (.agg (cS (b ++ d)).toArray)), (11, .const (.agg (b8 r)))] (by kernel_rfl) (by kernel_rfl) ?_
  simp only [List.take_succ_cons, List.take_zero, List.drop_succ_cons, List.drop_zero, Act.put, List.setIfInBounds_toArray, List.set_cons_zero, List.set_cons_succ]
  (refine Rel.tree_quiet rfl rfl rfl (fun K hK => ?_); go_big_quiet_op; refine hK _ ?_; clear hK K)
  refine Rel.tree_pure rfl rfl rfl (.agg (cS b).toArray) (fun W hW _ => Rel.exec_load _ _ rfl w.heap.size 73 rfl _ _ ((hW.blk K7.out.drew).rangeAt 73 _ (fun j v hv => by
    rw [mC, List.getElem?_append_right (by rw [cS_length]; omega), cS_length, show 73 + j - 73 = j by omega]
    exact hv)) Tryd.underlying175 rfl HS2.out) ?_
  simp only [Act.put, List.setIfInBounds_toArray, List.set_cons_zero, List.set_cons_succ]
  (refine Rel.tree_quiet rfl rfl rfl (fun K hK => ?_); go_big_quiet_op; refine hK _ ?_; clear hK K)
  refine Rel.tree_const rfl (.agg (cS (b ++ d)).toArray) rfl (fun W hW _ => ?_) ?_
  · unfold Rel.relAt; go_simp; show Calls _ _ _ _ _
    exact const_call (feed_any b d _ 32 32 W (HT7.out.old hW.undrew) HBB.out HDL.out (by have := HDL.out; omega) (Nat.le_refl _) (nats_b8 (hW.blk KD.out.drew) HDB.out))
  simp only [Act.put, List.setIfInBounds_toArray, List.set_cons_zero, List.set_cons_succ]
  refine Rel.tree_const rfl (.agg (b8 r)) rfl (fun W hW _ => ?_) ?_
  · unfold Rel.relAt; go_simp; show Calls _ _ _ _ _
    have h := sum_any (b ++ d) W (HT7.out.old hW.undrew) HTB.out (by rw [List.length_append, HDL.out]; omega)
    rw [HRR.out] at h
    exact const_call h
  simp only [Act.put, List.setIfInBounds_toArray, List.set_cons_zero, List.set_cons_succ]
  intro W hW _
  have KR := wall (hW.blk K17.out.drew)
  have HBW := wall (below_then HB7.out hW.undrew (Nat.le_refl _))
  clear hW hsl
  go_wp2_with (refine wpList_store_row rfl 23 (.tmp 2) _ rfl (w.heap.size + 1) (b8 r) rfl rfl 23 (b8 (List.replicate 32 0)) KR.out HSR.out HZR.out (b8_one _) ?_)
  have hb := setRow_heap _ _ _ (b8 r) _ _ KR.out
  have hB := below_setRow HBW.out (show w.heap.size ≤ w.heap.size + 1 by omega) (b8 r)
  go_light
  exact bodyPost_ret (v := .agg (b8 r)) (results_cell_row Tryd.results107 _ _ (w.heap.size + 1) 23 (b8 r) (0, 0) _ rfl hb Tryd.underlying23 rfl HSR.out) rfl ⟨by rw [HRE.out], hB⟩
end Mac
end Go.Proofs.YtpakdcgcgekcfaaDoor

/-
  Package mac: Sum and Derive (keys of at most a block).
-/
set_option linter.unusedSimpArgs false
set_option linter.unusedVariables false
namespace Go.Proofs.YtpakdcgcgekcfaaDoor
open Go.RowKit

namespace Mac
open Otp R1 Sha
def ipad (k : List Nat) : List Nat := (keyB k).map (· ^^^ 54)
def opad (k : List Nat) : List Nat := (keyB k).map (· ^^^ 92)
theorem ipad_length (k : List Nat) : (ipad k).length = 64 := by unfold ipad; rw [List.length_map]; exact keyB_length k
theorem opad_length (k : List Nat) : (opad k).length = 64 := by unfold opad; rw [List.length_map]; exact keyB_length k
theorem macB_pads (k p : List Nat) : macB k p = sumB (opad k ++ sumB (ipad k ++ p)) := rfl
theorem flatten_take_snoc {ps : List (List Nat)} {i : Nat} {p : List Nat} (h : ps[i]? = some p) : (ps.take (i + 1)).flatten = (ps.take i).flatten ++ p := by rw [take_snoc h]; simp
theorem flatten_take_le : ∀ (ps : List (List Nat)) (i : Nat), (ps.take i).flatten.length ≤ ps.flatten.length
  | [], i => by simp
  | p :: ps, 0 => by simp
  | p :: ps, i + 1 => by have := flatten_take_le ps i; simp only [List.take_succ_cons, List.flatten_cons, List.length_append]; omega
theorem mem_flatten_le {ps : List (List Nat)} {i : Nat} {p : List Nat} (h : ps[i]? = some p) : (ps.take i).flatten.length + p.length ≤ ps.flatten.length := by
  have h1 := flatten_take_le ps (i + 1)
  rw [flatten_take_snoc h, List.length_append] at h1
  exact h1
def DigOut (w : World) (d : List Nat) (e : Ending) (w' : World) : Prop := e = .returned (.agg (b8 d)) ∧ Below w.heap.size w w'
theorem bytesN_byte {w : World} {B : Nat} {p : List Nat} {v : Value} (h : BytesN w B p v) : ∀ x ∈ p, x < 256 := fun x hx => by
  obtain ⟨A, c, _, _, _, hN⟩ := h
  obtain ⟨i, hi⟩ := List.mem_iff_getElem?.1 hx
  exact (hN i x hi).1
theorem parts_byte {w : World} {B : Nat} {A : Option Addr} {ps : List (List Nat)} (h : Parts w B A ps) : ∀ x ∈ ps.flatten, x < 256 := fun x hx => by
  obtain ⟨p, hp, hx⟩ := List.mem_flatten.1 hx
  obtain ⟨i, hi⟩ := List.mem_iff_getElem?.1 hp
  obtain ⟨_, _, _, _, _, _, h4⟩ := h i p hi
  exact bytesN_byte h4 x hx
set_option maxRecDepth 100000 in
set_option maxHeartbeats 4000000 in
theorem macsum_any (k : List Nat) (A : Option Addr) (len cap : Nat) (ps : List (List Nat)) (PA : Option Addr) (pn pc : Nat) (w : World) (hT : STab w) (hl : k.length = len) (h64 : len ≤ 64) (hz : Nats .u8 256 w w.heap.size A k) (hkb : ∀ x ∈ k, x < 256)
    (hpn : ps.length = pn) (hpm : pn ≤ 1000000) (hP : Parts w w.heap.size PA ps) (hm : ps.flatten.length ≤ 500000) :
    Calls Tryd.prog 85 #[.slice A len cap, .slice PA pn pc] w (DigOut w (macB k ps.flatten)) := by
  subst hpn
  have HNEW := wall (fun W (h1 : STab W) (h2 : Nats .u8 256 W W.heap.size A k) => mnew_any k A len cap W h1 hl h64 h2)
  obtain ⟨ip, hip⟩ : ∃ x, ipad k = x := ⟨_, rfl⟩
  obtain ⟨op, hop⟩ : ∃ x, opad k = x := ⟨_, rfl⟩
  obtain ⟨r, hr⟩ : ∃ x, macB k ps.flatten = x := ⟨_, rfl⟩
  rw [hr]
  change Wall (∀ W, STab W → Nats .u8 256 W W.heap.size A k → Calls Tryd.prog 104 #[.slice A len cap] W (fun e w' => e = .returned (.agg (mC (ipad k) (opad k)).toArray) ∧ Below W.heap.size W w')) at HNEW
  rw [hip, hop] at HNEW
  have HIL := wall (show ip.length = 64 by rw [← hip]; exact ipad_length k)
  have HOL := wall (show op.length = 64 by rw [← hop]; exact opad_length k)
  have HIB := wall (show ∀ x ∈ ip, x < 256 by rw [← hip]; exact turn_byte (by decide) (keyB_byte hkb))
  have HOB := wall (show ∀ x ∈ op, x < 256 by rw [← hop]; exact turn_byte (by decide) (keyB_byte hkb))
  have HR := wall (show sumB (op ++ sumB (ip ++ ps.flatten)) = r by rw [← hr, macB_pads, hip, hop])
  have HRL := wall (show r.length = 32 by rw [← hr]; exact macB_length _ _)
  have HT := wall hT
  have HN := wall hz
  have HP := wall hP
  have HM := wall hm
  have HPB := wall (parts_byte hP)
  have HSM := fun x y => wall (show (Tryd.prog.info? 177).map (·.size) = some (mC x y).toArray.size by rw [List.size_toArray, mC_length]; exact mac_info)
  clear hT hz hP hm hip hop hr hkb
  obtain ⟨W1, hW1⟩ : ∃ W, W = w.alloc (.cells (b8 (List.replicate 32 0)) 23) := ⟨_, rfl⟩
  have K0 := wall (show Blk W1 w.heap.size 23 (b8 (List.replicate 32 0)) by rw [hW1]; exact Blk.new _ _ _)
  have HB := wall (show Below w.heap.size w W1 by rw [hW1]; exact (Below.refl _ w).alloc (Nat.le_refl _) _)
  have HW1 := wall hW1
  clear hW1
  go_enter Tryd.func85, Tryd.ntmps85
  go_upto_region 1 with fail
  change Code.wp _ _ _ _ (w.alloc (.cells (b8 (List.replicate 32 0)) 23))
  rw [← HW1.out]
  clear HW1
  go_wp2_with fail
  (with_reducible refine (HNEW.out _ (HT.out.old HB.out) ((HN.out.below HB.out).more HB.out.size)).mono ?_); rintro e w2 ⟨rfl, hB2⟩
  have K2 := wall (K0.out.next hB2 rfl)
  have HB2 := wall (below_then HB.out hB2 (Nat.le_refl _))
  clear hB2 K0 HB HNEW HN
  have HZM := wall (show zM.toArray.size = (mC ip op).toArray.size by rw [List.size_toArray, List.size_toArray, mC_length]; rfl)
  go_upto_region 2 with (refine wpList_new_row rfl 177 (.tmp 5) (.tmp 9) rfl w2.heap.size (mC ip op).toArray rfl rfl 177 zM.toArray (Blk.new _ _ _) (HSM ip op).out HZM.out (all_oneCell_toArray (mC_one ip op)) w2.heap.size w2 ((Below.refl _ w2).alloc (Nat.le_refl _) _) (Nat.le_refl _) ?_; intro w3 KM hB3)
  have hw2 : w.heap.size < w2.heap.size := K2.out.lt
  have KM := wall (show Blk w3 w2.heap.size 177 (mC (ip ++ (ps.take 0).flatten) op).toArray by rw [List.take_zero, List.flatten_nil, List.append_nil]; exact KM.out)
  have K3 := wall (K2.out.next hB3 rfl)
  have HB3 := wall (below_then HB2.out hB3 (Nat.le_refl _))
  clear hB3 K2 HB2
  generalize w2.heap.size = g at *
  go_wp2_with fail
  go_loopg [12] ps.length (fun gm s12 wr => ∃ i : Nat, i + gm = ps.length ∧ s12 = .int .i64 (i : Int) ∧ Wall (Blk wr w.heap.size 23 (b8 (List.replicate 32 0))) ∧ Wall (Blk wr g 177 (mC (ip ++ (ps.take i).flatten) op).toArray) ∧ Wall (Below w.heap.size w wr))
  case atStart => exact ⟨0, by omega, rfl, K3, KM, HB3⟩
  case round =>
    clear K3 KM HB3
    obtain ⟨i, hg, rfl, K3, KM, HB⟩ := hrel
    have HG := wall hg
    have hi : i ≤ ps.length := by omega
    clear hg
    by_cases hlt : i < ps.length
    · obtain ⟨p, hp⟩ : ∃ p, ps[i]? = some p := ⟨_, List.getElem?_eq_getElem hlt⟩
      obtain ⟨J, off, v, rfl, hJ, hcv, hBN⟩ := (HP.out.below HB.out) i p hp
      obtain ⟨Ap, cp, rfl, hcp, hnil, hN⟩ := hBN
      have HNP := wall hN
      have HFL := wall (flatten_take_snoc hp)
      have hsz := mem_flatten_le hp
      obtain ⟨cur, hcur⟩ : ∃ c, (ps.take i).flatten = c := ⟨_, rfl⟩
      rw [hcur] at KM HFL hsz
      have HCB := wall (show ∀ x ∈ ip ++ cur, x < 256 from fun x hx => by
        rcases List.mem_append.1 hx with h | h
        · exact HIB.out x h
        · rw [← hcur] at h
          obtain ⟨q, hq, hx⟩ := List.mem_flatten.1 h
          exact HPB.out x (List.mem_flatten.2 ⟨q, List.mem_of_mem_take hq, hx⟩))
      have HFE := wall (mfeed_any (ip ++ cur) op p Ap p.length cp wr (HT.out.old HB.out) HCB.out rfl (by rw [List.length_append, HIL.out]; have := HM.out; omega) hcp (HNP.out.more HB.out.size))
      obtain ⟨c2, hc2⟩ : ∃ c, ip ++ cur ++ p = c := ⟨_, rfl⟩
      rw [hc2] at HFE
      obtain ⟨c1, hc1⟩ : ∃ c, ip ++ cur = c := ⟨_, rfl⟩
      rw [hc1] at HFE KM
      have HC2 := wall (show ip ++ (ps.take (i + 1)).flatten = c2 by rw [HFL.out, ← List.append_assoc]; exact hc2)
      have HZ := wall (show (mC c1 op).toArray.size = (mC c2 op).toArray.size by rw [List.size_toArray, List.size_toArray, mC_length, mC_length])
      clear hp hnil hN hcur hsz hc1 hc2 HCB
      go_wp2_with (refine wpList_load_row rfl 177 _ rfl g rfl 177 (mC c1 op).toArray (0, 0) _ KM.out Tryd.underlying177 rfl (HSM _ _).out ?_)
      (with_reducible refine HFE.out.mono ?_); rintro e w5 ⟨rfl, hB5⟩
      have K5 := wall (K3.out.next hB5 rfl)
      have KM5 := wall (KM.out.next hB5 rfl)
      have HB5 := wall (below_then HB.out hB5 (Nat.le_refl _))
      clear hB5 K3 KM HB HFE
      go_wp2_with (refine wpList_store_row rfl 177 (.tmp 5) _ rfl g (mC c2 op).toArray rfl rfl 177 (mC c1 op).toArray KM5.out (HSM _ _).out HZ.out (all_oneCell_toArray (mC_one _ _)) ?_)
      go_light
      go_roundg (ps.length - (i + 1))
      case measure => have := HG.out; omega
      case rel =>
        refine ⟨i + 1, by omega, by go_num, wall ?_, wall ?_, wall ?_⟩
        · exact K5.out.frm (frm_setRow (g := g) w5 _) (by simp; omega)
        · rw [HC2.out]; exact setRow_heap _ _ _ _ _ _ KM5.out
        · exact below_setRow HB5.out (by omega) _
    · have hil : i = ps.length := by omega
      subst hil
      have hni : ¬ (((ps.length : Nat) : Int) < ((ps.length : Nat) : Int)) := by omega
      rw [List.take_length] at KM
      have HTB := wall (show ∀ x ∈ ip ++ ps.flatten, x < 256 from fun x hx => by
        rcases List.mem_append.1 hx with h | h
        · exact HIB.out x h
        · exact HPB.out x h)
      have HSU := wall (msum_any (ip ++ ps.flatten) op wr (HT.out.old HB.out) HTB.out HOB.out (by rw [List.length_append, HIL.out]; have := HM.out; omega) (by rw [HOL.out]; decide))
      rw [HR.out] at HSU
      have HS := wall (show (Tryd.prog.info? 23).map (·.size) = some (b8 r).size by rw [b8_size, HRL.out]; exact dig_info)
      have HZ := wall (show (b8 (List.replicate 32 0)).size = (b8 r).size by rw [b8_size, b8_size, HRL.out]; rfl)
      clear hlt
      go_wp2_with (refine wpList_load_row rfl 177 _ rfl g rfl 177 (mC (ip ++ ps.flatten) op).toArray (0, 0) _ KM.out Tryd.underlying177 rfl (HSM _ _).out ?_)
      (with_reducible refine HSU.out.mono ?_); rintro e w5 ⟨rfl, hB5⟩
      have K5 := wall (K3.out.next hB5 rfl)
      have HB5 := wall (below_then HB.out hB5 (Nat.le_refl _))
      clear hB5 K3 KM HB HSU
      go_wp2_with (refine wpList_store_row rfl 23 (.tmp 4) _ rfl w.heap.size (b8 r) rfl rfl 23 (b8 (List.replicate 32 0)) K5.out HS.out HZ.out (b8_one _) ?_)
      have hb := setRow_heap _ _ _ (b8 r) _ _ K5.out
      have hB := below_setRow HB5.out (Nat.le_refl _) (b8 r)
      go_light
      exact bodyPost_ret (v := .agg (b8 r)) (results_cell_row Tryd.results85 _ _ w.heap.size 23 (b8 r) (0, 0) _ rfl hb Tryd.underlying23 rfl HS.out) rfl ⟨rfl, hB⟩
end Mac
end Go.Proofs.YtpakdcgcgekcfaaDoor

/-
  Package mac: Derive (keys of at most a block).
-/
set_option linter.unusedSimpArgs false
set_option linter.unusedVariables false
namespace Go.Proofs.YtpakdcgcgekcfaaDoor
open Go.RowKit

namespace Mac
open Otp R1 Sha
theorem partsB_snoc (ps : List (List Nat)) (p : List Nat) : partsB (ps ++ [p]) = partsB ps ++ numB p.length 4 ++ p := by simp [partsB]
theorem partsB_take {ps : List (List Nat)} {i : Nat} {p : List Nat} (h : ps[i]? = some p) : partsB (ps.take (i + 1)) = partsB (ps.take i) ++ numB p.length 4 ++ p := by rw [take_snoc h, partsB_snoc]
theorem partsB_length : ∀ ps : List (List Nat), (partsB ps).length = 4 * ps.length + ps.flatten.length
  | [] => rfl
  | p :: ps => by
    have := partsB_length ps
    simp only [partsB, List.flatMap_cons, List.length_append, numB_length, List.length_cons, List.flatten_cons] at this ⊢
    omega
theorem partsB_byte {ps : List (List Nat)} (h : ∀ x ∈ ps.flatten, x < 256) : ∀ x ∈ partsB ps, x < 256 := fun x hx => by
  obtain ⟨p, hp, hx⟩ := List.mem_flatMap.1 hx
  rcases List.mem_append.1 hx with h1 | h1
  · exact numB_byte _ 4 x h1
  · exact h x (List.mem_flatten.2 ⟨p, hp, h1⟩)
theorem sub_byte {a b : List Nat} (ha : ∀ x ∈ a, x < 256) (hb : ∀ x ∈ b, x < 256) : ∀ x ∈ a ++ b, x < 256 := fun x hx => by
  rcases List.mem_append.1 hx with h | h
  · exact ha x h
  · exact hb x h
set_option maxRecDepth 100000 in
set_option maxHeartbeats 8000000 in
theorem mderive_any (k : List Nat) (A : Option Addr) (len cap : Nat) (s : ByteArray) (ps : List (List Nat)) (PA : Option Addr) (pn pc : Nat) (w : World) (hT : STab w) (hl : k.length = len) (h64 : len ≤ 64) (hz : Nats .u8 256 w w.heap.size A k) (hkb : ∀ x ∈ k, x < 256)
    (hs : s.size ≤ 100000) (hpn : ps.length = pn) (hpm : pn ≤ 1000) (hP : Parts w w.heap.size PA ps) (hm : ps.flatten.length ≤ 100000) :
    Calls Tryd.prog 83 #[.slice A len cap, .string s, .slice PA pn pc] w (DigOut w (deriveB k (sB s) ps)) := by
  subst hpn
  have HNEW := wall (fun W (h1 : STab W) (h2 : Nats .u8 256 W W.heap.size A k) => mnew_any k A len cap W h1 hl h64 h2)
  obtain ⟨ip, hip⟩ : ∃ x, ipad k = x := ⟨_, rfl⟩
  obtain ⟨op, hop⟩ : ∃ x, opad k = x := ⟨_, rfl⟩
  obtain ⟨r, hr⟩ : ∃ x, deriveB k (sB s) ps = x := ⟨_, rfl⟩
  obtain ⟨lb, hlb⟩ : ∃ x, sB s = x := ⟨_, rfl⟩
  obtain ⟨n1, hn1⟩ : ∃ x, numB s.size 4 = x := ⟨_, rfl⟩
  obtain ⟨n2, hn2⟩ : ∃ x, numB ps.length 4 = x := ⟨_, rfl⟩
  obtain ⟨c1, hc1⟩ : ∃ x, ip ++ n1 = x := ⟨_, rfl⟩
  obtain ⟨c2, hc2⟩ : ∃ x, c1 ++ lb = x := ⟨_, rfl⟩
  obtain ⟨c3, hc3⟩ : ∃ x, c2 ++ n2 = x := ⟨_, rfl⟩
  rw [hr]
  change Wall (∀ W, STab W → Nats .u8 256 W W.heap.size A k → Calls Tryd.prog 104 #[.slice A len cap] W (fun e w' => e = .returned (.agg (mC (ipad k) (opad k)).toArray) ∧ Below W.heap.size W w')) at HNEW
  rw [hip, hop] at HNEW
  have HIL := wall (show ip.length = 64 by rw [← hip]; exact ipad_length k)
  have HOL := wall (show op.length = 64 by rw [← hop]; exact opad_length k)
  have HIB := wall (show ∀ x ∈ ip, x < 256 by rw [← hip]; exact turn_byte (by decide) (keyB_byte hkb))
  have HOB := wall (show ∀ x ∈ op, x < 256 by rw [← hop]; exact turn_byte (by decide) (keyB_byte hkb))
  have HN1L := wall (show n1.length = 4 by rw [← hn1]; exact numB_length _ _)
  have HN2L := wall (show n2.length = 4 by rw [← hn2]; exact numB_length _ _)
  have HN1B := wall (show ∀ x ∈ n1, x < 256 by rw [← hn1]; exact numB_byte _ _)
  have HN2B := wall (show ∀ x ∈ n2, x < 256 by rw [← hn2]; exact numB_byte _ _)
  have HLL := wall (show lb.length = s.size by rw [← hlb]; exact sB_length s)
  have HLB := wall (show ∀ x ∈ lb, x < 256 by rw [← hlb]; exact sB_byte s)
  have HC1L := wall (show c1.length = 68 by rw [← hc1, List.length_append, HIL.out, HN1L.out])
  have HC2L := wall (show c2.length = 68 + s.size by rw [← hc2, List.length_append, HC1L.out, HLL.out])
  have HC3L := wall (show c3.length = 72 + s.size by rw [← hc3, List.length_append, HC2L.out, HN2L.out]; omega)
  have HC1B := wall (show ∀ x ∈ c1, x < 256 by rw [← hc1]; exact sub_byte HIB.out HN1B.out)
  have HC2B := wall (show ∀ x ∈ c2, x < 256 by rw [← hc2]; exact sub_byte HC1B.out HLB.out)
  have HC3B := wall (show ∀ x ∈ c3, x < 256 by rw [← hc3]; exact sub_byte HC2B.out HN2B.out)
  have HR := wall (show sumB (op ++ sumB (c3 ++ partsB ps)) = r by
    rw [← hr, deriveB, macB_pads, hip, hop, hlb, hn2, ← hc3, ← hc2, ← hc1, show numB lb.length 4 = n1 by rw [HLL.out]; exact hn1]
    simp only [List.append_assoc])
  have HRL := wall (show r.length = 32 by rw [← hr]; exact deriveB_length _ _ _)
  have HNU1 := wall (fun W => num4_any (s.size : Int) s.size W rfl (by omega))
  have HNU2 := wall (fun W => num4_any (ps.length : Int) ps.length W rfl (by omega))
  rw [hn1] at HNU1
  rw [hn2] at HNU2
  have HT := wall hT
  have HN := wall hz
  have HP := wall hP
  have HM := wall hm
  have HPB := wall (parts_byte hP)
  have HSM := fun x y => wall (show (Tryd.prog.info? 177).map (·.size) = some (mC x y).toArray.size by rw [List.size_toArray, mC_length]; exact mac_info)
  have HLBE := wall hlb
  have HC1 := wall hc1
  have HC2 := wall hc2
  have HC3 := wall hc3
  clear hT hz hP hm hip hop hr hkb hlb hn1 hn2 hc1 hc2 hc3
  obtain ⟨W1, hW1⟩ : ∃ W, W = w.alloc (.cells (b8 (List.replicate 32 0)) 23) := ⟨_, rfl⟩
  have K0 := wall (show Blk W1 w.heap.size 23 (b8 (List.replicate 32 0)) by rw [hW1]; exact Blk.new _ _ _)
  have HB := wall (show Below w.heap.size w W1 by rw [hW1]; exact (Below.refl _ w).alloc (Nat.le_refl _) _)
  have HW1 := wall hW1
  clear hW1
  go_enter Tryd.func83, Tryd.ntmps83
  go_upto_region 1 with fail
  change Code.wp _ _ _ _ (w.alloc (.cells (b8 (List.replicate 32 0)) 23))
  rw [← HW1.out]
  clear HW1
  go_wp2_with fail
  (with_reducible refine (HNEW.out _ (HT.out.old HB.out) ((HN.out.below HB.out).more HB.out.size)).mono ?_); rintro e w2 ⟨rfl, hB2⟩
  have K2 := wall (K0.out.next hB2 rfl)
  have HB2 := wall (below_then HB.out hB2 (Nat.le_refl _))
  clear hB2 K0 HB HNEW HN
  go_wp2_with fail
  (with_reducible refine (HNU1.out _).mono ?_); rintro e w3 ⟨v3, rfl, hO3, hB3⟩
  obtain ⟨A3, cp3, rfl, hcp3, hN3, _⟩ := own_nats hO3 HN1B.out
  have K3 := wall (K2.out.next hB3 rfl)
  have HB3 := wall (below_then HB2.out hB3 (Nat.le_refl _))
  have HF1 := wall (mfeed_any ip op n1 A3 n1.length cp3 w3 (HT.out.old HB3.out) HIB.out rfl (by rw [HIL.out, HN1L.out]; decide) hcp3 hN3)
  rw [HC1.out] at HF1
  clear hO3 hB3 hN3 K2 HB2 HNU1
  go_wp2_with fail
  (with_reducible refine HF1.out.mono ?_); rintro e w4 ⟨rfl, hB4⟩
  have K4 := wall (K3.out.next hB4 rfl)
  have HB4 := wall (below_then HB3.out hB4 (Nat.le_refl _))
  clear hB4 K3 HB3 HF1
  go_wp2_with (refine wpList_convert_str rfl 9 53 5 (.tmp 16) rfl Tryd.underlying9 Tryd.underlying53 Tryd.underlying5 s rfl ?_; intro v5 w5 hv5 hB5)
  rw [HLBE.out] at hv5
  obtain ⟨A5, cp5, rfl, hcp5, _, hN5⟩ := hv5
  have K5 := wall (K4.out.next hB5 rfl)
  have HB5 := wall (below_then HB4.out hB5 (Nat.le_refl _))
  have HF2 := wall (mfeed_any c1 op lb A5 lb.length cp5 w5 (HT.out.old HB5.out) HC1B.out rfl (by rw [HC1L.out, HLL.out]; omega) hcp5 hN5)
  rw [HC2.out] at HF2
  clear hB5 hN5 K4 HB4
  (with_reducible refine HF2.out.mono ?_); rintro e w6 ⟨rfl, hB6⟩
  have K6 := wall (K5.out.next hB6 rfl)
  have HB6 := wall (below_then HB5.out hB6 (Nat.le_refl _))
  clear hB6 K5 HB5 HF2
  go_wp2_with fail
  (with_reducible refine (HNU2.out _).mono ?_); rintro e w7 ⟨v7, rfl, hO7, hB7⟩
  obtain ⟨A7, cp7, rfl, hcp7, hN7, _⟩ := own_nats hO7 HN2B.out
  have K7 := wall (K6.out.next hB7 rfl)
  have HB7 := wall (below_then HB6.out hB7 (Nat.le_refl _))
  have HF3 := wall (mfeed_any c2 op n2 A7 n2.length cp7 w7 (HT.out.old HB7.out) HC2B.out rfl (by rw [HC2L.out, HN2L.out]; omega) hcp7 hN7)
  rw [HC3.out] at HF3
  clear hO7 hB7 hN7 K6 HB6 HNU2
  go_wp2_with fail
  (with_reducible refine HF3.out.mono ?_); rintro e w8 ⟨rfl, hB8⟩
  have K8 := wall (K7.out.next hB8 rfl)
  have HB8 := wall (below_then HB7.out hB8 (Nat.le_refl _))
  clear hB8 K7 HB7 HF3
  have HZM := wall (show zM.toArray.size = (mC c3 op).toArray.size by rw [List.size_toArray, List.size_toArray, mC_length]; rfl)
  go_upto_region 2 with (refine wpList_new_row rfl 177 (.tmp 7) (.tmp 22) rfl w8.heap.size (mC c3 op).toArray rfl rfl 177 zM.toArray (Blk.new _ _ _) (HSM c3 op).out HZM.out (all_oneCell_toArray (mC_one c3 op)) w8.heap.size w8 ((Below.refl _ w8).alloc (Nat.le_refl _) _) (Nat.le_refl _) ?_; intro w9 KM hB9)
  have hw8 : w.heap.size < w8.heap.size := K8.out.lt
  have KM := wall (show Blk w9 w8.heap.size 177 (mC (c3 ++ partsB (ps.take 0)) op).toArray by rw [List.take_zero, show partsB [] = [] from rfl, List.append_nil]; exact KM.out)
  have K9 := wall (K8.out.next hB9 rfl)
  have HB9 := wall (below_then HB8.out hB9 (Nat.le_refl _))
  clear hB9 K8 HB8
  generalize w8.heap.size = g at *
  go_wp2_with fail
  go_loopg [25] ps.length (fun gm s25 wr => ∃ i : Nat, i + gm = ps.length ∧ s25 = .int .i64 (i : Int) ∧ Wall (Blk wr w.heap.size 23 (b8 (List.replicate 32 0))) ∧ Wall (Blk wr g 177 (mC (c3 ++ partsB (ps.take i)) op).toArray) ∧ Wall (Below w.heap.size w wr))
  case atStart => exact ⟨0, by omega, rfl, K9, KM, HB9⟩
  case round =>
    clear K9 KM HB9
    obtain ⟨i, hg, rfl, K3, KM, HB⟩ := hrel
    have HG := wall hg
    have hi : i ≤ ps.length := by omega
    clear hg
    by_cases hlt : i < ps.length
    · obtain ⟨p, hp⟩ : ∃ p, ps[i]? = some p := ⟨_, List.getElem?_eq_getElem hlt⟩
      obtain ⟨J, off, v, rfl, hJ, hcv, hBN⟩ := (HP.out.below HB.out) i p hp
      obtain ⟨Ap, cp, rfl, hcp, hnil, hN⟩ := hBN
      have HNP := wall hN
      have HFL := wall (partsB_take hp)
      have hsz := mem_flatten_le hp
      have hpl : p.length ≤ 100000 := by have := HM.out; omega
      obtain ⟨cur, hcur⟩ : ∃ c, c3 ++ partsB (ps.take i) = c := ⟨_, rfl⟩
      have HCL := wall (show cur.length ≤ 300000 by
        rw [← hcur, List.length_append, HC3L.out, partsB_length, List.length_take]
        have := HM.out
        omega)
      have HCB := wall (show ∀ x ∈ cur, x < 256 by
        rw [← hcur]
        refine sub_byte HC3B.out (partsB_byte (fun x hx => ?_))
        obtain ⟨q, hq, hx⟩ := List.mem_flatten.1 hx
        exact HPB.out x (List.mem_flatten.2 ⟨q, List.mem_of_mem_take hq, hx⟩))
      rw [hcur] at KM
      obtain ⟨nb, hnb⟩ : ∃ x, numB p.length 4 = x := ⟨_, rfl⟩
      obtain ⟨d1, hd1⟩ : ∃ x, cur ++ nb = x := ⟨_, rfl⟩
      obtain ⟨d2, hd2⟩ : ∃ x, d1 ++ p = x := ⟨_, rfl⟩
      have HD2 := wall (show c3 ++ partsB (ps.take (i + 1)) = d2 by
        rw [HFL.out, ← hd2, ← hd1, ← hcur, hnb]
        simp only [List.append_assoc])
      have HNB := wall (show ∀ x ∈ nb, x < 256 by rw [← hnb]; exact numB_byte _ _)
      have HNL := wall (show nb.length = 4 by rw [← hnb]; exact numB_length _ _)
      have HD1B := wall (show ∀ x ∈ d1, x < 256 by rw [← hd1]; exact sub_byte HCB.out HNB.out)
      have HD1L := wall (show d1.length ≤ 300004 by rw [← hd1, List.length_append, HNL.out]; have := HCL.out; omega)
      have HNU := wall (fun W => num4_any (p.length : Int) p.length W rfl (by omega))
      rw [hnb] at HNU
      have HD1 := wall hd1
      have HD2E := wall hd2
      have HZ := wall (show (mC cur op).toArray.size = (mC d2 op).toArray.size by rw [List.size_toArray, List.size_toArray, mC_length, mC_length])
      have HT3 := wall (HT.out.old HB.out)
      have HNQ := wall (fun W (h : Rel.Grow wr.drew W) => (HNP.out.below (h.undrew.mono HB.out.size)).more (Nat.le_trans HB.out.size h.undrew.size))
      clear hp hnil hN hcur hnb hd1 hd2 HFL HNP
      go_wp2_with fail
      refine Rel.wp_region_rel 7 [(31, .const (.int .i64 (p.length : Int))), (32, .any (Bytes nb) Bytes.grow), (33, .const (.agg (mC d1 op).toArray)), (35, .const (.agg (mC d2 op).toArray))] (by kernel_rfl) (by kernel_rfl) ?_
      simp only [List.take_succ_cons, List.take_zero, List.drop_succ_cons, List.drop_zero, Act.put, List.setIfInBounds_toArray, List.set_cons_zero, List.set_cons_succ]
      refine Rel.tree_pure rfl rfl rfl (.agg (mC cur op).toArray) (fun W hW _ => Rel.exec_load _ _ rfl g 0 rfl _ _ (Blk.range (hW.blk KM.out.drew)) Tryd.underlying177 rfl (HSM _ _).out) ?_
      simp only [Act.put, List.setIfInBounds_toArray, List.set_cons_zero, List.set_cons_succ]
      (refine Rel.tree_quiet rfl rfl rfl (fun K hK => ?_); go_big_quiet_op; refine hK _ ?_; clear hK K)
      refine Rel.tree_const rfl (.int .i64 (p.length : Int)) rfl (fun W hW _ => ?_) ?_
      · unfold Rel.relAt; go_simp; exact ⟨Rel.Grow.refl _, rfl⟩
      simp only [Act.put, List.setIfInBounds_toArray, List.set_cons_zero, List.set_cons_succ]
      refine Rel.tree_rel rfl (Bytes nb) Bytes.grow rfl (fun W hW _ => ?_) (fun v32 => ?_)
      · unfold Rel.relAt; go_simp; show Calls _ _ _ _ _
        exact bytes_call (HNU.out W) HNB.out
      simp only [Act.put, List.setIfInBounds_toArray, List.set_cons_zero, List.set_cons_succ]
      refine Rel.tree_const rfl (.agg (mC d1 op).toArray) rfl (fun W hW hF => ?_) ?_
      · obtain ⟨A2, c, rfl, hc, hN⟩ : Bytes nb v32 W := hF 32 (by decide)
        clear hF
        unfold Rel.relAt; go_simp; show Calls _ _ _ _ _
        have h := mfeed_any cur op nb A2 nb.length c W (HT3.out.old hW.undrew) HCB.out rfl (by rw [HNL.out]; have := HCL.out; omega) hc hN
        rw [HD1.out] at h
        exact const_call h
      simp only [Act.put, List.setIfInBounds_toArray, List.set_cons_zero, List.set_cons_succ]
      (refine Rel.tree_quiet rfl rfl rfl (fun K hK => ?_); go_big_quiet_op; refine hK _ ?_; clear hK K)
      refine Rel.tree_const rfl (.agg (mC d2 op).toArray) rfl (fun W hW _ => ?_) ?_
      · unfold Rel.relAt; go_simp; show Calls _ _ _ _ _
        have h := mfeed_any d1 op p Ap p.length cp W (HT3.out.old hW.undrew) HD1B.out rfl (by have := HD1L.out; omega) hcp (HNQ.out W hW)
        rw [HD2E.out] at h
        exact const_call h
      simp only [Act.put, List.setIfInBounds_toArray, List.set_cons_zero, List.set_cons_succ]
      intro W hW _
      have K5 := wall (hW.blk K3.out.drew)
      have KM5 := wall (hW.blk KM.out.drew)
      have HB5 := wall (below_then HB.out hW.undrew (Nat.le_refl _))
      clear hW K3 KM HB HNQ
      go_wp2_with (refine wpList_store_row rfl 177 (.tmp 7) _ rfl g (mC d2 op).toArray rfl rfl 177 (mC cur op).toArray KM5.out (HSM _ _).out HZ.out (all_oneCell_toArray (mC_one _ _)) ?_)
      go_light
      go_roundg (ps.length - (i + 1))
      case measure => have := HG.out; omega
      case rel =>
        refine ⟨i + 1, by have := HG.out; omega, by go_num, wall ?_, wall ?_, wall ?_⟩
        · exact K5.out.frm (frm_setRow (g := g) W _) (by simp; omega)
        · rw [HD2.out]; exact setRow_heap _ _ _ _ _ _ KM5.out
        · exact below_setRow HB5.out (by omega) _
    · have hil : i = ps.length := by omega
      subst hil
      have hni : ¬ (((ps.length : Nat) : Int) < ((ps.length : Nat) : Int)) := by omega
      rw [List.take_length] at KM
      obtain ⟨tot, htot⟩ : ∃ x, c3 ++ partsB ps = x := ⟨_, rfl⟩
      rw [htot] at KM
      have HTB := wall (show ∀ x ∈ tot, x < 256 by rw [← htot]; exact sub_byte HC3B.out (partsB_byte HPB.out))
      have HTL := wall (show tot.length ≤ 900000 by
        rw [← htot, List.length_append, HC3L.out, partsB_length]
        have := HM.out
        omega)
      have HSU := wall (msum_any tot op wr (HT.out.old HB.out) HTB.out HOB.out HTL.out (by rw [HOL.out]; decide))
      rw [show sumB (op ++ sumB tot) = r by rw [← htot]; exact HR.out] at HSU
      have HS := wall (show (Tryd.prog.info? 23).map (·.size) = some (b8 r).size by rw [b8_size, HRL.out]; exact dig_info)
      have HZ := wall (show (b8 (List.replicate 32 0)).size = (b8 r).size by rw [b8_size, b8_size, HRL.out]; rfl)
      clear hlt htot
      go_wp2_with (refine wpList_load_row rfl 177 _ rfl g rfl 177 (mC tot op).toArray (0, 0) _ KM.out Tryd.underlying177 rfl (HSM _ _).out ?_)
      (with_reducible refine HSU.out.mono ?_); rintro e w5 ⟨rfl, hB5⟩
      have K5 := wall (K3.out.next hB5 rfl)
      have HB5 := wall (below_then HB.out hB5 (Nat.le_refl _))
      clear hB5 K3 KM HB HSU
      go_wp2_with (refine wpList_store_row rfl 23 (.tmp 6) _ rfl w.heap.size (b8 r) rfl rfl 23 (b8 (List.replicate 32 0)) K5.out HS.out HZ.out (b8_one _) ?_)
      have hb := setRow_heap _ _ _ (b8 r) _ _ K5.out
      have hB := below_setRow HB5.out (Nat.le_refl _) (b8 r)
      go_light
      exact bodyPost_ret (v := .agg (b8 r)) (results_cell_row Tryd.results83 _ _ w.heap.size 23 (b8 r) (0, 0) _ rfl hb Tryd.underlying23 rfl HS.out) rfl ⟨rfl, hB⟩
end Mac
end Go.Proofs.YtpakdcgcgekcfaaDoor

/-
  Package slot: Derive, Mac.
-/
set_option linter.unusedSimpArgs false
set_option linter.unusedVariables false
namespace Go.Proofs.YtpakdcgcgekcfaaDoor
open Go.RowKit

namespace Slot
open Otp R1 Sha Mac
theorem dig_end {fn : Func} {p u : Tmp} (h : fn.results = #[.cell p 23, .tmp u]) {tmps : Array Value} {w : World} (g : Nat) (E : Int) (D : List Nat) (h1 : tmps.getD p undef = .pointer (some ⟨g, 0, none⟩)) (h2 : tmps.getD u undef = .int .i64 E) (hb : Blk w g 23 (b8 D)) (hl : D.length = 32) :
    (results fn tmps).run Tryd.prog w = .ok (.tuple #[.agg (b8 D), .int .i64 E]) w := by
  rw [results_cell_tmp h, h1, h2]
  have := run_loadVar_row (P := Tryd.prog) w g 23 23 (b8 D) (0, 0) _ hb Tryd.underlying23 rfl (by rw [b8_size, hl]; kernel_rfl)
  simp only [asAddr, Sem.run_pure, Result.andThen_ok, this]
def derE (s : Slt) (a b : Int) : Nat := if mayE s [a, b] ≠ 0 then mayE s [a, b] else if keyE s a ≠ 0 then keyE s a else if kindE s b ≠ 0 then 13 else 0
def derSt (s : Slt) (a b : Int) (lb : List Nat) (ps : List (List Nat)) : Slt := if derE s a b = 0 then s.put b.toNat (2, deriveB (keyOf s a) lb ps) else s
theorem mayE_two {s : Slt} {a b : Int} (h : mayE s [a, b] = 0) : mayE s [a] = 0 ∧ mayE s [b] = 0 := by
  unfold mayE at *
  split at h
  · cases h
  · rename_i hd
    rw [if_neg hd, if_neg hd]
    split at h
    · rename_i h2
      simp only [List.all_cons, List.all_nil, Bool.and_true, Bool.and_eq_true] at h2
      simp [h2.1, h2.2]
    · cases h
theorem keyE_row {s : Slt} {h : Int} (hk : keyE s h = 0) (hok : s.Ok) : (keyOf s h).length = 32 ∧ ∀ x ∈ keyOf s h, x < 256 := by
  unfold keyE at hk
  split at hk
  · rename_i h1; exact absurd hk h1
  · rename_i h1
    obtain ⟨_, h2, h3⟩ := mayE_zero (Decidable.not_not.1 h1)
    obtain ⟨p, hp, hl, hb, _⟩ := row_at hok (show h.toNat < 8 by omega)
    unfold keyOf
    rw [hp]
    exact ⟨hl, hb⟩
set_option maxRecDepth 100000 in
set_option maxHeartbeats 4000000 in
theorem sderive_any (g : Nat) (s : Slt) (a b : Int) (lb : ByteArray) (ps : List (List Nat)) (PA : Option Addr) (pn pc : Nat) (w : World) (hT : STab w) (hS : Sl w g s) (ha : wfI a) (hb : wfI b)
    (hlb : lb.size ≤ 100000) (hpn : ps.length = pn) (hpm : pn ≤ 1000) (hP : Parts w w.heap.size PA ps) (hm : ps.flatten.length ≤ 100000) :
    Calls Tryd.prog 37 #[.pointer (some ⟨g, 0, none⟩), .int .i64 a, .int .i64 b, .string lb, .slice PA pn pc] w (WrOut w g (derE s a b) (derSt s a b (sB lb) ps)) := by
  obtain ⟨W2, hW2⟩ : ∃ W, W = w.alloc (.cells #[.int .i64 a, .int .i64 b] 3) := ⟨_, rfl⟩
  have HW2 := Lib.hid hW2
  have HB2 := Lib.hid (show Below w.heap.size w W2 by rw [hW2]; exact (Below.refl _ w).alloc (Nat.le_refl _) _)
  have HS2 := Lib.hid (hS.old HB2.out)
  have HM := Lib.hid (may_any g s (some ⟨w.heap.size, 0, none⟩) [a, b] 2 2 W2 HS2.out rfl (by decide) (by rw [hW2]; exact ints_two w a b ha hb))
  have HEND := Lib.hid (show Frm [g] w W2 from Frm.of_below HB2.out)
  have HKY := Lib.hid (key_any g s a W2 HS2.out ha)
  obtain ⟨E, hE⟩ : ∃ E, mayE s [a, b] = E := ⟨_, rfl⟩
  rw [hE] at HM
  have hok := HS2.out.ok
  have HT := Lib.hid hT
  have HP := Lib.hid hP
  clear hW2 hS hT hP
  by_cases h0 : E = 0
  · subst h0
    obtain ⟨ma, mb⟩ := mayE_two hE
    obtain ⟨_, h1, h2⟩ := mayE_zero mb
    obtain ⟨i, rfl⟩ : ∃ i : Nat, b = i := ⟨b.toNat, by omega⟩
    obtain ⟨p, hp, hpl, hpb, hp3⟩ := row_at hok (show i < 8 by omega)
    have hkd : kindE s (i : Int) = p.1 := by rw [kindE, if_pos mb, Int.toNat_natCast, hp]; rfl
    have hi8 : (i : Int) < 8 := h2
    obtain ⟨K, hK⟩ : ∃ K, keyE s a = K := ⟨_, rfl⟩
    obtain ⟨k, hk⟩ : ∃ k, keyOf s a = k := ⟨_, rfl⟩
    rw [hK, hk] at HKY
    by_cases hK0 : K = 0
    · subst hK0
      have hkr := keyE_row hK hok
      rw [hk] at hkr
      have HKB := Lib.hid hkr.2
      by_cases hkk : p.1 = 0
      · obtain ⟨d, hd⟩ : ∃ d, deriveB k (sB lb) ps = d := ⟨_, rfl⟩
        have HE := Lib.hid (show derE s a (i : Int) = 0 by rw [derE, hE, if_neg (by decide), hK, if_neg (by decide), hkd, hkk]; rfl)
        have HL := Lib.hid (show derSt s a (i : Int) (sB lb) ps = s.put i (2, d) by rw [derSt, HE.out, if_pos rfl, hk, hd]; rfl)
        rw [HE.out, HL.out]
        have hdl : d.length = 32 := by rw [← hd]; exact deriveB_length _ _ _
        have hdb : ∀ x ∈ d, x < 256 := by rw [← hd]; exact deriveB_byte _ _ _
        have HSP := Lib.hid (show splice (slC s) (i * 33) (row (2, d)).toArray.toList = slC (s.put i (2, d)) by
          rw [Nat.mul_comm]
          exact hok.splice (by omega) hdl)
        have HOK := Lib.hid (hok.put i (p := (2, d)) hdl hdb (show 2 ≤ 3 by decide))
        have HSZ := Lib.hid (show (Tryd.prog.info? 137).map (·.size) = some (row (2, d)).toArray.size by rw [row_size hdl]; exact place_info)
        have HFT := Lib.hid (show i * 33 + (row (2, d)).toArray.size ≤ (slC s).length by rw [row_size hdl, hok.size]; omega)
        have HPB := Lib.hid (place_built 2 d hdl)
        have HDV := Lib.hid (fun W (h : Below W2.heap.size W2 W) A n c (hn : n = 32) (hN : Nats .u8 256 W W.heap.size A k) (hP : Parts W W.heap.size PA ps) => mderive_any k A n c lb ps PA pn pc W (HT.out.old (below_then HB2.out h (Nat.le_refl _))) (by rw [hn]; exact hkr.1) (by omega) hN hkr.2 hlb hpn hpm hP hm)
        rw [hd] at HDV
        have HKAT := Lib.hid (hok.kindAt hp)
        clear hE hp h1 h2 hkd HE HL hok ma mb hK hk hd hdl hdb hkr ha hb
        go_enter Tryd.func37, Tryd.ntmps37
        go_upto_region 2 with (go_at_call 81; change Calls _ _ _ (w.alloc (.cells #[.int .i64 a, .int .i64 (i : Int)] 3)) _; rw [← HW2.out]; (with_reducible refine HM.out.mono ?_); rintro e w2 ⟨rfl, rfl⟩)
        go_wp2_with fail
        (with_reducible refine HKY.out.mono ?_); rintro e w3 ⟨A, n, c, rfl, hkey, hB3⟩
        obtain ⟨hn32, hnc, hkl, hN⟩ := hkey rfl
        have HKEY := Lib.hid hN
        have HB3 := Lib.hid (below_then HB2.out hB3 (Nat.le_refl _))
        have HB23 := Lib.hid hB3
        have HS3 := Lib.hid (HS2.out.old hB3)
        have HP3 := Lib.hid ((HP.out.below HB3.out).more HB3.out.size)
        have hck : w3.cell? ⟨g, i * 33, none⟩ = some (.int .i64 (p.1 : Int)) := HS3.out.cellAt (by rw [Nat.mul_comm]; exact HKAT.out)
        rw [hkk] at hck
        have HN32 := Lib.hid hn32
        clear hkey hB3 hN hn32 HM HKY HS2 HEND HP hkl hnc
        go_wp2_with fail
        refine Rel.wp_region_rel 10 [(46, .const (.agg (b8 d))), (48, .const (.pointer (some ⟨g, 0, none⟩)))] (by kernel_rfl) (by kernel_rfl) ?_
        simp only [List.take_succ_cons, List.take_zero, List.drop_succ_cons, List.drop_zero, Act.put, List.setIfInBounds_toArray, List.set_cons_zero, List.set_cons_succ]
        repeat (refine Rel.tree_quiet rfl rfl rfl (fun K hK => ?_); go_big_quiet_op; refine hK _ ?_; clear hK K)
        refine Rel.tree_const rfl (.agg (b8 d)) rfl (fun W hW _ => ?_) ?_
        · unfold Rel.relAt; go_simp; show Calls _ _ _ _ _
          exact const_call (HDV.out W (HB23.out.trans (hW.undrew.mono HB23.out.size)) A n c HN32.out (nats_step HKEY.out hW.undrew) ((HP3.out.below hW.undrew).more hW.undrew.size))
        simp only [Act.put, List.setIfInBounds_toArray, List.set_cons_zero, List.set_cons_succ]
        refine Rel.tree_pure rfl rfl rfl (.agg (row (2, d)).toArray) (fun W hW _ => Rel.exec_build _ _ rfl _ HPB.out) ?_
        simp only [Act.put, List.setIfInBounds_toArray, List.set_cons_zero, List.set_cons_succ]
        refine Rel.tree_const rfl (.pointer (some ⟨g, 0, none⟩)) rfl (fun W hW _ => ?_) ?_
        · unfold Rel.relAt; go_simp; exact ⟨Rel.Grow.refl _, rfl⟩
        simp only [Act.put, List.setIfInBounds_toArray, List.set_cons_zero, List.set_cons_succ]
        repeat (refine Rel.tree_quiet rfl rfl rfl (fun K hK => ?_); go_big_quiet_op; refine hK _ ?_; clear hK K)
        intro W hW _
        have KS := Lib.hid (hW.blk HS3.out.blk.drew)
        have HBW := Lib.hid (below_then HB3.out hW.undrew (Nat.le_refl _))
        clear hW
        go_wp2_with (refine wpList_store_frm rfl 137 (.tmp 50) (.tmp 47) rfl g (i * 33) (row (2, d)).toArray rfl rfl 140 (slC s) KS.out HFT.out HSZ.out (all_oneCell_toArray (row_one _)) ?_; intro w7 K7 F7)
        rw [HSP.out] at K7
        go_light
        go_ret
        exact ⟨rfl, ⟨HOK.out, K7⟩, (Frm.of_below HBW.out).trans' F7 (fun x hx _ => hx)⟩
      · have HE := Lib.hid (show derE s a (i : Int) = 13 by rw [derE, hE, if_neg (by decide), hK, if_neg (by decide), hkd, if_pos hkk])
        have HL := Lib.hid (show derSt s a (i : Int) (sB lb) ps = s by rw [derSt, HE.out]; rfl)
        rw [HE.out, HL.out]
        have hne : (((p.1 : Nat) : Int) != 0) = true := by rw [bne_iff_ne]; omega
        have HKAT := Lib.hid (hok.kindAt hp)
        clear hE hp h1 h2 hkd HE HL hok ma mb hK hk hkr ha hb
        go_enter Tryd.func37, Tryd.ntmps37
        go_upto_region 2 with (go_at_call 81; change Calls _ _ _ (w.alloc (.cells #[.int .i64 a, .int .i64 (i : Int)] 3)) _; rw [← HW2.out]; (with_reducible refine HM.out.mono ?_); rintro e w2 ⟨rfl, rfl⟩)
        go_wp2_with fail
        (with_reducible refine HKY.out.mono ?_); rintro e w3 ⟨A, n, c, rfl, hkey, hB3⟩
        have HB3 := Lib.hid (below_then HB2.out hB3 (Nat.le_refl _))
        have HS3 := Lib.hid (HS2.out.old hB3)
        have hck : w3.cell? ⟨g, i * 33, none⟩ = some (.int .i64 (p.1 : Int)) := HS3.out.cellAt (by rw [Nat.mul_comm]; exact HKAT.out)
        clear hkey hB3 HM HKY HS2 HEND HP
        go_wp2_with fail
        go_light
        go_ret
        exact ⟨rfl, HS3.out, Frm.of_below HB3.out⟩
    · have HE := Lib.hid (show derE s a (i : Int) = K by rw [derE, hE, if_neg (by decide), hK, if_pos hK0])
      have HL := Lib.hid (show derSt s a (i : Int) (sB lb) ps = s by rw [derSt, HE.out, if_neg hK0])
      rw [HE.out, HL.out]
      have hne : (((K : Nat) : Int) != 0) = true := by rw [bne_iff_ne]; omega
      clear hE hp h1 h2 hkd HE HL hok ma mb hK hk ha hb
      go_enter Tryd.func37, Tryd.ntmps37
      go_upto_region 2 with (go_at_call 81; change Calls _ _ _ (w.alloc (.cells #[.int .i64 a, .int .i64 (i : Int)] 3)) _; rw [← HW2.out]; (with_reducible refine HM.out.mono ?_); rintro e w2 ⟨rfl, rfl⟩)
      go_wp2_with fail
      (with_reducible refine HKY.out.mono ?_); rintro e w3 ⟨A, n, c, rfl, hkey, hB3⟩
      have HB3 := Lib.hid (below_then HB2.out hB3 (Nat.le_refl _))
      have HS3 := Lib.hid (HS2.out.old hB3)
      clear hkey hB3 HM HKY HS2 HEND HP
      go_wp2_with fail
      go_light
      go_ret
      exact ⟨rfl, HS3.out, Frm.of_below HB3.out⟩
  · have HE := Lib.hid (show derE s a b = E by rw [derE, hE, if_pos h0])
    have HL := Lib.hid (show derSt s a b (sB lb) ps = s by rw [derSt, HE.out, if_neg h0])
    have hne : (((E : Nat) : Int) != 0) = true := by rw [bne_iff_ne]; omega
    rw [HE.out, HL.out]
    clear hE HE HL hok ha hb HKY HP
    go_enter Tryd.func37, Tryd.ntmps37
    go_upto_region 2 with (go_at_call 81; change Calls _ _ _ (w.alloc (.cells #[.int .i64 a, .int .i64 b] 3)) _; rw [← HW2.out]; (with_reducible refine HM.out.mono ?_); rintro e w2 ⟨rfl, rfl⟩)
    go_wp2_with fail
    go_light
    go_ret
    exact ⟨rfl, HS2.out, HEND.out⟩
set_option maxHeartbeats 1000000 in
theorem sderive_nil (a b : Int) (lb : ByteArray) (PA : Option Addr) (pn pc : Nat) (w : World) : Calls Tryd.prog 37 #[.pointer none, .int .i64 a, .int .i64 b, .string lb, .slice PA pn pc] w (IntBelow w 3) := by
  have HB := Lib.hid ((Below.refl _ w).alloc (Nat.le_refl _) (.cells #[.int .i64 a, .int .i64 b] 3))
  go_enter Tryd.func37, Tryd.ntmps37
  go_wp2_with fail
  (with_reducible refine (may_nil _ _ _ _).mono ?_); rintro e w2 ⟨rfl, rfl⟩
  go_wp2_with fail
  go_light
  go_ret
  exact ⟨rfl, HB.out⟩
end Slot
end Go.Proofs.YtpakdcgcgekcfaaDoor
