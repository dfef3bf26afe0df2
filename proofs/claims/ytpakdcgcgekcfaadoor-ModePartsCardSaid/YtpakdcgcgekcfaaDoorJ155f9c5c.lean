/-
  Texts of this claim, joined: ModeE, ModeF, ModeG, ModeZ, RelF, ModeV, ModeK, ModeP, RfA, RfB, SlotB, SlotC, ShaDig, ShaFin.
-/
import Derived.Test.YtpakdcgcgekcfaaDoorJ74515501
import Derived.Lib.BufferOld
import Derived.Test.YtpakdcgcgekcfaaDoorJ8b3fd3ea
import Derived.Lib.BufferMore
import Derived.Test.YtpakdcgcgekcfaaDoorJ52d9bedf
import Derived.Test.YtpakdcgcgekcfaaDoorJb7c72ce9
import Derived.Test.YtpakdcgcgekcfaaDoorJ2f1c4a9b
import Derived.Great.BuildSlice
import Derived.Test.YtpakdcgcgekcfaaDoorProg
import Derived.Test.YtpakdcgcgekcfaaDoorJ4bf5129d
import Derived.Deep.LoopGhost
import Derived.Laws.Rows
import Derived.Laws.CopyOwn
import Derived.Laws.ResultCell
set_option linter.unusedVariables false
/-
  Package mode: Run.
-/
set_option linter.unusedSimpArgs false
set_option linter.unusedVariables false
namespace Go.Proofs.YtpakdcgcgekcfaaDoor
open Go.RowKit

namespace Aes
open Otp R1 Fuse Sha
def blkAt (p : List Nat) (i : Nat) : List Nat := (p.drop (16 * i)).take 16
def runM (m : Md) (p : List Nat) : Nat → Md × List Nat
  | 0 => (m, [])
  | i + 1 => ((stepM (runM m p i).1 (blkAt p i)).1, (runM m p i).2 ++ (stepM (runM m p i).1 (blkAt p i)).2)
theorem blkAt_ok {p : List Nat} (hb : ∀ x ∈ p, x < 256) {i : Nat} (hi : 16 * i + 16 ≤ p.length) : (blkAt p i).length = 16 ∧ ∀ x ∈ blkAt p i, x < 256 :=
  ⟨by rw [blkAt, List.length_take, List.length_drop]; omega, fun x hx => hb x (List.mem_of_mem_drop (List.mem_of_mem_take hx))⟩
theorem runM_ok {m : Md} (h : m.Ok) {p : List Nat} (hb : ∀ x ∈ p, x < 256) : ∀ i, 16 * i ≤ p.length → (runM m p i).1.Ok ∧ (runM m p i).1.key = m.key ∧ (runM m p i).1.kind = m.kind ∧ (runM m p i).1.back = m.back ∧ (runM m p i).2.length = 16 * i ∧ ∀ x ∈ (runM m p i).2, x < 256
  | 0, _ => ⟨h, rfl, rfl, rfl, rfl, fun x hx => by cases hx⟩
  | i + 1, hi => by
    obtain ⟨h1, h2, h3, h4, h5, h6⟩ := runM_ok h hb i (by omega)
    obtain ⟨k1, k2⟩ := blkAt_ok hb (i := i) (by omega)
    obtain ⟨q1, q2, q3, q4, q5, q6⟩ := stepM_ok h1 k1 k2
    simp only [runM]
    refine ⟨q1, q4.trans h2, q5.trans h3, q6.trans h4, by rw [List.length_append, h5, q2]; omega, fun x hx => ?_⟩
    rcases List.mem_append.1 hx with hx | hx
    · exact h6 x hx
    · exact q3 x hx
/-- Run under way. -/
structure Rb (W : World) (gM gR gU : Nat) (ML : List Value) (ZM : Array Value) (out : List Nat) (w : World) : Prop where
  km : Blk w gM 96 ML.toArray
  kr : Blk w gR 96 ZM
  buf : Lib.IsBuffer 155 5 gU gU (v8 out) w
  bel : Below W.heap.size W w
  o1 : W.heap.size ≤ gM
  o2 : gM < gR
  o3 : gR < gU
section
variable {W w w' : World} {gM gR gU : Nat} {ML ML' : List Value} {ZM : Array Value} {out : List Nat}
theorem Rb.old (h : Rb W gM gR gU ML ZM out w) (hb : Below w.heap.size w w') : Rb W gM gR gU ML ZM out w' := ⟨h.km.next hb rfl, h.kr.next hb rfl, h.buf.old hb, below_then h.bel hb (Nat.le_refl _), h.o1, h.o2, h.o3⟩
theorem isBuffer_frm {T e : TypeId} {B b : Nat} {bs : List Value} {S : List Nat} (h : Lib.IsBuffer T e B b bs w) (hf : Frm S w w') (hS : ∀ x ∈ S, x < B) : Lib.IsBuffer T e B b bs w' := by
  have hlt := h.lt
  obtain ⟨hB, v, lr, hbk, hown, hne⟩ := h
  exact ⟨hB, v, lr, (hf.block b hlt (fun hx => by have := hS b hx; omega)).trans hbk, own_frm hown hf hS, hne⟩
theorem Rb.putM (h : Rb W gM gR gU ML ZM out w) (hf : Frm [gM] w w') (hk : Blk w' gM 96 ML'.toArray) : Rb W gM gR gU ML' ZM out w' := by
  have o1 := h.o1
  have o2 := h.o2
  have o3 := h.o3
  exact ⟨hk, h.kr.frm hf (by simp; omega), isBuffer_frm h.buf hf (fun x hx => by simp at hx; omega), Below.frm h.bel hf (Nat.le_refl _) (fun x hx => by simp at hx; omega), o1, o2, o3⟩
theorem Rb.far (h : Rb W gM gR gU ML ZM out w) {g : Nat} (hf : Frm [g] w w') (hg : gU < g) (ht : ∀ c, ¬ Blk w g 5 c) : Rb W gM gR gU ML ZM out w' := by
  have o1 := h.o1
  have o2 := h.o2
  have o3 := h.o3
  have hlt := h.buf.lt
  obtain ⟨hB, v, lr, hbk, hown, hne⟩ := h.buf
  refine ⟨h.km.frm hf (by simp; omega), h.kr.frm hf (by simp; omega), ⟨hB, v, lr, (hf.block gU hlt (by simp; omega)).trans hbk, ⟨hown.1, ?_⟩, hne⟩, Below.frm h.bel hf (Nat.le_refl _) (fun x hx => by simp at hx; omega), o1, o2, o3⟩
  rcases hown.2 with hn | ⟨q, cap, cur, hv, hbg, hq, rest⟩
  · exact .inl hn
  · refine .inr ⟨q, cap, cur, hv, hbg, (hf.block q (Lib.lt_of_heap hq) (fun hx => ?_)).trans hq, rest⟩
    simp at hx
    subst hx
    exact ht _ hq
theorem Rb.wrote (h : Rb W gM gR gU ML ZM out w) {cs : List Nat} (hb : Below gU w w') (hk : Lib.IsBuffer 155 5 gU gU (v8 out ++ v8 cs) w') : Rb W gM gR gU ML ZM (out ++ cs) w' := by
  have o1 := h.o1
  have o2 := h.o2
  have o3 := h.o3
  refine ⟨h.km.below hb (by omega), h.kr.below hb o3, ?_, h.bel.trans (hb.mono (by omega)), o1, o2, o3⟩
  have : v8 (out ++ cs) = v8 out ++ v8 cs := by simp [v8]
  rw [this]
  exact hk
end
theorem write_any (gU g : Nat) (out cs : List Nat) (n c : Nat) (w : World) (h : Lib.IsBuffer 155 5 gU gU (v8 out) w) (hn : cs.length = n) (hg : g ≠ gU) (hk : Blk w g 90 (b8 cs)) (hlim : out.length + n ≤ 140737488355328) :
    Calls Tryd.prog 90 #[.pointer (some ⟨gU, 0, none⟩), .slice (some ⟨g, 0, none⟩) n c] w (fun e w' => e = .returned (.tuple #[.int .i64 n, .nilIface]) ∧ Lib.IsBuffer 155 5 gU gU (v8 out ++ v8 cs) w' ∧ Below gU w w') := by
  have one : ∀ l : List Nat, ∀ v ∈ v8 l, v.oneCell' = true := fun l v hv => by
    obtain ⟨_, _, rfl⟩ := List.mem_map.1 hv
    rfl
  have hsrc : ∀ (j : Nat) (v : Value), (v8 cs)[j]? = some v → w.cell? ((⟨g, 0, none⟩ : Addr).add j) = some v := fun j v hv => by
    rw [Go.WideShapes.add_plain, hk.cell, Nat.zero_add]
    simpa [b8, v8] using hv
  have H := Any.Buffer_Write_any Tryd.lays180 gU gU (v8 out) (v8 cs) ⟨g, 0, none⟩ n c w h (Nat.le_of_lt h.lt) (one out) (by rw [v8_length]; exact hn) hg hsrc (one cs) (by rw [v8_length]; exact hlim)
  exact Calls.mono H fun e w' ⟨h1, h2, h3, _⟩ => ⟨h1, h2, h3⟩
theorem bytes_any (gU : Nat) (out : List Nat) (w : World) (h : Lib.IsBuffer 155 5 gU gU (v8 out) w) :
    Calls Tryd.prog 91 #[.pointer (some ⟨gU, 0, none⟩)] w (fun e w' => ∃ v, e = .returned v ∧ OwnB w' gU v out ∧ ∃ n, w' = w.drewN n) := by
  have H := Any.Buffer_Bytes Tryd.lays183 gU gU (v8 out) w h
  refine Calls.mono H fun e w' ⟨v, h1, h2, h3⟩ => ⟨v, h1, ?_, h3⟩
  rw [v8_length] at h2
  exact h2
def RunOut (w : World) (A : Option Addr) (L c : Nat) (r : Md × List Nat) (e : Ending) (w' : World) : Prop := ∃ v, e = .returned (.tuple #[.agg (mV A L c r.1).toArray, v, .int .i64 0]) ∧ OwnB w' w.heap.size v r.2 ∧ Below w.heap.size w w'
def RunBad (w : World) (A : Option Addr) (L c : Nat) (m : Md) (e : Ending) (w' : World) : Prop := e = .returned (.tuple #[.agg (mV A L c m).toArray, .slice none 0 0, .int .i64 1]) ∧ Below w.heap.size w w'
def RunBadG (w : World) (ML : List Value) (e : Ending) (w' : World) : Prop := e = .returned (.tuple #[.agg ML.toArray, .slice none 0 0, .int .i64 1]) ∧ Below w.heap.size w w'
set_option maxRecDepth 100000 in
set_option maxHeartbeats 4000000 in
theorem run_badg (ML : List Value) (hM : M2F zM.toArray ML) (PA : Option Addr) (n pc : Nat) (w : World) (hn : n % 16 ≠ 0) (hnm : n ≤ maxLen) :
    Calls Tryd.prog 56 #[.agg ML.toArray, .slice PA n pc] w (RunBadG w ML) := by
  have H2F0 := wall hM
  obtain ⟨ZM, hZM⟩ : ∃ x, zM.toArray = x := ⟨_, rfl⟩
  have HZM := wall (show Tryd.zeroCells96 = ZM by rw [← hZM, zM_eq])
  unfold RunBadG
  rw [hZM] at H2F0
  obtain ⟨w1, hw1⟩ : ∃ W, W = (w.alloc (.cells ML.toArray 96)).alloc (.cells ZM 96) := ⟨_, rfl⟩
  have HW := wall hw1
  have HB1 := wall (show Below w.heap.size w w1 by rw [hw1]; exact ((Below.refl _ w).alloc (Nat.le_refl _) _).alloc (by simp) _)
  have HKM := wall (show Blk w1 w.heap.size 96 ML.toArray by rw [hw1]; exact (Blk.new _ _ _).alloc _)
  have HKR := wall (show Blk w1 (w.heap.size + 1) 96 ZM by rw [hw1]; exact blk_new' (by simp))
  have hr : ((n : Int) % 16 != 0) = true := by rw [bne_iff_ne]; omega
  have hr2 : ((n : Int).tmod 16 != 0) = true := by rw [bne_iff_ne, Int.tmod_eq_emod_of_nonneg (by omega)]; omega
  clear hw1 hZM hn hM
  go_enter Tryd.func56, Tryd.ntmps56
  go_upto_region 1 with fail
  rw [HZM.out]
  rw [← HW.out]
  clear HW
  go_wp2_with (first | refine wpList_load_row rfl 96 _ rfl w.heap.size rfl 96 ML.toArray (0, 0) _ HKM.out Tryd.underlying96 rfl H2F0.out.1 ?_ | (refine wpList_new_row rfl 96 (.tmp 4) (.tmp 13) rfl (w.heap.size + 1) ML.toArray rfl rfl 96 ZM HKR.out H2F0.out.1 H2F0.out.2.1 H2F0.out.2.2 w.heap.size w HB1.out (by omega) ?_; intro w4 K4 B4))
  go_light
  exact bodyPost_ret (v := .tuple #[.agg ML.toArray, .slice none 0 0, .int .i64 1]) (results_two_slots Tryd.results56 _ _ (w.heap.size + 1) 96 ML.toArray _ _ _ rfl rfl rfl K4.out Tryd.underlying96 rfl H2F0.out.1) rfl ⟨rfl, B4.out⟩
theorem run_bad (A : Option Addr) (L c : Nat) (m : Md) (PA : Option Addr) (n pc : Nat) (w : World) (hvl : m.v.length = 16) (hn : n % 16 ≠ 0) (hnm : n ≤ maxLen) :
    Calls Tryd.prog 56 #[.agg (mV A L c m).toArray, .slice PA n pc] w (RunBad w A L c m) := run_badg _ (m2f A L c hvl) PA n pc w hn hnm
end Aes
end Go.Proofs.YtpakdcgcgekcfaaDoor

/-
  Package mode: Run of whole blocks.
-/
set_option linter.unusedSimpArgs false
set_option linter.unusedVariables false
namespace Go.Proofs.YtpakdcgcgekcfaaDoor
open Go.RowKit

namespace Aes
open Otp R1 Fuse Sha
theorem own_less {w : World} {B B' : Nat} {v : Value} {l : List Nat} (h : OwnB w B v l) (hB : B' ≤ B) : OwnB w B' v l := by
  refine ⟨h.1, ?_⟩
  rcases h.2 with hn | ⟨q, cap, cur, hv, hbg, hq, rest⟩
  · exact .inl hn
  · exact .inr ⟨q, cap, cur, hv, Nat.le_trans hB hbg, hq, rest⟩
theorem own_grow {gU : Nat} {out : List Nat} : ∀ v W W', Rel.Grow W W' → (fun v W => OwnB W gU v out) v W → (fun v W => OwnB W gU v out) v W' := fun _ _ _ h k => own_frm k (Frm.of_below (S := []) h) (fun x hx => by simp at hx)
def RunGen (w : World) (ML : List Value) (out : List Nat) (e : Ending) (w' : World) : Prop := ∃ v, e = .returned (.tuple #[.agg ML.toArray, v, .int .i64 0]) ∧ OwnB w' w.heap.size v out ∧ Below w.heap.size w w'
set_option maxRecDepth 100000 in
set_option maxHeartbeats 4000000 in
/-- Run, by what each step does. -/
theorem run_gen (CL : Nat → List Value) (O Bk : Nat → List Nat) (PA : Option Addr) (n nb pc : Nat) (p : List Nat) (w : World) (hM : ∀ i, i ≤ nb → M2F zM.toArray (CL i)) (hO : O 0 = [] ∧ ∀ i, i < nb → O (i + 1) = O i ++ Bk i) (hB : ∀ i, i < nb → (Bk i).length = 16)
    (hS : ∀ i W, i < nb → Below w.heap.size w W → Calls Tryd.prog 63 #[.agg (CL i).toArray, .agg (b8 (blkAt p i))] W (fun e w' => e = .returned (.tuple #[.agg (CL (i + 1)).toArray, .agg (b8 (Bk i))]) ∧ Below W.heap.size W w'))
    (hpl : p.length = n) (hn : n = 16 * nb) (hnm : n ≤ 1000000) (hpc : n ≤ pc) (hz : Nats .u8 256 w w.heap.size PA p) :
    Calls Tryd.prog 56 #[.agg (CL 0).toArray, .slice PA n pc] w (RunGen w (CL nb) (O nb)) := by
  have HPB := wall (show ∀ x ∈ p, x < 256 from fun x hx => by
    obtain ⟨i, hi⟩ := List.mem_iff_getElem?.1 hx
    exact (hz i x hi).1)
  have HBK := wall (fun i (h : i < nb) => blkAt_ok HPB.out (i := i) (by omega))
  have HOL := wall (show ∀ i, i ≤ nb → (O i).length = 16 * i from fun i => by
    induction i with
    | zero => intro _; rw [hO.1]; rfl
    | succ i ih => intro h; rw [hO.2 i (by omega), List.length_append, ih (by omega), hB i (by omega)]; omega)
  have HMV := wall hM
  have HON := wall hO.2
  have H0 := wall hO.1
  have HBL := wall hB
  have HST := wall hS
  have HZ := wall hz
  have HPL := wall hpl
  have HSB := wall (fun (l : List Nat) (h : l.length = 16) => show (Tryd.prog.info? 90).map (·.size) = some (b8 l).size by rw [b8_size, h]; exact blk_info16)
  obtain ⟨ZM, hZM⟩ : ∃ x, zM.toArray = x := ⟨_, rfl⟩
  have HZM := wall (show Tryd.zeroCells96 = ZM by rw [← hZM, zM_eq])
  rw [hZM] at HMV
  unfold RunGen
  obtain ⟨w1, hw1⟩ : ∃ W, W = ((w.alloc (.cells (CL 0).toArray 96)).alloc (.cells ZM 96)).alloc (.cells #[.slice none 0 0, .int .i64 0, .int .i8 0] 155) := ⟨_, rfl⟩
  have HW := wall hw1
  obtain ⟨gU, hgU⟩ : ∃ x, x = w.heap.size + 1 + 1 := ⟨_, rfl⟩
  obtain ⟨gR, hgR⟩ : ∃ x, x = w.heap.size + 1 := ⟨_, rfl⟩
  obtain ⟨gM, hgM⟩ : ∃ x, x = w.heap.size := ⟨_, rfl⟩
  have HGG := wall (show gU = w.heap.size + 1 + 1 ∧ gR = w.heap.size + 1 ∧ gM = w.heap.size from ⟨hgU, hgR, hgM⟩)
  have HR1 := wall (show Rb w gM gR gU (CL 0) ZM (O 0) w1 by
    rw [hw1, hgU, hgR, hgM]
    refine ⟨((Blk.new _ _ _).alloc _).alloc _, (blk_new' (by simp)).alloc _, ?_, (((Below.refl _ w).alloc (Nat.le_refl _) _).alloc (by simp) _).alloc (by simp; omega) _, Nat.le_refl _, by omega, by omega⟩
    have h := Lib.fresh_isBuffer 155 5 ((w.alloc (.cells (CL 0).toArray 96)).alloc (.cells ZM 96))
    rw [H0.out]
    simpa [v8] using h)
  have hr : ((n : Int) % 16 != 0) = false := by rw [bne_eq_false_iff_eq]; omega
  have hr2 : ((n : Int).tmod 16 != 0) = false := by rw [bne_eq_false_iff_eq, Int.tmod_eq_emod_of_nonneg (by omega)]; omega
  have HSA := wall (fun (ad : Option Addr) (k cap : Nat) (h : 16 ≤ k) (hc : k ≤ cap) => And.intro (run_slice_h1 (P := Tryd.prog) 53 5 Tryd.underlying53 (fun _ => by kernel_rfl) ad k cap 16 .i64 16 rfl (by omega) (by omega)) (run_slice_l1 (P := Tryd.prog) 53 5 Tryd.underlying53 (fun _ => by kernel_rfl) ad k cap 16 .i64 16 rfl h))
  have HN := wall hn
  clear hw1 hZM hM hO hB hS hpl hz hgU hgR hgM hn
  go_enter Tryd.func56, Tryd.ntmps56
  go_upto_region 1 with fail
  rw [HZM.out]
  go_upto_region 4 with fail
  change Code.wp _ _ _ _ (((w.alloc (.cells (CL 0).toArray 96)).alloc (.cells ZM 96)).alloc (.cells #[.slice none 0 0, .int .i64 0, .int .i8 0] 155))
  rw [← HW.out, ← HGG.out.1, ← HGG.out.2.1, ← HGG.out.2.2]
  clear HW HGG HZM hr hr2
  go_loopg [1] nb (fun gm s1 wr => ∃ (i : Nat) (ad : Option Addr) (k pc' : Nat), i + gm = nb ∧ s1 = .slice ad k pc' ∧ k = n - 16 * i ∧ k ≤ pc' ∧ Wall (Nats .u8 256 w w.heap.size ad (p.drop (16 * i))) ∧ Wall (Rb w gM gR gU (CL i) ZM (O i) wr))
  case atStart => exact ⟨0, PA, n, pc, by omega, rfl, by omega, hpc, wall (by simpa using HZ.out), HR1⟩
  case round =>
    clear HR1
    obtain ⟨i, ad, k, pc', hg, rfl, hki, hkp, HNA, HR⟩ := hrel
    have HG := wall hg
    have hi : i ≤ nb := by omega
    have hnn := HN.out
    clear hg
    have hol := HOL.out i hi
    by_cases hlt : i < nb
    · have hk16 : 16 ≤ k := by omega
      have hk0 : (0 : Int) < (k : Int) := by omega
      obtain ⟨b, hb⟩ : ∃ b, blkAt p i = b := ⟨_, rfl⟩
      have hbk := HBK.out i hlt
      rw [hb] at hbk
      obtain ⟨sb, so, had, hsb, hrg⟩ := nats_range (HNA.out.below HR.out.bel) 16 (by decide) (by rw [List.length_drop, HPL.out]; omega)
      rw [show (p.drop (16 * i)).take 16 = b from hb] at hrg
      subst had
      have HRG := wall hrg
      have HBB := wall hbk
      have hst := HST.out i
      rw [hb] at hst
      have HSL := wall (HSA.out (some ⟨sb, so, none⟩) k pc' hk16 hkp)
      have HM1 := wall (HMV.out i hi)
      have HM2 := wall (HMV.out (i + 1) (by omega))
      have hnx := HON.out i hlt
      have hb2l := HBL.out i hlt
      obtain ⟨b2, hb2⟩ : ∃ x, Bk i = x := ⟨_, rfl⟩
      obtain ⟨ML2, hML2⟩ : ∃ x, CL (i + 1) = x := ⟨_, rfl⟩
      obtain ⟨ML, hML⟩ : ∃ x, CL i = x := ⟨_, rfl⟩
      obtain ⟨out, hout⟩ : ∃ x, O i = x := ⟨_, rfl⟩
      rw [hML, hML2, hb2] at hst
      rw [hML] at HM1 HR
      rw [hML2] at HM2
      rw [hb2] at hnx hb2l
      rw [hout] at hnx HR hol
      have HSTQ := wall (fun W (h : Below w.heap.size w W) => hst W hlt h)
      have HB2 := wall hb2l
      have HNI := wall hnx
      have HML2 := wall hML2
      have HKI := wall hki
      have hlim : out.length + 16 ≤ 140737488355328 := by omega
      clear hol hb hbk hrg hb2l hML2 hML hnn hki hst hnx hb2 hout
      go_upto_region 6 with fail
      change Code.wp _ _ _ _ (wr.alloc (.cells (b8 z16) 90))
      obtain ⟨w5, hw5⟩ : ∃ W, W = wr.alloc (.cells (b8 z16) 90) := ⟨_, rfl⟩
      have HB5 := wall (show Below wr.heap.size wr w5 by rw [hw5]; exact (Below.refl _ _).alloc (Nat.le_refl _) _)
      have HKB5 := wall (show Blk w5 wr.heap.size 90 (b8 z16) by rw [hw5]; exact Blk.new _ _ _)
      have HR5 := wall (HR.out.old HB5.out)
      have HRG5 := wall (range_below HRG.out (Nat.lt_of_lt_of_le hsb HR.out.bel.size) HB5.out)
      have hgb : gU < wr.heap.size := HR.out.buf.lt
      have hsb5 : sb < w5.heap.size := Nat.lt_of_lt_of_le hsb HR5.out.bel.size
      rw [← hw5]
      clear hw5 HB5 HR HRG
      generalize wr.heap.size = gb at *
      refine Rel.wp_region_rel_pin 6 [(23, .const (.tuple #[.agg ML2.toArray, .agg (b8 b2)]))] (by kernel_rfl) (by kernel_rfl) ?_
      simp only [List.take_succ_cons, List.take_zero, List.drop_succ_cons, List.drop_zero, Act.put, List.setIfInBounds_toArray, List.set_cons_zero, List.set_cons_succ]
      refine Rel.tree_pure rfl rfl rfl (.agg ML.toArray) (fun W hW _ => Rel.exec_load _ _ rfl gM 0 rfl _ _ (Blk.range (hW.blk HR5.out.km.drew)) Tryd.underlying96 rfl HM1.out.1) ?_
      simp only [Act.put, List.setIfInBounds_toArray, List.set_cons_zero, List.set_cons_succ]
      (refine Rel.tree_quiet rfl rfl rfl (fun K hK => ?_); go_big_quiet_op; refine hK _ ?_; clear hK K)
      refine Rel.tree_pure rfl rfl rfl (.slice (some ⟨sb, so, none⟩) 16 pc') (fun W hW _ => Rel.exec_slice _ _ _ _ rfl _ (HSL.out.1 W)) ?_
      simp only [Act.put, List.setIfInBounds_toArray, List.set_cons_zero, List.set_cons_succ]
      refine Rel.tree_pure rfl rfl rfl (.pointer (some ⟨sb, so, none⟩)) (fun W hW _ => Rel.exec_arr _ _ _ rfl 16 _ 16 pc' rfl Tryd.underlying90 (Nat.le_refl _)) ?_
      simp only [Act.put, List.setIfInBounds_toArray, List.set_cons_zero, List.set_cons_succ]
      refine Rel.tree_pure rfl rfl rfl (.agg (b8 b)) (fun W hW _ => Rel.exec_load _ _ rfl sb so rfl _ _ (range_below HRG5.out hsb5 hW.undrew) Tryd.underlying90 rfl (HSB.out _ HBB.out.1)) ?_
      simp only [Act.put, List.setIfInBounds_toArray, List.set_cons_zero, List.set_cons_succ]
      refine Rel.tree_const rfl (.tuple #[.agg ML2.toArray, .agg (b8 b2)]) rfl (fun W hW _ => ?_) ?_
      · have hV := below_then HR5.out.bel hW.undrew (Nat.le_refl _)
        unfold Rel.relAt; go_simp; show Calls _ _ _ _ _
        exact const_call (HSTQ.out W hV)
      simp only [Act.put, List.setIfInBounds_toArray, List.set_cons_zero, List.set_cons_succ]
      (refine Rel.tree_quiet rfl rfl rfl (fun K hK => ?_); go_big_quiet_op; refine hK _ ?_; clear hK K)
      intro W hW _
      have HRW := wall (HR5.out.old hW.undrew)
      have HKB := wall (hW.blk HKB5.out.drew)
      clear hW HR5 HKB5 HRG5 HSTQ
      refine Rel.take_at 7 24 (.agg ML2.toArray) rfl rfl (by kernel_rfl) (by kernel_rfl) (by kernel_rfl) (fun _ _ _ h => h) rfl (fun w => by go_simp) ?_
      simp only [Act.put, List.setIfInBounds_toArray, List.set_cons_zero, List.set_cons_succ]
      refine Rel.take_at 8 25 (.agg (b8 b2)) rfl rfl (by kernel_rfl) (by kernel_rfl) (by kernel_rfl) (fun _ _ _ h => h) rfl (fun w => by go_simp) ?_
      simp only [Act.put, List.setIfInBounds_toArray, List.set_cons_zero, List.set_cons_succ]
      refine Rel.rest_idx [(9, _), (10, _)] rfl (fun p hp => by simp at hp; rcases hp with rfl | rfl <;> rfl) (by kernel_rfl) ?_
      simp only [List.map_cons, List.map_nil]
      have o2 := HRW.out.o2
      have o3 := HRW.out.o3
      go_upto_region 7 with (first | (refine wpList_set_row rfl 90 (.tmp 8) (.tmp 25) rfl gb (b8 b2) rfl rfl 90 (b8 z16) (HKB.out.frm F8.out (by simp; omega)) (HSB.out _ HB2.out) (by rw [b8_size, b8_size, HB2.out]; rfl) (b8_one _) ?_; intro w9 K9 F9) | (refine wpList_set_row rfl 96 (.tmp 2) (.tmp 24) rfl gM ML2.toArray rfl rfl 96 ML.toArray HRW.out.km HM2.out.1 (HM1.out.2.1.symm.trans HM2.out.2.1) HM2.out.2.2 ?_; intro w8 K8 F8))
      have HR8 := wall (HRW.out.putM F8.out K8.out)
      have HR9 := wall (HR8.out.far F9.out hgb (fun c hc => by have := (Blk.eq hc (HKB.out.frm F8.out (by simp; omega))).1; exact absurd this (by decide)))
      replace K9 := wall K9.out
      have hs7 := Slot.run_slice_arr_all' (P := Tryd.prog) 90 5 16 Tryd.underlying90 (fun _ => by kernel_rfl) gb 0 (by decide)
      clear HRW HKB F8 K8 F9 HR8 HM1
      go_wp2_with fail
      (with_reducible refine (write_any gU gb out b2 16 16 w9 HR9.out.buf HB2.out (by omega) K9.out hlim).mono ?_); rintro e w10 ⟨rfl, hU, hB⟩
      have HR10 := wall (HR9.out.wrote hB hU)
      have hs8 := HSL.out.2
      clear hU hB HR9 K9 hs7
      go_wp2_with fail
      go_light
      go_roundg (nb - (i + 1))
      case measure => have := HG.out; omega
      case rel =>
        have hn16 := HN.out
        exact ⟨i + 1, slA (some ⟨sb, so, none⟩) 16 pc', k - 16, pc' - 16, by omega, rfl, by have := HKI.out; omega, by omega, wall (by have h := nats_slA (i := 16) (cap := pc') HNA.out (by rw [List.length_drop, HPL.out]; have := HKI.out; omega); rw [List.drop_drop] at h; rw [show 16 * (i + 1) = 16 * i + 16 by omega]; exact h), by rw [HNI.out, HML2.out]; exact HR10⟩
    · have hinb : i = nb := by omega
      subst hinb
      have hk0 : k = 0 := by omega
      subst hk0
      have HM1 := wall (HMV.out i hi)
      obtain ⟨ML, hML⟩ : ∃ x, CL i = x := ⟨_, rfl⟩
      obtain ⟨out, hout⟩ : ∃ x, O i = x := ⟨_, rfl⟩
      have HML := wall hML
      have HQ := wall hout
      rw [hML] at HM1 HR
      rw [hout] at HR hol
      clear hol hnn hki hML hout
      go_wp2_with fail
      refine RelG.wp_region_rel 2 [(31, .any (fun v W => OwnB W gU v out) own_grow)] (by kernel_rfl) (by kernel_rfl) ?_
      simp only [List.take_succ_cons, List.take_zero, List.drop_succ_cons, List.drop_zero, Act.put, List.setIfInBounds_toArray, List.set_cons_zero, List.set_cons_succ]
      refine RelG.tree_pure rfl rfl rfl (.agg ML.toArray) (fun W hW _ => Rel.exec_load _ _ rfl gM 0 rfl _ _ (Blk.range (hW.blk HR.out.km.drew)) Tryd.underlying96 rfl HM1.out.1) ?_
      simp only [Act.put, List.setIfInBounds_toArray, List.set_cons_zero, List.set_cons_succ]
      refine RelG.tree_rel rfl (fun v W => OwnB W gU v out) own_grow rfl (fun W hW _ => ?_) (fun v31 => ?_)
      · have hb := (HR.out.old hW.undrew).buf
        unfold RelG.relAt; go_simp; show Calls _ _ _ _ _
        exact Calls.mono (bytes_any gU out W hb) fun e w' ⟨v, h1, h2, k, h3⟩ => ⟨v, h1, by rw [h3]; exact below_drewN (Below.refl _ _) k, h2⟩
      simp only [Act.put, List.setIfInBounds_toArray, List.set_cons_zero, List.set_cons_succ]
      intro W hW hF
      have HOW := wall (show OwnB W gU v31 out from hF 31)
      have HRW := wall (HR.out.old hW.undrew)
      clear hF hW HR
      go_wp2_with (refine wpList_set_row rfl 96 (.tmp 4) (.tmp 30) rfl gR ML.toArray rfl rfl 96 ZM HRW.out.kr HM1.out.1 HM1.out.2.1 HM1.out.2.2 ?_; intro w8 K8 F8)
      have o1 := HRW.out.o1
      have o2 := HRW.out.o2
      have o3 := HRW.out.o3
      have HOZ := wall (show OwnB w8 w.heap.size v31 out by
        have h : OwnB w8 gU v31 out := own_frm HOW.out F8.out (fun x hx => by simp at hx; omega)
        exact own_less h (by omega))
      have HBZ := wall (show Below w.heap.size w w8 from Below.frm HRW.out.bel F8.out (Nat.le_refl _) (fun x hx => by simp at hx; omega))
      replace K8 := wall K8.out
      clear F8 HRW HOW
      go_light
      exact bodyPost_ret (v := .tuple #[.agg ML.toArray, v31, .int .i64 0]) (results_two_slots Tryd.results56 _ _ gR 96 ML.toArray _ _ _ rfl rfl rfl K8.out Tryd.underlying96 rfl HM1.out.1) rfl ⟨v31, by rw [HML.out], by rw [HQ.out]; exact HOZ.out, HBZ.out⟩
theorem run_any (A : Option Addr) (L c : Nat) (m : Md) (PA : Option Addr) (n nb pc : Nat) (p : List Nat) (w : World) (hm : m.Ok) (hk : KeyV w w.heap.size m.key A L c) (hpl : p.length = n) (hn : n = 16 * nb) (hnm : n ≤ 1000000) (hpc : n ≤ pc) (hz : Nats .u8 256 w w.heap.size PA p) :
    Calls Tryd.prog 56 #[.agg (mV A L c m).toArray, .slice PA n pc] w (RunOut w A L c (runM m p nb)) := by
  have hb : ∀ x ∈ p, x < 256 := fun x hx => by
    obtain ⟨i, hi⟩ := List.mem_iff_getElem?.1 hx
    exact (hz i x hi).1
  have ok := fun i (h : i ≤ nb) => runM_ok hm hb i (by omega)
  exact run_gen (fun i => mV A L c (runM m p i).1) (fun i => (runM m p i).2) (fun i => (stepM (runM m p i).1 (blkAt p i)).2) PA n nb pc p w (fun i h => m2f A L c (ok i h).1.len) ⟨rfl, fun i _ => rfl⟩
    (fun i h => (stepM_ok (ok i (by omega)).1 (blkAt_ok hb (i := i) (by omega)).1 (blkAt_ok hb (i := i) (by omega)).2).2.1)
    (fun i W h hB => step_any A L c _ _ W (ok i (by omega)).1 (by rw [(ok i (by omega)).2.1]; exact (hk.below hB).more hB.size) (blkAt_ok hb (i := i) (by omega)).1 (blkAt_ok hb (i := i) (by omega)).2) hpl hn hnm hpc hz
end Aes
end Go.Proofs.YtpakdcgcgekcfaaDoor

/-
  bytes.Clone; package mode: All.
-/
set_option linter.unusedSimpArgs false
set_option linter.unusedVariables false
namespace Go.Proofs.YtpakdcgcgekcfaaDoor
open Go.RowKit

namespace Aes
open Otp R1 Fuse Sha
theorem own_zero (w : World) : OwnB (w.alloc (.cells #[] 5)) w.heap.size (.slice (some ⟨w.heap.size, 0, none⟩) 0 0) [] :=
  ⟨rfl, .inr ⟨w.heap.size, 0, #[], rfl, Nat.le_refl _, heap_alloc_new w _, Nat.le_refl _, by decide, rfl, rfl⟩⟩
set_option maxRecDepth 100000 in
set_option maxHeartbeats 1000000 in
theorem clone_any (A : Option Addr) (n c : Nat) (l : List Nat) (w : World) (hl : l.length = n) (hn : n ≤ 1000000) (hc : n ≤ c) (hnil : A = none → c = 0) (hz : Nats .u8 256 w w.heap.size A l) :
    Calls Tryd.prog 98 #[.slice A n c] w (BytesOut w l) := by
  cases A with
  | none =>
    have hc0 := hnil rfl
    subst hc0
    have hn0 : n = 0 := by omega
    subst hn0
    have hl0 : l = [] := List.length_eq_zero_iff.1 hl
    subst hl0
    have hq : ∀ W, (binOp .eql 53 (.slice none 0 0) (.slice none 0 0)).run Tryd.prog W = .ok (.bool true) W := fun W => Lib.run_eql_slice_nil_nil W _ _ Tryd.underlying53
    clear hnil hz hl hn hc
    go_enter Tryd.func98, Tryd.ntmps98
    go_wp2_with fail
    go_light
    go_ret
    exact ⟨_, rfl, World.ownsRow_nil _ _ _ _, Below.refl _ _⟩
  | some ad =>
    have hq : ∀ W, (binOp .eql 53 (.slice (some ad) n c) (.slice none 0 0)).run Tryd.prog W = .ok (.bool false) W := fun W => Lib.run_eql_slice_some_nil W _ _ _ Tryd.underlying53
    have HZ := wall hz
    clear hz hnil
    have HO := wall (show OwnB (w.alloc (.cells #[] 5)) w.heap.size (.slice (some ⟨w.heap.size, 0, none⟩) 0 0) [] from own_zero w)
    have HBZ := wall (show Below w.heap.size w (w.alloc (.cells #[] 5)) from (Below.refl _ _).alloc (Nat.le_refl _) _)
    have HZ2 := wall ((HZ.out.below HBZ.out).more HBZ.out.size)
    go_enter Tryd.func98, Tryd.ntmps98
    go_wp2_with (refine wpList_append_bytes rfl (.tmp 5) (.tmp 6) rfl w.heap.size (.slice (some ⟨w.heap.size, 0, none⟩) 0 0) [] rfl HO.out (some ad) n c l rfl hl ⟨_, HZ2.out⟩ (fun h => nomatch h) (by simp; omega) HBZ.out.size ?_; intro v' w' hO' hB')
    go_light
    go_ret
    exact ⟨v', rfl, by simpa using hO', HBZ.out.trans hB'⟩
/-- Bytes by some modes, one behind the other. -/
def allM (ms : List Md) (p : List Nat) : Nat → List Nat
  | 0 => p
  | i + 1 => match ms[i]? with
    | some m => (runM m (allM ms p i) (p.length / 16)).2
    | none => allM ms p i
/-- A slice of modes. -/
def Modes (w : World) (B g : Nat) (ms : List Md) : Prop := g < B ∧ ∀ i m, ms[i]? = some m → m.Ok ∧ ∃ A L c, KeyV w B m.key A L c ∧ w.rangeAt g (i * 531) (mV A L c m)
theorem allM_ok {ms : List Md} (hm : ∀ m ∈ ms, m.Ok) {p : List Nat} (hb : ∀ x ∈ p, x < 256) (hl : p.length % 16 = 0) : ∀ i, (allM ms p i).length = p.length ∧ ∀ x ∈ allM ms p i, x < 256
  | 0 => ⟨rfl, hb⟩
  | i + 1 => by
    obtain ⟨h1, h2⟩ := allM_ok hm hb hl i
    rw [allM]
    cases h : ms[i]? with
    | none => exact ⟨h1, h2⟩
    | some m =>
      obtain ⟨-, -, -, -, h5, h6⟩ := runM_ok (hm m (List.mem_of_getElem? h)) h2 (p.length / 16) (by omega)
      exact ⟨by simp only; rw [h5]; omega, h6⟩
def AllOut (w : World) (l : List Nat) (e : Ending) (w' : World) : Prop := ∃ v, e = .returned (.tuple #[v, .int .i64 0]) ∧ OwnB w' w.heap.size v l ∧ Below w.heap.size w w'
set_option maxRecDepth 100000 in
set_option maxHeartbeats 4000000 in
theorem all_any (PA : Option Addr) (n pc : Nat) (p : List Nat) (g k mc : Nat) (MA : Option Addr) (ms : List Md) (w : World) (hpl : p.length = n) (hn : k = 0 ∨ n % 16 = 0) (hnm : n ≤ 1000000) (hpc : n ≤ pc) (hnil : PA = none → pc = 0) (hz : Nats .u8 256 w w.heap.size PA p)
    (hk : ms.length = k) (hkm : k ≤ 2) (hM : k = 0 ∨ (MA = some ⟨g, 0, none⟩ ∧ Modes w w.heap.size g ms)) : Calls Tryd.prog 64 #[.slice PA n pc, .slice MA k mc] w (AllOut w (allM ms p k)) := by
  have HPB := wall (show ∀ x ∈ p, x < 256 from fun x hx => by
    obtain ⟨i, hi⟩ := List.mem_iff_getElem?.1 hx
    exact (hz i x hi).1)
  have HAT := wall (show ∀ i, i < k → ∃ m, ms[i]? = some m ∧ m.Ok ∧ MA = some ⟨g, 0, none⟩ ∧ g < w.heap.size ∧ ∃ A L c, KeyV w w.heap.size m.key A L c ∧ w.rangeAt g (i * 531) (mV A L c m) from fun i hi => by
    rcases hM with h | ⟨h1, h2, h3⟩
    · omega
    · obtain ⟨m, hm⟩ : ∃ m, ms[i]? = some m := ⟨_, List.getElem?_eq_getElem (by omega)⟩
      obtain ⟨h4, h5⟩ := h3 i m hm
      exact ⟨m, hm, h4, h1, h2, h5⟩)
  have HOK := wall (fun i (h16 : n % 16 = 0) => allM_ok (ms := ms) (p := p) (fun m hm => by
    obtain ⟨i, hi⟩ := List.mem_iff_getElem?.1 hm
    obtain ⟨m', h1, h2, _⟩ := HAT.out i (by rw [← hk]; exact (List.getElem?_eq_some_iff.1 hi).1)
    rw [hi] at h1
    rw [Option.some.inj h1]
    exact h2) HPB.out (by omega) i)
  have HNX := wall (fun i m (h : ms[i]? = some m) => show allM ms p (i + 1) = (runM m (allM ms p i) (n / 16)).2 by rw [allM, h, hpl])
  have HCL := wall (clone_any PA n pc p w hpl hnm hpc hnil hz)
  have HPL := wall hpl
  have HN := wall hn
  have H0 := wall (show allM ms p 0 = p from rfl)
  have HMI := wall (fun A L c (m : Md) (h : m.v.length = 16) => mV_info A L c h)
  obtain ⟨ZM, hZM⟩ : ∃ x, zM.toArray = x := ⟨_, rfl⟩
  have HZM := wall (show Tryd.zeroCells96 = ZM by rw [← hZM, zM_eq])
  have HMF := wall (fun A L c (m : Md) (h : m.v.length = 16) => m2f A L c h)
  rw [hZM] at HMF
  generalize allM ms p = al at *
  clear hM hZM hpl hz hn hk
  go_enter Tryd.func64, Tryd.ntmps64
  go_wp2_with fail
  (with_reducible refine (HCL.out).mono ?_); rintro e w1 ⟨v1, rfl, hO1, hB1⟩
  have HO1 := wall hO1
  have HB1 := wall hB1
  clear hO1 hB1 HCL
  go_wp2_with fail
  go_loopg [6, 16] k (fun gm s6 s16 wr => ∃ (i : Nat) (v : Value), i + gm = k ∧ s6 = v ∧ s16 = .int .i64 (i : Int) ∧ Wall (OwnB wr w.heap.size v (al i)) ∧ Wall (Below w.heap.size w wr))
  case atStart => exact ⟨0, v1, by omega, rfl, rfl, by rw [H0.out]; exact HO1, HB1⟩
  case round =>
    clear HO1 HB1
    obtain ⟨i, v, hg, rfl, rfl, HO, HB⟩ := hrel
    have HG := wall hg
    have hi : i ≤ k := by omega
    clear hg
    by_cases hlt : i < k
    · obtain ⟨m, hmi, hok, rfl, hgl, A, L, c, hkv, hrg⟩ := HAT.out i hlt
      have h16 : n % 16 = 0 := by rcases HN.out with h | h <;> omega
      obtain ⟨hal, hab⟩ := HOK.out i h16
      have hnx := HNX.out i m hmi
      obtain ⟨X, hX⟩ : ∃ X, al i = X := ⟨_, rfl⟩
      rw [hX] at hal hab hnx HO
      have HX := wall hnx
      obtain ⟨A2, c2, rfl, hc2, hN2, hA2⟩ := own_nats HO.out hab
      have hXn : X.length = n := hal.trans HPL.out
      have hn16 : n = 16 * (n / 16) := by omega
      have HRU := wall (fun W (h : Below wr.heap.size wr W) => run_any A L c m A2 X.length (n / 16) c2 X W hok ((hkv.below (HB.out.trans (h.mono HB.out.size))).more (Nat.le_trans HB.out.size h.size)) rfl (by rw [hXn]; exact hn16) (by rw [hXn]; exact hnm) hc2 ((hN2.below h).more h.size))
      have HRG := wall (range_below hrg hgl HB.out)
      have HM1 := wall (HMF.out A L c m hok.len)
      have hrk := (runM_ok hok hab (n / 16) (by rw [hXn]; omega)).1.len
      obtain ⟨⟨q, out⟩, hqo⟩ : ∃ x, runM m X (n / 16) = x := ⟨_, rfl⟩
      unfold RunOut at HRU
      rw [hqo] at HRU hrk HX
      simp only at HRU hrk HX
      have HM2 := wall (HMF.out A L c q hrk)
      obtain ⟨ML2, hML2⟩ : ∃ x, mV A L c q = x := ⟨_, rfl⟩
      obtain ⟨ML, hML⟩ : ∃ x, mV A L c m = x := ⟨_, rfl⟩
      rw [hML] at HM1 HRG HRU
      rw [hML2] at HM2 HRU
      have HRG := wall (show wr.rangeAt g (i * 531) ML.toArray.toList from HRG.out)
      have hgw : g < wr.heap.size := Nat.lt_of_lt_of_le hgl HB.out.size
      obtain ⟨XL, hXL⟩ : ∃ x, X.length = x := ⟨_, rfl⟩
      rw [hXL] at HRU ⊢
      clear h16 hmi hok hkv hrg hal hab hnx hN2 hA2 hrk hqo hML hML2 hn16 hXn HO hX hXL hc2
      go_upto_region 4 with fail
      go_upto_region 5 with (first | refine wpList_load_arr rfl 96 _ rfl g (i * 531) rfl ML.toArray _ HRG.out Tryd.underlying96 rfl HM1.out.1 ?_ | (refine wpList_new_row rfl 96 (.tmp 8) (.tmp 19) rfl wr.heap.size ML.toArray rfl rfl 96 ZM (by rw [← HZM.out]; exact Blk.new _ _ _) HM1.out.1 HM1.out.2.1 HM1.out.2.2 wr.heap.size wr ((Below.refl _ wr).alloc (Nat.le_refl _) _) (Nat.le_refl _) ?_; intro w5 K5 B5))
      have HK5 := wall K5.out
      have HB5 := wall B5.out
      clear K5 B5 HRG
      go_wp2_with (refine wpList_load_row rfl 96 _ rfl wr.heap.size rfl 96 ML.toArray (0, 0) _ HK5.out Tryd.underlying96 rfl HM1.out.1 ?_)
      (with_reducible refine (HRU.out _ HB5.out).mono ?_); rintro e w6 ⟨v6, rfl, hO6, hB6⟩
      have HO6 := wall (show OwnB w6 w.heap.size v6 out from own_less hO6 (Nat.le_trans HB.out.size HB5.out.size))
      have HB6 := wall (show Below w.heap.size w w6 from HB.out.trans ((HB5.out.trans (hB6.mono HB5.out.size)).mono HB.out.size))
      clear hO6 hB6 HB5 HK5 HRU
      go_upto_region 6 with (refine wpList_new_row rfl 96 (.tmp 9) (.tmp 24) rfl w6.heap.size ML2.toArray rfl rfl 96 ZM (by rw [← HZM.out]; exact Blk.new _ _ _) HM2.out.1 HM2.out.2.1 HM2.out.2.2 w6.heap.size w6 ((Below.refl _ w6).alloc (Nat.le_refl _) _) (Nat.le_refl _) ?_; intro w7 K7 B7)
      have HO7 := wall (show OwnB w7 w.heap.size v6 out from own_frm HO6.out (Frm.of_below (S := []) B7.out) (fun x hx => by simp at hx))
      have HB7 := wall (show Below w.heap.size w w7 from HB6.out.trans (B7.out.mono HB6.out.size))
      clear K7 B7 HO6 HB6
      go_wp2_with fail
      go_light
      go_roundg (k - (i + 1))
      case measure => have := HG.out; omega
      case rel => exact ⟨i + 1, v6, by omega, rfl, by go_num, by rw [HX.out]; exact HO7, HB7⟩
    · have hik : i = k := by omega
      subst hik
      go_wp2_with fail
      go_light
      go_ret2
      exact ⟨_, rfl, HO.out, HB.out⟩
end Aes
end Go.Proofs.YtpakdcgcgekcfaaDoor

/-
  Package mode: a mode that is none leaves blocks as they are.
-/
set_option linter.unusedSimpArgs false
set_option linter.unusedVariables false
namespace Go.Proofs.YtpakdcgcgekcfaaDoor
open Go.RowKit

namespace Aes
open Otp R1 Fuse Sha
set_option maxRecDepth 100000 in
set_option maxHeartbeats 1000000 in
theorem rounds_zero (w : World) : Calls Tryd.prog 116 #[.agg zK.toArray] w (fun e w' => e = .returned (.int .i64 0) ∧ Below w.heap.size w w') := by
  obtain ⟨ZK, hZK⟩ : ∃ x, zK.toArray = x := ⟨_, rfl⟩
  obtain ⟨w1, hw1⟩ : ∃ W, W = w.alloc (.cells ZK 94) := ⟨_, rfl⟩
  have HB := wall (show Below w.heap.size w w1 by rw [hw1]; exact (Below.refl _ w).alloc (Nat.le_refl _) _)
  have hK : Blk w1 w.heap.size 94 ZK := by rw [hw1]; exact Blk.new _ _ _
  have hcv : w1.cell? ⟨w.heap.size, 0, none⟩ = some (.slice none 0 0) := by rw [hK.cell, ← hZK]; rfl
  have hlt := hK.lt
  rw [hZK]
  clear hZK
  go_enter Tryd.func116, Tryd.ntmps116
  go_upto_region 1 with fail
  rw [← hw1]
  clear hw1 hK
  go_wp2_with fail
  go_light
  go_ret
  exact ⟨rfl, HB.out⟩
set_option maxRecDepth 100000 in
set_option maxHeartbeats 2000000 in
theorem encrypt_zero (b : List Nat) (w : World) (hb : b.length = 16) : Calls Tryd.prog 96 #[.agg zK.toArray, .agg (b8 b)] w (BkOut w b) := by
  have HRZ := wall (fun W => rounds_zero W)
  have HSK0 : (Tryd.prog.info? 94).map (·.size) = some zK.toArray.size := by rw [List.size_toArray, zK_length]; exact key_info
  obtain ⟨ZK, hZK⟩ : ∃ x, zK.toArray = x := ⟨_, rfl⟩
  rw [hZK] at HRZ HSK0 ⊢
  have HSK := wall HSK0
  have HSB := wall (show (Tryd.prog.info? 90).map (·.size) = some (b8 b).size by rw [b8_size, hb]; exact blk_info16)
  have HZZ := wall (show (b8 z16).size = (b8 b).size by rw [b8_size, b8_size, hb]; rfl)
  obtain ⟨w1, hw1⟩ : ∃ W, W = ((w.alloc (.cells ZK 94)).alloc (.cells (b8 b) 90)).alloc (.cells (b8 z16) 90) := ⟨_, rfl⟩
  have HW := wall hw1
  have HKK := wall (show Blk w1 w.heap.size 94 ZK by rw [hw1]; exact ((Blk.new _ _ _).alloc _).alloc _)
  have HKB := wall (show Blk w1 (w.heap.size + 1) 90 (b8 b) by rw [hw1]; exact (blk_new' (by simp)).alloc _)
  have HKR := wall (show Blk w1 (w.heap.size + 1 + 1) 90 (b8 z16) by rw [hw1]; exact blk_new' (by simp))
  have HB1 := wall (show Below w.heap.size w w1 by rw [hw1]; exact (((Below.refl _ w).alloc (Nat.le_refl _) _).alloc (by simp) _).alloc (by simp; omega) _)
  clear hw1 hZK HSK0 hb
  go_enter Tryd.func96, Tryd.ntmps96
  go_upto_region 1 with fail
  change Code.wp _ _ _ _ (((w.alloc (.cells ZK 94)).alloc (.cells (b8 b) 90)).alloc (.cells (b8 z16) 90))
  rw [← HW.out]
  clear HW
  go_wp2_with (refine wpList_load_row rfl 94 _ rfl w.heap.size rfl 94 ZK (0, 0) _ HKK.out Tryd.underlying94 rfl HSK.out ?_)
  (with_reducible refine (HRZ.out _).mono ?_); rintro e w2 ⟨rfl, hB2⟩
  have HKB2 := wall (HKB.out.next hB2 rfl)
  have HKR2 := wall (HKR.out.next hB2 rfl)
  have HB2 := wall (below_then HB1.out hB2 (Nat.le_refl _))
  clear hB2 HKB HKR HB1 HKK HRZ
  go_wp2_with (first | refine wpList_load_row rfl 90 _ rfl (w.heap.size + 1) rfl 90 (b8 b) (0, 0) _ HKB2.out Tryd.underlying90 rfl HSB.out ?_ | (refine wpList_new_row rfl 90 (.tmp 4) (.tmp 11) rfl (w.heap.size + 1 + 1) (b8 b) rfl rfl 90 (b8 z16) HKR2.out HSB.out HZZ.out (b8_one _) w.heap.size w HB2.out (by omega) ?_; intro w7 KD B7))
  go_light
  exact bodyPost_ret (v := .agg (b8 b)) (results_cell_row Tryd.results96 _ _ (w.heap.size + 1 + 1) 90 (b8 b) (0, 0) _ rfl KD.out Tryd.underlying90 rfl HSB.out) rfl ⟨rfl, B7.out⟩
theorem zM_key : ∀ j v, zK[j]? = some v → zM.toArray[0 + j]? = some v := fun j v hv => by
  have hj : j < zK.length := (List.getElem?_eq_some_iff.1 hv).1
  rw [List.getElem?_toArray, Nat.zero_add, zM, mC, List.getElem?_append_left hj]
  exact hv
theorem zM_kind : zM.toArray[513]? = some (.int .i64 0) ∧ zM.toArray[514]? = some (.bool false) := by
  have hl := zK_length
  constructor
  · rw [List.getElem?_toArray, zM, mC, List.getElem?_append_right (by omega), hl]
    rfl
  · rw [List.getElem?_toArray, zM, mC, List.getElem?_append_right (by omega), hl]
    rfl
theorem zM_f : M2F zM.toArray zM := ⟨by rw [List.size_toArray, zM_length]; exact mode_info, rfl, mC_one zK_ones _ _ _⟩
set_option maxRecDepth 100000 in
set_option maxHeartbeats 4000000 in
theorem step_zero (b : List Nat) (w : World) (hb : b.length = 16) :
    Calls Tryd.prog 63 #[.agg zM.toArray, .agg (b8 b)] w (fun e w' => e = .returned (.tuple #[.agg zM.toArray, .agg (b8 b)]) ∧ Below w.heap.size w w') := by
  have H2F := wall zM_f
  have HSK0 : (Tryd.prog.info? 94).map (·.size) = some zK.toArray.size := by rw [List.size_toArray, zK_length]; exact key_info
  have HSB := wall (fun (l : List Nat) (h : l.length = 16) => show (Tryd.prog.info? 90).map (·.size) = some (b8 l).size by rw [b8_size, h]; exact blk_info16)
  have HRK := wall (fun (W : World) (g : Nat) (h : Blk W g 96 zM.toArray) => show W.rangeAt g 0 zK.toArray.toList from fun j x hx => by rw [h.cell]; exact zM_key j x (by simpa using hx))
  have HCE := wall (fun W => encrypt_zero b W hb)
  have HC := wall zM_kind
  have HB2 := wall hb
  obtain ⟨KL, hKL⟩ : ∃ x, zK.toArray = x := ⟨_, rfl⟩
  rw [hKL] at HSK0 HRK HCE
  have HSK := wall HSK0
  have HZM := wall zM_eq.symm
  obtain ⟨ML2, hML⟩ : ∃ x, zM = x := ⟨_, rfl⟩
  rw [hML] at H2F HRK HC HZM ⊢
  obtain ⟨w1, hw1⟩ : ∃ W, W = (((w.alloc (.cells ML2.toArray 96)).alloc (.cells (b8 b) 90)).alloc (.cells ML2.toArray 96)).alloc (.cells (b8 z16) 90) := ⟨_, rfl⟩
  have HW := wall hw1
  have HS1 := wall (show Sb w w.heap.size (w.heap.size + 1) (w.heap.size + 1 + 1) (w.heap.size + 1 + 1 + 1) ML2.toArray ML2.toArray b w1 by
    rw [hw1]
    exact ⟨(((Blk.new _ _ _).alloc _).alloc _).alloc _, ((blk_new' (by simp)).alloc _).alloc _, (blk_new' (by simp)).alloc _, blk_new' (by simp), ((((Below.refl _ w).alloc (Nat.le_refl _) _).alloc (by simp) _).alloc (by simp; omega) _).alloc (by simp; omega) _, Nat.le_refl _, by omega, by omega, by omega⟩)
  obtain ⟨gR, hgR⟩ : ∃ x, x = w.heap.size + 1 + 1 + 1 := ⟨_, rfl⟩
  obtain ⟨gS, hgS⟩ : ∃ x, x = w.heap.size + 1 + 1 := ⟨_, rfl⟩
  obtain ⟨gB, hgB⟩ : ∃ x, x = w.heap.size + 1 := ⟨_, rfl⟩
  obtain ⟨gM, hgM⟩ : ∃ x, x = w.heap.size := ⟨_, rfl⟩
  have HGG := wall (show gR = w.heap.size + 1 + 1 + 1 ∧ gS = w.heap.size + 1 + 1 ∧ gB = w.heap.size + 1 ∧ gM = w.heap.size from ⟨hgR, hgS, hgB, hgM⟩)
  rw [← hgR, ← hgS, ← hgB] at HS1
  have HS1 := wall (show Sb w gM gB gS gR ML2.toArray ML2.toArray b w1 by rw [hgM]; exact HS1.out)
  have hkc := HS1.out.km.cell 513
  have hbc := HS1.out.km.cell 514
  rw [HC.out.1] at hkc
  rw [HC.out.2] at hbc
  have hlt := HS1.out.km.lt
  clear hw1 hb hML hKL hgR hgS hgB hgM HC HSK0
  go_enter Tryd.func63, Tryd.ntmps63
  go_upto_region 2 with fail
  rw [HZM.out]
  change Code.wp _ _ _ _ ((((w.alloc (.cells ML2.toArray 96)).alloc (.cells (b8 b) 90)).alloc (.cells ML2.toArray 96)).alloc (.cells (b8 z16) 90))
  rw [← HW.out, ← HGG.out.1, ← HGG.out.2.1, ← HGG.out.2.2.1, ← HGG.out.2.2.2]
  clear HW HGG HZM
  go_wp2_with (first | refine wpList_load_arr rfl 94 _ rfl gM 0 rfl KL _ (HRK.out _ _ HS1.out.km) Tryd.underlying94 rfl HSK.out ?_ | refine wpList_load_row rfl 90 _ rfl gB rfl 90 (b8 b) (0, 0) _ HS1.out.kb Tryd.underlying90 rfl (HSB.out _ HB2.out) ?_)
  (with_reducible refine (HCE.out _).mono ?_); rintro e w5 ⟨rfl, hB5⟩
  have HS5 := wall (HS1.out.old hB5)
  clear hB5 HS1 HCE
  go_upto_region 13 with (refine wpList_set_row rfl 90 (.tmp 3) (.tmp 10) rfl gB (b8 b) rfl rfl 90 (b8 b) HS5.out.kb (HSB.out _ HB2.out) rfl (b8_one _) ?_; intro w4 K4 F4)
  have HSX := wall (HS5.out.putB F4.out K4.out)
  clear HS5 K4 F4
  have o2 := HSX.out.o2
  have o3 := HSX.out.o3
  have o4 := HSX.out.o4
  refine wp_two_rows (by kernel_rfl) (by kernel_rfl) rfl rfl rfl rfl rfl rfl 96 90 _ _ _ _ 67 68 (by decide) rfl rfl rfl rfl rfl rfl gM gB gS gR ML2.toArray (b8 b) 96 90 96 90 ML2.toArray (b8 z16) _ _ rfl rfl rfl rfl rfl rfl rfl rfl rfl rfl HSX.out.km HSX.out.kb HSX.out.ks HSX.out.kr (by omega) (by omega) Tryd.underlying96 rfl (H2F.out).1 rfl (H2F.out).2.2 Tryd.underlying90 rfl (HSB.out _ HB2.out) (by rw [b8_size, b8_size, HB2.out]; rfl) (b8_one _) ?_
  intro wz KS KR FZ
  replace KS := wall KS
  replace KR := wall KR
  have HBZ := wall (show Below w.heap.size w wz by have o1 := HSX.out.o1; exact Below.frm HSX.out.bel FZ (Nat.le_refl _) (fun x hx => by simp at hx; omega))
  clear FZ
  go_wp2_with fail
  go_light
  exact bodyPost_ret (v := .tuple #[.agg ML2.toArray, .agg (b8 b)]) (results_two Tryd.results63 _ _ gS gR 96 90 ML2.toArray (b8 b) _ _ rfl rfl KS.out KR.out Tryd.underlying96 rfl (H2F.out).1 Tryd.underlying90 rfl (HSB.out _ HB2.out)) rfl ⟨rfl, HBZ.out⟩
/-- Run of a mode that is none: it does not fail. -/
theorem run_zero (PA : Option Addr) (n nb pc : Nat) (p : List Nat) (w : World) (hpl : p.length = n) (hn : n = 16 * nb) (hnm : n ≤ 1000000) (hpc : n ≤ pc) (hz : Nats .u8 256 w w.heap.size PA p) :
    Calls Tryd.prog 56 #[.agg zM.toArray, .slice PA n pc] w (RunGen w zM (p.take (16 * nb))) := by
  have hb : ∀ x ∈ p, x < 256 := fun x hx => by
    obtain ⟨i, hi⟩ := List.mem_iff_getElem?.1 hx
    exact (hz i x hi).1
  exact run_gen (fun _ => zM) (fun i => p.take (16 * i)) (fun i => blkAt p i) PA n nb pc p w (fun i h => zM_f) ⟨by simp, fun i _ => by rw [show 16 * (i + 1) = 16 * i + 16 by omega, List.take_add, blkAt]⟩
    (fun i h => (blkAt_ok hb (i := i) (by omega)).1) (fun i W h hB => step_zero _ W (blkAt_ok hb (i := i) (by omega)).1) hpl hn hnm hpc hz
end Aes
end Go.Proofs.YtpakdcgcgekcfaaDoor

/-
  RelG, some of whose head's operations are plain values that may be taken late: they are taken as soon as they can be.
-/
set_option linter.unusedSimpArgs false
set_option linter.unusedVariables false
namespace Go.Proofs.YtpakdcgcgekcfaaDoor
open Go Go.RowKit

namespace RelG
/-- Values that no memory tells. -/
def plainOp (o : Oper) : Bool := o.dst.isSome && match o.op with
  | .move _ | .assign _ | .extract _ _ => true
  | _ => false
section
variable {P : Program} {ops : Array Oper} {md : Region.Mode} {n : Nat}
theorem plain_run {o : Oper} {ρ : Operand → Value} {w : World} {v : Value} (hp : plainOp o = true) (h : (execOp ρ o).run P w = .ok (.value v) w) : ∀ w', (execOp ρ o).run P w' = .ok (.value v) w' := fun w' => by
  obtain ⟨dst, op, type, pos, after, guard⟩ := o
  cases op <;> simp only [plainOp, Bool.and_false, Bool.false_eq_true] at hp <;> simp only [execOp] at h ⊢
  case move x => simp at h ⊢; exact h
  case assign x => simp at h ⊢; exact h
  case extract x i =>
    rw [Sem.run_bind] at h ⊢
    generalize ρ x = y at *
    cases y <;> simp [Instr.extract, Result.andThen] at h ⊢
    rename_i vs
    cases hx : vs[i]? with
    | none => rw [hx] at h; simp at h
    | some z => rw [hx] at h; simp at h ⊢; exact h
/-- What an operation waits for, through others. -/
def leadsB (md : Region.Mode) (ops : Array Oper) (k : Nat) : Nat → Nat → Bool
  | 0, _ => false
  | f + 1, j => match ops[j]? with
    | none => false
    | some o => o.after.any fun e => Region.binds md e && (e.on == k || leadsB md ops k f e.on)
def behind (md : Region.Mode) (ops : Array Oper) (j : Nat) : Array Bool := ((List.range ops.size).map fun k => leadsB md ops k ops.size j).toArray
theorem leads_listed {s : Array Bool} (inv : HeadInv md ops n s) {k : Nat} : ∀ (f j : Nat) (o : Oper), ops[j]? = some o → (∀ e ∈ o.after, Region.binds md e = true → s.getD e.on false = true) → leadsB md ops k f j = true → s.getD k false = true
  | 0, _, _, _, _, h => by cases h
  | f + 1, j, o, ho, hall, h => by
    rw [leadsB, ho] at h
    simp only [Array.any_eq_true'] at h
    obtain ⟨e, he, hb⟩ := h
    simp only [Bool.and_eq_true, Bool.or_eq_true, beq_iff_eq] at hb
    obtain ⟨hb1, hb2⟩ := hb
    have hl := hall e he hb1
    rcases hb2 with hk | hk
    · rw [← hk]; exact hl
    · cases ho2 : ops[e.on]? with
      | none =>
        cases f with
        | zero => cases hk
        | succ f => rw [leadsB, ho2] at hk; cases hk
      | some o2 => exact leads_listed inv f e.on o2 ho2 (fun e2 he2 hb3 => inv.closed e.on o2 ho2 hl e2 he2 hb3) hk
def floatB (md : Region.Mode) (ops : Array Oper) (n : Nat) (fl : List Nat) : Bool :=
  fl.all fun j => decide (j < n) && Region.free md ops (behind md ops j) j && match ops[j]? with
    | none => false
    | some o => plainOp o && o.after.all fun e => !Region.binds md e || (decide (e.on < n) && !fl.contains e.on)
def kindB (ops : Array Oper) (ks : List (Tmp × Kind)) (fl : List Nat) : Bool := fl.all fun j => match ops[j]? with
  | none => false
  | some o => (kindOf ks o).isNone
def edgesB (md : Region.Mode) (ops : Array Oper) (n : Nat) (fl : List Nat) : Bool :=
  (List.range ops.size).all fun t => decide (t < n) || (List.range n).all fun i => fl.contains i || Region.waitsFor md ops t i
def okF (md : Region.Mode) (ops : Array Oper) (n : Nat) (fl : List Nat) : Bool := Region.noSelect ops && headB md ops n && decide (n ≤ ops.size) && floatB md ops n fl && edgesB md ops n fl && Region.seqB md ops (ops.size - n) n (canon n ops.size)
theorem free_all {j : Nat} {s : Array Bool} (inv : HeadInv md ops n s) (hr : j ∈ Region.ready md ops s) (h : Region.free md ops (behind md ops j) j = true) : Region.free md ops s j = true := by
  obtain ⟨_, oj, hoj, hall⟩ := mem_ready.1 hr
  unfold Region.free at h ⊢
  rw [hoj] at h ⊢
  simp only [List.all_eq_true, List.mem_range] at h ⊢
  intro k hk
  have := h k hk
  simp only [Bool.or_eq_true] at this ⊢
  rcases this with (h1 | h1) | h1
  · exact .inl (.inl h1)
  · refine .inl (.inr ?_)
    have h2 : leadsB md ops k ops.size j = true := by
      simpa [behind, Array.getD_eq_getD_getElem?, hk] using h1
    have h3 := leads_listed inv _ j oj hoj hall h2
    cases hx : s.getD k true with
    | true => rfl
    | false => rw [getD_both hx] at h3; cases h3
  · exact .inr h1
theorem float_turn {fl : List Nat} {s : Array Bool} (hf : floatB md ops n fl = true) (he : edgesB md ops n fl = true) (inv : HeadInv md ops n s) (hn : n ≤ ops.size) {i : Nat} (hi : i < n) (hun : s.getD i true = false) :
    (∀ t, t ∈ Region.ready md ops s → t < n) ∨ (i ∈ fl ∧ i ∈ Region.ready md ops s) := by
  by_cases hx : ∃ k, k < n ∧ k ∉ fl ∧ s.getD k true = false
  · obtain ⟨k, hk, hkf, hku⟩ := hx
    refine .inl (fun t ht => ?_)
    rcases Nat.lt_or_ge t n with h4 | h4
    · exact h4
    · exfalso
      obtain ⟨_, ot, hot, hall⟩ := mem_ready.1 ht
      have htlt : t < ops.size := (Array.getElem?_eq_some_iff.1 hot).1
      have h1 := List.all_eq_true.1 he t (List.mem_range.2 htlt)
      simp only [Bool.or_eq_true, decide_eq_true_eq] at h1
      rcases h1 with h1 | h1
      · omega
      · have h2 := List.all_eq_true.1 h1 k (List.mem_range.2 hk)
        simp only [Bool.or_eq_true, List.contains_iff_mem] at h2
        rcases h2 with h2 | h2
        · exact hkf h2
        · obtain ⟨o', ho', e, hem, hb, hon⟩ := Region.waitsFor_spec h2
          have : o' = ot := Option.some.inj (ho'.symm.trans hot)
          subst this
          have h3 := hall e hem hb
          rw [hon, getD_both hku] at h3
          cases h3
  · have hif : i ∈ fl := by
      by_cases h : i ∈ fl
      · exact h
      · exact absurd ⟨i, hi, h, hun⟩ hx
    refine .inr ⟨hif, ?_⟩
    have h1 := List.all_eq_true.1 hf i hif
    simp only [Bool.and_eq_true, decide_eq_true_eq] at h1
    obtain ⟨⟨_, _⟩, h1⟩ := h1
    cases ho : ops[i]? with
    | none => rw [ho] at h1; simp at h1
    | some o =>
      rw [ho] at h1
      simp only [Bool.and_eq_true] at h1
      refine mem_ready.2 ⟨hun, o, ho, fun e hem hb => ?_⟩
      have h2 := Array.all_eq_true_iff_forall_mem.1 h1.2 e hem
      simp only [hb, Bool.not_true, Bool.false_or, Bool.and_eq_true, decide_eq_true_eq, Bool.not_eq_true'] at h2
      cases hl : s.getD e.on false with
      | true => rfl
      | false =>
        exfalso
        have hs : e.on < s.size := by rw [inv.size]; omega
        have hnf : e.on ∉ fl := fun h => by
          have : fl.contains e.on = true := List.contains_iff_mem.2 h
          rw [h2.2] at this
          cases this
        exact hx ⟨e.on, h2.1, hnf, getD_in hs hl⟩
end
section
variable {P : Program} {ops : Array Oper} {md : Region.Mode} {n : Nat} {ks : List (Tmp × Kind)} {w0 : World} {a0 : Act}
theorem tree_fl {Q : Act → World → Prop} {R : Exit → Act → World → Prop} {g : Nat} {fl : List Nat} (hsel : Region.noSelect ops = true) (hB : headB md ops n = true) (hn : n ≤ ops.size) (hF : floatB md ops n fl = true) (hE : edgesB md ops n fl = true) (hK : kindB ops ks fl = true)
    (hR : ∀ c a w x v, R (.panic c) (a.put (some x) v) w → R (.panic c) a w)
    {L : List Oper} (hL : ∀ j, j < n → L[j]? = ops[j]?) (hLn : L.length = n) (ht : tree P ops ks w0 Q L bare a0) (hQ : ∀ a w, Q a w → wpAny P md ops R g (canon n ops.size) a w) :
    ∀ (m : Nat) (s : Array Bool) (a : Act) (w : World) (u : Nat → Value), Inv P ops md n ks w0 a0 s a w u → cnt s n = m → wpAny P md ops R (m + g) s a w
  | 0, s, a, w, u, inv, hc => by
    have hall := cnt_zero n hc
    obtain ⟨b, F, h, br⟩ := reach hsel hB inv hL hLn ht n (Nat.le_refl _)
    rw [List.drop_of_length_le (by omega)] at h
    have hba : b = a := by
      have e1 : b.tmps = a.tmps := by
        apply Array.ext_getElem?
        intro d
        by_cases hx : ∃ j p, j < n ∧ ops[j]? = some p ∧ p.dst = some d
        · obtain ⟨j, p, hj, hp, hd⟩ := hx
          rw [br.slot j p d hj hp (hall j hj) hd, inv.slot j p d hj hp (hall j hj) hd]
        · rw [br.rest d (fun j p hj hp hd => hx ⟨j, p, hj, hp, hd⟩), inv.rest d (fun j p hj hp _ hd => hx ⟨j, p, hj, hp, hd⟩)]
      have e2 : b.defers = a.defers := br.defers.trans inv.defers.symm
      cases b; cases a
      simp only at e1 e2
      rw [e1, e2]
    rw [hba] at h
    have hq : Q a w := h w inv.grow (fun d => by
      by_cases hx : ∃ j p, j < n ∧ ops[j]? = some p ∧ p.dst = some d
      · obtain ⟨j, p, hj, hp, hd⟩ := hx
        exact br.told j p d hj hp (hall j hj) hd w (told_now inv hj hp (hall j hj))
      · exact br.free d (fun j p hj hp hd => hx ⟨j, p, hj, hp, hd⟩) w)
    rw [Nat.zero_add, canon_eq hn inv.head.size hall (fun j h1 h2 => inv.head.tail j h1 h2)]
    exact hQ a w hq
  | m + 1, s, a, w, u, inv, hc => by
    have e : m + 1 + g = m + g + 1 := by omega
    rw [e]
    obtain ⟨i0, hi0, hf0, hlow⟩ := cnt_pos (s := s) n (by omega)
    have hs0 : i0 < s.size := by rw [inv.head.size]; omega
    obtain ⟨o0, ho0⟩ := head_op hB hi0
    have hr0 : i0 ∈ Region.ready md ops s := mem_ready.2 ⟨getD_in hs0 hf0, o0, ho0, fun e he hb => hlow e.on (head_edges hB hi0 ho0 e he hb)⟩
    -- what each ready operation of the head does
    have one : ∀ i, i ∈ Region.ready md ops s → i < n → ∃ o, ops[i]? = some o ∧ (∀ v w', Step w0.heap.size w w' → Good P ops n ks w0 u o a w' v → wpAny P md ops R (m + g) (s.setIfInBounds i true) (a.put o.dst v) w') ∧
        ∃ b : Act, (execOp b.eval o = execOp a.eval o) ∧ (Region.wanted o (yielded ops b.tmps) = Region.wanted o (yielded ops a.tmps)) ∧ ∃ F : Facts, (∀ d ∈ o.looksAt ops, F d w) ∧ tree P ops ks w0 Q (o :: L.drop (i + 1)) F b ∧
        (∀ d, d ∈ o.looksAt ops → ∀ j p, j < n → ops[j]? = some p → p.dst = some d → Told ops ks p a w (u j)) := fun i hi hin => by
      obtain ⟨hun, o, ho, hall⟩ := mem_ready.1 hi
      have hset : Settled ops n s o := settled_of hB hin ho hall
      obtain ⟨b, F, h, br⟩ := reach hsel hB inv hL hLn ht i (by omega)
      have hd : L.drop i = o :: L.drop (i + 1) := by
        have h1 : L[i]? = some o := by rw [hL i hin]; exact ho
        obtain ⟨hlt, he⟩ := List.getElem?_eq_some_iff.1 h1
        rw [List.drop_eq_getElem_cons hlt, he]
      rw [hd] at h
      obtain ⟨hexec, hwant⟩ := exec_agree o (Region.noSelect_spec hsel i o · · ho) (looks_agree hB inv hin ho hset br)
      have hfw := facts_of hB hin ho hset br (W := w) (fun d hm j p hj hp hpd => told_now inv hj hp (hset j p d hj hp hpd hm))
      have hcs : cnt (s.setIfInBounds i true) n = m := by
        have := cnt_set (s := s) (i := i) (by rw [inv.head.size]; omega) (getD_both hun) n hin
        omega
      exact ⟨o, ho, fun v w' hg hgood => tree_fl hsel hB hn hF hE hK hR hL hLn ht hQ m _ _ _ _ (inv_next hsel hB inv hin ho hi hg hgood) hcs, b, hexec.symm ▸ rfl, hwant.symm ▸ rfl, F, hfw, h, fun d hm j p hj hp hpd => told_now inv hj hp (hset j p d hj hp hpd hm)⟩
    rcases float_turn hF hE inv.head hn hi0 (getD_in hs0 hf0) with hT | ⟨hif, hir⟩
    · refine ⟨fun h => (by rw [h] at hr0; cases hr0), fun i hi => ?_⟩
      have hin : i < n := hT i hi
      obtain ⟨o, ho, next, b, hexec, hwant, F, hfw, h, htold⟩ := one i hi hin
      unfold tree at h
      unfold wpOp
      simp only [ho]
      by_cases hw : Region.wanted o (yielded ops b.tmps) = true
      · rw [if_pos hw] at h
        rw [hwant] at hw
        rw [if_pos hw]
        refine .inl ?_
        have hgd : ∀ v w', (match kindOf ks o with
            | .none => ∃ W, Rel.Grow w0 W ∧ (∀ d, d ∈ o.looksAt ops → ∀ j p, j < n → ops[j]? = some p → p.dst = some d → Told ops ks p a W (u j)) ∧ (execOp a.eval o).run P W = .ok (.value v) W
            | .some (.const c) => v = c
            | .some (.any V _) => V v w') → Good P ops n ks w0 u o a w' v := fun v w' hx => by
          unfold Good
          rw [if_pos hw]
          exact hx
        cases hkd : kindOf ks o with
        | none =>
          rw [hkd] at h
          obtain ⟨_, v, hv, _⟩ := h
          have hrun := hv w inv.grow hfw
          rw [hexec] at hrun
          unfold Oper.wp
          rw [hrun]
          exact next v w (Step.refl _ _) (hgd v w (by
            rw [hkd]
            exact ⟨w, inv.grow, htold, hrun⟩))
        | some kd =>
          rw [hkd] at h
          cases kd with
          | const c =>
            have hr := h.1 w inv.grow hfw
            unfold stepAt at hr
            rw [hexec] at hr
            exact wp_of_rel hr (fun v w' hg hv => next v w' hg (hgd v w' (by rw [hkd]; exact hv)))
          | any V hV =>
            have hr := h.1 w inv.grow hfw
            unfold stepAt at hr
            rw [hexec] at hr
            exact wp_of_rel hr (fun v w' hg hv => next v w' hg (hgd v w' (by rw [hkd]; exact hv)))
      · rw [hwant] at hw
        rw [if_neg hw]
        exact next undef w (Step.refl _ _) (by unfold Good; rw [if_neg hw])
    · obtain ⟨o, ho, next, b, hexec, hwant, F, hfw, h, htold⟩ := one i0 hir hi0
      have hfl := List.all_eq_true.1 hF i0 hif
      rw [ho] at hfl
      simp only [Bool.and_eq_true, decide_eq_true_eq] at hfl
      obtain ⟨⟨_, hfree⟩, hplain, _⟩ := hfl
      obtain ⟨x, hx⟩ : ∃ x, o.dst = some x := Option.isSome_iff_exists.1 (by simp only [plainOp, Bool.and_eq_true] at hplain; exact hplain.1)
      unfold tree at h
      have fin : ∀ v, Yields P ops o v a → wpAny P md ops R (m + g) (s.setIfInBounds i0 true) (a.put o.dst v) w → wpAny P md ops R (m + g + 1) s a w := fun v hy hn' =>
        wpAny_take ho hsel (free_all inv.head hir hfree) (List.contains_iff_mem.2 hir) (by rw [hx]; exact fun c a w => hR c a w x v) hy hn'
      by_cases hw : Region.wanted o (yielded ops b.tmps) = true
      · rw [if_pos hw] at h
        rw [hwant] at hw
        cases hkd : kindOf ks o with
        | none =>
          rw [hkd] at h
          obtain ⟨_, v, hv, _⟩ := h
          have hrun := hv w inv.grow hfw
          rw [hexec] at hrun
          exact fin v (.inl ⟨hw, plain_run hplain hrun⟩) (next v w (Step.refl _ _) (by
            unfold Good
            rw [if_pos hw, hkd]
            exact ⟨w, inv.grow, htold, hrun⟩))
        | some kd =>
          exfalso
          have h1 := List.all_eq_true.1 hK i0 hif
          rw [ho] at h1
          simp only [hkd] at h1
          cases h1
      · rw [hwant] at hw
        exact fin undef (.inr ⟨by simpa using hw, rfl⟩) (next undef w (Step.refl _ _) (by unfold Good; rw [if_neg hw]))
/-- The region's law. -/
theorem wp_region_fl {id : Nat} {Q : Exit → Act → World → Prop} {a : Act} {w : World} {l : List Oper} (n : Nat) (fl : List Nat) (ks : List (Tmp × Kind)) (hm : P.follows .mixedOrders = true) (hB : okF .any l.toArray n fl = true) (hK : kindB l.toArray ks fl = true)
    (hR : ∀ c a w x v, Q (.panic c) (a.put (some x) v) w → Q (.panic c) a w)
    (h : tree P l.toArray ks w.drew (fun a' W => wpList P l.toArray Q (l.drop n) a' W) (l.take n) bare a) : (Code.region id l.toArray true).wp P Q a w := by
  simp only [okF, Bool.and_eq_true, decide_eq_true_eq] at hB
  obtain ⟨⟨⟨⟨⟨hsel, hhead⟩, hn⟩, hF⟩, hE⟩, hseq⟩ := hB
  have hnl : n ≤ l.length := by simpa using hn
  have inv0 : Inv P l.toArray .any n ks w.drew a (Array.replicate l.toArray.size false) a w.drew (fun _ => undef) :=
    ⟨⟨by simp, fun j oj _ hl => (by rw [getD_replicate_false] at hl; cases hl), fun t _ ht => getD_in (by simpa using ht) (getD_replicate_false _ _)⟩, Rel.Grow.refl _, rfl, rfl, fun _ _ => rfl, fun j o d _ _ hl => (by rw [getD_replicate_false] at hl; cases hl), fun j o _ _ hl => (by rw [getD_replicate_false] at hl; cases hl)⟩
  have hc : ∀ m, cnt (Array.replicate l.toArray.size false) m = m := fun m => by
    induction m with
    | zero => rfl
    | succ m ih => rw [cnt, ih, getD_replicate_false]; rfl
  refine wp_region_any hm ?_
  have hdl : (l.drop n).length = l.toArray.size - n := by simp
  have := tree_fl (g := l.toArray.size - n) (R := Q) hsel hhead hn hF hE hK hR (L := l.take n) (fun j hj => by simp [hj]) (by simp; omega) h (fun a' w' hq => by
    have h2 := wpAny_of_seq (md := .any) (Q' := Q) (l.drop n) n (canon n l.toArray.size) a' w' (fun j => by simp [List.getElem?_drop]) (by rw [hdl]; exact hseq) hq
    rwa [hdl] at h2) n _ _ _ _ inv0 (hc n)
  rw [show n + (l.toArray.size - n) = l.toArray.size by omega] at this
  exact this
end
end RelG
end Go.Proofs.YtpakdcgcgekcfaaDoor

/-
  Words for drawn regions that make a mode: a new block, a tuple's parts.
-/
set_option linter.unusedSimpArgs false
set_option linter.unusedVariables false
namespace Go.Proofs.YtpakdcgcgekcfaaDoor
open Go.RowKit

/-- A tuple's part. -/
def cV (v : Value) (i : Nat) : Value := match v with
  | .tuple vs => vs.getD i undef
  | _ => undef
theorem exec_extract {P : Program} {o : Oper} {a : Act} {W : World} (x : Operand) (i : Nat) (ho : o.op = .extract x i) (v : Value) (hx : a.eval x = v) (h : ∃ vs y, v = .tuple vs ∧ vs[i]? = some y) : (execOp a.eval o).run P W = .ok (.value (cV v i)) W := by
  obtain ⟨vs, y, rfl, hy⟩ := h
  unfold execOp
  simp only [ho, hx]
  rw [Sem.run_bind]
  simp [Instr.extract, hy, cV, Result.andThen, Array.getD_eq_getD_getElem?]
namespace Aes
open Otp R1 Fuse Sha
/-- A block for a mode that was just made. -/
def NewM (B : Nat) (ZM : Array Value) (v : Value) (W : World) : Prop := ∃ g, v = .pointer (some ⟨g, 0, none⟩) ∧ B ≤ g ∧ Blk W g 96 ZM
theorem NewM.grow {B : Nat} {ZM : Array Value} : ∀ v W W', Rel.Grow W W' → NewM B ZM v W → NewM B ZM v W' := fun _ _ _ h ⟨g, h1, h2, h3⟩ => ⟨g, h1, h2, h3.next h rfl⟩
theorem rel_newM {o : Oper} {a : Act} {B : Nat} {W : World} {ZM : Array Value} (hZ : Tryd.zeroCells96 = ZM) (ho : o.op = .alloc 96) (hB : B ≤ W.heap.size) : RelG.relAt Tryd.prog o a W (NewM B ZM) := by
  subst hZ
  have hz := Tryd.zeroValue96
  have hs := Tryd.sizeOf96
  unfold RelG.relAt execOp
  simp only [ho]
  go_simp
  exact ⟨Rel.Grow.alloc _ _, W.heap.size, rfl, hB, Blk.new _ _ _⟩
/-- A mode, and no error. -/
def MnV (m : Md) (v : Value) (W : World) : Prop := ∃ A L c, v = .tuple #[.agg (mV A L c m).toArray, .int .i64 0] ∧ KeyV W W.heap.size m.key A L c
theorem MnV.grow {m : Md} : ∀ v W W', Rel.Grow W W' → MnV m v W → MnV m v W' := fun _ _ _ h ⟨A, L, c, h1, h2⟩ => ⟨A, L, c, h1, h2.next h⟩
theorem MnV.part {m : Md} {v : Value} {W : World} (h : MnV m v W) : (∃ vs y, v = .tuple vs ∧ vs[0]? = some y) ∧ ∃ vs y, v = .tuple vs ∧ vs[1]? = some y := by
  obtain ⟨A, L, c, rfl, _⟩ := h
  exact ⟨⟨_, _, rfl, rfl⟩, ⟨_, _, rfl, rfl⟩⟩
theorem mnv_call {f : FuncId} {args : Array Value} {W : World} {m : Md} (h : Calls Tryd.prog f args W (MnOut W m)) : Calls Tryd.prog f args W (fun e w'' => ∃ v, e = .returned v ∧ Rel.Grow W w'' ∧ MnV m v w'') :=
  Calls.mono h fun _ _ ⟨A, L, c, he, hk, hB⟩ => ⟨_, he, hB, A, L, c, rfl, hk⟩
theorem u8_no (z : Int) (l : List Nat) : ∀ v, v ∈ (l.map fun x => Value.int .u8 ((x : Nat) : Int)) → v = Value.int .u32 z → False := fun v h e => by
  obtain ⟨_, _, hx⟩ := List.mem_map.1 h
  rw [e] at hx
  cases hx
theorem app_no {v : Value} {z : Int} {a b : List Value} (ha : v ∈ a → v = Value.int .u32 z → False) (hb : v ∈ b → v = Value.int .u32 z → False) : v ∈ a ++ b → v = Value.int .u32 z → False := fun h e => (List.mem_append.1 h).elim (fun h => ha h e) (fun h => hb h e)
theorem cons_no {v x : Value} {z : Int} {a : List Value} (hx : x ≠ Value.int .u32 z) (ha : v ∈ a → v = Value.int .u32 z → False) : v ∈ x :: a → v = Value.int .u32 z → False := fun h e => (List.mem_cons.1 h).elim (fun h => hx (h ▸ e)) (fun h => ha h e)
theorem zM_no (z : Int) : ∀ v, v ∈ zM → v = Value.int .u32 z → False := fun v => by
  rw [zM, mC, zK, mT]
  exact app_no (app_no (cons_no (by simp) (u8_no z _ v)) (u8_no z _ v)) (cons_no (by simp) (cons_no (by simp) (u8_no z _ v)))
theorem KeyV.apart {W : World} {B g : Nat} {key : List Nat} {A : Option Addr} {L c : Nat} {ZM : Array Value} (h : KeyV W B key A L c) (hZ : zM.toArray = ZM) (hb : Blk W g 96 ZM) : ∀ ad : Addr, A = some ad → ad.block ∉ [g] := fun ad had hx => by
  have hl : 0 < ((kWords key).map wd).length := by rw [List.length_map]; have := h.good.count.2; omega
  have hn := h.nats
  generalize (kWords key).map wd = l at *
  obtain ⟨_, b, off, h1, h2, h3⟩ := hn 0 l[0] (List.getElem?_eq_getElem hl)
  rw [had] at h1
  cases h1
  simp only [List.mem_singleton] at hx
  subst hx
  rw [hb.cell, ← hZ, List.getElem?_toArray] at h3
  exact zM_no _ _ (List.mem_of_getElem? h3) rfl
end Aes
end Go.Proofs.YtpakdcgcgekcfaaDoor

/-
  law04: key, and whole.
-/
set_option linter.unusedSimpArgs false
set_option linter.unusedVariables false
namespace Go.Proofs.YtpakdcgcgekcfaaDoor
open Go.RowKit

namespace Aes
open Otp R1 Fuse Sha
/-- A slice of the call's own, or a nil one. -/
theorem own_cut {w : World} {base : Nat} {v : Value} {l : List Nat} (h : OwnB w base v l) (hb : ∀ x ∈ l, x < 256) : ∃ A c, v = .slice A l.length c ∧ l.length ≤ c ∧ (A = none → c = 0) ∧ Nats .u8 256 w w.heap.size A l := by
  obtain ⟨A, c, h1, h2, h3, h4⟩ := own_nats h hb
  refine ⟨A, c, h1, h2, fun h0 => ?_, h3⟩
  subst h0
  rcases h.2 with ⟨h5, _⟩ | ⟨q, cap, cur, h5, _⟩
  · rw [h1] at h5
    injection h5
  · rw [h1] at h5
    injection h5 with h6
    cases h6
theorem cut_byte {w : World} {B : Nat} {A : Option Addr} {l : List Nat} (h : Nats .u8 256 w B A l) (k : Nat) : ∀ x ∈ l.take k, x < 256 := fun x hx => by
  obtain ⟨i, hi⟩ := List.mem_iff_getElem?.1 (List.mem_of_mem_take hx)
  exact (h i x hi).1
/-- What the law has of a kind and a key: a mode, or the zero mode and an error. -/
def ArgOut (right : Prop) (ZM : Array Value) (st : List Nat) (w : World) (e : Ending) (w' : World) : Prop := ∃ (CL : List Value) (E : Int), e = .returned (.tuple #[.agg CL.toArray, .int .i64 E]) ∧ M2F ZM CL ∧ Below w.heap.size w w' ∧
  (∀ W, Below w'.heap.size w' W → Calls Tryd.prog 56 #[.agg CL.toArray, .slice none 0 0] W (fun e w'' => ∃ (CQ : List Value) (A : Option Addr) (c : Nat), e = .returned (.tuple #[.agg CQ.toArray, .slice A 0 c, .int .i64 0]) ∧ M2F ZM CQ ∧ Below W.heap.size W w'')) ∧
  (right → E = 0 ∧ ∀ W, Calls Tryd.prog 61 #[.agg CL.toArray] W (BkOut W st)) ∧ (¬ right → E = 1)
theorem arg_any (kind : Int) (A : Option Addr) (n c : Nat) (p st : List Nat) (w : World) (hpl : p.length = n) (hnm : n ≤ maxLen) (hz : Nats .u8 256 w w.heap.size A p) (hsl : st.length = 16) (hsb : ∀ x ∈ st, x < 256) :
    Calls Tryd.prog 55 #[.int .i64 kind, .bool false, .slice A n c, .agg (b8 st)] w (ArgOut (0 ≤ kind ∧ kind ≤ 2 ∧ (n = 16 ∨ n = 32)) zM.toArray st w) := by
  have hpb : ∀ x ∈ p, x < 256 := fun x hx => by
    obtain ⟨i, hi⟩ := List.mem_iff_getElem?.1 hx
    exact (hz i x hi).1
  have hbad : ∀ w', Below w.heap.size w w' → ¬ (0 ≤ kind ∧ kind ≤ 2 ∧ (n = 16 ∨ n = 32)) → ArgOut (0 ≤ kind ∧ kind ≤ 2 ∧ (n = 16 ∨ n = 32)) zM.toArray st w (.returned (.tuple #[.agg zM.toArray, .int .i64 1])) w' := fun w' hB hr =>
    ⟨zM, 1, rfl, zM_f, hB, fun W _ => Calls.mono (run_zero none 0 0 0 [] W rfl rfl (by decide) (Nat.le_refl _) (fun i z hz => by simp at hz)) (fun e w'' ⟨v, h1, h2, h3⟩ => by
      obtain ⟨A2, c2, rfl, _, _⟩ := own_nats h2 (by simp)
      exact ⟨zM, A2, c2, by rw [h1]; rfl, zM_f, h3⟩), fun h => absurd h hr, fun _ => rfl⟩
  by_cases hk : n = 16 ∨ n = 32
  · have hg : KeyG p := ⟨by rcases hk with h | h <;> simp [hpl, h], hpb⟩
    by_cases hr : 0 ≤ kind ∧ kind ≤ 2
    · have hok : (⟨p, kind.toNat, false, st⟩ : Md).Ok := ⟨hg, show kind.toNat ≤ 2 by omega, hsl, hsb⟩
      refine Calls.mono (mnew_any A n c kind ⟨p, kind.toNat, false, st⟩ w hok (show kind = (kind.toNat : Int) by omega) hpl.symm hz) (fun e w' ⟨A1, L1, c1, h1, h2, h3⟩ => ?_)
      refine ⟨_, 0, h1, m2f A1 L1 c1 hsl, h3, fun W hW => ?_, fun _ => ⟨rfl, fun W => mat_any _ A1 L1 c1 ⟨p, kind.toNat, false, st⟩ W (mvF A1 L1 c1 ⟨p, kind.toNat, false, st⟩ hsl) hsl⟩, fun h => absurd ⟨hr.1, hr.2, hk⟩ h⟩
      refine Calls.mono (run_any A1 L1 c1 ⟨p, kind.toNat, false, st⟩ none 0 0 0 [] W hok (h2.next hW) rfl rfl (by decide) (Nat.le_refl _) (fun i z hz => by simp at hz)) (fun e w'' ⟨v, h4, h5, h6⟩ => ?_)
      obtain ⟨A2, c2, rfl, _, _⟩ := own_nats (l := []) h5 (by simp)
      exact ⟨_, A2, c2, by rw [h4]; rfl, m2f A1 L1 c1 hsl, h6⟩
    · exact Calls.mono (mnew_badkind A n c p kind false st w hg hpl.symm hz (by omega) hsl) (fun e w' ⟨h1, h2⟩ => by rw [h1]; exact hbad w' h2 (fun h => hr ⟨h.1, h.2.1⟩))
  · exact Calls.mono (mnew_badkey A n c kind false st w (by omega) (by omega) hnm hsl) (fun e w' ⟨h1, h2⟩ => by rw [h1]; exact hbad w' h2 (fun h => hk h.2.2))
set_option maxRecDepth 100000 in
set_option maxHeartbeats 1000000 in
theorem key_any (p : List Nat) (long : Bool) (w : World) (hp : p.length = 32) (hb : ∀ x ∈ p, x < 256) :
    Calls Tryd.prog 57 #[.agg (b8 p), .bool long] w (BytesOut w (p.take (if long then 32 else 16))) := by
  obtain ⟨w1, hw1⟩ : ∃ W, W = w.alloc (.cells (b8 p) 22) := ⟨_, rfl⟩
  have HW := wall hw1
  have HB1 := wall (show Below w.heap.size w w1 by rw [hw1]; exact (Below.refl _ w).alloc (Nat.le_refl _) _)
  have HN1 := wall (show Nats .u8 256 w1 w1.heap.size (some ⟨w.heap.size, 0, none⟩) p by rw [hw1]; exact nats_b8 (Blk.new _ _ _) hb)
  have HP := wall hp
  have hs := Slot.run_slice_arr_all' (P := Tryd.prog) 22 5 32 Tryd.underlying22 (fun _ => by kernel_rfl) w.heap.size 0 (by decide)
  clear hw1 hp hb
  cases long with
  | false =>
    go_enter Tryd.func57, Tryd.ntmps57
    go_upto_region 1 with fail
    rw [← HW.out]
    clear HW
    go_wp2_with fail
    (with_reducible refine (cut_any (some ⟨w.heap.size, 0, none⟩) 32 32 p 16 16 w1 HP.out (by decide) rfl (by decide) HN1.out).mono ?_); rintro e w3 ⟨v3, rfl, hO3, hB3⟩
    go_wp2_with fail
    go_light
    go_ret
    exact ⟨_, rfl, own_less hO3 HB1.out.size, below_then HB1.out hB3 (Nat.le_refl _)⟩
  | true =>
    go_enter Tryd.func57, Tryd.ntmps57
    go_upto_region 1 with fail
    rw [← HW.out]
    clear HW
    go_wp2_with fail
    (with_reducible refine (cut_any (some ⟨w.heap.size, 0, none⟩) 32 32 p 32 32 w1 HP.out (by decide) rfl (by decide) HN1.out).mono ?_); rintro e w3 ⟨v3, rfl, hO3, hB3⟩
    go_wp2_with fail
    go_light
    go_ret
    exact ⟨_, rfl, own_less hO3 HB1.out.size, below_then HB1.out hB3 (Nat.le_refl _)⟩
set_option maxRecDepth 100000 in
set_option maxHeartbeats 1000000 in
theorem whole_any (A : Option Addr) (len cap : Nat) (l : List Nat) (m : Int) (k : Nat) (w : World) (hl : l.length = len) (hm : len ≤ maxLen) (hmk : m = k) (hk : k ≤ 1000) (hz : Nats .u8 256 w w.heap.size A l) :
    Calls Tryd.prog 54 #[.slice A len cap, .int .i64 m] w (BytesOut w (l.take (16 * min (len / 16) k))) := by
  subst hmk
  have HZ := wall hz
  have HM := wall hm
  simp only [maxLen] at hm
  have hq : (len : Int).tdiv 16 = ((len / 16 : Nat) : Int) := by rw [Int.tdiv_eq_ediv_of_nonneg (by omega)]; omega
  have hq2 : (len : Int) / 16 = ((len / 16 : Nat) : Int) := by omega
  have hqm : len / 16 ≤ 9223372036854775807 := by omega
  obtain ⟨q, hq'⟩ : ∃ q, len / 16 = q := ⟨_, rfl⟩
  rw [hq'] at hq hqm hq2 ⊢
  clear hq' hz
  go_enter Tryd.func54, Tryd.ntmps54
  go_wp2_with fail
  (with_reducible refine (cut_any A len cap l (16 * min (q : Int) (k : Int)) (16 * min q k) w hl HM.out (by omega) (by omega) HZ.out).mono ?_); rintro e w3 ⟨v3, rfl, hO3, hB3⟩
  go_wp2_with fail
  go_light
  go_ret
  exact ⟨_, rfl, hO3, hB3⟩
end Aes
end Go.Proofs.YtpakdcgcgekcfaaDoor

/-
  Modes: plain laws (forth and back, in parts, what a byte reaches).
-/
set_option linter.unusedSimpArgs false
set_option linter.unusedVariables false
namespace Go.Proofs.YtpakdcgcgekcfaaDoor
open Go.RowKit

namespace Aes
open Otp R1 Fuse Sha
theorem xorL_inj {a a' b : List Nat} {n : Nat} (ha : a.length = n) (ha' : a'.length = n) (hb : b.length = n) (h : xorL a b = xorL a' b) : a = a' := by
  rw [← xorL_back a b (ha.trans hb.symm), h, xorL_back a' b (ha'.trans hb.symm)]
theorem encB_inj {key : List Nat} (hk : KeyOk key) {b b' : List Nat} (h : b.length = 16) (hb : ∀ x ∈ b, x < 256) (h' : b'.length = 16) (hb' : ∀ x ∈ b', x < 256) (e : encB key b = encB key b') : b = b' := by
  rw [← dec_enc hk h hb, e, dec_enc hk h' hb']
theorem blkAt_left {x s : List Nat} {j : Nat} (h : 16 * j + 16 ≤ x.length) : blkAt (x ++ s) j = blkAt x j := by
  unfold blkAt
  rw [List.drop_append_of_le_length (by omega), List.take_append_of_le_length (by rw [List.length_drop]; omega)]
theorem blkAt_end {x s : List Nat} {j : Nat} (h : x.length = 16 * j) (hs : s.length = 16) : blkAt (x ++ s) j = s := by
  unfold blkAt
  rw [← h, List.drop_left, List.take_of_length_le (by omega)]
theorem take_blk {p : List Nat} {j : Nat} : p.take (16 * j) ++ blkAt p j = p.take (16 * (j + 1)) := by
  rw [blkAt, Nat.mul_succ, List.take_add]
theorem blkAt_take {p : List Nat} {j k : Nat} (h : j < k) : blkAt (p.take (16 * k)) j = blkAt p j := by
  unfold blkAt
  rw [List.drop_take, List.take_take, Nat.min_eq_left (by omega)]
theorem blkAt_drop {p : List Nat} {j k : Nat} : blkAt (p.drop (16 * k)) j = blkAt p (k + j) := by
  unfold blkAt
  rw [List.drop_drop, Nat.mul_add]
theorem blkAt_out {m : Md} (hm : m.Ok) {p : List Nat} (hb : ∀ x ∈ p, x < 256) : ∀ k, 16 * k ≤ p.length → ∀ j, j < k → blkAt (runM m p k).2 j = (stepM (runM m p j).1 (blkAt p j)).2
  | 0, _, j, h => by omega
  | k + 1, hk, j, h => by
    obtain ⟨h1, -, -, -, h5, -⟩ := runM_ok hm hb k (by omega)
    obtain ⟨k1, k2⟩ := blkAt_ok hb (i := k) (by omega)
    rw [runM]
    rcases Nat.lt_or_ge j k with hj | hj
    · rw [blkAt_left (by rw [h5]; omega)]
      exact blkAt_out hm hb k (by omega) j hj
    · have : j = k := by omega
      subst this
      rw [blkAt_end h5 (stepM_ok h1 k1 k2).2.1]
def Md.turn (m : Md) (b : Bool) : Md := { m with back := b }
theorem step_back {m : Md} (h : m.Ok) (hf : m.back = false) {b : List Nat} (hb : b.length = 16) (hbb : ∀ x ∈ b, x < 256) : stepM (m.turn true) (stepM m b).2 = ((stepM m b).1.turn true, b) := by
  obtain ⟨key, kind, back, v⟩ := m
  subst hf
  have hk := h.good.ok
  have hv : v.length = 16 := h.len
  have hvb : ∀ x ∈ v, x < 256 := h.byte
  unfold stepM Md.turn
  by_cases h2 : kind = 2
  · simp only [h2, ↓reduceIte]
    rw [xorL_back _ _ (hb.trans (encB_ok hk _).1.symm)]
  · by_cases h1 : kind = 1
    · simp only [h1, Nat.reduceEqDiff, ↓reduceIte, Bool.false_eq_true]
      rw [dec_enc hk (xorL_length hb hv) (xorL_byte hbb hvb), xorL_back _ _ (hb.trans hv.symm)]
    · simp only [h1, h2, ↓reduceIte, Bool.false_eq_true]
      rw [dec_enc hk hb hbb]
theorem step_turn {m : Md} (h : m.Ok) (hf : m.back = true) (h1 : m.kind ≠ 1) {b : List Nat} (hb : b.length = 16) (hbb : ∀ x ∈ b, x < 256) : stepM (m.turn false) (stepM m b).2 = ((stepM m b).1.turn false, b) := by
  obtain ⟨key, kind, back, v⟩ := m
  subst hf
  have hk := h.good.ok
  have h1 : ¬ kind = 1 := h1
  unfold stepM Md.turn
  by_cases h2 : kind = 2
  · simp only [h2, ↓reduceIte]
    rw [xorL_back _ _ (hb.trans (encB_ok hk _).1.symm)]
  · simp only [h1, h2, ↓reduceIte, Bool.false_eq_true]
    rw [enc_dec hk hb hbb]
theorem step_ctr {m : Md} (h2 : m.kind = 2) (x : Bool) (b : List Nat) : stepM (m.turn x) b = ((stepM m b).1.turn x, (stepM m b).2) := by
  obtain ⟨key, kind, back, v⟩ := m
  have h2 : kind = 2 := h2
  subst h2
  rfl
theorem run_inv {m : Md} (hm : m.Ok) (x : Bool) {p : List Nat} (hb : ∀ x ∈ p, x < 256) {nb : Nat} (hn : 16 * nb ≤ p.length) (H : ∀ m1 : Md, m1.Ok → m1.kind = m.kind → m1.back = m.back → ∀ b : List Nat, b.length = 16 → (∀ x ∈ b, x < 256) → stepM (m1.turn x) (stepM m1 b).2 = ((stepM m1 b).1.turn x, b)) :
    ∀ j, j ≤ nb → runM (m.turn x) (runM m p nb).2 j = ((runM m p j).1.turn x, p.take (16 * j))
  | 0, _ => by rw [runM, runM]; simp
  | j + 1, hj => by
    obtain ⟨h1, -, h3, h4, -, -⟩ := runM_ok hm hb j (by omega)
    obtain ⟨k1, k2⟩ := blkAt_ok hb (i := j) (by omega)
    have hs := H _ h1 h3 h4 _ k1 k2
    rw [runM, run_inv hm x hb hn H j (by omega)]
    simp only [blkAt_out hm hb nb hn j (by omega), hs]
    rw [take_blk]
    rfl
theorem run_back {m : Md} (hm : m.Ok) (hf : m.back = false) {p : List Nat} (hb : ∀ x ∈ p, x < 256) {nb : Nat} (hn : p.length = 16 * nb) : (runM (m.turn true) (runM m p nb).2 nb).2 = p := by
  rw [run_inv hm true hb (by omega) (fun m1 h1 h2 h3 b h4 h5 => step_back h1 (h3.trans hf) h4 h5) nb (Nat.le_refl _)]
  exact List.take_of_length_le (by omega)
theorem run_turn {m : Md} (hm : m.Ok) (hf : m.back = true) (hk : m.kind ≠ 1) {p : List Nat} (hb : ∀ x ∈ p, x < 256) {nb : Nat} (hn : p.length = 16 * nb) : (runM (m.turn false) (runM m p nb).2 nb).2 = p := by
  rw [run_inv hm false hb (by omega) (fun m1 h1 h2 h3 b h4 h5 => step_turn h1 (h3.trans hf) (by rw [h2]; exact hk) h4 h5) nb (Nat.le_refl _)]
  exact List.take_of_length_le (by omega)
theorem stepM_kind (m : Md) (b : List Nat) : (stepM m b).1.kind = m.kind := by
  unfold stepM
  by_cases h2 : m.kind = 2
  · rw [if_pos h2]
  · rw [if_neg h2]
    by_cases h1 : m.kind = 1
    · rw [if_pos h1]
      split <;> rfl
    · rw [if_neg h1]
      split <;> rfl
theorem runM_kind (m : Md) (p : List Nat) : ∀ j, (runM m p j).1.kind = m.kind
  | 0 => rfl
  | j + 1 => by rw [runM, stepM_kind]; exact runM_kind m p j
theorem run_ctr {m : Md} (h2 : m.kind = 2) (x : Bool) (p : List Nat) : ∀ j, runM (m.turn x) p j = ((runM m p j).1.turn x, (runM m p j).2)
  | 0 => rfl
  | j + 1 => by
    rw [runM, run_ctr h2 x p j, runM]
    simp only [step_ctr (x := x) ((runM_kind m p j).trans h2)]
theorem runM_take (m : Md) (p : List Nat) (k : Nat) : ∀ j, j ≤ k → runM m (p.take (16 * k)) j = runM m p j
  | 0, _ => rfl
  | j + 1, h => by rw [runM, runM_take m p k j (by omega), blkAt_take (by omega), runM]
theorem runM_add (m : Md) (p : List Nat) (k : Nat) : ∀ j, runM m p (k + j) = ((runM (runM m p k).1 (p.drop (16 * k)) j).1, (runM m p k).2 ++ (runM (runM m p k).1 (p.drop (16 * k)) j).2)
  | 0 => by simp [runM]
  | j + 1 => by
    rw [← Nat.add_assoc, runM, runM_add m p k j, runM, blkAt_drop]
    simp only [List.append_assoc]
/-- What a byte reaches. -/
theorem blkAt_set {p : List Nat} {i y j : Nat} (h : j ≠ i / 16) : blkAt (p.set i y) j = blkAt p j := by
  apply List.ext_getElem?
  intro t
  unfold blkAt
  rw [List.getElem?_take, List.getElem?_take, List.getElem?_drop, List.getElem?_drop]
  split
  · rw [List.getElem?_set_ne (by omega)]
  · rfl
theorem blkAt_own {p : List Nat} {i y : Nat} (hi : i < p.length) (hy : p[i]? ≠ some y) : blkAt (p.set i y) (i / 16) ≠ blkAt p (i / 16) := fun h => by
  have h1 : (blkAt (p.set i y) (i / 16))[i % 16]? = some y := by
    unfold blkAt
    rw [List.getElem?_take, List.getElem?_drop, if_pos (by omega), show 16 * (i / 16) + i % 16 = i by omega, List.getElem?_set_self hi]
  have h2 : (blkAt p (i / 16))[i % 16]? = p[i]? := by
    unfold blkAt
    rw [List.getElem?_take, List.getElem?_drop, if_pos (by omega), show 16 * (i / 16) + i % 16 = i by omega]
  rw [h, h2] at h1
  exact hy h1
theorem run_ahead (m : Md) {p : List Nat} {i y : Nat} : ∀ j, j ≤ i / 16 → runM m (p.set i y) j = runM m p j
  | 0, _ => rfl
  | j + 1, h => by rw [runM, run_ahead m j (by omega), blkAt_set (by omega), runM]
theorem stepM_state {m : Md} (h : m.kind ≠ 1) (b b' : List Nat) : (stepM m b).1 = (stepM m b').1 := by
  unfold stepM
  rw [if_neg h, if_neg h]
  split
  · rfl
  · split <;> rfl
theorem run_state {m : Md} (h : m.kind ≠ 1) (p q : List Nat) : ∀ j, (runM m p j).1 = (runM m q j).1
  | 0 => rfl
  | j + 1 => by
    rw [runM, runM, run_state h p q j]
    exact stepM_state (by rw [runM_kind]; exact h) _ _
theorem stepM_inj {m : Md} (h : m.Ok) (hf : m.back = false) {b b' : List Nat} (hb : b.length = 16) (hbb : ∀ x ∈ b, x < 256) (hb' : b'.length = 16) (hbb' : ∀ x ∈ b', x < 256) (e : (stepM m b).2 = (stepM m b').2) : b = b' := by
  have hk := h.good.ok
  unfold stepM at e
  rw [hf] at e
  by_cases h2 : m.kind = 2
  · rw [if_pos h2, if_pos h2] at e
    exact xorL_inj hb hb' (encB_ok hk _).1 e
  · rw [if_neg h2, if_neg h2] at e
    by_cases h1 : m.kind = 1
    · rw [if_pos h1, if_pos h1] at e
      simp only [Bool.false_eq_true, ↓reduceIte] at e
      exact xorL_inj hb hb' h.len (encB_inj hk (xorL_length hb h.len) (xorL_byte hbb h.byte) (xorL_length hb' h.len) (xorL_byte hbb' h.byte) e)
    · rw [if_neg h1, if_neg h1] at e
      simp only [Bool.false_eq_true, ↓reduceIte] at e
      exact encB_inj hk hb hbb hb' hbb' e
theorem set_byte {p : List Nat} (hb : ∀ x ∈ p, x < 256) {i y : Nat} (hy : y < 256) : ∀ x ∈ p.set i y, x < 256 := fun x hx => by
  rcases List.mem_or_eq_of_mem_set hx with h | h
  · exact hb x h
  · omega
/-- The law of ModeReach, block by block. -/
theorem reach_blk {m : Md} (hm : m.Ok) (hf : m.back = false) {p : List Nat} (hb : ∀ x ∈ p, x < 256) {nb i y j : Nat} (hn : p.length = 16 * nb) (hi : i < p.length) (hy : y < 256) (hj : j < nb) :
    ((p[i]? = some y ∨ j < i / 16 ∨ (j ≠ i / 16 ∧ m.kind ≠ 1)) → blkAt (runM m p nb).2 j = blkAt (runM m (p.set i y) nb).2 j) ∧
    (p[i]? ≠ some y → j = i / 16 → blkAt (runM m p nb).2 j ≠ blkAt (runM m (p.set i y) nb).2 j) := by
  have hq : (p.set i y).length = 16 * nb := by rw [List.length_set]; exact hn
  have hqb := set_byte hb (i := i) hy
  rw [blkAt_out hm hb nb (by omega) j hj, blkAt_out hm hqb nb (by omega) j hj]
  refine ⟨fun h => ?_, fun h e h1 => ?_⟩
  · rcases h with h | h | ⟨h, h2⟩
    · have : p.set i y = p := by
        apply List.ext_getElem?
        intro t
        rw [List.getElem?_set]
        split
        · rename_i ht
          subst ht
          exact h.symm
        · rfl
      rw [this]
    · rw [run_ahead m j (by omega), blkAt_set (by omega)]
    · rw [run_state h2 (p.set i y) p j, blkAt_set h]
  · subst e
    rw [run_ahead m (i / 16) (Nat.le_refl _)] at h1
    obtain ⟨o1, -, -, o4, -, -⟩ := runM_ok hm hb (i / 16) (by omega)
    obtain ⟨k1, k2⟩ := blkAt_ok hb (i := i / 16) (by omega)
    obtain ⟨l1, l2⟩ := blkAt_ok hqb (i := i / 16) (by omega)
    exact blkAt_own hi h (stepM_inj o1 (o4.trans hf) k1 k2 l1 l2 h1).symm
end Aes
end Go.Proofs.YtpakdcgcgekcfaaDoor

/-
  The reference's AES: Mul.
-/
set_option linter.unusedSimpArgs false
set_option linter.unusedVariables false
namespace Go.Proofs.YtpakdcgcgekcfaaDoor
open Go.RowKit

namespace Aes
open Otp R1 Fuse Sha
theorem i64_xor_nat (a b : Nat) (ha : a < 9223372036854775808) (hb : b < 9223372036854775808) : bits .xor .i64 (a : Int) (b : Int) = ((a ^^^ b : Nat) : Int) := by
  have hx : a ^^^ b < 9223372036854775808 := Nat.xor_lt_two_pow (n := 63) ha hb
  have ha' : a % 2 ^ IntKind.i64.bits = a := Nat.mod_eq_of_lt (show a < 18446744073709551616 by omega)
  have hb' : b % 2 ^ IntKind.i64.bits = b := Nat.mod_eq_of_lt (show b < 18446744073709551616 by omega)
  simp only [bits, BitVec.ofInt_natCast, BitVec.toNat_xor, BitVec.toNat_ofNat, ha', hb']
  rw [IntKind.wrap_i64]
  omega
theorem wrap64_nat (a : Nat) (ha : a < 9223372036854775808) : wrap64 (a : Int) = (a : Int) := by
  unfold wrap64
  omega
theorem rm1_lt {x y : Nat} (hx : x < 256) : ∀ i, i ≤ 8 → rm1 x y i < 32768
  | 0, _ => show 0 < 32768 by decide
  | i + 1, h => by
    have h1 := rm1_lt (y := y) hx i (by omega)
    rw [rm1]
    split
    · refine Nat.xor_lt_two_pow (n := 15) h1 ?_
      have : 2 ^ i ≤ 2 ^ 7 := Nat.pow_le_pow_right (by decide) (by omega)
      calc x * 2 ^ i ≤ x * 2 ^ 7 := Nat.mul_le_mul_left _ this
        _ < 2 ^ 15 := by omega
    · exact h1
theorem red_lt {p : Nat} (hp : p < 32768) : ∀ k, k ≤ 7 → red p k < 32768
  | 0, _ => hp
  | k + 1, h => by
    have h1 := red_lt hp k (by omega)
    rw [red]
    split
    · refine Nat.xor_lt_two_pow (n := 15) h1 ?_
      have : 2 ^ (6 - k) ≤ 2 ^ 6 := Nat.pow_le_pow_right (by decide) (by omega)
      omega
    · exact h1
theorem pow_small {i : Nat} (h : i ≤ 14) : 2 ^ i ≤ 16384 := Nat.pow_le_pow_right (n := 2) (by decide) h
theorem tmod_two (y i : Nat) : ((y : Int) / 2 ^ i).tmod 2 = ((y / 2 ^ i % 2 : Nat) : Int) := by
  rw [show ((y : Int) / 2 ^ i) = ((y / 2 ^ i : Nat) : Int) by simp]
  rw [Int.tmod_eq_emod_of_nonneg (Int.natCast_nonneg _)]
  simp
set_option maxRecDepth 100000 in
set_option maxHeartbeats 1000000 in
theorem rmul_any (a b : Int) (x y : Nat) (w : World) (ha : a = x) (hb : b = y) (hx : x < 256) (hy : y < 256) : Calls Tryd.prog 94 #[.int .u8 a, .int .u8 b] w (fun e w' => e = .returned (.int .u8 (rmul x y : Int)) ∧ w = w') := by
  subst ha hb
  go_enter Tryd.func94, Tryd.ntmps94
  go_wp2_with fail
  go_loopg [5, 6] 8 (fun g s5 s6 wr => ∃ (i : Nat), i + g = 8 ∧ s6 = .int .i64 (i : Int) ∧ s5 = .int .i64 (rm1 x y i : Int) ∧ wr = w)
  case atStart => exact ⟨0, by omega, rfl, rfl, rfl⟩
  case round =>
    obtain ⟨i, hg, rfl, rfl, rfl⟩ := hrel
    have HG := wall hg
    have hi : i ≤ 8 := by omega
    clear hg
    by_cases hlt : i < 8
    · have hm := tmod_two y i
      have hn : rm1 x y (i + 1) = if y / 2 ^ i % 2 = 1 then rm1 x y i ^^^ (x * 2 ^ i) else rm1 x y i := rfl
      have hp := rm1_lt (y := y) hx i hi
      have hs : x * 2 ^ i < 32768 := by
        have : 2 ^ i ≤ 2 ^ 7 := Nat.pow_le_pow_right (by decide) (by omega)
        calc x * 2 ^ i ≤ x * 2 ^ 7 := Nat.mul_le_mul_left _ this
          _ < 32768 := by omega
      have hw : wrap64 ((x : Int) * 2 ^ i) = ((x * 2 ^ i : Nat) : Int) := by
        rw [show ((x : Int) * 2 ^ i) = ((x * 2 ^ i : Nat) : Int) by simp]
        exact wrap64_nat _ (by omega)
      generalize rm1 x y i = p at *
      generalize x * 2 ^ i = z at *
      have hxr := i64_xor_nat p z (by omega) (by omega)
      rcases Nat.mod_two_eq_zero_or_one (y / 2 ^ i) with h2 | h2
      · rw [h2] at hm hn
        rw [if_neg (by decide)] at hn
        have HN := wall hn
        clear hn h2 hp hs hw hxr
        go_wp2_with fail
        go_light
        go_roundg (8 - (i + 1))
        case measure => have := HG.out; omega
        case rel => exact ⟨i + 1, by omega, by go_num, by rw [HN.out], rfl⟩
      · rw [h2] at hm hn
        rw [if_pos rfl] at hn
        have HN := wall hn
        clear hn h2 hp hs
        go_wp2_with fail
        go_light
        go_roundg (8 - (i + 1))
        case measure => have := HG.out; omega
        case rel => exact ⟨i + 1, by omega, by go_num, by rw [HN.out], rfl⟩
    · have h8 : i = 8 := by omega
      subst h8
      have HP := wall (rm1_lt (y := y) hx 8 (Nat.le_refl _))
      obtain ⟨p, hp⟩ : ∃ p, rm1 x y 8 = p := ⟨_, rfl⟩
      rw [hp] at HP ⊢
      have HR := wall (show rmul x y = red p 7 % 256 by rw [rmul, hp])
      clear hp
      go_wp2_with fail
      obtain ⟨gO, rfl⟩ : ∃ q, q = gk := ⟨_, rfl⟩
      go_loopg [5, 7] 7 (fun g s5 s7 wr' => ∃ (k : Nat), k + g = 7 ∧ s7 = .int .i64 (14 - (k : Int)) ∧ s5 = .int .i64 (red p k : Int) ∧ wr' = wr)
      case atStart => exact ⟨0, by omega, by go_num, rfl, rfl⟩
      case round =>
        obtain ⟨k, hg, rfl, rfl, rfl⟩ := hrel
        have HGK := wall hg
        have hk : k ≤ 7 := by omega
        clear hg
        by_cases hlt : k < 7
        · have hn : red p (k + 1) = if red p k / 2 ^ (14 - k) % 2 = 1 then red p k ^^^ (283 * 2 ^ (6 - k)) else red p k := rfl
          have hr := red_lt HP.out k hk
          generalize red p k = q at *
          obtain ⟨j, hj⟩ : ∃ j, 14 - k = j := ⟨_, rfl⟩
          have hj2 : 6 - k = j - 8 := by omega
          rw [hj, hj2] at hn
          have hm := tmod_two q j
          have hji : (14 : Int) - (k : Int) = (j : Int) := by omega
          have hj8 : (j : Int) - 8 = ((j - 8 : Nat) : Int) := by omega
          have hjt : ((j : Int) - 8).toNat = j - 8 := by omega
          have hge : (8 : Int) ≤ (j : Int) := by omega
          have hjl : j ≤ 14 := by omega
          obtain ⟨z, hz⟩ : ∃ z, 283 * 2 ^ (j - 8) = z := ⟨_, rfl⟩
          have hs : z < 32768 := by
            have : 2 ^ (j - 8) ≤ 2 ^ 6 := Nat.pow_le_pow_right (by decide) (by omega)
            omega
          have hw : wrap64 (283 * 2 ^ (j - 8)) = (z : Int) := by
            rw [← hz, show (283 : Int) * 2 ^ (j - 8) = ((283 * 2 ^ (j - 8) : Nat) : Int) by simp]
            exact wrap64_nat _ (by omega)
          rw [hz] at hn
          have hxr := i64_xor_nat q z (by omega) (by omega)
          rw [hji]
          rcases Nat.mod_two_eq_zero_or_one (q / 2 ^ j) with h2 | h2
          · rw [h2] at hm hn
            rw [if_neg (by decide)] at hn
            have HN := wall hn
            clear hn h2 hr hs hw hxr hz
            go_wp2_with fail
            go_light
            go_roundg (7 - (k + 1))
            case measure => have := HGK.out; omega
            case rel => exact ⟨k + 1, by omega, by go_num, by rw [HN.out], rfl⟩
          · rw [h2] at hm hn
            rw [if_pos rfl] at hn
            have HN := wall hn
            clear hn h2 hr hs hz
            go_wp2_with fail
            go_light
            go_roundg (7 - (k + 1))
            case measure => have := HGK.out; omega
            case rel => exact ⟨k + 1, by omega, by go_num, by rw [HN.out], rfl⟩
        · have h7 : k = 7 := by omega
          subst h7
          obtain ⟨q, hq⟩ : ∃ q, red p 7 = q := ⟨_, rfl⟩
          rw [hq] at HR ⊢
          clear hq
          go_wp2_with fail
          go_light
          go_ret
          exact ⟨by rw [HR.out]; simp, rfl⟩
end Aes
end Go.Proofs.YtpakdcgcgekcfaaDoor

/-
  The reference's AES: Box.
-/
set_option linter.unusedSimpArgs false
set_option linter.unusedVariables false
namespace Go.Proofs.YtpakdcgcgekcfaaDoor
open Go.RowKit

namespace Aes
open Otp R1 Fuse Sha
def jL : List Nat := [0, 4, 5, 6, 7]
def sumJ (v i : Nat) : Nat → Nat
  | 0 => 0
  | j + 1 => sumJ v i j + v / 2 ^ ((i + at0 jL j) % 8) % 2
theorem sumJ_le (v i : Nat) : ∀ j, sumJ v i j ≤ j
  | 0 => Nat.le_refl _
  | j + 1 => by
    have := sumJ_le v i j
    have h2 := Nat.mod_lt (v / 2 ^ ((i + at0 jL j) % 8)) (show 0 < 2 by decide)
    rw [sumJ]
    omega
theorem bitR_sum (v i : Nat) : bitR v i = (sumJ v i 5 + 99 / 2 ^ i % 2) % 2 := by
  simp only [bitR, sumJ]
  simp only [show at0 jL 0 = 0 from rfl, show at0 jL 1 = 4 from rfl, show at0 jL 2 = 5 from rfl, show at0 jL 3 = 6 from rfl, show at0 jL 4 = 7 from rfl, Nat.add_zero, Nat.zero_add]
theorem affR_lt (v : Nat) : ∀ i, affR v i < 2 ^ i
  | 0 => show 0 < 1 by decide
  | i + 1 => by
    have h1 := affR_lt v i
    have h2 : bitR v i < 2 := Nat.mod_lt _ (by decide)
    rw [affR, Nat.pow_succ]
    have : bitR v i * 2 ^ i ≤ 1 * 2 ^ i := Nat.mul_le_mul_right _ (by omega)
    omega
theorem jL_at {j : Nat} (h : j < 5) : at0 jL j < 8 ∧ jL[j]? = some (at0 jL j) := by
  have := (show ∀ j : Fin 5, at0 jL j.val < 8 ∧ jL[j.val]? = some (at0 jL j.val) by decide) ⟨j, h⟩
  exact this
set_option maxRecDepth 100000 in
set_option maxHeartbeats 2000000 in
theorem rbox_any (a : Int) (b : Nat) (w : World) (ha : a = b) (hb : b < 256) : Calls Tryd.prog 115 #[.int .u8 a] w (fun e w' => e = .returned (.int .u8 (boxR b : Int)) ∧ Below w.heap.size w w') := by
  subst ha
  have HBX := wall (show boxR b = affR (invR b 256) 8 from rfl)
  have hi0 : invR b 1 = 0 := by simp [invR]
  have HI0 := wall hi0
  have HIN := wall (fun i => show invR b (i + 1) = if rmul b i = 1 then i else invR b i from rfl)
  have HIZ := wall (fun (h : b = 0) i (hi : i ≤ 256) => show invR b i = 0 by rw [h]; exact invR_zero i hi)
  have HIL := wall (show invR b 256 < 256 by rw [invR_all hb]; exact iv_lt hb)
  generalize invR b = iR at *
  clear hi0
  go_enter Tryd.func115, Tryd.ntmps115
  go_upto_block 0 with fail
  go_cut [3] (fun v w' => v = .int .i64 (iR 256 : Int) ∧ w = w')
  case first =>
    go_wp2_with fail
    go_loopg [3, 4] 255 (fun g s3 s4 wr => ∃ (i : Nat), i + g = 256 ∧ s4 = .int .i64 (i : Int) ∧ s3 = .int .i64 (iR i : Int) ∧ wr = w)
    case atStart => exact ⟨1, by omega, rfl, by rw [HI0.out]; rfl, rfl⟩
    case round =>
      obtain ⟨i, hg, rfl, rfl, rfl⟩ := hrel
      have HG := wall hg
      have hi : i ≤ 256 := by omega
      clear hg
      by_cases hlt : i < 256 ∧ 0 < b
      · obtain ⟨hlt, hb0⟩ := hlt
        have hn := HIN.out i
        have hcv : IntKind.u8.wrap (i : Int) = (i : Int) := by rw [IntKind.wrap_u8]; omega
        have HM := wall (rmul_any (b : Int) (i : Int) b i wr rfl rfl hb hlt)
        obtain ⟨q, hq⟩ : ∃ q, rmul b i = q := ⟨_, rfl⟩
        rw [hq] at HM hn
        have hb0' : (0 : Int) < (b : Int) := by omega
        clear hq
        go_wp2_with fail
        (with_reducible refine (HM.out).mono ?_); rintro e w1 ⟨rfl, rfl⟩
        by_cases hq1 : q = 1
        · rw [if_pos hq1] at hn
          have HN := wall hn
          subst hq1
          clear hn HM
          go_wp2_with fail
          go_light
          go_roundg (256 - (i + 1))
          case measure => have := HG.out; omega
          case rel => exact ⟨i + 1, by omega, by go_num, by rw [HN.out], rfl⟩
        · rw [if_neg hq1] at hn
          have HN := wall hn
          have hqe : ((q : Int) == 1) = false := by rw [beq_eq_false_iff_ne]; omega
          clear hn HM hq1
          go_wp2_with fail
          go_light
          go_roundg (256 - (i + 1))
          case measure => have := HG.out; omega
          case rel => exact ⟨i + 1, by omega, by go_num, by rw [HN.out], rfl⟩
      · have hend : iR i = iR 256 := by
          by_cases h0 : b = 0
          · rw [HIZ.out h0 i hi, HIZ.out h0 256 (Nat.le_refl _)]
          · rw [show i = 256 by omega]
        obtain ⟨v, hv⟩ : ∃ v, iR 256 = v := ⟨_, rfl⟩
        have HE := wall (hend.trans hv)
        have HV := wall hv
        clear hend hv
        rcases (show i = 256 ∨ (i < 256 ∧ b = 0) by omega) with h | ⟨h, h0⟩
        · subst h
          go_wp2_with fail
          go_meet
          exact ⟨rfl, rfl⟩
        · subst h0
          go_wp2_with fail
          go_meet
          exact ⟨by rw [HE.out, HV.out], rfl⟩
  case rest =>
    obtain ⟨rfl, rfl⟩ := hcut
    obtain ⟨v, hv⟩ : ∃ v, iR 256 = v := ⟨_, rfl⟩
    rw [hv] at HBX HIL ⊢
    clear hv HI0 HIN HIZ
    go_wp2_with fail
    go_loopg [5, 6] 8 (fun g s5 s6 wr => ∃ (i : Nat), i + g = 8 ∧ s6 = .int .i64 (i : Int) ∧ s5 = .int .i64 (affR v i : Int) ∧ Wall (Below w.heap.size w wr))
    case atStart => exact ⟨0, by omega, rfl, rfl, wall (Below.refl _ _)⟩
    case round =>
      obtain ⟨i, hg, rfl, rfl, HB⟩ := hrel
      have HG := wall hg
      have hi : i ≤ 8 := by omega
      clear hg
      by_cases hlt : i < 8
      · have hal := affR_lt v i
        have hn : affR v (i + 1) = affR v i + bitR v i * 2 ^ i := rfl
        rw [bitR_sum] at hn
        have hp7 : 2 ^ i ≤ 2 ^ 7 := Nat.pow_le_pow_right (by decide) (by omega)
        have HAL := wall (show affR v i < 256 by omega)
        have HN := wall hn
        have HP := wall hp7
        generalize affR v i = o at *
        clear hal hn hp7
        go_upto_region 13 with fail
        obtain ⟨gO, rfl⟩ : ∃ q, q = gk := ⟨_, rfl⟩
        obtain ⟨w5, hw5⟩ : ∃ W, W = wr.alloc (.cells #[.int .i64 0, .int .i64 4, .int .i64 5, .int .i64 6, .int .i64 7] 3) := ⟨_, rfl⟩
        have HB5 := wall (show Below w.heap.size w w5 by rw [hw5]; exact HB.out.alloc HB.out.size _)
        have HK5 := wall (show Blk w5 wr.heap.size 3 #[.int .i64 0, .int .i64 4, .int .i64 5, .int .i64 6, .int .i64 7] by rw [hw5]; exact Blk.new _ _ _)
        have HC5 := wall (fun j (h : j < 5) => show w5.cell? ⟨wr.heap.size, j, none⟩ = some (.int .i64 (at0 jL j : Int)) by
          rw [HK5.out.cell]
          exact (show ∀ j : Fin 5, (#[.int .i64 0, .int .i64 4, .int .i64 5, .int .i64 6, .int .i64 7] : Array Value)[j.val]? = some (.int .i64 ((at0 jL j.val : Nat) : Int)) from fun j => by
            match j with
            | ⟨0, _⟩ => rfl
            | ⟨1, _⟩ => rfl
            | ⟨2, _⟩ => rfl
            | ⟨3, _⟩ => rfl
            | ⟨4, _⟩ => rfl) ⟨j, h⟩)
        have hg5 := HK5.out.lt
        rw [← hw5]
        clear hw5 HB
        generalize wr.heap.size = gJ at *
        go_loopg [7, 30] 5 (fun g s7 s30 wr' => ∃ (j : Nat), j + g = 5 ∧ s30 = .int .i64 (j : Int) ∧ s7 = .int .i64 (sumJ v i j : Int) ∧ wr' = w5)
        case atStart => exact ⟨0, by omega, rfl, rfl, rfl⟩
        case round =>
          obtain ⟨j, hg, rfl, rfl, rfl⟩ := hrel
          have HGJ := wall hg
          have hj : j ≤ 5 := by omega
          clear hg
          have hsl := sumJ_le v i j
          by_cases hjl : j < 5
          · have hc := HC5.out j hjl
            obtain ⟨he8, -⟩ := jL_at hjl
            have hn : sumJ v i (j + 1) = sumJ v i j + v / 2 ^ ((i + at0 jL j) % 8) % 2 := rfl
            generalize at0 jL j = e at *
            generalize sumJ v i j = x at *
            obtain ⟨r, hr⟩ : ∃ r, (i + e) % 8 = r := ⟨_, rfl⟩
            rw [hr] at hn
            have hr8 : ((i : Int) + (e : Int)).tmod 8 = (r : Int) := by rw [Int.tmod_eq_emod_of_nonneg (by omega)]; omega
            have hr9 : ((i : Int) + (e : Int)) % 8 = (r : Int) := by omega
            have hm := tmod_two v r
            have hq := Nat.mod_lt (v / 2 ^ r) (show 0 < 2 by decide)
            generalize v / 2 ^ r % 2 = q at *
            have HN2 := wall hn
            clear hn hr
            go_wp2_with fail
            go_light
            go_roundg (5 - (j + 1))
            case measure => have := HGJ.out; omega
            case rel => exact ⟨j + 1, by omega, by go_num, by rw [HN2.out]; go_num, rfl⟩
          · have h5 : j = 5 := by omega
            subst h5
            have h99 : ((99 : Int) / 2 ^ i).tmod 2 = ((99 / 2 ^ i % 2 : Nat) : Int) := by simpa using tmod_two 99 i
            have hq := Nat.mod_lt (99 / 2 ^ i) (show 0 < 2 by decide)
            have hn := HN.out
            have hp := HP.out
            have ho := HAL.out
            generalize 99 / 2 ^ i % 2 = q at *
            generalize sumJ v i 5 = x at *
            obtain ⟨t, ht⟩ : ∃ t, (x + q) % 2 = t := ⟨_, rfl⟩
            have ht2 : t < 2 := by omega
            have hm : ((x : Int) + (q : Int)).tmod 2 = (t : Int) := by rw [Int.tmod_eq_emod_of_nonneg (by omega)]; omega
            rw [ht] at hn
            obtain ⟨z, hz⟩ : ∃ z, t * 2 ^ i = z := ⟨_, rfl⟩
            rw [hz] at hn
            have hzl : z ≤ 128 := by
              rw [← hz]
              calc t * 2 ^ i ≤ 1 * 2 ^ 7 := Nat.mul_le_mul (by omega) hp
                _ = 128 := rfl
            have hw : wrap64 ((t : Int) * 2 ^ i) = (z : Int) := by
              rw [← hz, show ((t : Int) * 2 ^ i) = ((t * 2 ^ i : Nat) : Int) by simp]
              exact wrap64_nat _ (by rw [hz]; omega)
            have HN2 := wall hn
            clear hn hp ht hz HN HP HAL
            go_upto_region 18 with fail
            clear h99 hsl hq
            go_wp2_with fail
            go_light
            go_roundg (8 - (i + 1))
            case measure => have := HG.out; omega
            case rel => exact ⟨i + 1, by omega, by go_num, by rw [HN2.out]; go_num, HB5⟩
      · have h8 : i = 8 := by omega
        have hal := affR_lt v 8
        obtain ⟨o, ho⟩ : ∃ o, affR v 8 = o := ⟨_, rfl⟩
        rw [show affR v i = o by rw [h8, ho]]
        rw [ho] at hal HBX
        have hcv : IntKind.u8.wrap (o : Int) = (o : Int) := by rw [IntKind.wrap_u8]; omega
        clear ho h8
        go_wp2_with fail
        go_light
        go_ret
        exact ⟨by rw [HBX.out]; rfl, HB.out⟩
end Aes
end Go.Proofs.YtpakdcgcgekcfaaDoor

/-
  Package slot: Kind, key.
-/
set_option linter.unusedSimpArgs false
set_option linter.unusedVariables false
namespace Go.Proofs.YtpakdcgcgekcfaaDoor
open Go.RowKit

namespace Slot
open Otp R1 Sha
def wfI (h : Int) : Prop := (Lit.int .i64 h).wf = true
theorem ints_one (w : World) (h : Int) (hw : wfI h) : Ints .i64 (w.alloc (.cells #[.int .i64 h] 3)) (w.alloc (.cells #[.int .i64 h] 3)).heap.size (some ⟨w.heap.size, 0, none⟩) [h] :=
  (ints_new w [h] _ rfl (fun z hz => by simp at hz; subst hz; exact hw)).more (by simp)
theorem ints_two (w : World) (h k : Int) (hw : wfI h) (kw : wfI k) : Ints .i64 (w.alloc (.cells #[.int .i64 h, .int .i64 k] 3)) (w.alloc (.cells #[.int .i64 h, .int .i64 k] 3)).heap.size (some ⟨w.heap.size, 0, none⟩) [h, k] :=
  (ints_new w [h, k] _ rfl (fun z hz => by simp at hz; rcases hz with rfl | rfl; exact hw; exact kw)).more (by simp)
/-- A place's kind. -/
def kindE (s : Slt) (h : Int) : Nat := if mayE s [h] = 0 then (s.rs[h.toNat]?.getD (0, [])).1 else 0
theorem mayE_le (s : Slt) (l : List Int) : mayE s l ≤ 17 := by
  unfold mayE
  split
  · decide
  · split <;> decide
theorem mayE_zero {s : Slt} {h : Int} (hm : mayE s [h] = 0) : s.dd = false ∧ 0 ≤ h ∧ h < 8 := by
  unfold mayE at hm
  split at hm
  · cases hm
  · split at hm
    · rename_i h1 h2
      simp [inR] at h2
      exact ⟨by simpa using h1, h2⟩
    · cases hm
theorem row_at {s : Slt} (hk : s.Ok) {i : Nat} (hi : i < 8) : ∃ p, s.rs[i]? = some p ∧ p.2.length = 32 ∧ (∀ x ∈ p.2, x < 256) ∧ p.1 ≤ 3 := by
  have hl : i < s.rs.length := by rw [hk.len]; exact hi
  have hm := List.getElem_mem hl
  exact ⟨s.rs[i], List.getElem?_eq_getElem hl, hk.key _ hm, hk.byte _ hm, hk.kind _ hm⟩
def IntBelow (w : World) (z : Int) (e : Ending) (w' : World) : Prop := e = .returned (.int .i64 z) ∧ Below w.heap.size w w'
set_option maxRecDepth 100000 in
set_option maxHeartbeats 1000000 in
theorem kind_any (g : Nat) (s : Slt) (h : Int) (w : World) (hS : Sl w g s) (hw : wfI h) :
    Calls Tryd.prog 41 #[.pointer (some ⟨g, 0, none⟩), .int .i64 h] w (IntBelow w (kindE s h)) := by
  have HM := Lib.hid (may_any g s _ [h] 1 1 _ (hS.old ((Below.refl _ w).alloc (Nat.le_refl _) (.cells #[.int .i64 h] 3))) rfl (by decide) (ints_one w h hw))
  have HB := Lib.hid ((Below.refl _ w).alloc (Nat.le_refl _) (.cells #[.int .i64 h] 3))
  obtain ⟨E, hE⟩ : ∃ E, mayE s [h] = E := ⟨_, rfl⟩
  rw [hE] at HM
  by_cases h0 : E = 0
  · subst h0
    obtain ⟨hdd, h1, h2⟩ := mayE_zero hE
    obtain ⟨i, rfl⟩ : ∃ i : Nat, h = i := ⟨h.toNat, by omega⟩
    obtain ⟨p, hp, _, _, _⟩ := row_at hS.ok (show i < 8 by omega)
    have HK := Lib.hid (show kindE s (i : Int) = p.1 by rw [kindE, if_pos hE, Int.toNat_natCast, hp]; rfl)
    have hck : (w.alloc (.cells #[.int .i64 (i : Int)] 3)).cell? ⟨g, i * 33, none⟩ = some (.int .i64 (p.1 : Int)) := (hS.old HB.out).cellAt (by rw [Nat.mul_comm]; exact hS.ok.kindAt hp)
    have hi8 : (i : Int) < 8 := h2
    rw [HK.out]
    clear hE hdd hp h1 h2 hS hw
    go_enter Tryd.func41, Tryd.ntmps41
    go_wp2_with fail
    (with_reducible refine HM.out.mono ?_); rintro e w2 ⟨rfl, rfl⟩
    go_wp2_with fail
    go_light
    go_ret
    exact ⟨rfl, HB.out⟩
  · have HK := Lib.hid (show kindE s h = 0 by rw [kindE, hE, if_neg h0])
    have hne : (((E : Nat) : Int) != 0) = true := by rw [bne_iff_ne]; omega
    rw [HK.out]
    clear hE hS hw
    go_enter Tryd.func41, Tryd.ntmps41
    go_wp2_with fail
    (with_reducible refine HM.out.mono ?_); rintro e w2 ⟨rfl, rfl⟩
    go_wp2_with fail
    go_light
    go_ret
    exact ⟨rfl, HB.out⟩
set_option maxHeartbeats 1000000 in
theorem kind_nil (h : Int) (w : World) : Calls Tryd.prog 41 #[.pointer none, .int .i64 h] w (IntBelow w 0) := by
  have HB := Lib.hid ((Below.refl _ w).alloc (Nat.le_refl _) (.cells #[.int .i64 h] 3))
  go_enter Tryd.func41, Tryd.ntmps41
  go_wp2_with fail
  (with_reducible refine (may_nil _ _ _ _).mono ?_); rintro e w2 ⟨rfl, rfl⟩
  go_wp2_with fail
  go_light
  go_ret
  exact ⟨rfl, HB.out⟩
/-- A place's key: why not, or the key. -/
def keyE (s : Slt) (h : Int) : Nat := if mayE s [h] ≠ 0 then mayE s [h] else if kindE s h = 0 then 3 else 0
def keyOf (s : Slt) (h : Int) : List Nat := (s.rs[h.toNat]?.getD (0, [])).2
def KeyOut (w : World) (E : Nat) (k : List Nat) (e : Ending) (w' : World) : Prop := ∃ A n c, e = .returned (.tuple #[.slice A n c, .int .i64 (E : Int)]) ∧ (E = 0 → n = 32 ∧ n ≤ c ∧ k.length = 32 ∧ Nats .u8 256 w' w'.heap.size A k) ∧ Below w.heap.size w w'
set_option maxRecDepth 100000 in
set_option maxHeartbeats 2000000 in
theorem key_any (g : Nat) (s : Slt) (h : Int) (w : World) (hS : Sl w g s) (hw : wfI h) :
    Calls Tryd.prog 82 #[.pointer (some ⟨g, 0, none⟩), .int .i64 h] w (KeyOut w (keyE s h) (keyOf s h)) := by
  have HM := Lib.hid (may_any g s _ [h] 1 1 _ (hS.old ((Below.refl _ w).alloc (Nat.le_refl _) (.cells #[.int .i64 h] 3))) rfl (by decide) (ints_one w h hw))
  have HB := Lib.hid ((Below.refl _ w).alloc (Nat.le_refl _) (.cells #[.int .i64 h] 3))
  obtain ⟨E, hE⟩ : ∃ E, mayE s [h] = E := ⟨_, rfl⟩
  rw [hE] at HM
  by_cases h0 : E = 0
  · subst h0
    obtain ⟨hdd, h1, h2⟩ := mayE_zero hE
    obtain ⟨i, rfl⟩ : ∃ i : Nat, h = i := ⟨h.toNat, by omega⟩
    obtain ⟨p, hp, hpl, hpb, hp3⟩ := row_at hS.ok (show i < 8 by omega)
    have hkd : kindE s (i : Int) = p.1 := by rw [kindE, if_pos hE, Int.toNat_natCast, hp]; rfl
    have HKO := Lib.hid (show keyOf s (i : Int) = p.2 by rw [keyOf, Int.toNat_natCast, hp]; rfl)
    have HS2 := Lib.hid (hS.old HB.out)
    have hck : (w.alloc (.cells #[.int .i64 (i : Int)] 3)).cell? ⟨g, i * 33, none⟩ = some (.int .i64 (p.1 : Int)) := HS2.out.cellAt (by rw [Nat.mul_comm]; exact hS.ok.kindAt hp)
    have hi8 : (i : Int) < 8 := h2
    have HNK := Lib.hid (show Nats .u8 256 (w.alloc (.cells #[.int .i64 (i : Int)] 3)) (w.alloc (.cells #[.int .i64 (i : Int)] 3)).heap.size (some ⟨g, i * 33 + 1, none⟩) p.2 from fun j z hz =>
      ⟨hpb z (List.mem_of_getElem? hz), g, i * 33 + 1, rfl, HS2.out.lt, HS2.out.cellAt (by rw [Nat.mul_comm]; exact hS.ok.keyAt hp j _ (by simp [v8, hz]))⟩)
    have hsl := run_slice_arr_all' (P := Tryd.prog) 23 5 32 Tryd.underlying23 (fun _ => by kernel_rfl) g (i * 33 + 1) (by decide)
    by_cases hk0 : p.1 = 0
    · have HK := Lib.hid (show keyE s (i : Int) = 3 by rw [keyE, hE, hkd, hk0]; rfl)
      rw [HK.out]
      rw [hk0] at hck
      clear hE hdd hp h1 h2 hS hw hkd hk0 hsl
      go_enter Tryd.func82, Tryd.ntmps82
      go_wp2_with fail
      (with_reducible refine HM.out.mono ?_); rintro e w2 ⟨rfl, rfl⟩
      go_wp2_with fail
      go_light
      go_ret2
      exact ⟨_, _, _, rfl, (fun h => by cases h), HB.out⟩
    · have HK := Lib.hid (show keyE s (i : Int) = 0 by rw [keyE, hE, hkd, if_neg (by decide), if_neg hk0])
      rw [HK.out, HKO.out]
      have hne : (((p.1 : Nat) : Int) == 0) = false := by rw [beq_eq_false_iff_ne]; omega
      clear hE hdd hp h1 h2 hS hw hkd hk0
      go_enter Tryd.func82, Tryd.ntmps82
      go_wp2_with fail
      (with_reducible refine HM.out.mono ?_); rintro e w2 ⟨rfl, rfl⟩
      go_wp2_with fail
      go_light
      go_ret2
      exact ⟨_, _, _, rfl, fun _ => ⟨rfl, Nat.le_refl _, hpl, HNK.out⟩, HB.out⟩
  · have HK := Lib.hid (show keyE s h = E by rw [keyE, hE, if_pos h0])
    have hne : (((E : Nat) : Int) != 0) = true := by rw [bne_iff_ne]; omega
    rw [HK.out]
    clear hE hS hw
    go_enter Tryd.func82, Tryd.ntmps82
    go_wp2_with fail
    (with_reducible refine HM.out.mono ?_); rintro e w2 ⟨rfl, rfl⟩
    go_wp2_with fail
    go_light
    go_ret2
    exact ⟨_, _, _, rfl, fun h => absurd h h0, HB.out⟩
set_option maxHeartbeats 1000000 in
theorem key_nil (h : Int) (w : World) : Calls Tryd.prog 82 #[.pointer none, .int .i64 h] w (KeyOut w 3 []) := by
  have HB := Lib.hid ((Below.refl _ w).alloc (Nat.le_refl _) (.cells #[.int .i64 h] 3))
  go_enter Tryd.func82, Tryd.ntmps82
  go_wp2_with fail
  (with_reducible refine (may_nil _ _ _ _).mono ?_); rintro e w2 ⟨rfl, rfl⟩
  go_wp2_with fail
  go_light
  go_ret2
  exact ⟨_, _, _, rfl, (fun h => by cases h), HB.out⟩
end Slot
end Go.Proofs.YtpakdcgcgekcfaaDoor

/-
  Package slot: Lay, Lock, Locked, Dead.
-/
set_option linter.unusedSimpArgs false
set_option linter.unusedVariables false
namespace Go.Proofs.YtpakdcgcgekcfaaDoor
open Go.RowKit

namespace Slot
open Otp R1 Sha
def layE (s : Slt) (h kind : Int) : Nat := if mayE s [h] ≠ 0 then mayE s [h] else if kind < 1 ∨ 3 < kind then 1 else if s.lk = true ∧ kind = 1 then 12 else if kindE s h ≠ 0 then 13 else 0
def laySt (s : Slt) (h kind : Int) (key : List Nat) : Slt := if layE s h kind = 0 then s.put h.toNat (kind.toNat, key) else s
/-- A call that may write into the chip's places. -/
def WrOut (w : World) (g : Nat) (z : Int) (s' : Slt) (e : Ending) (w' : World) : Prop := e = .returned (.int .i64 z) ∧ Sl w' g s' ∧ Frm [g] w w'
theorem place_info : (Tryd.prog.info? 137).map (·.size) = some 33 := by kernel_rfl
theorem place_built (k : Nat) (y : List Nat) (hy : y.length = 32) : Tryd.prog.built 137 [(0, .int .i64 (k : Int)), (1, .agg (b8 y))] = some (row (k, y)).toArray := by
  have h : Tryd.prog.built 137 [(0, .int .i64 (k : Int)), (1, .agg (b8 y))] = Instr.fill ((#[(0, 1), (1, 32)] : Array (Nat × Nat))[·]?) (Value.int .i64 0 :: v8 (List.replicate 32 0)).toArray [(0, .int .i64 (k : Int)), (1, .agg (b8 y))] := by kernel_rfl
  have hz : (Value.int .i64 0 :: v8 (List.replicate 32 0)).length = 33 := rfl
  have hp := fill_part ((#[(0, 1), (1, 32)] : Array (Nat × Nat))[·]?) ((Value.int .i64 0 :: v8 (List.replicate 32 0)).set 0 (.int .i64 (k : Int))) 1 (v8 y) [] 1 (by rw [v8_length, hy]; rfl) (by rw [List.length_set, hz, v8_length, hy]; decide)
  rw [h, fill_one _ _ 0 (.int .i64 (k : Int)) _ 0 rfl rfl (by decide)]
  have hs : splice ((Value.int .i64 0 :: v8 (List.replicate 32 0)).set 0 (.int .i64 (k : Int))) 1 (v8 y) = row (k, y) := by
    unfold splice
    rw [List.drop_of_length_le (by rw [List.length_set, hz, v8_length, hy]; decide), List.append_nil, List.set_cons_zero, List.take_succ_cons, List.take_zero]
    rfl
  rw [hs] at hp
  exact hp
theorem row_one (p : Nat × List Nat) : ∀ v ∈ row p, v.oneCell' = true := fun v hv => by
  rcases List.mem_cons.1 hv with rfl | hv
  · rfl
  · obtain ⟨_, _, rfl⟩ := List.mem_map.1 hv
    rfl
theorem row_size {p : Nat × List Nat} (h : p.2.length = 32) : (row p).toArray.size = 33 := by simp [row, v8_length, h]
set_option maxRecDepth 100000 in
set_option maxHeartbeats 4000000 in
theorem lay_any (g : Nat) (s : Slt) (h kind : Int) (key : List Nat) (w : World) (hS : Sl w g s) (hw : wfI h) (hkl : key.length = 32) (hkb : ∀ x ∈ key, x < 256) :
    Calls Tryd.prog 35 #[.pointer (some ⟨g, 0, none⟩), .int .i64 h, .int .i64 kind, .agg (b8 key)] w (WrOut w g (layE s h kind) (laySt s h kind key)) := by
  obtain ⟨W1, hW1⟩ : ∃ W, W = w.alloc (.cells (b8 key) 23) := ⟨_, rfl⟩
  have HB1 := Lib.hid (show Below w.heap.size w W1 by rw [hW1]; exact (Below.refl _ w).alloc (Nat.le_refl _) _)
  have HK1 := Lib.hid (show Blk W1 w.heap.size 23 (b8 key) by rw [hW1]; exact Blk.new _ _ _)
  have HW1 := Lib.hid hW1
  obtain ⟨W2, hW2⟩ : ∃ W, W = W1.alloc (.cells #[.int .i64 h] 3) := ⟨_, rfl⟩
  have HW2 := Lib.hid hW2
  have HB2 := Lib.hid (show Below w.heap.size w W2 by rw [hW2]; exact HB1.out.alloc HB1.out.size _)
  have HK2 := Lib.hid (show Blk W2 w.heap.size 23 (b8 key) by rw [hW2]; exact HK1.out.alloc _)
  have HS2 := Lib.hid (hS.old HB2.out)
  have HM := Lib.hid (may_any g s (some ⟨W1.heap.size, 0, none⟩) [h] 1 1 W2 HS2.out rfl (by decide) (by rw [hW2]; exact ints_one W1 h hw))
  obtain ⟨E, hE⟩ : ∃ E, mayE s [h] = E := ⟨_, rfl⟩
  rw [hE] at HM
  have hok := HS2.out.ok
  have HEND := Lib.hid (show Frm [g] w W2 from Frm.of_below HB2.out)
  clear hW1 hW2 hS
  by_cases h0 : E = 0
  · subst h0
    obtain ⟨hdd, h1, h2⟩ := mayE_zero hE
    obtain ⟨i, rfl⟩ : ∃ i : Nat, h = i := ⟨h.toNat, by omega⟩
    obtain ⟨p, hp, hpl, hpb, hp3⟩ := row_at hok (show i < 8 by omega)
    have hkd : kindE s (i : Int) = p.1 := by rw [kindE, if_pos hE, Int.toNat_natCast, hp]; rfl
    have hck : W2.cell? ⟨g, i * 33, none⟩ = some (.int .i64 (p.1 : Int)) := HS2.out.cellAt (by rw [Nat.mul_comm]; exact hok.kindAt hp)
    have hcl : W2.cell? ⟨g, 264, none⟩ = some (.bool s.lk) := HS2.out.cellAt hok.lockAt
    have hi8 : (i : Int) < 8 := h2
    by_cases hkr : kind < 1 ∨ 3 < kind
    · have HE := Lib.hid (show layE s (i : Int) kind = 1 by rw [layE, hE, if_neg (by decide), if_pos hkr])
      have HL := Lib.hid (show laySt s (i : Int) kind key = s by rw [laySt, HE.out]; rfl)
      rw [HE.out, HL.out]
      clear hE hdd hp h1 h2 hw hkd hck hcl HE HL hok
      by_cases hk1 : kind < 1
      all_goals
        (try have hk3 : kind > 3 := by omega)
        go_enter Tryd.func35, Tryd.ntmps35
        go_upto_region 1 with fail
        change Code.wp _ _ _ _ (w.alloc (.cells (b8 key) 23))
        rw [← HW1.out]
        go_upto_region 2 with (go_at_call 81; change Calls _ _ _ (W1.alloc (.cells #[.int .i64 (i : Int)] 3)) _; rw [← HW2.out]; (with_reducible refine HM.out.mono ?_); rintro e w2 ⟨rfl, rfl⟩)
        go_wp2_with fail
        go_light
        go_ret
        exact ⟨rfl, HS2.out, HEND.out⟩
    · have hk1 : ¬ kind < 1 := by omega
      have hk3 : ¬ kind > 3 := by omega
      by_cases hlk : s.lk = true ∧ kind = 1
      · obtain ⟨hl, hk⟩ := hlk
        have HE := Lib.hid (show layE s (i : Int) kind = 12 by rw [layE, hE, if_neg (by decide), if_neg hkr, if_pos ⟨hl, hk⟩])
        have HL := Lib.hid (show laySt s (i : Int) kind key = s by rw [laySt, HE.out]; rfl)
        rw [HE.out, HL.out]
        rw [hl] at hcl
        subst hk
        clear hE hdd hp h1 h2 hw hkd hck hl HE HL hok hkr hk1 hk3
        go_enter Tryd.func35, Tryd.ntmps35
        go_upto_region 1 with fail
        change Code.wp _ _ _ _ (w.alloc (.cells (b8 key) 23))
        rw [← HW1.out]
        go_upto_region 2 with (go_at_call 81; change Calls _ _ _ (W1.alloc (.cells #[.int .i64 (i : Int)] 3)) _; rw [← HW2.out]; (with_reducible refine HM.out.mono ?_); rintro e w2 ⟨rfl, rfl⟩)
        go_wp2_with fail
        go_light
        go_ret
        exact ⟨rfl, HS2.out, HEND.out⟩
      · have hb33 : s.lk = false ∨ (s.lk = true ∧ (kind == 1) = false) := by
          cases hl : s.lk
          · exact .inl rfl
          · exact .inr ⟨rfl, by rw [beq_eq_false_iff_ne]; exact fun h => hlk ⟨hl, h⟩⟩
        by_cases hkk : p.1 = 0
        · have HE := Lib.hid (show layE s (i : Int) kind = 0 by rw [layE, hE, if_neg (by decide), if_neg hkr, if_neg hlk, hkd, hkk]; rfl)
          obtain ⟨kn, rfl⟩ : ∃ n : Nat, kind = n := ⟨kind.toNat, by omega⟩
          have HL := Lib.hid (show laySt s (i : Int) (kn : Int) key = s.put i (kn, key) by rw [laySt, HE.out, if_pos rfl]; rfl)
          rw [HE.out, HL.out]
          rw [hkk] at hck
          have HSP := Lib.hid (show splice (slC s) (i * 33) (row (kn, key)).toArray.toList = slC (s.put i (kn, key)) by
            rw [Nat.mul_comm]
            exact hok.splice (by omega) hkl)
          have HOK := Lib.hid (hok.put i (p := (kn, key)) hkl hkb (by simp only; omega))
          have HSZ := Lib.hid (show (Tryd.prog.info? 137).map (·.size) = some (row (kn, key)).toArray.size by rw [row_size hkl]; exact place_info)
          have HFT := Lib.hid (show i * 33 + (row (kn, key)).toArray.size ≤ (slC s).length by rw [row_size hkl, hok.size]; omega)
          have HSK := Lib.hid (show (Tryd.prog.info? 23).map (·.size) = some (b8 key).size by rw [b8_size, hkl]; exact dig_info)
          have HPB := Lib.hid (place_built kn key hkl)
          clear hE hdd hp h1 h2 hw hkd HE HL hok hkr hlk hkl hkb
          rcases hb33 with hl | ⟨hl, hkb1⟩
          all_goals
            rw [hl] at hcl
            clear hl
            go_enter Tryd.func35, Tryd.ntmps35
            go_upto_region 1 with fail
            change Code.wp _ _ _ _ (w.alloc (.cells (b8 key) 23))
            rw [← HW1.out]
            go_upto_region 2 with (go_at_call 81; change Calls _ _ _ (W1.alloc (.cells #[.int .i64 (i : Int)] 3)) _; rw [← HW2.out]; (with_reducible refine HM.out.mono ?_); rintro e w2 ⟨rfl, rfl⟩)
            go_wp2_with fail
            refine Rel.wp_region_rel 8 [(48, .const (.pointer (some ⟨g, 0, none⟩)))] (by kernel_rfl) (by kernel_rfl) ?_
            simp only [List.take_succ_cons, List.take_zero, List.drop_succ_cons, List.drop_zero, Act.put, List.setIfInBounds_toArray, List.set_cons_zero, List.set_cons_succ]
            repeat (refine Rel.tree_quiet rfl rfl rfl (fun K hK => ?_); go_big_quiet_op; refine hK _ ?_; clear hK K)
            refine Rel.tree_pure rfl rfl rfl (.agg (b8 key)) (fun W hW _ => Rel.exec_load _ _ rfl w.heap.size 0 rfl _ _ (Blk.range (hW.blk HK2.out.drew)) Tryd.underlying23 rfl HSK.out) ?_
            simp only [Act.put, List.setIfInBounds_toArray, List.set_cons_zero, List.set_cons_succ]
            refine Rel.tree_pure rfl rfl rfl (.agg (row (kn, key)).toArray) (fun W hW _ => Rel.exec_build _ _ rfl _ HPB.out) ?_
            simp only [Act.put, List.setIfInBounds_toArray, List.set_cons_zero, List.set_cons_succ]
            refine Rel.tree_const rfl (.pointer (some ⟨g, 0, none⟩)) rfl (fun W hW _ => ?_) ?_
            · unfold Rel.relAt; go_simp; exact ⟨Rel.Grow.refl _, rfl⟩
            simp only [Act.put, List.setIfInBounds_toArray, List.set_cons_zero, List.set_cons_succ]
            repeat (refine Rel.tree_quiet rfl rfl rfl (fun K hK => ?_); go_big_quiet_op; refine hK _ ?_; clear hK K)
            intro W hW _
            have KS := Lib.hid (hW.blk HS2.out.blk.drew)
            have HBW := Lib.hid (below_then HB2.out hW.undrew (Nat.le_refl _))
            clear hW
            go_wp2_with (refine wpList_store_frm rfl 137 (.tmp 50) (.tmp 47) rfl g (i * 33) (row (kn, key)).toArray rfl rfl 140 (slC s) KS.out HFT.out HSZ.out (all_oneCell_toArray (row_one _)) ?_; intro w7 K7 F7)
            rw [HSP.out] at K7
            go_light
            go_ret
            exact ⟨rfl, ⟨HOK.out, K7⟩, (Frm.of_below HBW.out).trans' F7 (fun x hx _ => hx)⟩
        · have HE := Lib.hid (show layE s (i : Int) kind = 13 by rw [layE, hE, if_neg (by decide), if_neg hkr, if_neg hlk, hkd, if_pos hkk])
          have HL := Lib.hid (show laySt s (i : Int) kind key = s by rw [laySt, HE.out]; rfl)
          rw [HE.out, HL.out]
          have hne : (((p.1 : Nat) : Int) != 0) = true := by rw [bne_iff_ne]; omega
          clear hE hdd hp h1 h2 hw hkd HE HL hok hkr hlk
          rcases hb33 with hl | ⟨hl, hkb1⟩
          all_goals
            rw [hl] at hcl
            clear hl
            go_enter Tryd.func35, Tryd.ntmps35
            go_upto_region 1 with fail
            change Code.wp _ _ _ _ (w.alloc (.cells (b8 key) 23))
            rw [← HW1.out]
            go_upto_region 2 with (go_at_call 81; change Calls _ _ _ (W1.alloc (.cells #[.int .i64 (i : Int)] 3)) _; rw [← HW2.out]; (with_reducible refine HM.out.mono ?_); rintro e w2 ⟨rfl, rfl⟩)
            go_wp2_with fail
            go_light
            go_ret
            exact ⟨rfl, HS2.out, HEND.out⟩
  · have HE := Lib.hid (show layE s h kind = E by rw [layE, hE, if_pos h0])
    have HL := Lib.hid (show laySt s h kind key = s by rw [laySt, HE.out, if_neg h0])
    have hne : (((E : Nat) : Int) != 0) = true := by rw [bne_iff_ne]; omega
    rw [HE.out, HL.out]
    clear hE hw HE HL hok
    go_enter Tryd.func35, Tryd.ntmps35
    go_upto_region 1 with fail
    change Code.wp _ _ _ _ (w.alloc (.cells (b8 key) 23))
    rw [← HW1.out]
    go_upto_region 2 with (go_at_call 81; change Calls _ _ _ (W1.alloc (.cells #[.int .i64 h] 3)) _; rw [← HW2.out]; (with_reducible refine HM.out.mono ?_); rintro e w2 ⟨rfl, rfl⟩)
    go_wp2_with fail
    go_light
    go_ret
    exact ⟨rfl, HS2.out, HEND.out⟩
set_option maxHeartbeats 1000000 in
theorem lay_nil (h kind : Int) (key : List Nat) (w : World) : Calls Tryd.prog 35 #[.pointer none, .int .i64 h, .int .i64 kind, .agg (b8 key)] w (IntBelow w 3) := by
  have HB := Lib.hid (((Below.refl _ w).alloc (Nat.le_refl _) (.cells (b8 key) 23)).alloc (by simp) (.cells #[.int .i64 h] 3))
  go_enter Tryd.func35, Tryd.ntmps35
  go_wp2_with fail
  (with_reducible refine (may_nil _ _ _ _).mono ?_); rintro e w2 ⟨rfl, rfl⟩
  go_wp2_with fail
  go_light
  go_ret
  exact ⟨rfl, HB.out⟩
end Slot
end Go.Proofs.YtpakdcgcgekcfaaDoor

/-
  Package sha: Digest.
-/
set_option linter.unusedSimpArgs false
set_option linter.unusedVariables false
namespace Go.Proofs.YtpakdcgcgekcfaaDoor
open Go.RowKit

namespace Otp
open Fuse R1
set_option maxRecDepth 100000 in
set_option maxHeartbeats 1000000 in
theorem digest_any (ws : List Nat) (w : World) (hl : ws.length = 8) (hw : ∀ x ∈ ws, x < 4294967296) :
    Calls Tryd.prog 72 #[.agg (c32 ws)] w (fun e w' => e = .returned (.agg (b8 (wordsB ws))) ∧ Below w.heap.size w w') := by
  have HL := Lib.hid hl
  have HW := Lib.hid hw
  have HSZ := Lib.hid (show (Tryd.prog.info? 118).map (·.size) = some (c32 ws).size by
    rw [show (c32 ws).size = 8 by simp [c32, hl]]
    kernel_rfl)
  have HK := Lib.hid (Blk.new w 118 (c32 ws))
  clear hl hw
  go_enter Tryd.func72, Tryd.ntmps72
  go_wp2_with (refine wpList_load_row rfl 118 _ rfl w.heap.size rfl 118 (c32 ws) (0, 0) _ ((HK.out.alloc _).alloc _) Tryd.underlying118 rfl HSZ.out ?_)
  obtain ⟨W2, hW2⟩ : ∃ W2, W2 = (w.alloc (.cells (c32 ws) 118)).alloc (.cells (b8 (List.replicate 32 0)) 23) := ⟨_, rfl⟩
  have HW2 := Lib.hid hW2
  clear hW2
  go_loopg [4, 5, 7] 8 (fun g s4 s5 s7 wr => ∃ i : Nat, i + g = 8 ∧ s7 = .int .i64 (i : Int) ∧ Hid (Blk wr (w.heap.size + 1 + 1) 23 (b8 (wordsB (ws.take i) ++ List.replicate (32 - 4 * i) 0))) ∧ Hid (Below (w.heap.size + 1 + 1) W2 wr))
  case atStart =>
    refine ⟨0, by omega, rfl, Lib.hid ?_, Lib.hid ?_⟩
    · exact blk_new' (by simp)
    · rw [HW2.out]
      exact (Below.refl _ _).alloc (by simp) _
  case round =>
    obtain ⟨i, hg, rfl, HD, HB⟩ := hrel
    have HG := Lib.hid hg
    have hi : i ≤ 8 := by omega
    clear hg
    by_cases hlt : i < 8
    · obtain ⟨x, hx⟩ : ∃ x, ws[i]? = some x := ⟨_, List.getElem?_eq_getElem (by have := HL.out; omega)⟩
      have hxM := HW.out x (List.mem_of_getElem? hx)
      have hix := run_index_arr (P := Tryd.prog) 118 43 8 Tryd.underlying118 (fun _ => by kernel_rfl) (fun _ => by kernel_rfl) (c32 ws) .i64 (i : Int) i rfl hlt _ (c32_at hx)
      have HX := Lib.hid hx
      have hsl := run_slice_arr_l (P := Tryd.prog) 23 5 32 Tryd.underlying23 (fun _ => by kernel_rfl) (w.heap.size + 1 + 1) (4 * i) .i64 (4 * (i : Int)) (by omega) (by omega)
      have hbl : w.heap.size + 1 + 1 ≤ wr.heap.size := Nat.le_of_lt HD.out.lt
      have HN := Lib.hid (numB_four x hxM)
      clear hx
      have hwl : (wordsB (ws.take i)).length = 4 * i := by rw [wordsB_length, List.length_take]; have := HL.out; omega
      have HWL := Lib.hid hwl
      have HC1 := Lib.hid (show (numB x 4).length = Nat.min 4 (32 - 4 * i) by rw [numB_length]; exact (Nat.min_eq_left (by omega)).symm)
      have HC3 := Lib.hid (show 4 * i + (numB x 4).length ≤ (wordsB (ws.take i) ++ List.replicate (32 - 4 * i) 0).length by simp only [numB_length, List.length_append, List.length_replicate, hwl]; omega)
      clear hwl
      go_wp2_with (refine wpList_copy_b8 rfl (.tmp 13) (.tmp 25) 53 53 rfl 5 Tryd.underlying53 (by kernel_rfl) _ _ (32 - 4 * i) (32 - 4 * i) 4 4 rfl rfl (w.heap.size + 1 + 1) (4 * i) 23 _ (HD.out.alloc _) (numB x 4) HC1.out (by exact fun _ => ⟨rfl, _, rfl, cells_new _ _ _ (by rw [HN.out]) _⟩) HC3.out (w.heap.size + 1 + 1) W2 (HB.out.alloc hbl _) (Nat.le_refl _) ?_)
      intro w3 HD3 HB3
      have HE := Lib.hid (show splice (wordsB (ws.take i) ++ List.replicate (32 - 4 * i) 0) (4 * i) (numB x 4) = wordsB (ws.take (i + 1)) ++ List.replicate (32 - 4 * (i + 1)) 0 by
        have := splice_next (wordsB (ws.take i)) (numB x 4) (32 - 4 * i) (by rw [numB_length]; omega)
        rw [HWL.out, numB_length] at this
        rw [this, take_snoc HX.out, wordsB_snoc]
        congr 2)
      rw [numB_length]
      clear HD HB HN
      go_wp2_with fail
      go_light
      go_roundg (8 - (i + 1))
      case measure => have := HG.out; omega
      case rel => exact ⟨i + 1, by have := HG.out; omega, by go_num, by rw [← HE.out]; exact HD3, HB3⟩
    · have : i = 8 := by omega
      subst this
      have HD8 : Hid (Blk wr (w.heap.size + 1 + 1) 23 (b8 (wordsB ws))) := by
        have := HD.out
        rw [List.take_of_length_le (by have := HL.out; omega), show 32 - 4 * 8 = 0 from rfl, List.replicate_zero, List.append_nil] at this
        exact Lib.hid this
      have hlw : (wordsB ws).length = 32 := by rw [wordsB_length, HL.out]
      have HS := Lib.hid (show (Tryd.prog.info? 23).map (·.size) = some (b8 (wordsB ws)).size by rw [b8_size, hlw]; exact dig_info)
      have HR : Hid (Blk wr (w.heap.size + 1) 23 (b8 (List.replicate 32 0))) := by
        have h2 := HB.out
        rw [HW2.out] at h2
        exact Lib.hid (Blk.below (blk_new' (by simp)) h2 (by omega))
      have HBB : Hid (Below w.heap.size w wr) := by
        have h2 := HB.out
        rw [HW2.out] at h2
        exact Lib.hid ((((Below.refl _ w).alloc (Nat.le_refl _) _).alloc (by simp) _).trans (h2.mono (by omega)))
      have HZ := Lib.hid (show (b8 (List.replicate 32 0)).size = (b8 (wordsB ws)).size by rw [b8_size, b8_size, hlw]; rfl)
      have HO := Lib.hid (b8_one (wordsB ws))
      clear HD HB hlw
      go_wp2_with (first | refine wpList_load_row rfl 23 _ rfl (w.heap.size + 1 + 1) rfl 23 (b8 (wordsB ws)) (0, 0) _ HD8.out Tryd.underlying23 rfl HS.out ?_ | refine wpList_store_row rfl 23 (.tmp 2) _ rfl (w.heap.size + 1) (b8 (wordsB ws)) rfl rfl 23 (b8 (List.replicate 32 0)) HR.out HS.out HZ.out HO.out ?_)
      have hb := setRow_heap _ _ _ (b8 (wordsB ws)) _ _ HR.out
      have hB := below_setRow HBB.out (show w.heap.size ≤ w.heap.size + 1 by omega) (b8 (wordsB ws))
      go_light
      exact bodyPost_ret (v := .agg (b8 (wordsB ws))) (results_cell_row Tryd.results72 _ _ (w.heap.size + 1) 23 (b8 (wordsB ws)) (0, 0) _ rfl hb Tryd.underlying23 rfl HS.out) rfl ⟨rfl, hB⟩
end Otp
end Go.Proofs.YtpakdcgcgekcfaaDoor

/-
  Package sha: a state's Sum.
-/
set_option linter.unusedSimpArgs false
set_option linter.unusedVariables false
namespace Go.Proofs.YtpakdcgcgekcfaaDoor
open Go.RowKit

namespace Sha
open Otp R1
theorem field_h (cs : Array Value) (w : World) : (Instr.field 175 (.agg cs) 0).run Tryd.prog w = .ok (.agg (cs.extract 0 8)) w := by kernel_rfl
theorem cS_words (t : List Nat) : (cS t).toArray.extract 0 8 = c32 (stH t) := by
  unfold cS c32
  apply Array.ext'
  simp [stH_length]
set_option maxRecDepth 100000 in
set_option maxHeartbeats 2000000 in
theorem sum_any (t : List Nat) (w : World) (hT : STab w) (hb : ∀ x ∈ t, x < 256) (hm : t.length ≤ 900000) :
    Calls Tryd.prog 124 #[.agg (cS t).toArray] w (fun e w' => e = .returned (.agg (b8 (sumB t))) ∧ Below w.heap.size w w') := by
  obtain ⟨n, hn⟩ : ∃ n, t.length = n := ⟨_, rfl⟩
  obtain ⟨pd, hpd⟩ : ∃ p, padB n = p := ⟨_, rfl⟩
  obtain ⟨T, hTT⟩ : ∃ T, t ++ pd = T := ⟨_, rfl⟩
  obtain ⟨hs, hhs⟩ : ∃ h, stH T = h := ⟨_, rfl⟩
  have HSB := wall (show sumB t = wordsB hs by rw [← hhs, ← hTT, ← hpd, ← hn]; rfl)
  have HPL := wall (show pd.length ≤ 72 by rw [← hpd]; exact padB_le n)
  have HPB := wall (show ∀ x ∈ pd, x < 256 by rw [← hpd]; exact padB_byte n)
  have HHL := wall (show hs.length = 8 by rw [← hhs]; exact stH_length T)
  have HHW := wall (show ∀ x ∈ hs, x < 4294967296 by rw [← hhs]; exact stH_word T)
  have HEX := wall (show (cS T).toArray.extract 0 8 = c32 hs by rw [← hhs]; exact cS_words T)
  have HTB := wall hb
  have hn9 : n ≤ 900000 := by omega
  have HN := wall hn
  have HPD := wall hpd
  have HTT := wall hTT
  have HSS := wall (show (Tryd.prog.info? 175).map (·.size) = some (cS t).toArray.size by rw [List.size_toArray, cS_length]; exact st_info)
  obtain ⟨W1, hW1⟩ : ∃ W, W = (w.alloc (.cells (cS t).toArray 175)).alloc (.cells (b8 (List.replicate 32 0)) 23) := ⟨_, rfl⟩
  have K0 := wall (show Blk W1 w.heap.size 175 (cS t).toArray by rw [hW1]; exact (Blk.new w _ _).alloc _)
  have K1 := wall (show Blk W1 (w.heap.size + 1) 23 (b8 (List.replicate 32 0)) by rw [hW1]; exact blk_new' (by simp))
  have HB := wall (show Below w.heap.size w W1 by rw [hW1]; exact ((Below.refl _ w).alloc (Nat.le_refl _) _).alloc (by simp) _)
  have HT1 := wall (hT.old HB.out)
  have hcn : W1.drew.cell? ⟨w.heap.size, 72, none⟩ = some (.int .u64 (n : Int)) := by
    have := K0.out.drew.cell 72
    rw [this]
    have h := cS_num t
    rw [hn] at h
    simpa using h
  have HW1 := wall hW1
  clear hT hb hm hn hpd hTT hhs hW1
  go_enter Tryd.func124, Tryd.ntmps124
  go_upto_region 1 with fail
  change Code.wp _ _ _ _ ((w.alloc (.cells (cS t).toArray 175)).alloc (.cells (b8 (List.replicate 32 0)) 23))
  rw [← HW1.out]
  clear HW1
  have hcr := fun d os => Go.cell_regrown hcn d os
  go_wp2_with fail
  refine Rel.wp_region_rel 7 [(6, .any (Bytes pd) Bytes.grow), (7, .const (.agg (cS T).toArray)), (9, .const (.agg (b8 (wordsB hs))))] (by kernel_rfl) (by kernel_rfl) ?_
  simp only [List.take_succ_cons, List.take_zero, List.drop_succ_cons, List.drop_zero]
  refine Rel.tree_pure rfl rfl rfl (.agg (cS t).toArray) (fun W hW _ => Rel.exec_load _ _ rfl w.heap.size 0 rfl _ _ (Blk.range (hW.blk K0.out.drew)) Tryd.underlying175 rfl HSS.out) ?_
  simp only [Act.put, List.setIfInBounds_toArray, List.set_cons_zero, List.set_cons_succ]
  repeat (refine Rel.tree_quiet rfl rfl rfl (fun K hK => ?_); go_big_quiet_op; refine hK _ ?_; clear hK K)
  refine Rel.tree_rel rfl (Bytes pd) Bytes.grow rfl (fun W hW _ => ?_) (fun v6 => ?_)
  · unfold Rel.relAt; go_simp; show Calls _ _ _ _ _
    have h := pad_any n W (by omega)
    rw [HPD.out] at h
    exact bytes_call h HPB.out
  simp only [Act.put, List.setIfInBounds_toArray, List.set_cons_zero, List.set_cons_succ]
  refine Rel.tree_const rfl (.agg (cS T).toArray) rfl (fun W hW hF => ?_) ?_
  · obtain ⟨A, c, rfl, hc, hN⟩ : Bytes pd v6 W := hF 6 (by decide)
    clear hF
    unfold Rel.relAt; go_simp; show Calls _ _ _ _ _
    have hS : STab W := HT1.out.old hW.undrew
    have h := feed_any t pd A pd.length c W hS HTB.out rfl (by have := HPL.out; have := HN.out; omega) hc hN
    rw [HTT.out] at h
    exact const_call h
  simp only [Act.put, List.setIfInBounds_toArray, List.set_cons_zero, List.set_cons_succ]
  refine Rel.tree_pure rfl rfl rfl (.agg (c32 hs)) (fun W _ _ => Rel.exec_field _ _ _ rfl (.agg (cS T).toArray) _ rfl (by rw [field_h, HEX.out])) ?_
  simp only [Act.put, List.setIfInBounds_toArray, List.set_cons_zero, List.set_cons_succ]
  refine Rel.tree_const rfl (.agg (b8 (wordsB hs))) rfl (fun W hW _ => ?_) ?_
  · unfold Rel.relAt; go_simp; show Calls _ _ _ _ _
    exact const_call (digest_any hs W HHL.out HHW.out)
  simp only [Act.put, List.setIfInBounds_toArray, List.set_cons_zero, List.set_cons_succ]
  intro W hW _
  have KR := wall (hW.blk K1.out.drew)
  have HBW := wall (show Below w.heap.size w W from below_then HB.out hW.undrew (Nat.le_refl _))
  have hwl : (wordsB hs).length = 32 := by rw [wordsB_length, HHL.out]
  have HS := wall (show (Tryd.prog.info? 23).map (·.size) = some (b8 (wordsB hs)).size by rw [b8_size, hwl]; exact dig_info)
  have HZ := wall (show (b8 (List.replicate 32 0)).size = (b8 (wordsB hs)).size by rw [b8_size, b8_size, hwl]; rfl)
  have HO := wall (b8_one (wordsB hs))
  clear hwl hcr hcn hW
  go_wp2_with (refine wpList_store_row rfl 23 (.tmp 2) _ rfl (w.heap.size + 1) (b8 (wordsB hs)) rfl rfl 23 (b8 (List.replicate 32 0)) KR.out HS.out HZ.out HO.out ?_)
  have hb := setRow_heap _ _ _ (b8 (wordsB hs)) _ _ KR.out
  have hB := below_setRow HBW.out (show w.heap.size ≤ w.heap.size + 1 by omega) (b8 (wordsB hs))
  go_light
  exact bodyPost_ret (v := .agg (b8 (wordsB hs))) (results_cell_row Tryd.results124 _ _ (w.heap.size + 1) 23 (b8 (wordsB hs)) (0, 0) _ rfl hb Tryd.underlying23 rfl HS.out) rfl ⟨by rw [HSB.out], hB⟩
end Sha
end Go.Proofs.YtpakdcgcgekcfaaDoor
