/-
  Texts of this claim, joined: MacB, MacC, MacD, MacE, SlotD, SlotE, SlotF, SlotPl, SlotG, From, RelG, R1Text.
-/
import Derived.Test.YtpakdcgcgekcfaaDoorJ80e8084e
import Derived.Test.YtpakdcgcgekcfaaDoorJfa020c09
import Derived.Laws.ResultCell
import Derived.Test.YtpakdcgcgekcfaaDoorJ81216201
import Derived.StillTail
import Derived.Deep.Quiet
import Derived.Lib.QuietBelow
import Derived.BigQuiet
import Derived.Test.YtpakdcgcgekcfaaDoorProg
set_option linter.unusedVariables false
/-
  Package mac: New (keys of at most a block), Feed, Mac.Sum.
-/
set_option linter.unusedSimpArgs false
set_option linter.unusedVariables false
namespace Go.Proofs.YtpakdcgcgekcfaaDoor
open Go.RowKit

namespace Mac
open Otp R1 Sha
/-- The cells of a sum by a key. -/
def mC (a b : List Nat) : List Value := cS a ++ cS b
theorem mC_length (a b : List Nat) : (mC a b).length = 146 := by unfold mC; rw [List.length_append, cS_length, cS_length]
theorem mC_one (a b : List Nat) : ∀ v ∈ mC a b, v.oneCell' = true := fun v hv => by
  unfold mC at hv
  rcases List.mem_append.1 hv with h | h
  · exact cS_one a v h
  · exact cS_one b v h
def zM : List Value := zS ++ zS
theorem mac_info : (Tryd.prog.info? 177).map (·.size) = some 146 := by kernel_rfl
theorem mac_built (x y : List Value) (hx : x.length = 73) (hy : y.length = 73) : Tryd.prog.built 177 [(0, .agg x.toArray), (1, .agg y.toArray)] = some (x ++ y).toArray := by
  have h : Tryd.prog.built 177 [(0, .agg x.toArray), (1, .agg y.toArray)] = Instr.fill ((#[(0, 73), (73, 73)] : Array (Nat × Nat))[·]?) zM.toArray [(0, .agg x.toArray), (1, .agg y.toArray)] := by kernel_rfl
  have hz : zM.length = 146 := rfl
  rw [h, fill_part _ zM 0 x _ 0 (by rw [hx]; rfl) (by rw [hx, hz]; decide), fill_part _ _ 1 y _ 73 (by rw [hy]; rfl) (by rw [length_splice _ _ _ (by rw [hx, hz]; decide), hy, hz]; decide)]
  rw [Instr.fill, show (73 : Nat) = x.length from hx.symm, splice_two zM x y (by rw [hz, hx, hy])]
theorem run_slice_arr_all {P : Program} (t e : TypeId) (N : Nat) (ht : P.underlying t = some (.array N e)) (hs : ∀ w, (sizeOf e).run P w = .ok 1 w) (b o : Nat) (h3 : 0 < N) (w : World) :
    (Instr.sliceAt t (.pointer (some ⟨b, o, none⟩)) none none none).run P w = .ok (.slice (some ⟨b, o, none⟩) N N) w := by
  have hn : P.arrayLen t = N := by simp [Program.arrayLen, ht]
  have he : P.elem t = e := by simp [Program.elem, ht]
  have ht' : P.underlying t = some (.array (P.arrayLen t) (P.elem t)) := by rw [hn, he]; exact ht
  rw [run_sliceAt_array_all w t ⟨b, o, none⟩ ht', he, hs, hn]
  have hne : ¬ N = 0 := by omega
  simp [Result.andThen, slicedAt, hne, Go.WideShapes.add_plain]
set_option maxRecDepth 100000 in
set_option maxHeartbeats 4000000 in
theorem mnew_any (k : List Nat) (A : Option Addr) (len cap : Nat) (w : World) (hT : STab w) (hl : k.length = len) (h64 : len ≤ 64) (hz : Nats .u8 256 w w.heap.size A k) :
    Calls Tryd.prog 104 #[.slice A len cap] w (fun e w' => e = .returned (.agg (mC ((keyB k).map (· ^^^ 54)) ((keyB k).map (· ^^^ 92))).toArray) ∧ Below w.heap.size w w') := by
  obtain ⟨kb, hkb⟩ : ∃ b, keyB k = b := ⟨_, rfl⟩
  obtain ⟨p1, hp1⟩ : ∃ b, kb.map (· ^^^ 54) = b := ⟨_, rfl⟩
  obtain ⟨p2, hp2⟩ : ∃ b, kb.map (· ^^^ 92) = b := ⟨_, rfl⟩
  rw [hkb, hp1, hp2]
  have HKB := wall (show ∀ x ∈ k, x < 256 from fun x hx => by
    obtain ⟨i, hi⟩ := List.mem_iff_getElem?.1 hx
    exact (hz i x hi).1)
  have HBL := wall (show kb.length = 64 by rw [← hkb]; exact keyB_length k)
  have HBB := wall (show ∀ x ∈ kb, x < 256 by rw [← hkb]; exact keyB_byte HKB.out)
  have HP1 := wall (show p1.length = 64 by rw [← hp1, List.length_map]; exact HBL.out)
  have HP2 := wall (show p2.length = 64 by rw [← hp2, List.length_map]; exact HBL.out)
  have HPA1 := wall (fun W => pad_to kb 54 54 W rfl HBL.out HBB.out (by decide))
  have HPA2 := wall (fun W => pad_to kb 92 92 W rfl HBL.out HBB.out (by decide))
  rw [hp1] at HPA1
  rw [hp2] at HPA2
  have HCP := wall (show splice (v8 (List.replicate 64 0)) 0 (v8 k) = v8 kb by
    rw [← hkb, keyB, if_neg (by omega)]
    unfold splice
    rw [List.take_zero, List.nil_append, v8_append, v8_length, hl, Nat.zero_add, v8, v8, v8, ← List.map_drop, List.drop_replicate])
  have HKL := wall (show (v8 k).length = len by rw [v8_length]; exact hl)
  have HT := wall hT
  have HN := wall hz
  have hN0 : 0 < len → ∃ b off, A = some ⟨b, off, none⟩ := fun h => by
    obtain ⟨x, hx⟩ : ∃ x, k[0]? = some x := ⟨_, List.getElem?_eq_getElem (by omega)⟩
    obtain ⟨_, b, off, h, _⟩ := hz 0 x hx
    exact ⟨b, off, h⟩
  have HN0 := wall hN0
  have HSB := wall (show (Tryd.prog.info? 173).map (·.size) = some (b8 kb).size by rw [b8_size, HBL.out]; exact blk64_info)
  clear hkb hp1 hp2 hT hz hl hN0
  obtain ⟨W1, hW1⟩ : ∃ W, W = (w.alloc (.cells zM.toArray 177)).alloc (.cells (v8 (List.replicate 64 0)).toArray 173) := ⟨_, rfl⟩
  have K0 := wall (show Blk W1 w.heap.size 177 zM.toArray by rw [hW1]; exact (Blk.new w _ _).alloc _)
  have K1 := wall (show Blk W1 (w.heap.size + 1) 173 (v8 (List.replicate 64 0)).toArray by rw [hW1]; exact blk_new' (by simp))
  have HB := wall (show Below w.heap.size w W1 by rw [hW1]; exact ((Below.refl _ w).alloc (Nat.le_refl _) _).alloc (by simp) _)
  have HW1 := wall hW1
  clear hW1
  have hsl := run_slice_arr_all (P := Tryd.prog) 173 5 64 Tryd.underlying173 (fun _ => by kernel_rfl) (w.heap.size + 1) 0 (by decide)
  have hni : ¬ ((len : Int) > 64) := by omega
  go_enter Tryd.func104, Tryd.ntmps104
  go_upto_region 2 with fail
  change Code.wp _ _ _ _ ((w.alloc (.cells zM.toArray 177)).alloc (.cells (v8 (List.replicate 64 0)).toArray 173))
  rw [← HW1.out]
  clear HW1
  go_upto_region 6 with (refine wpList_copy_frm rfl (.tmp 12) (.tmp 13) 53 53 rfl 5 Tryd.underlying53 u8_size _ _ 64 64 len cap rfl rfl (w.heap.size + 1) 0 173 _ K1.out (v8 k) len HKL.out (Nat.min_eq_left h64).symm (fun h => ⟨rfl, by obtain ⟨b, off, hA⟩ := HN0.out h; exact ⟨⟨b, off, none⟩, hA, fun j v hv => by obtain ⟨ad, h1, h2⟩ := nats_src (HN.out.below HB.out) j v hv; rw [hA] at h1; cases h1; exact h2⟩⟩) (by rw [v8_length, List.length_replicate]; omega) (fun v hv => by obtain ⟨_, _, rfl⟩ := List.mem_map.1 hv; rfl) ?_; intro w4 hK4 hF4)
  rw [HCP.out] at hK4
  have K14 := wall (show Blk w4 (w.heap.size + 1) 173 (b8 kb) from hK4)
  have K04 := wall (K0.out.frm hF4 (by simp))
  have HB4 := wall (Below.frm HB.out hF4 (Nat.le_refl _) (by simp))
  have HT4 := wall (HT.out.old HB4.out)
  clear hK4 hF4 K0 K1 HB hsl
  refine Rel.wp_region_rel 9 [(15, .const (.agg (cS []).toArray)), (17, .any (Bytes p1) Bytes.grow), (18, .const (.agg (cS p1).toArray)), (19, .const (.agg (cS []).toArray)), (21, .any (Bytes p2) Bytes.grow), (22, .const (.agg (cS p2).toArray))] (by kernel_rfl) (by kernel_rfl) ?_
  simp only [List.take_succ_cons, List.take_zero, List.drop_succ_cons, List.drop_zero]
  refine Rel.tree_const rfl (.agg (cS []).toArray) rfl (fun W hW _ => ?_) ?_
  · unfold Rel.relAt; go_simp; show Calls _ _ _ _ _
    exact const_call (new_any W (HT4.out.old hW.undrew))
  simp only [Act.put, List.setIfInBounds_toArray, List.set_cons_zero, List.set_cons_succ]
  refine Rel.tree_pure rfl rfl rfl (.agg (b8 kb)) (fun W hW _ => Rel.exec_load _ _ rfl (w.heap.size + 1) 0 rfl _ _ (Blk.range (hW.blk K14.out.drew)) Tryd.underlying173 rfl HSB.out) ?_
  simp only [Act.put, List.setIfInBounds_toArray, List.set_cons_zero, List.set_cons_succ]
  refine Rel.tree_rel rfl (Bytes p1) Bytes.grow rfl (fun W hW _ => ?_) (fun v17 => ?_)
  · unfold Rel.relAt; go_simp; show Calls _ _ _ _ _
    exact bytes_ret (HPA1.out W)
  simp only [Act.put, List.setIfInBounds_toArray, List.set_cons_zero, List.set_cons_succ]
  refine Rel.tree_const rfl (.agg (cS p1).toArray) rfl (fun W hW hF => ?_) ?_
  · obtain ⟨A2, c, rfl, hc, hN⟩ : Bytes p1 v17 W := hF 17 (by decide)
    clear hF
    unfold Rel.relAt; go_simp; show Calls _ _ _ _ _
    exact const_call (feed_any [] p1 A2 p1.length c W (HT4.out.old hW.undrew) (by simp) rfl (by have := HP1.out; simp; omega) hc hN)
  simp only [Act.put, List.setIfInBounds_toArray, List.set_cons_zero, List.set_cons_succ]
  refine Rel.tree_const rfl (.agg (cS []).toArray) rfl (fun W hW _ => ?_) ?_
  · unfold Rel.relAt; go_simp; show Calls _ _ _ _ _
    exact const_call (new_any W (HT4.out.old hW.undrew))
  simp only [Act.put, List.setIfInBounds_toArray, List.set_cons_zero, List.set_cons_succ]
  refine Rel.tree_pure rfl rfl rfl (.agg (b8 kb)) (fun W hW _ => Rel.exec_load _ _ rfl (w.heap.size + 1) 0 rfl _ _ (Blk.range (hW.blk K14.out.drew)) Tryd.underlying173 rfl HSB.out) ?_
  simp only [Act.put, List.setIfInBounds_toArray, List.set_cons_zero, List.set_cons_succ]
  refine Rel.tree_rel rfl (Bytes p2) Bytes.grow rfl (fun W hW _ => ?_) (fun v21 => ?_)
  · unfold Rel.relAt; go_simp; show Calls _ _ _ _ _
    exact bytes_ret (HPA2.out W)
  simp only [Act.put, List.setIfInBounds_toArray, List.set_cons_zero, List.set_cons_succ]
  refine Rel.tree_const rfl (.agg (cS p2).toArray) rfl (fun W hW hF => ?_) ?_
  · obtain ⟨A2, c, rfl, hc, hN⟩ : Bytes p2 v21 W := hF 21 (by decide)
    clear hF
    unfold Rel.relAt; go_simp; show Calls _ _ _ _ _
    exact const_call (feed_any [] p2 A2 p2.length c W (HT4.out.old hW.undrew) (by simp) rfl (by have := HP2.out; simp; omega) hc hN)
  simp only [Act.put, List.setIfInBounds_toArray, List.set_cons_zero, List.set_cons_succ]
  refine Rel.tree_pure rfl rfl rfl (.agg (mC p1 p2).toArray) (fun W hW _ => Rel.exec_build _ _ rfl _ (mac_built (cS p1) (cS p2) (cS_length _) (cS_length _))) ?_
  simp only [Act.put, List.setIfInBounds_toArray, List.set_cons_zero, List.set_cons_succ]
  intro W hW _
  have KR := wall (hW.blk K04.out.drew)
  have HBW := wall (below_then HB4.out hW.undrew (Nat.le_refl _))
  have HS := wall (show (Tryd.prog.info? 177).map (·.size) = some (mC p1 p2).toArray.size by rw [List.size_toArray, mC_length]; exact mac_info)
  have HZ := wall (show zM.toArray.size = (mC p1 p2).toArray.size by rw [List.size_toArray, List.size_toArray, mC_length]; rfl)
  have HO := wall (all_oneCell_toArray (mC_one p1 p2))
  clear hW
  go_wp2_with (refine wpList_store_row rfl 177 (.tmp 2) _ rfl w.heap.size (mC p1 p2).toArray rfl rfl 177 zM.toArray KR.out HS.out HZ.out HO.out ?_)
  have hb := setRow_heap _ _ _ (mC p1 p2).toArray _ _ KR.out
  have hB := below_setRow HBW.out (Nat.le_refl _) (mC p1 p2).toArray
  go_light
  exact bodyPost_ret (v := .agg (mC p1 p2).toArray) (results_cell_row Tryd.results104 _ _ w.heap.size 177 (mC p1 p2).toArray (0, 0) _ rfl hb Tryd.underlying177 rfl HS.out) rfl ⟨rfl, hB⟩
end Mac
end Go.Proofs.YtpakdcgcgekcfaaDoor

/-
  Package mac: Feed, Sum of a sum by a key.
-/
set_option linter.unusedSimpArgs false
set_option linter.unusedVariables false
namespace Go.Proofs.YtpakdcgcgekcfaaDoor
open Go.RowKit

namespace Mac
open Otp R1 Sha
def MFeedOut (w : World) (a b : List Nat) (e : Ending) (w' : World) : Prop := e = .returned (.agg (mC a b).toArray) ∧ Below w.heap.size w w'
set_option maxRecDepth 100000 in
set_option maxHeartbeats 4000000 in
theorem mfeed_any (a b p : List Nat) (A : Option Addr) (len cap : Nat) (w : World) (hT : STab w) (ha : ∀ x ∈ a, x < 256) (hpl : p.length = len) (hm : a.length + p.length ≤ 1000000) (hc : len ≤ cap) (hz : Nats .u8 256 w w.heap.size A p) :
    Calls Tryd.prog 105 #[.agg (mC a b).toArray, .slice A len cap] w (MFeedOut w (a ++ p) b) := by
  obtain ⟨W1, hW1⟩ : ∃ W, W = (w.alloc (.cells (mC a b).toArray 177)).alloc (.cells zM.toArray 177) := ⟨_, rfl⟩
  have K0 := wall (show Blk W1 w.heap.size 177 (mC a b).toArray by rw [hW1]; exact (Blk.new w _ _).alloc _)
  have K1 := wall (show Blk W1 (w.heap.size + 1) 177 zM.toArray by rw [hW1]; exact blk_new' (by simp))
  have HB := wall (show Below w.heap.size w W1 by rw [hW1]; exact ((Below.refl _ w).alloc (Nat.le_refl _) _).alloc (by simp) _)
  have HW1 := wall hW1
  have HF := wall (feed_any a p A len cap W1 (hT.old HB.out) ha hpl hm hc ((hz.below HB.out).more HB.out.size))
  have HR := wall (show W1.rangeAt w.heap.size 0 (cS a).toArray.toList from K0.out.rangeAt 0 _ (fun j v hv => by
    rw [Nat.zero_add, mC, List.getElem?_append_left (List.getElem?_eq_some_iff.1 hv).1]
    exact hv))
  have HS1 := wall (show (Tryd.prog.info? 175).map (·.size) = some (cS a).toArray.size by rw [List.size_toArray, cS_length]; exact st_info)
  have HS2 := wall (show (Tryd.prog.info? 175).map (·.size) = some (cS (a ++ p)).toArray.size by rw [List.size_toArray, cS_length]; exact st_info)
  have HFT := wall (show 0 + (cS (a ++ p)).toArray.size ≤ (mC a b).length by rw [List.size_toArray, cS_length, mC_length]; decide)
  have HSP := wall (show splice (mC a b) 0 (cS (a ++ p)).toArray.toList = mC (a ++ p) b by
    unfold splice mC
    rw [List.take_zero, List.nil_append, List.toList_toArray, List.drop_append, List.drop_of_length_le (by rw [cS_length, cS_length]; decide), List.nil_append, cS_length, cS_length, show 0 + 73 - 73 = 0 from rfl, List.drop_zero])
  clear hW1 hT hz hm ha
  go_enter Tryd.func105, Tryd.ntmps105
  go_upto_region 1 with fail
  change Code.wp _ _ _ _ ((w.alloc (.cells (mC a b).toArray 177)).alloc (.cells zM.toArray 177))
  rw [← HW1.out]
  clear HW1
  go_wp2_with (refine wpList_load_arr rfl 175 (.tmp 5) rfl w.heap.size 0 rfl (cS a).toArray _ HR.out Tryd.underlying175 rfl HS1.out ?_)
  (with_reducible refine HF.out.mono ?_); rintro e w6 ⟨rfl, hB6⟩
  have K6 := wall (K0.out.next hB6 rfl)
  have K16 := wall (K1.out.next hB6 rfl)
  have HB6 := wall (below_then HB.out hB6 (Nat.le_refl _))
  clear hB6 K0 K1 HB HF HR
  go_upto_region 2 with (refine wpList_store_frm rfl 175 (.tmp 9) (.tmp 8) rfl w.heap.size 0 (cS (a ++ p)).toArray rfl rfl 177 (mC a b) K6.out HFT.out HS2.out (all_oneCell_toArray (cS_one _)) ?_; intro w7 K7 F7)
  rw [HSP.out] at K7
  have K07 := wall K7
  have K17 := wall (K16.out.frm F7 (by simp))
  have HB7 := wall (Below.frm HB6.out F7 (Nat.le_refl _) (by simp))
  clear K7 F7 K6 K16 HB6
  have HS := wall (show (Tryd.prog.info? 177).map (·.size) = some (mC (a ++ p) b).toArray.size by rw [List.size_toArray, mC_length]; exact mac_info)
  have HZ := wall (show zM.toArray.size = (mC (a ++ p) b).toArray.size by rw [List.size_toArray, List.size_toArray, mC_length]; rfl)
  have HO := wall (all_oneCell_toArray (mC_one (a ++ p) b))
  go_wp2_with (first | refine wpList_load_row rfl 177 _ rfl w.heap.size rfl 177 (mC (a ++ p) b).toArray (0, 0) _ K07.out Tryd.underlying177 rfl HS.out ?_ | refine wpList_store_row rfl 177 (.tmp 4) _ rfl (w.heap.size + 1) (mC (a ++ p) b).toArray rfl rfl 177 zM.toArray K17.out HS.out HZ.out HO.out ?_)
  have hb := setRow_heap _ _ _ (mC (a ++ p) b).toArray _ _ K17.out
  have hB := below_setRow HB7.out (show w.heap.size ≤ w.heap.size + 1 by omega) (mC (a ++ p) b).toArray
  go_light
  exact bodyPost_ret (v := .agg (mC (a ++ p) b).toArray) (results_cell_row Tryd.results105 _ _ (w.heap.size + 1) 177 (mC (a ++ p) b).toArray (0, 0) _ rfl hb Tryd.underlying177 rfl HS.out) rfl ⟨rfl, hB⟩
set_option maxRecDepth 100000 in
set_option maxHeartbeats 4000000 in
theorem msum_any (a b : List Nat) (w : World) (hT : STab w) (ha : ∀ x ∈ a, x < 256) (hb : ∀ x ∈ b, x < 256) (hma : a.length ≤ 900000) (hmb : b.length ≤ 800000) :
    Calls Tryd.prog 107 #[.agg (mC a b).toArray] w (fun e w' => e = .returned (.agg (b8 (sumB (b ++ sumB a)))) ∧ Below w.heap.size w w') := by
  obtain ⟨d, hd⟩ : ∃ d, sumB a = d := ⟨_, rfl⟩
  obtain ⟨r, hr⟩ : ∃ x, sumB (b ++ d) = x := ⟨_, rfl⟩
  obtain ⟨W1, hW1⟩ : ∃ W, W = (w.alloc (.cells (mC a b).toArray 177)).alloc (.cells (b8 (List.replicate 32 0)) 23) := ⟨_, rfl⟩
  have K0 := wall (show Blk W1 w.heap.size 177 (mC a b).toArray by rw [hW1]; exact (Blk.new w _ _).alloc _)
  have K1 := wall (show Blk W1 (w.heap.size + 1) 23 (b8 (List.replicate 32 0)) by rw [hW1]; exact blk_new' (by simp))
  have HB := wall (show Below w.heap.size w W1 by rw [hW1]; exact ((Below.refl _ w).alloc (Nat.le_refl _) _).alloc (by simp) _)
  have HW1 := wall hW1
  have HF := wall (sum_any a W1 (hT.old HB.out) ha hma)
  rw [hd] at HF
  have HDL := wall (show d.length = 32 by rw [← hd]; exact sumB_length _)
  have HDB := wall (show ∀ x ∈ d, x < 256 by rw [← hd]; exact sumB_byte _)
  have HRE := wall (show sumB (b ++ sumB a) = r by rw [hd]; exact hr)
  have HRL := wall (show r.length = 32 by rw [← hr]; exact sumB_length _)
  have HR0 := wall (show W1.rangeAt w.heap.size 0 (cS a).toArray.toList from K0.out.rangeAt 0 _ (fun j v hv => by
    rw [Nat.zero_add, mC, List.getElem?_append_left (List.getElem?_eq_some_iff.1 hv).1]
    exact hv))
  have HS1 := wall (show (Tryd.prog.info? 175).map (·.size) = some (cS a).toArray.size by rw [List.size_toArray, cS_length]; exact st_info)
  have HS2 := wall (show (Tryd.prog.info? 175).map (·.size) = some (cS b).toArray.size by rw [List.size_toArray, cS_length]; exact st_info)
  have HSD := wall (show (Tryd.prog.info? 23).map (·.size) = some (b8 d).size by rw [b8_size, HDL.out]; exact dig_info)
  have HSR := wall (show (Tryd.prog.info? 23).map (·.size) = some (b8 r).size by rw [b8_size, HRL.out]; exact dig_info)
  have HZD := wall (show (b8 (List.replicate 32 0)).size = (b8 d).size by rw [b8_size, b8_size, HDL.out]; rfl)
  have HZR := wall (show (b8 (List.replicate 32 0)).size = (b8 r).size by rw [b8_size, b8_size, HRL.out]; rfl)
  have HTB := wall (show ∀ x ∈ b ++ d, x < 256 from fun x hx => by
    rcases List.mem_append.1 hx with h | h
    · exact hb x h
    · exact HDB.out x h)
  have HT := wall hT
  have HBB := wall hb
  have HRR := wall hr
  clear hW1 hT ha hb hma hd hr
  go_enter Tryd.func107, Tryd.ntmps107
  go_upto_region 1 with fail
  change Code.wp _ _ _ _ ((w.alloc (.cells (mC a b).toArray 177)).alloc (.cells (b8 (List.replicate 32 0)) 23))
  rw [← HW1.out]
  clear HW1
  go_wp2_with (refine wpList_load_arr rfl 175 (.tmp 4) rfl w.heap.size 0 rfl (cS a).toArray _ HR0.out Tryd.underlying175 rfl HS1.out ?_)
  (with_reducible refine HF.out.mono ?_); rintro e w6 ⟨rfl, hB6⟩
  have K6 := wall (K0.out.next hB6 rfl)
  have K16 := wall (K1.out.next hB6 rfl)
  have HB6 := wall (below_then HB.out hB6 (Nat.le_refl _))
  clear hB6 K0 K1 HB HF HR0
  go_upto_region 2 with (refine wpList_new_row rfl 23 (.tmp 3) (.tmp 6) rfl w6.heap.size (b8 d) rfl rfl 23 (b8 (List.replicate 32 0)) (Blk.new _ _ _) HSD.out HZD.out (b8_one _) w6.heap.size w6 ((Below.refl _ w6).alloc (Nat.le_refl _) _) (Nat.le_refl _) ?_; intro w7 KD hB7)
  have hw6 : w.heap.size + 1 < w6.heap.size := K16.out.lt
  have KD := wall (show Blk w7 w6.heap.size 23 (b8 d) from KD.out)
  have K7 := wall (K6.out.next hB7 rfl)
  have K17 := wall (K16.out.next hB7 rfl)
  have HB7 := wall (below_then HB6.out hB7 (Nat.le_refl _))
  have HT7 := wall (HT.out.old HB7.out)
  clear hB7 K6 K16 HB6
  generalize w6.heap.size = gD at *
  have hsl := run_slice_arr_all (P := Tryd.prog) 23 5 32 Tryd.underlying23 (fun _ => by kernel_rfl) gD 0 (by decide)
  go_wp2_with fail
  refine Rel.wp_region_rel 5 [(10, .const (.agg (cS (b ++ d)).toArray)), (11, .const (.agg (b8 r)))] (by kernel_rfl) (by kernel_rfl) ?_
  simp only [List.take_succ_cons, List.take_zero, List.drop_succ_cons, List.drop_zero, Act.put, List.setIfInBounds_toArray, List.set_cons_zero, List.set_cons_succ]
  (refine Rel.tree_quiet rfl rfl rfl (fun K hK => ?_); go_big_quiet_op; refine hK _ ?_; clear hK K)
  refine Rel.tree_pure rfl rfl rfl (.agg (cS b).toArray) (fun W hW _ => Rel.exec_load _ _ rfl w.heap.size 73 rfl _ _ ((hW.blk K7.out.drew).rangeAt 73 _ (fun j v hv => by
    rw [mC, List.getElem?_append_right (by rw [cS_length]; omega), cS_length, show 73 + j - 73 = j by omega]
    exact hv)) Tryd.underlying175 rfl HS2.out) ?_
  simp only [Act.put, List.setIfInBounds_toArray, List.set_cons_zero, List.set_cons_succ]
  (refine Rel.tree_quiet rfl rfl rfl (fun K hK => ?_); go_big_quiet_op; refine hK _ ?_; clear hK K)
  refine Rel.tree_const rfl (.agg (cS (b ++ d)).toArray) rfl (fun W hW _ => ?_) ?_
  · unfold Rel.relAt; go_simp; show Calls _ _ _ _ _
    exact const_call (feed_any b d _ 32 32 W (HT7.out.old hW.undrew) HBB.out HDL.out (by have := HDL.out; omega) (Nat.le_refl _) (nats_b8 (hW.blk KD.out.drew) HDB.out))
  simp only [Act.put, List.setIfInBounds_toArray, List.set_cons_zero, List.set_cons_succ]
  refine Rel.tree_const rfl (.agg (b8 r)) rfl (fun W hW _ => ?_) ?_
  · unfold Rel.relAt; go_simp; show Calls _ _ _ _ _
    have h := sum_any (b ++ d) W (HT7.out.old hW.undrew) HTB.out (by rw [List.length_append, HDL.out]; omega)
    rw [HRR.out] at h
    exact const_call h
  simp only [Act.put, List.setIfInBounds_toArray, List.set_cons_zero, List.set_cons_succ]
  intro W hW _
  have KR := wall (hW.blk K17.out.drew)
  have HBW := wall (below_then HB7.out hW.undrew (Nat.le_refl _))
  clear hW hsl
  go_wp2_with (refine wpList_store_row rfl 23 (.tmp 2) _ rfl (w.heap.size + 1) (b8 r) rfl rfl 23 (b8 (List.replicate 32 0)) KR.out HSR.out HZR.out (b8_one _) ?_)
  have hb := setRow_heap _ _ _ (b8 r) _ _ KR.out
  have hB := below_setRow HBW.out (show w.heap.size ≤ w.heap.size + 1 by omega) (b8 r)
  go_light
  exact bodyPost_ret (v := .agg (b8 r)) (results_cell_row Tryd.results107 _ _ (w.heap.size + 1) 23 (b8 r) (0, 0) _ rfl hb Tryd.underlying23 rfl HSR.out) rfl ⟨by rw [HRE.out], hB⟩
end Mac
end Go.Proofs.YtpakdcgcgekcfaaDoor

/-
  Package mac: Sum and Derive (keys of at most a block).
-/
set_option linter.unusedSimpArgs false
set_option linter.unusedVariables false
namespace Go.Proofs.YtpakdcgcgekcfaaDoor
open Go.RowKit

namespace Mac
open Otp R1 Sha
def ipad (k : List Nat) : List Nat := (keyB k).map (· ^^^ 54)
def opad (k : List Nat) : List Nat := (keyB k).map (· ^^^ 92)
theorem ipad_length (k : List Nat) : (ipad k).length = 64 := by unfold ipad; rw [List.length_map]; exact keyB_length k
theorem opad_length (k : List Nat) : (opad k).length = 64 := by unfold opad; rw [List.length_map]; exact keyB_length k
theorem macB_pads (k p : List Nat) : macB k p = sumB (opad k ++ sumB (ipad k ++ p)) := rfl
theorem flatten_take_snoc {ps : List (List Nat)} {i : Nat} {p : List Nat} (h : ps[i]? = some p) : (ps.take (i + 1)).flatten = (ps.take i).flatten ++ p := by rw [take_snoc h]; simp
theorem flatten_take_le : ∀ (ps : List (List Nat)) (i : Nat), (ps.take i).flatten.length ≤ ps.flatten.length
  | [], i => by simp
  | p :: ps, 0 => by simp
  | p :: ps, i + 1 => by have := flatten_take_le ps i; simp only [List.take_succ_cons, List.flatten_cons, List.length_append]; omega
theorem mem_flatten_le {ps : List (List Nat)} {i : Nat} {p : List Nat} (h : ps[i]? = some p) : (ps.take i).flatten.length + p.length ≤ ps.flatten.length := by
  have h1 := flatten_take_le ps (i + 1)
  rw [flatten_take_snoc h, List.length_append] at h1
  exact h1
def DigOut (w : World) (d : List Nat) (e : Ending) (w' : World) : Prop := e = .returned (.agg (b8 d)) ∧ Below w.heap.size w w'
theorem bytesN_byte {w : World} {B : Nat} {p : List Nat} {v : Value} (h : BytesN w B p v) : ∀ x ∈ p, x < 256 := fun x hx => by
  obtain ⟨A, c, _, _, _, hN⟩ := h
  obtain ⟨i, hi⟩ := List.mem_iff_getElem?.1 hx
  exact (hN i x hi).1
theorem parts_byte {w : World} {B : Nat} {A : Option Addr} {ps : List (List Nat)} (h : Parts w B A ps) : ∀ x ∈ ps.flatten, x < 256 := fun x hx => by
  obtain ⟨p, hp, hx⟩ := List.mem_flatten.1 hx
  obtain ⟨i, hi⟩ := List.mem_iff_getElem?.1 hp
  obtain ⟨_, _, _, _, _, _, h4⟩ := h i p hi
  exact bytesN_byte h4 x hx
set_option maxRecDepth 100000 in
set_option maxHeartbeats 4000000 in
theorem macsum_any (k : List Nat) (A : Option Addr) (len cap : Nat) (ps : List (List Nat)) (PA : Option Addr) (pn pc : Nat) (w : World) (hT : STab w) (hl : k.length = len) (h64 : len ≤ 64) (hz : Nats .u8 256 w w.heap.size A k) (hkb : ∀ x ∈ k, x < 256)
    (hpn : ps.length = pn) (hpm : pn ≤ 1000000) (hP : Parts w w.heap.size PA ps) (hm : ps.flatten.length ≤ 500000) :
    Calls Tryd.prog 85 #[.slice A len cap, .slice PA pn pc] w (DigOut w (macB k ps.flatten)) := by
  subst hpn
  have HNEW := wall (fun W (h1 : STab W) (h2 : Nats .u8 256 W W.heap.size A k) => mnew_any k A len cap W h1 hl h64 h2)
  obtain ⟨ip, hip⟩ : ∃ x, ipad k = x := ⟨_, rfl⟩
  obtain ⟨op, hop⟩ : ∃ x, opad k = x := ⟨_, rfl⟩
  obtain ⟨r, hr⟩ : ∃ x, macB k ps.flatten = x := ⟨_, rfl⟩
  rw [hr]
  change Wall (∀ W, STab W → Nats .u8 256 W W.heap.size A k → Calls Tryd.prog 104 #[.slice A len cap] W (fun e w' => e = .returned (.agg (mC (ipad k) (opad k)).toArray) ∧ Below W.heap.size W w')) at HNEW
  rw [hip, hop] at HNEW
  have HIL := wall (show ip.length = 64 by rw [← hip]; exact ipad_length k)
  have HOL := wall (show op.length = 64 by rw [← hop]; exact opad_length k)
  have HIB := wall (show ∀ x ∈ ip, x < 256 by rw [← hip]; exact turn_byte (by decide) (keyB_byte hkb))
  have HOB := wall (show ∀ x ∈ op, x < 256 by rw [← hop]; exact turn_byte (by decide) (keyB_byte hkb))
  have HR := wall (show sumB (op ++ sumB (ip ++ ps.flatten)) = r by rw [← hr, macB_pads, hip, hop])
  have HRL := wall (show r.length = 32 by rw [← hr]; exact macB_length _ _)
  have HT := wall hT
  have HN := wall hz
  have HP := wall hP
  have HM := wall hm
  have HPB := wall (parts_byte hP)
  have HSM := fun x y => wall (show (Tryd.prog.info? 177).map (·.size) = some (mC x y).toArray.size by rw [List.size_toArray, mC_length]; exact mac_info)
  clear hT hz hP hm hip hop hr hkb
  obtain ⟨W1, hW1⟩ : ∃ W, W = w.alloc (.cells (b8 (List.replicate 32 0)) 23) := ⟨_, rfl⟩
  have K0 := wall (show Blk W1 w.heap.size 23 (b8 (List.replicate 32 0)) by rw [hW1]; exact Blk.new _ _ _)
  have HB := wall (show Below w.heap.size w W1 by rw [hW1]; exact (Below.refl _ w).alloc (Nat.le_refl _) _)
  have HW1 := wall hW1
  clear hW1
  go_enter Tryd.func85, Tryd.ntmps85
  go_upto_region 1 with fail
  change Code.wp _ _ _ _ (w.alloc (.cells (b8 (List.replicate 32 0)) 23))
  rw [← HW1.out]
  clear HW1
  go_wp2_with fail
  (with_reducible refine (HNEW.out _ (HT.out.old HB.out) ((HN.out.below HB.out).more HB.out.size)).mono ?_); rintro e w2 ⟨rfl, hB2⟩
  have K2 := wall (K0.out.next hB2 rfl)
  have HB2 := wall (below_then HB.out hB2 (Nat.le_refl _))
  clear hB2 K0 HB HNEW HN
  have HZM := wall (show zM.toArray.size = (mC ip op).toArray.size by rw [List.size_toArray, List.size_toArray, mC_length]; rfl)
  go_upto_region 2 with (refine wpList_new_row rfl 177 (.tmp 5) (.tmp 9) rfl w2.heap.size (mC ip op).toArray rfl rfl 177 zM.toArray (Blk.new _ _ _) (HSM ip op).out HZM.out (all_oneCell_toArray (mC_one ip op)) w2.heap.size w2 ((Below.refl _ w2).alloc (Nat.le_refl _) _) (Nat.le_refl _) ?_; intro w3 KM hB3)
  have hw2 : w.heap.size < w2.heap.size := K2.out.lt
  have KM := wall (show Blk w3 w2.heap.size 177 (mC (ip ++ (ps.take 0).flatten) op).toArray by rw [List.take_zero, List.flatten_nil, List.append_nil]; exact KM.out)
  have K3 := wall (K2.out.next hB3 rfl)
  have HB3 := wall (below_then HB2.out hB3 (Nat.le_refl _))
  clear hB3 K2 HB2
  generalize w2.heap.size = g at *
  go_wp2_with fail
  go_loopg [12] ps.length (fun gm s12 wr => ∃ i : Nat, i + gm = ps.length ∧ s12 = .int .i64 (i : Int) ∧ Wall (Blk wr w.heap.size 23 (b8 (List.replicate 32 0))) ∧ Wall (Blk wr g 177 (mC (ip ++ (ps.take i).flatten) op).toArray) ∧ Wall (Below w.heap.size w wr))
  case atStart => exact ⟨0, by omega, rfl, K3, KM, HB3⟩
  case round =>
    clear K3 KM HB3
    obtain ⟨i, hg, rfl, K3, KM, HB⟩ := hrel
    have HG := wall hg
    have hi : i ≤ ps.length := by omega
    clear hg
    by_cases hlt : i < ps.length
    · obtain ⟨p, hp⟩ : ∃ p, ps[i]? = some p := ⟨_, List.getElem?_eq_getElem hlt⟩
      obtain ⟨J, off, v, rfl, hJ, hcv, hBN⟩ := (HP.out.below HB.out) i p hp
      obtain ⟨Ap, cp, rfl, hcp, hnil, hN⟩ := hBN
      have HNP := wall hN
      have HFL := wall (flatten_take_snoc hp)
      have hsz := mem_flatten_le hp
      obtain ⟨cur, hcur⟩ : ∃ c, (ps.take i).flatten = c := ⟨_, rfl⟩
      rw [hcur] at KM HFL hsz
      have HCB := wall (show ∀ x ∈ ip ++ cur, x < 256 from fun x hx => by
        rcases List.mem_append.1 hx with h | h
        · exact HIB.out x h
        · rw [← hcur] at h
          obtain ⟨q, hq, hx⟩ := List.mem_flatten.1 h
          exact HPB.out x (List.mem_flatten.2 ⟨q, List.mem_of_mem_take hq, hx⟩))
      have HFE := wall (mfeed_any (ip ++ cur) op p Ap p.length cp wr (HT.out.old HB.out) HCB.out rfl (by rw [List.length_append, HIL.out]; have := HM.out; omega) hcp (HNP.out.more HB.out.size))
      obtain ⟨c2, hc2⟩ : ∃ c, ip ++ cur ++ p = c := ⟨_, rfl⟩
      rw [hc2] at HFE
      obtain ⟨c1, hc1⟩ : ∃ c, ip ++ cur = c := ⟨_, rfl⟩
      rw [hc1] at HFE KM
      have HC2 := wall (show ip ++ (ps.take (i + 1)).flatten = c2 by rw [HFL.out, ← List.append_assoc]; exact hc2)
      have HZ := wall (show (mC c1 op).toArray.size = (mC c2 op).toArray.size by rw [List.size_toArray, List.size_toArray, mC_length, mC_length])
      clear hp hnil hN hcur hsz hc1 hc2 HCB
      go_wp2_with (refine wpList_load_row rfl 177 _ rfl g rfl 177 (mC c1 op).toArray (0, 0) _ KM.out Tryd.underlying177 rfl (HSM _ _).out ?_)
      (with_reducible refine HFE.out.mono ?_); rintro e w5 ⟨rfl, hB5⟩
      have K5 := wall (K3.out.next hB5 rfl)
      have KM5 := wall (KM.out.next hB5 rfl)
      have HB5 := wall (below_then HB.out hB5 (Nat.le_refl _))
      clear hB5 K3 KM HB HFE
      go_wp2_with (refine wpList_store_row rfl 177 (.tmp 5) _ rfl g (mC c2 op).toArray rfl rfl 177 (mC c1 op).toArray KM5.out (HSM _ _).out HZ.out (all_oneCell_toArray (mC_one _ _)) ?_)
      go_light
      go_roundg (ps.length - (i + 1))
      case measure => have := HG.out; omega
      case rel =>
        refine ⟨i + 1, by omega, by go_num, wall ?_, wall ?_, wall ?_⟩
        · exact K5.out.frm (frm_setRow (g := g) w5 _) (by simp; omega)
        · rw [HC2.out]; exact setRow_heap _ _ _ _ _ _ KM5.out
        · exact below_setRow HB5.out (by omega) _
    · have hil : i = ps.length := by omega
      subst hil
      have hni : ¬ (((ps.length : Nat) : Int) < ((ps.length : Nat) : Int)) := by omega
      rw [List.take_length] at KM
      have HTB := wall (show ∀ x ∈ ip ++ ps.flatten, x < 256 from fun x hx => by
        rcases List.mem_append.1 hx with h | h
        · exact HIB.out x h
        · exact HPB.out x h)
      have HSU := wall (msum_any (ip ++ ps.flatten) op wr (HT.out.old HB.out) HTB.out HOB.out (by rw [List.length_append, HIL.out]; have := HM.out; omega) (by rw [HOL.out]; decide))
      rw [HR.out] at HSU
      have HS := wall (show (Tryd.prog.info? 23).map (·.size) = some (b8 r).size by rw [b8_size, HRL.out]; exact dig_info)
      have HZ := wall (show (b8 (List.replicate 32 0)).size = (b8 r).size by rw [b8_size, b8_size, HRL.out]; rfl)
      clear hlt
      go_wp2_with (refine wpList_load_row rfl 177 _ rfl g rfl 177 (mC (ip ++ ps.flatten) op).toArray (0, 0) _ KM.out Tryd.underlying177 rfl (HSM _ _).out ?_)
      (with_reducible refine HSU.out.mono ?_); rintro e w5 ⟨rfl, hB5⟩
      have K5 := wall (K3.out.next hB5 rfl)
      have HB5 := wall (below_then HB.out hB5 (Nat.le_refl _))
      clear hB5 K3 KM HB HSU
      go_wp2_with (refine wpList_store_row rfl 23 (.tmp 4) _ rfl w.heap.size (b8 r) rfl rfl 23 (b8 (List.replicate 32 0)) K5.out HS.out HZ.out (b8_one _) ?_)
      have hb := setRow_heap _ _ _ (b8 r) _ _ K5.out
      have hB := below_setRow HB5.out (Nat.le_refl _) (b8 r)
      go_light
      exact bodyPost_ret (v := .agg (b8 r)) (results_cell_row Tryd.results85 _ _ w.heap.size 23 (b8 r) (0, 0) _ rfl hb Tryd.underlying23 rfl HS.out) rfl ⟨rfl, hB⟩
end Mac
end Go.Proofs.YtpakdcgcgekcfaaDoor

/-
  Package mac: Derive (keys of at most a block).
-/
set_option linter.unusedSimpArgs false
set_option linter.unusedVariables false
namespace Go.Proofs.YtpakdcgcgekcfaaDoor
open Go.RowKit

namespace Mac
open Otp R1 Sha
theorem partsB_snoc (ps : List (List Nat)) (p : List Nat) : partsB (ps ++ [p]) = partsB ps ++ numB p.length 4 ++ p := by simp [partsB]
theorem partsB_take {ps : List (List Nat)} {i : Nat} {p : List Nat} (h : ps[i]? = some p) : partsB (ps.take (i + 1)) = partsB (ps.take i) ++ numB p.length 4 ++ p := by rw [take_snoc h, partsB_snoc]
theorem partsB_length : ∀ ps : List (List Nat), (partsB ps).length = 4 * ps.length + ps.flatten.length
  | [] => rfl
  | p :: ps => by
    have := partsB_length ps
    simp only [partsB, List.flatMap_cons, List.length_append, numB_length, List.length_cons, List.flatten_cons] at this ⊢
    omega
theorem partsB_byte {ps : List (List Nat)} (h : ∀ x ∈ ps.flatten, x < 256) : ∀ x ∈ partsB ps, x < 256 := fun x hx => by
  obtain ⟨p, hp, hx⟩ := List.mem_flatMap.1 hx
  rcases List.mem_append.1 hx with h1 | h1
  · exact numB_byte _ 4 x h1
  · exact h x (List.mem_flatten.2 ⟨p, hp, h1⟩)
theorem sub_byte {a b : List Nat} (ha : ∀ x ∈ a, x < 256) (hb : ∀ x ∈ b, x < 256) : ∀ x ∈ a ++ b, x < 256 := fun x hx => by
  rcases List.mem_append.1 hx with h | h
  · exact ha x h
  · exact hb x h
set_option maxRecDepth 100000 in
set_option maxHeartbeats 8000000 in
theorem mderive_any (k : List Nat) (A : Option Addr) (len cap : Nat) (s : ByteArray) (ps : List (List Nat)) (PA : Option Addr) (pn pc : Nat) (w : World) (hT : STab w) (hl : k.length = len) (h64 : len ≤ 64) (hz : Nats .u8 256 w w.heap.size A k) (hkb : ∀ x ∈ k, x < 256)
    (hs : s.size ≤ 100000) (hpn : ps.length = pn) (hpm : pn ≤ 1000) (hP : Parts w w.heap.size PA ps) (hm : ps.flatten.length ≤ 100000) :
    Calls Tryd.prog 83 #[.slice A len cap, .string s, .slice PA pn pc] w (DigOut w (deriveB k (sB s) ps)) := by
  subst hpn
  have HNEW := wall (fun W (h1 : STab W) (h2 : Nats .u8 256 W W.heap.size A k) => mnew_any k A len cap W h1 hl h64 h2)
  obtain ⟨ip, hip⟩ : ∃ x, ipad k = x := ⟨_, rfl⟩
  obtain ⟨op, hop⟩ : ∃ x, opad k = x := ⟨_, rfl⟩
  obtain ⟨r, hr⟩ : ∃ x, deriveB k (sB s) ps = x := ⟨_, rfl⟩
  obtain ⟨lb, hlb⟩ : ∃ x, sB s = x := ⟨_, rfl⟩
  obtain ⟨n1, hn1⟩ : ∃ x, numB s.size 4 = x := ⟨_, rfl⟩
  obtain ⟨n2, hn2⟩ : ∃ x, numB ps.length 4 = x := ⟨_, rfl⟩
  obtain ⟨c1, hc1⟩ : ∃ x, ip ++ n1 = x := ⟨_, rfl⟩
  obtain ⟨c2, hc2⟩ : ∃ x, c1 ++ lb = x := ⟨_, rfl⟩
  obtain ⟨c3, hc3⟩ : ∃ x, c2 ++ n2 = x := ⟨_, rfl⟩
  rw [hr]
  change Wall (∀ W, STab W → Nats .u8 256 W W.heap.size A k → Calls Tryd.prog 104 #[.slice A len cap] W (fun e w' => e = .returned (.agg (mC (ipad k) (opad k)).toArray) ∧ Below W.heap.size W w')) at HNEW
  rw [hip, hop] at HNEW
  have HIL := wall (show ip.length = 64 by rw [← hip]; exact ipad_length k)
  have HOL := wall (show op.length = 64 by rw [← hop]; exact opad_length k)
  have HIB := wall (show ∀ x ∈ ip, x < 256 by rw [← hip]; exact turn_byte (by decide) (keyB_byte hkb))
  have HOB := wall (show ∀ x ∈ op, x < 256 by rw [← hop]; exact turn_byte (by decide) (keyB_byte hkb))
  have HN1L := wall (show n1.length = 4 by rw [← hn1]; exact numB_length _ _)
  have HN2L := wall (show n2.length = 4 by rw [← hn2]; exact numB_length _ _)
  have HN1B := wall (show ∀ x ∈ n1, x < 256 by rw [← hn1]; exact numB_byte _ _)
  have HN2B := wall (show ∀ x ∈ n2, x < 256 by rw [← hn2]; exact numB_byte _ _)
  have HLL := wall (show lb.length = s.size by rw [← hlb]; exact sB_length s)
  have HLB := wall (show ∀ x ∈ lb, x < 256 by rw [← hlb]; exact sB_byte s)
  have HC1L := wall (show c1.length = 68 by rw [← hc1, List.length_append, HIL.out, HN1L.out])
  have HC2L := wall (show c2.length = 68 + s.size by rw [← hc2, List.length_append, HC1L.out, HLL.out])
  have HC3L := wall (show c3.length = 72 + s.size by rw [← hc3, List.length_append, HC2L.out, HN2L.out]; omega)
  have HC1B := wall (show ∀ x ∈ c1, x < 256 by rw [← hc1]; exact sub_byte HIB.out HN1B.out)
  have HC2B := wall (show ∀ x ∈ c2, x < 256 by rw [← hc2]; exact sub_byte HC1B.out HLB.out)
  have HC3B := wall (show ∀ x ∈ c3, x < 256 by rw [← hc3]; exact sub_byte HC2B.out HN2B.out)
  have HR := wall (show sumB (op ++ sumB (c3 ++ partsB ps)) = r by
    rw [← hr, deriveB, macB_pads, hip, hop, hlb, hn2, ← hc3, ← hc2, ← hc1, show numB lb.length 4 = n1 by rw [HLL.out]; exact hn1]
    simp only [List.append_assoc])
  have HRL := wall (show r.length = 32 by rw [← hr]; exact deriveB_length _ _ _)
  have HNU1 := wall (fun W => num4_any (s.size : Int) s.size W rfl (by omega))
  have HNU2 := wall (fun W => num4_any (ps.length : Int) ps.length W rfl (by omega))
  rw [hn1] at HNU1
  rw [hn2] at HNU2
  have HT := wall hT
  have HN := wall hz
  have HP := wall hP
  have HM := wall hm
  have HPB := wall (parts_byte hP)
  have HSM := fun x y => wall (show (Tryd.prog.info? 177).map (·.size) = some (mC x y).toArray.size by rw [List.size_toArray, mC_length]; exact mac_info)
  have HLBE := wall hlb
  have HC1 := wall hc1
  have HC2 := wall hc2
  have HC3 := wall hc3
  clear hT hz hP hm hip hop hr hkb hlb hn1 hn2 hc1 hc2 hc3
  obtain ⟨W1, hW1⟩ : ∃ W, W = w.alloc (.cells (b8 (List.replicate 32 0)) 23) := ⟨_, rfl⟩
  have K0 := wall (show Blk W1 w.heap.size 23 (b8 (List.replicate 32 0)) by rw [hW1]; exact Blk.new _ _ _)
  have HB := wall (show Below w.heap.size w W1 by rw [hW1]; exact (Below.refl _ w).alloc (Nat.le_refl _) _)
  have HW1 := wall hW1
  clear hW1
  go_enter Tryd.func83, Tryd.ntmps83
  go_upto_region 1 with fail
  change Code.wp _ _ _ _ (w.alloc (.cells (b8 (List.replicate 32 0)) 23))
  rw [← HW1.out]
  clear HW1
  go_wp2_with fail
  (with_reducible refine (HNEW.out _ (HT.out.old HB.out) ((HN.out.below HB.out).more HB.out.size)).mono ?_); rintro e w2 ⟨rfl, hB2⟩
  have K2 := wall (K0.out.next hB2 rfl)
  have HB2 := wall (below_then HB.out hB2 (Nat.le_refl _))
  clear hB2 K0 HB HNEW HN
  go_wp2_with fail
  (with_reducible refine (HNU1.out _).mono ?_); rintro e w3 ⟨v3, rfl, hO3, hB3⟩
  obtain ⟨A3, cp3, rfl, hcp3, hN3, _⟩ := own_nats hO3 HN1B.out
  have K3 := wall (K2.out.next hB3 rfl)
  have HB3 := wall (below_then HB2.out hB3 (Nat.le_refl _))
  have HF1 := wall (mfeed_any ip op n1 A3 n1.length cp3 w3 (HT.out.old HB3.out) HIB.out rfl (by rw [HIL.out, HN1L.out]; decide) hcp3 hN3)
  rw [HC1.out] at HF1
  clear hO3 hB3 hN3 K2 HB2 HNU1
  go_wp2_with fail
  (with_reducible refine HF1.out.mono ?_); rintro e w4 ⟨rfl, hB4⟩
  have K4 := wall (K3.out.next hB4 rfl)
  have HB4 := wall (below_then HB3.out hB4 (Nat.le_refl _))
  clear hB4 K3 HB3 HF1
  go_wp2_with (refine wpList_convert_str rfl 9 53 5 (.tmp 16) rfl Tryd.underlying9 Tryd.underlying53 Tryd.underlying5 s rfl ?_; intro v5 w5 hv5 hB5)
  rw [HLBE.out] at hv5
  obtain ⟨A5, cp5, rfl, hcp5, _, hN5⟩ := hv5
  have K5 := wall (K4.out.next hB5 rfl)
  have HB5 := wall (below_then HB4.out hB5 (Nat.le_refl _))
  have HF2 := wall (mfeed_any c1 op lb A5 lb.length cp5 w5 (HT.out.old HB5.out) HC1B.out rfl (by rw [HC1L.out, HLL.out]; omega) hcp5 hN5)
  rw [HC2.out] at HF2
  clear hB5 hN5 K4 HB4
  (with_reducible refine HF2.out.mono ?_); rintro e w6 ⟨rfl, hB6⟩
  have K6 := wall (K5.out.next hB6 rfl)
  have HB6 := wall (below_then HB5.out hB6 (Nat.le_refl _))
  clear hB6 K5 HB5 HF2
  go_wp2_with fail
  (with_reducible refine (HNU2.out _).mono ?_); rintro e w7 ⟨v7, rfl, hO7, hB7⟩
  obtain ⟨A7, cp7, rfl, hcp7, hN7, _⟩ := own_nats hO7 HN2B.out
  have K7 := wall (K6.out.next hB7 rfl)
  have HB7 := wall (below_then HB6.out hB7 (Nat.le_refl _))
  have HF3 := wall (mfeed_any c2 op n2 A7 n2.length cp7 w7 (HT.out.old HB7.out) HC2B.out rfl (by rw [HC2L.out, HN2L.out]; omega) hcp7 hN7)
  rw [HC3.out] at HF3
  clear hO7 hB7 hN7 K6 HB6 HNU2
  go_wp2_with fail
  (with_reducible refine HF3.out.mono ?_); rintro e w8 ⟨rfl, hB8⟩
  have K8 := wall (K7.out.next hB8 rfl)
  have HB8 := wall (below_then HB7.out hB8 (Nat.le_refl _))
  clear hB8 K7 HB7 HF3
  have HZM := wall (show zM.toArray.size = (mC c3 op).toArray.size by rw [List.size_toArray, List.size_toArray, mC_length]; rfl)
  go_upto_region 2 with (refine wpList_new_row rfl 177 (.tmp 7) (.tmp 22) rfl w8.heap.size (mC c3 op).toArray rfl rfl 177 zM.toArray (Blk.new _ _ _) (HSM c3 op).out HZM.out (all_oneCell_toArray (mC_one c3 op)) w8.heap.size w8 ((Below.refl _ w8).alloc (Nat.le_refl _) _) (Nat.le_refl _) ?_; intro w9 KM hB9)
  have hw8 : w.heap.size < w8.heap.size := K8.out.lt
  have KM := wall (show Blk w9 w8.heap.size 177 (mC (c3 ++ partsB (ps.take 0)) op).toArray by rw [List.take_zero, show partsB [] = [] from rfl, List.append_nil]; exact KM.out)
  have K9 := wall (K8.out.next hB9 rfl)
  have HB9 := wall (below_then HB8.out hB9 (Nat.le_refl _))
  clear hB9 K8 HB8
  generalize w8.heap.size = g at *
  go_wp2_with fail
  go_loopg [25] ps.length (fun gm s25 wr => ∃ i : Nat, i + gm = ps.length ∧ s25 = .int .i64 (i : Int) ∧ Wall (Blk wr w.heap.size 23 (b8 (List.replicate 32 0))) ∧ Wall (Blk wr g 177 (mC (c3 ++ partsB (ps.take i)) op).toArray) ∧ Wall (Below w.heap.size w wr))
  case atStart => exact ⟨0, by omega, rfl, K9, KM, HB9⟩
  case round =>
    clear K9 KM HB9
    obtain ⟨i, hg, rfl, K3, KM, HB⟩ := hrel
    have HG := wall hg
    have hi : i ≤ ps.length := by omega
    clear hg
    by_cases hlt : i < ps.length
    · obtain ⟨p, hp⟩ : ∃ p, ps[i]? = some p := ⟨_, List.getElem?_eq_getElem hlt⟩
      obtain ⟨J, off, v, rfl, hJ, hcv, hBN⟩ := (HP.out.below HB.out) i p hp
      obtain ⟨Ap, cp, rfl, hcp, hnil, hN⟩ := hBN
      have HNP := wall hN
      have HFL := wall (partsB_take hp)
      have hsz := mem_flatten_le hp
      have hpl : p.length ≤ 100000 := by have := HM.out; omega
      obtain ⟨cur, hcur⟩ : ∃ c, c3 ++ partsB (ps.take i) = c := ⟨_, rfl⟩
      have HCL := wall (show cur.length ≤ 300000 by
        rw [← hcur, List.length_append, HC3L.out, partsB_length, List.length_take]
        have := HM.out
        omega)
      have HCB := wall (show ∀ x ∈ cur, x < 256 by
        rw [← hcur]
        refine sub_byte HC3B.out (partsB_byte (fun x hx => ?_))
        obtain ⟨q, hq, hx⟩ := List.mem_flatten.1 hx
        exact HPB.out x (List.mem_flatten.2 ⟨q, List.mem_of_mem_take hq, hx⟩))
      rw [hcur] at KM
      obtain ⟨nb, hnb⟩ : ∃ x, numB p.length 4 = x := ⟨_, rfl⟩
      obtain ⟨d1, hd1⟩ : ∃ x, cur ++ nb = x := ⟨_, rfl⟩
      obtain ⟨d2, hd2⟩ : ∃ x, d1 ++ p = x := ⟨_, rfl⟩
      have HD2 := wall (show c3 ++ partsB (ps.take (i + 1)) = d2 by
        rw [HFL.out, ← hd2, ← hd1, ← hcur, hnb]
        simp only [List.append_assoc])
      have HNB := wall (show ∀ x ∈ nb, x < 256 by rw [← hnb]; exact numB_byte _ _)
      have HNL := wall (show nb.length = 4 by rw [← hnb]; exact numB_length _ _)
      have HD1B := wall (show ∀ x ∈ d1, x < 256 by rw [← hd1]; exact sub_byte HCB.out HNB.out)
      have HD1L := wall (show d1.length ≤ 300004 by rw [← hd1, List.length_append, HNL.out]; have := HCL.out; omega)
      have HNU := wall (fun W => num4_any (p.length : Int) p.length W rfl (by omega))
      rw [hnb] at HNU
      have HD1 := wall hd1
      have HD2E := wall hd2
      have HZ := wall (show (mC cur op).toArray.size = (mC d2 op).toArray.size by rw [List.size_toArray, List.size_toArray, mC_length, mC_length])
      have HT3 := wall (HT.out.old HB.out)
      have HNQ := wall (fun W (h : Rel.Grow wr.drew W) => (HNP.out.below (h.undrew.mono HB.out.size)).more (Nat.le_trans HB.out.size h.undrew.size))
      clear hp hnil hN hcur hnb hd1 hd2 HFL HNP
      go_wp2_with fail
      refine Rel.wp_region_rel 7 [(31, .const (.int .i64 (p.length : Int))), (32, .any (Bytes nb) Bytes.grow), (33, .const (.agg (mC d1 op).toArray)), (35, .const (.agg (mC d2 op).toArray))] (by kernel_rfl) (by kernel_rfl) ?_
      simp only [List.take_succ_cons, List.take_zero, List.drop_succ_cons, List.drop_zero, Act.put, List.setIfInBounds_toArray, List.set_cons_zero, List.set_cons_succ]
      refine Rel.tree_pure rfl rfl rfl (.agg (mC cur op).toArray) (fun W hW _ => Rel.exec_load _ _ rfl g 0 rfl _ _ (Blk.range (hW.blk KM.out.drew)) Tryd.underlying177 rfl (HSM _ _).out) ?_
      simp only [Act.put, List.setIfInBounds_toArray, List.set_cons_zero, List.set_cons_succ]
      (refine Rel.tree_quiet rfl rfl rfl (fun K hK => ?_); go_big_quiet_op; refine hK _ ?_; clear hK K)
      refine Rel.tree_const rfl (.int .i64 (p.length : Int)) rfl (fun W hW _ => ?_) ?_
      · unfold Rel.relAt; go_simp; exact ⟨Rel.Grow.refl _, rfl⟩
      simp only [Act.put, List.setIfInBounds_toArray, List.set_cons_zero, List.set_cons_succ]
      refine Rel.tree_rel rfl (Bytes nb) Bytes.grow rfl (fun W hW _ => ?_) (fun v32 => ?_)
      · unfold Rel.relAt; go_simp; show Calls _ _ _ _ _
        exact bytes_call (HNU.out W) HNB.out
      simp only [Act.put, List.setIfInBounds_toArray, List.set_cons_zero, List.set_cons_succ]
      refine Rel.tree_const rfl (.agg (mC d1 op).toArray) rfl (fun W hW hF => ?_) ?_
      · obtain ⟨A2, c, rfl, hc, hN⟩ : Bytes nb v32 W := hF 32 (by decide)
        clear hF
        unfold Rel.relAt; go_simp; show Calls _ _ _ _ _
        have h := mfeed_any cur op nb A2 nb.length c W (HT3.out.old hW.undrew) HCB.out rfl (by rw [HNL.out]; have := HCL.out; omega) hc hN
        rw [HD1.out] at h
        exact const_call h
      simp only [Act.put, List.setIfInBounds_toArray, List.set_cons_zero, List.set_cons_succ]
      (refine Rel.tree_quiet rfl rfl rfl (fun K hK => ?_); go_big_quiet_op; refine hK _ ?_; clear hK K)
      refine Rel.tree_const rfl (.agg (mC d2 op).toArray) rfl (fun W hW _ => ?_) ?_
      · unfold Rel.relAt; go_simp; show Calls _ _ _ _ _
        have h := mfeed_any d1 op p Ap p.length cp W (HT3.out.old hW.undrew) HD1B.out rfl (by have := HD1L.out; omega) hcp (HNQ.out W hW)
        rw [HD2E.out] at h
        exact const_call h
      simp only [Act.put, List.setIfInBounds_toArray, List.set_cons_zero, List.set_cons_succ]
      intro W hW _
      have K5 := wall (hW.blk K3.out.drew)
      have KM5 := wall (hW.blk KM.out.drew)
      have HB5 := wall (below_then HB.out hW.undrew (Nat.le_refl _))
      clear hW K3 KM HB HNQ
      go_wp2_with (refine wpList_store_row rfl 177 (.tmp 7) _ rfl g (mC d2 op).toArray rfl rfl 177 (mC cur op).toArray KM5.out (HSM _ _).out HZ.out (all_oneCell_toArray (mC_one _ _)) ?_)
      go_light
      go_roundg (ps.length - (i + 1))
      case measure => have := HG.out; omega
      case rel =>
        refine ⟨i + 1, by have := HG.out; omega, by go_num, wall ?_, wall ?_, wall ?_⟩
        · exact K5.out.frm (frm_setRow (g := g) W _) (by simp; omega)
        · rw [HD2.out]; exact setRow_heap _ _ _ _ _ _ KM5.out
        · exact below_setRow HB5.out (by omega) _
    · have hil : i = ps.length := by omega
      subst hil
      have hni : ¬ (((ps.length : Nat) : Int) < ((ps.length : Nat) : Int)) := by omega
      rw [List.take_length] at KM
      obtain ⟨tot, htot⟩ : ∃ x, c3 ++ partsB ps = x := ⟨_, rfl⟩
      rw [htot] at KM
      have HTB := wall (show ∀ x ∈ tot, x < 256 by rw [← htot]; exact sub_byte HC3B.out (partsB_byte HPB.out))
      have HTL := wall (show tot.length ≤ 900000 by
        rw [← htot, List.length_append, HC3L.out, partsB_length]
        have := HM.out
        omega)
      have HSU := wall (msum_any tot op wr (HT.out.old HB.out) HTB.out HOB.out HTL.out (by rw [HOL.out]; decide))
      rw [show sumB (op ++ sumB tot) = r by rw [← htot]; exact HR.out] at HSU
      have HS := wall (show (Tryd.prog.info? 23).map (·.size) = some (b8 r).size by rw [b8_size, HRL.out]; exact dig_info)
      have HZ := wall (show (b8 (List.replicate 32 0)).size = (b8 r).size by rw [b8_size, b8_size, HRL.out]; rfl)
      clear hlt htot
      go_wp2_with (refine wpList_load_row rfl 177 _ rfl g rfl 177 (mC tot op).toArray (0, 0) _ KM.out Tryd.underlying177 rfl (HSM _ _).out ?_)
      (with_reducible refine HSU.out.mono ?_); rintro e w5 ⟨rfl, hB5⟩
      have K5 := wall (K3.out.next hB5 rfl)
      have HB5 := wall (below_then HB.out hB5 (Nat.le_refl _))
      clear hB5 K3 KM HB HSU
      go_wp2_with (refine wpList_store_row rfl 23 (.tmp 6) _ rfl w.heap.size (b8 r) rfl rfl 23 (b8 (List.replicate 32 0)) K5.out HS.out HZ.out (b8_one _) ?_)
      have hb := setRow_heap _ _ _ (b8 r) _ _ K5.out
      have hB := below_setRow HB5.out (Nat.le_refl _) (b8 r)
      go_light
      exact bodyPost_ret (v := .agg (b8 r)) (results_cell_row Tryd.results83 _ _ w.heap.size 23 (b8 r) (0, 0) _ rfl hb Tryd.underlying23 rfl HS.out) rfl ⟨rfl, hB⟩
end Mac
end Go.Proofs.YtpakdcgcgekcfaaDoor

/-
  Package slot: Derive, Mac.
-/
set_option linter.unusedSimpArgs false
set_option linter.unusedVariables false
namespace Go.Proofs.YtpakdcgcgekcfaaDoor
open Go.RowKit

namespace Slot
open Otp R1 Sha Mac
theorem dig_end {fn : Func} {p u : Tmp} (h : fn.results = #[.cell p 23, .tmp u]) {tmps : Array Value} {w : World} (g : Nat) (E : Int) (D : List Nat) (h1 : tmps.getD p undef = .pointer (some ⟨g, 0, none⟩)) (h2 : tmps.getD u undef = .int .i64 E) (hb : Blk w g 23 (b8 D)) (hl : D.length = 32) :
    (results fn tmps).run Tryd.prog w = .ok (.tuple #[.agg (b8 D), .int .i64 E]) w := by
  rw [results_cell_tmp h, h1, h2]
  have := run_loadVar_row (P := Tryd.prog) w g 23 23 (b8 D) (0, 0) _ hb Tryd.underlying23 rfl (by rw [b8_size, hl]; kernel_rfl)
  simp only [asAddr, Sem.run_pure, Result.andThen_ok, this]
def derE (s : Slt) (a b : Int) : Nat := if mayE s [a, b] ≠ 0 then mayE s [a, b] else if keyE s a ≠ 0 then keyE s a else if kindE s b ≠ 0 then 13 else 0
def derSt (s : Slt) (a b : Int) (lb : List Nat) (ps : List (List Nat)) : Slt := if derE s a b = 0 then s.put b.toNat (2, deriveB (keyOf s a) lb ps) else s
theorem mayE_two {s : Slt} {a b : Int} (h : mayE s [a, b] = 0) : mayE s [a] = 0 ∧ mayE s [b] = 0 := by
  unfold mayE at *
  split at h
  · cases h
  · rename_i hd
    rw [if_neg hd, if_neg hd]
    split at h
    · rename_i h2
      simp only [List.all_cons, List.all_nil, Bool.and_true, Bool.and_eq_true] at h2
      simp [h2.1, h2.2]
    · cases h
theorem keyE_row {s : Slt} {h : Int} (hk : keyE s h = 0) (hok : s.Ok) : (keyOf s h).length = 32 ∧ ∀ x ∈ keyOf s h, x < 256 := by
  unfold keyE at hk
  split at hk
  · rename_i h1; exact absurd hk h1
  · rename_i h1
    obtain ⟨_, h2, h3⟩ := mayE_zero (Decidable.not_not.1 h1)
    obtain ⟨p, hp, hl, hb, _⟩ := row_at hok (show h.toNat < 8 by omega)
    unfold keyOf
    rw [hp]
    exact ⟨hl, hb⟩
set_option maxRecDepth 100000 in
set_option maxHeartbeats 4000000 in
theorem sderive_any (g : Nat) (s : Slt) (a b : Int) (lb : ByteArray) (ps : List (List Nat)) (PA : Option Addr) (pn pc : Nat) (w : World) (hT : STab w) (hS : Sl w g s) (ha : wfI a) (hb : wfI b)
    (hlb : lb.size ≤ 100000) (hpn : ps.length = pn) (hpm : pn ≤ 1000) (hP : Parts w w.heap.size PA ps) (hm : ps.flatten.length ≤ 100000) :
    Calls Tryd.prog 37 #[.pointer (some ⟨g, 0, none⟩), .int .i64 a, .int .i64 b, .string lb, .slice PA pn pc] w (WrOut w g (derE s a b) (derSt s a b (sB lb) ps)) := by
  obtain ⟨W2, hW2⟩ : ∃ W, W = w.alloc (.cells #[.int .i64 a, .int .i64 b] 3) := ⟨_, rfl⟩
  have HW2 := Lib.hid hW2
  have HB2 := Lib.hid (show Below w.heap.size w W2 by rw [hW2]; exact (Below.refl _ w).alloc (Nat.le_refl _) _)
  have HS2 := Lib.hid (hS.old HB2.out)
  have HM := Lib.hid (may_any g s (some ⟨w.heap.size, 0, none⟩) [a, b] 2 2 W2 HS2.out rfl (by decide) (by rw [hW2]; exact ints_two w a b ha hb))
  have HEND := Lib.hid (show Frm [g] w W2 from Frm.of_below HB2.out)
  have HKY := Lib.hid (key_any g s a W2 HS2.out ha)
  obtain ⟨E, hE⟩ : ∃ E, mayE s [a, b] = E := ⟨_, rfl⟩
  rw [hE] at HM
  have hok := HS2.out.ok
  have HT := Lib.hid hT
  have HP := Lib.hid hP
  clear hW2 hS hT hP
  by_cases h0 : E = 0
  · subst h0
    obtain ⟨ma, mb⟩ := mayE_two hE
    obtain ⟨_, h1, h2⟩ := mayE_zero mb
    obtain ⟨i, rfl⟩ : ∃ i : Nat, b = i := ⟨b.toNat, by omega⟩
    obtain ⟨p, hp, hpl, hpb, hp3⟩ := row_at hok (show i < 8 by omega)
    have hkd : kindE s (i : Int) = p.1 := by rw [kindE, if_pos mb, Int.toNat_natCast, hp]; rfl
    have hi8 : (i : Int) < 8 := h2
    obtain ⟨K, hK⟩ : ∃ K, keyE s a = K := ⟨_, rfl⟩
    obtain ⟨k, hk⟩ : ∃ k, keyOf s a = k := ⟨_, rfl⟩
    rw [hK, hk] at HKY
    by_cases hK0 : K = 0
    · subst hK0
      have hkr := keyE_row hK hok
      rw [hk] at hkr
      have HKB := Lib.hid hkr.2
      by_cases hkk : p.1 = 0
      · obtain ⟨d, hd⟩ : ∃ d, deriveB k (sB lb) ps = d := ⟨_, rfl⟩
        have HE := Lib.hid (show derE s a (i : Int) = 0 by rw [derE, hE, if_neg (by decide), hK, if_neg (by decide), hkd, hkk]; rfl)
        have HL := Lib.hid (show derSt s a (i : Int) (sB lb) ps = s.put i (2, d) by rw [derSt, HE.out, if_pos rfl, hk, hd]; rfl)
        rw [HE.out, HL.out]
        have hdl : d.length = 32 := by rw [← hd]; exact deriveB_length _ _ _
        have hdb : ∀ x ∈ d, x < 256 := by rw [← hd]; exact deriveB_byte _ _ _
        have HSP := Lib.hid (show splice (slC s) (i * 33) (row (2, d)).toArray.toList = slC (s.put i (2, d)) by
          rw [Nat.mul_comm]
          exact hok.splice (by omega) hdl)
        have HOK := Lib.hid (hok.put i (p := (2, d)) hdl hdb (show 2 ≤ 3 by decide))
        have HSZ := Lib.hid (show (Tryd.prog.info? 137).map (·.size) = some (row (2, d)).toArray.size by rw [row_size hdl]; exact place_info)
        have HFT := Lib.hid (show i * 33 + (row (2, d)).toArray.size ≤ (slC s).length by rw [row_size hdl, hok.size]; omega)
        have HPB := Lib.hid (place_built 2 d hdl)
        have HDV := Lib.hid (fun W (h : Below W2.heap.size W2 W) A n c (hn : n = 32) (hN : Nats .u8 256 W W.heap.size A k) (hP : Parts W W.heap.size PA ps) => mderive_any k A n c lb ps PA pn pc W (HT.out.old (below_then HB2.out h (Nat.le_refl _))) (by rw [hn]; exact hkr.1) (by omega) hN hkr.2 hlb hpn hpm hP hm)
        rw [hd] at HDV
        have HKAT := Lib.hid (hok.kindAt hp)
        clear hE hp h1 h2 hkd HE HL hok ma mb hK hk hd hdl hdb hkr ha hb
        go_enter Tryd.func37, Tryd.ntmps37
        go_upto_region 2 with (go_at_call 81; change Calls _ _ _ (w.alloc (.cells #[.int .i64 a, .int .i64 (i : Int)] 3)) _; rw [← HW2.out]; (with_reducible refine HM.out.mono ?_); rintro e w2 ⟨rfl, rfl⟩)
        go_wp2_with fail
        (with_reducible refine HKY.out.mono ?_); rintro e w3 ⟨A, n, c, rfl, hkey, hB3⟩
        obtain ⟨hn32, hnc, hkl, hN⟩ := hkey rfl
        have HKEY := Lib.hid hN
        have HB3 := Lib.hid (below_then HB2.out hB3 (Nat.le_refl _))
        have HB23 := Lib.hid hB3
        have HS3 := Lib.hid (HS2.out.old hB3)
        have HP3 := Lib.hid ((HP.out.below HB3.out).more HB3.out.size)
        have hck : w3.cell? ⟨g, i * 33, none⟩ = some (.int .i64 (p.1 : Int)) := HS3.out.cellAt (by rw [Nat.mul_comm]; exact HKAT.out)
        rw [hkk] at hck
        have HN32 := Lib.hid hn32
        clear hkey hB3 hN hn32 HM HKY HS2 HEND HP hkl hnc
        go_wp2_with fail
        refine Rel.wp_region_rel 10 [(46, .const (.agg (b8 d))), (48, .const (.pointer (some ⟨g, 0, none⟩)))] (by kernel_rfl) (by kernel_rfl) ?_
        simp only [List.take_succ_cons, List.take_zero, List.drop_succ_cons, List.drop_zero, Act.put, List.setIfInBounds_toArray, List.set_cons_zero, List.set_cons_succ]
        repeat (refine Rel.tree_quiet rfl rfl rfl (fun K hK => ?_); go_big_quiet_op; refine hK _ ?_; clear hK K)
        refine Rel.tree_const rfl (.agg (b8 d)) rfl (fun W hW _ => ?_) ?_
        · unfold Rel.relAt; go_simp; show Calls _ _ _ _ _
          exact const_call (HDV.out W (HB23.out.trans (hW.undrew.mono HB23.out.size)) A n c HN32.out (nats_step HKEY.out hW.undrew) ((HP3.out.below hW.undrew).more hW.undrew.size))
        simp only [Act.put, List.setIfInBounds_toArray, List.set_cons_zero, List.set_cons_succ]
        refine Rel.tree_pure rfl rfl rfl (.agg (row (2, d)).toArray) (fun W hW _ => Rel.exec_build _ _ rfl _ HPB.out) ?_
        simp only [Act.put, List.setIfInBounds_toArray, List.set_cons_zero, List.set_cons_succ]
        refine Rel.tree_const rfl (.pointer (some ⟨g, 0, none⟩)) rfl (fun W hW _ => ?_) ?_
        · unfold Rel.relAt; go_simp; exact ⟨Rel.Grow.refl _, rfl⟩
        simp only [Act.put, List.setIfInBounds_toArray, List.set_cons_zero, List.set_cons_succ]
        repeat (refine Rel.tree_quiet rfl rfl rfl (fun K hK => ?_); go_big_quiet_op; refine hK _ ?_; clear hK K)
        intro W hW _
        have KS := Lib.hid (hW.blk HS3.out.blk.drew)
        have HBW := Lib.hid (below_then HB3.out hW.undrew (Nat.le_refl _))
        clear hW
        go_wp2_with (refine wpList_store_frm rfl 137 (.tmp 50) (.tmp 47) rfl g (i * 33) (row (2, d)).toArray rfl rfl 140 (slC s) KS.out HFT.out HSZ.out (all_oneCell_toArray (row_one _)) ?_; intro w7 K7 F7)
        rw [HSP.out] at K7
        go_light
        go_ret
        exact ⟨rfl, ⟨HOK.out, K7⟩, (Frm.of_below HBW.out).trans' F7 (fun x hx _ => hx)⟩
      · have HE := Lib.hid (show derE s a (i : Int) = 13 by rw [derE, hE, if_neg (by decide), hK, if_neg (by decide), hkd, if_pos hkk])
        have HL := Lib.hid (show derSt s a (i : Int) (sB lb) ps = s by rw [derSt, HE.out]; rfl)
        rw [HE.out, HL.out]
        have hne : (((p.1 : Nat) : Int) != 0) = true := by rw [bne_iff_ne]; omega
        have HKAT := Lib.hid (hok.kindAt hp)
        clear hE hp h1 h2 hkd HE HL hok ma mb hK hk hkr ha hb
        go_enter Tryd.func37, Tryd.ntmps37
        go_upto_region 2 with (go_at_call 81; change Calls _ _ _ (w.alloc (.cells #[.int .i64 a, .int .i64 (i : Int)] 3)) _; rw [← HW2.out]; (with_reducible refine HM.out.mono ?_); rintro e w2 ⟨rfl, rfl⟩)
        go_wp2_with fail
        (with_reducible refine HKY.out.mono ?_); rintro e w3 ⟨A, n, c, rfl, hkey, hB3⟩
        have HB3 := Lib.hid (below_then HB2.out hB3 (Nat.le_refl _))
        have HS3 := Lib.hid (HS2.out.old hB3)
        have hck : w3.cell? ⟨g, i * 33, none⟩ = some (.int .i64 (p.1 : Int)) := HS3.out.cellAt (by rw [Nat.mul_comm]; exact HKAT.out)
        clear hkey hB3 HM HKY HS2 HEND HP
        go_wp2_with fail
        go_light
        go_ret
        exact ⟨rfl, HS3.out, Frm.of_below HB3.out⟩
    · have HE := Lib.hid (show derE s a (i : Int) = K by rw [derE, hE, if_neg (by decide), hK, if_pos hK0])
      have HL := Lib.hid (show derSt s a (i : Int) (sB lb) ps = s by rw [derSt, HE.out, if_neg hK0])
      rw [HE.out, HL.out]
      have hne : (((K : Nat) : Int) != 0) = true := by rw [bne_iff_ne]; omega
      clear hE hp h1 h2 hkd HE HL hok ma mb hK hk ha hb
      go_enter Tryd.func37, Tryd.ntmps37
      go_upto_region 2 with (go_at_call 81; change Calls _ _ _ (w.alloc (.cells #[.int .i64 a, .int .i64 (i : Int)] 3)) _; rw [← HW2.out]; (with_reducible refine HM.out.mono ?_); rintro e w2 ⟨rfl, rfl⟩)
      go_wp2_with fail
      (with_reducible refine HKY.out.mono ?_); rintro e w3 ⟨A, n, c, rfl, hkey, hB3⟩
      have HB3 := Lib.hid (below_then HB2.out hB3 (Nat.le_refl _))
      have HS3 := Lib.hid (HS2.out.old hB3)
      clear hkey hB3 HM HKY HS2 HEND HP
      go_wp2_with fail
      go_light
      go_ret
      exact ⟨rfl, HS3.out, Frm.of_below HB3.out⟩
  · have HE := Lib.hid (show derE s a b = E by rw [derE, hE, if_pos h0])
    have HL := Lib.hid (show derSt s a b (sB lb) ps = s by rw [derSt, HE.out, if_neg h0])
    have hne : (((E : Nat) : Int) != 0) = true := by rw [bne_iff_ne]; omega
    rw [HE.out, HL.out]
    clear hE HE HL hok ha hb HKY HP
    go_enter Tryd.func37, Tryd.ntmps37
    go_upto_region 2 with (go_at_call 81; change Calls _ _ _ (w.alloc (.cells #[.int .i64 a, .int .i64 b] 3)) _; rw [← HW2.out]; (with_reducible refine HM.out.mono ?_); rintro e w2 ⟨rfl, rfl⟩)
    go_wp2_with fail
    go_light
    go_ret
    exact ⟨rfl, HS2.out, HEND.out⟩
set_option maxHeartbeats 1000000 in
theorem sderive_nil (a b : Int) (lb : ByteArray) (PA : Option Addr) (pn pc : Nat) (w : World) : Calls Tryd.prog 37 #[.pointer none, .int .i64 a, .int .i64 b, .string lb, .slice PA pn pc] w (IntBelow w 3) := by
  have HB := Lib.hid ((Below.refl _ w).alloc (Nat.le_refl _) (.cells #[.int .i64 a, .int .i64 b] 3))
  go_enter Tryd.func37, Tryd.ntmps37
  go_wp2_with fail
  (with_reducible refine (may_nil _ _ _ _).mono ?_); rintro e w2 ⟨rfl, rfl⟩
  go_wp2_with fail
  go_light
  go_ret
  exact ⟨rfl, HB.out⟩
end Slot
end Go.Proofs.YtpakdcgcgekcfaaDoor

/-
  Package slot: Mac, Lock, Locked, Dead.
-/
set_option linter.unusedSimpArgs false
set_option linter.unusedVariables false
namespace Go.Proofs.YtpakdcgcgekcfaaDoor
open Go.RowKit

namespace Slot
open Otp R1 Sha Mac
def macD (s : Slt) (h : Int) (ps : List (List Nat)) : List Nat := if keyE s h = 0 then macB (keyOf s h) ps.flatten else List.replicate 32 0
def DigErr (w : World) (D : List Nat) (E : Int) (e : Ending) (w' : World) : Prop := e = .returned (.tuple #[.agg (b8 D), .int .i64 E]) ∧ Below w.heap.size w w'
set_option maxRecDepth 100000 in
set_option maxHeartbeats 4000000 in
theorem smac_of (q : Value) (h : Int) (E : Nat) (k : List Nat) (ps : List (List Nat)) (PA : Option Addr) (pn pc : Nat) (w : World) (hT : STab w) (hkb : E = 0 → ∀ x ∈ k, x < 256)
    (HK : ∀ W, Below w.heap.size w W → Calls Tryd.prog 82 #[q, .int .i64 h] W (KeyOut W E k)) (hpn : ps.length = pn) (hpm : pn ≤ 1000) (hP : Parts w w.heap.size PA ps) (hm : ps.flatten.length ≤ 100000) :
    Calls Tryd.prog 39 #[q, .int .i64 h, .slice PA pn pc] w (DigErr w (if E = 0 then macB k ps.flatten else List.replicate 32 0) E) := by
  obtain ⟨W1, hW1⟩ : ∃ W, W = w.alloc (.cells (b8 (List.replicate 32 0)) 23) := ⟨_, rfl⟩
  have HW1 := Lib.hid hW1
  have HB1 := Lib.hid (show Below w.heap.size w W1 by rw [hW1]; exact (Below.refl _ w).alloc (Nat.le_refl _) _)
  have HR1 := Lib.hid (show Blk W1 w.heap.size 23 (b8 (List.replicate 32 0)) by rw [hW1]; exact Blk.new _ _ _)
  have HKY := Lib.hid (HK W1 HB1.out)
  have HT := Lib.hid hT
  have HP := Lib.hid hP
  have HKB := Lib.hid hkb
  clear hW1 HK hT hP hkb
  by_cases h0 : E = 0
  · subst h0
    obtain ⟨d, hd⟩ : ∃ d, macB k ps.flatten = d := ⟨_, rfl⟩
    rw [if_pos rfl, hd]
    have HDL := Lib.hid (show d.length = 32 by rw [← hd]; exact macB_length _ _)
    have HSD := Lib.hid (show (Tryd.prog.info? 23).map (·.size) = some (b8 d).size by rw [b8_size, HDL.out]; exact dig_info)
    have HZD := Lib.hid (show (b8 (List.replicate 32 0)).size = (b8 d).size by rw [b8_size, b8_size, HDL.out]; rfl)
    have HDV := Lib.hid (fun W (h : Below w.heap.size w W) A n c (hn : n = 32) (hkl : k.length = 32) (hN : Nats .u8 256 W W.heap.size A k) => macsum_any k A n c ps PA pn pc W (HT.out.old h) (by rw [hn]; exact hkl) (by omega) hN (HKB.out rfl) hpn (by omega) ((HP.out.below h).more h.size) (by omega))
    rw [hd] at HDV
    clear hd
    go_enter Tryd.func39, Tryd.ntmps39
    go_upto_region 1 with fail
    change Code.wp _ _ _ _ (w.alloc (.cells (b8 (List.replicate 32 0)) 23))
    rw [← HW1.out]
    go_wp2_with fail
    (with_reducible refine HKY.out.mono ?_); rintro e w3 ⟨A, n, c, rfl, hkey, hB3⟩
    obtain ⟨hn32, hnc, hkl, hN⟩ := hkey rfl
    have HKEY := Lib.hid hN
    have HB3 := Lib.hid (below_then HB1.out hB3 (Nat.le_refl _))
    have HR3 := Lib.hid (HR1.out.next hB3 rfl)
    have HN32 := Lib.hid hn32
    have HKL := Lib.hid hkl
    clear hkey hB3 hN hn32 HKY HR1 hkl hnc
    go_wp2_with fail
    (with_reducible refine (HDV.out w3 HB3.out A n c HN32.out HKL.out HKEY.out).mono ?_); rintro e w4 ⟨rfl, hB4⟩
    have HR4 := Lib.hid (HR3.out.next hB4 rfl)
    have HB4 := Lib.hid (below_then HB3.out hB4 (Nat.le_refl _))
    clear hB4 HR3 HKEY
    go_wp2_with (refine wpList_store_row rfl 23 (.tmp 6) _ rfl w.heap.size (b8 d) rfl rfl 23 (b8 (List.replicate 32 0)) HR4.out HSD.out HZD.out (b8_one _) ?_)
    have hb := setRow_heap _ _ _ (b8 d) _ _ HR4.out
    have hB := below_setRow HB4.out (Nat.le_refl _) (b8 d)
    go_light
    exact bodyPost_ret (v := .tuple #[.agg (b8 d), .int .i64 0]) (dig_end Tryd.results39 w.heap.size 0 d rfl rfl hb HDL.out) rfl ⟨rfl, hB⟩
  · have hne : (((E : Nat) : Int) != 0) = true := by rw [bne_iff_ne]; omega
    rw [if_neg h0]
    have HSD := Lib.hid (show (Tryd.prog.info? 23).map (·.size) = some (b8 (List.replicate 32 0)).size by rw [b8_size]; exact dig_info)
    clear HKB HP HT
    go_enter Tryd.func39, Tryd.ntmps39
    go_upto_region 1 with fail
    change Code.wp _ _ _ _ (w.alloc (.cells (b8 (List.replicate 32 0)) 23))
    rw [← HW1.out]
    go_wp2_with fail
    (with_reducible refine HKY.out.mono ?_); rintro e w3 ⟨A, n, c, rfl, hkey, hB3⟩
    have HB3 := Lib.hid (below_then HB1.out hB3 (Nat.le_refl _))
    have HR3 := Lib.hid (HR1.out.next hB3 rfl)
    clear hkey hB3 HKY HR1
    go_wp2_with (refine wpList_store_row rfl 23 (.tmp 6) _ rfl w.heap.size (b8 (List.replicate 32 0)) rfl rfl 23 (b8 (List.replicate 32 0)) HR3.out HSD.out rfl (b8_one _) ?_)
    have hb := setRow_heap _ _ _ (b8 (List.replicate 32 0)) _ _ HR3.out
    have hB := below_setRow HB3.out (Nat.le_refl _) (b8 (List.replicate 32 0))
    go_light
    exact bodyPost_ret (v := .tuple #[.agg (b8 (List.replicate 32 0)), .int .i64 (E : Int)]) (dig_end Tryd.results39 w.heap.size E (List.replicate 32 0) rfl rfl hb (by rw [List.length_replicate])) rfl ⟨rfl, hB⟩
theorem smac_any (g : Nat) (s : Slt) (h : Int) (ps : List (List Nat)) (PA : Option Addr) (pn pc : Nat) (w : World) (hT : STab w) (hS : Sl w g s) (hw : wfI h) (hpn : ps.length = pn) (hpm : pn ≤ 1000) (hP : Parts w w.heap.size PA ps) (hm : ps.flatten.length ≤ 100000) :
    Calls Tryd.prog 39 #[.pointer (some ⟨g, 0, none⟩), .int .i64 h, .slice PA pn pc] w (DigErr w (macD s h ps) (keyE s h)) :=
  smac_of _ h (keyE s h) (keyOf s h) ps PA pn pc w hT (fun h => (keyE_row h hS.ok).2) (fun W hb => key_any g s h W (hS.old hb) hw) hpn hpm hP hm
theorem smac_nil (h : Int) (ps : List (List Nat)) (PA : Option Addr) (pn pc : Nat) (w : World) (hT : STab w) (hpn : ps.length = pn) (hpm : pn ≤ 1000) (hP : Parts w w.heap.size PA ps) (hm : ps.flatten.length ≤ 100000) :
    Calls Tryd.prog 39 #[.pointer none, .int .i64 h, .slice PA pn pc] w (DigErr w (List.replicate 32 0) 3) :=
  smac_of _ h 3 [] ps PA pn pc w hT (fun h => by cases h) (fun W _ => key_nil h W) hpn hpm hP hm
def LkOut (w : World) (g : Nat) (s' : Slt) (e : Ending) (w' : World) : Prop := e = .returned (.tuple #[]) ∧ Sl w' g s' ∧ Frm [g] w w'
theorem slC_lock (s : Slt) (b : Bool) (h : s.Ok) : (slC s).set 264 (.bool b) = slC { s with lk := b } := by
  unfold slC
  rw [List.set_append_right _ _ (by rw [flat_len _ h.rows, List.length_map, h.len]; decide), flat_len _ h.rows, List.length_map, h.len]
  rfl
theorem slC_dead (s : Slt) (b : Bool) (h : s.Ok) : (slC s).set 265 (.bool b) = slC { s with dd := b } := by
  unfold slC
  rw [List.set_append_right _ _ (by rw [flat_len _ h.rows, List.length_map, h.len]; decide), flat_len _ h.rows, List.length_map, h.len]
  rfl
theorem Slt.Ok.flags {s : Slt} (h : s.Ok) (a b : Bool) : Slt.Ok { s with lk := a, dd := b } := ⟨h.len, h.key, h.byte, h.kind⟩
set_option maxRecDepth 100000 in
set_option maxHeartbeats 1000000 in
theorem lock_any (g : Nat) (s : Slt) (w : World) (hS : Sl w g s) : Calls Tryd.prog 49 #[.pointer (some ⟨g, 0, none⟩)] w (LkOut w g { s with lk := true }) := by
  have hc : w.cell? ⟨g, 264, none⟩ = some (.bool s.lk) := hS.cellAt hS.ok.lockAt
  have hf : w.frozen? ⟨g, 264, none⟩ = false := hS.blk.frozen _
  have hl := hS.lt
  have HE := Lib.hid (show Sl (w.setCell ⟨g, 264, none⟩ (.bool true)) g { s with lk := true } from ⟨hS.ok.flags true s.dd, by
    have := hS.blk.set 264 (.bool true)
    simp only [List.setIfInBounds_toArray] at this
    rw [slC_lock s true hS.ok] at this
    exact this⟩)
  have HF := Lib.hid (show Frm [g] w (w.setCell ⟨g, 264, none⟩ (.bool true)) from (Frm.refl _ _).setCell (p := ⟨g, 264, none⟩) (.inl (by simp)) _)
  clear hS
  go_enter Tryd.func49, Tryd.ntmps49
  go_wp2_with fail
  go_light
  go_end0
  exact ⟨rfl, HE.out, HF.out⟩
set_option maxHeartbeats 1000000 in
theorem lock_nil (w : World) : Calls Tryd.prog 49 #[.pointer none] w (fun e w' => e = .returned (.tuple #[]) ∧ w = w') := by
  go_enter Tryd.func49, Tryd.ntmps49
  go_wp2_with fail
  go_light
  go_end0
  exact ⟨rfl, rfl⟩
def BoolSame (w : World) (b : Bool) (e : Ending) (w' : World) : Prop := e = .returned (.bool b) ∧ w = w'
set_option maxHeartbeats 1000000 in
theorem locked_any (g : Nat) (s : Slt) (w : World) (hS : Sl w g s) : Calls Tryd.prog 51 #[.pointer (some ⟨g, 0, none⟩)] w (BoolSame w s.lk) := by
  have hc : w.cell? ⟨g, 264, none⟩ = some (.bool s.lk) := hS.cellAt hS.ok.lockAt
  clear hS
  generalize s.lk = b at *
  go_enter Tryd.func51, Tryd.ntmps51
  cases b
  all_goals
    go_wp2_with fail
    go_light
    go_ret
    exact ⟨rfl, rfl⟩
set_option maxHeartbeats 1000000 in
theorem locked_nil (w : World) : Calls Tryd.prog 51 #[.pointer none] w (BoolSame w false) := by
  go_enter Tryd.func51, Tryd.ntmps51
  go_wp2_with fail
  go_light
  go_ret
  exact ⟨rfl, rfl⟩
set_option maxHeartbeats 1000000 in
theorem dead_any (g : Nat) (s : Slt) (w : World) (hS : Sl w g s) : Calls Tryd.prog 52 #[.pointer (some ⟨g, 0, none⟩)] w (BoolSame w s.dd) := by
  have hc : w.cell? ⟨g, 265, none⟩ = some (.bool s.dd) := hS.cellAt hS.ok.deadAt
  clear hS
  generalize s.dd = b at *
  go_enter Tryd.func52, Tryd.ntmps52
  cases b
  all_goals
    go_wp2_with fail
    go_light
    go_ret
    exact ⟨rfl, rfl⟩
set_option maxHeartbeats 1000000 in
theorem dead_nil (w : World) : Calls Tryd.prog 52 #[.pointer none] w (BoolSame w false) := by
  go_enter Tryd.func52, Tryd.ntmps52
  go_wp2_with fail
  go_light
  go_ret
  exact ⟨rfl, rfl⟩
/-- Nothing in any place. -/
def zRow : Nat × List Nat := (0, List.replicate 32 0)
def zRows : List (Nat × List Nat) := List.replicate 8 zRow
def killSt (s : Slt) : Slt := { rs := zRows, lk := s.lk, dd := true }
theorem zRows_ok (a b : Bool) : Slt.Ok { rs := zRows, lk := a, dd := b } := by
  have h : ∀ p ∈ zRows, p = zRow := fun p hp => (List.mem_replicate.1 hp).2
  refine ⟨rfl, fun p hp => ?_, fun p hp x hx => ?_, fun p hp => ?_⟩ <;> rw [h p hp] at *
  · rfl
  · rw [(List.mem_replicate.1 hx).2]; decide
  · decide
theorem places_info : (Tryd.prog.info? 138).map (·.size) = some 264 := by kernel_rfl
set_option maxRecDepth 100000 in
set_option maxHeartbeats 4000000 in
theorem kill_any (g : Nat) (s : Slt) (w : World) (hS : Sl w g s) : Calls Tryd.prog 50 #[.pointer (some ⟨g, 0, none⟩)] w (LkOut w g (killSt s)) := by
  have HK := Lib.hid hS.blk
  have HSZ := Lib.hid hS.ok.size
  have HZL := Lib.hid (show ((zRows.map row).flatten).toArray.size = 264 by kernel_rfl)
  have HFT := Lib.hid (show 0 + ((zRows.map row).flatten).toArray.size ≤ (slC s).length by rw [HZL.out, HSZ.out]; decide)
  have HI := Lib.hid (show (Tryd.prog.info? 138).map (·.size) = some ((zRows.map row).flatten).toArray.size by rw [HZL.out]; exact places_info)
  have HSP := Lib.hid (show splice (slC s) 0 ((zRows.map row).flatten).toArray.toList = slC { rs := zRows, lk := s.lk, dd := s.dd } by
    unfold splice slC
    have h1 : ((zRows.map row).flatten).toArray.toList.length = 264 := by simpa using HZL.out
    rw [List.take_zero, List.nil_append, List.drop_append, List.drop_of_length_le (by rw [h1, flat_len _ hS.ok.rows, List.length_map, hS.ok.len]; decide), List.nil_append, h1, flat_len _ hS.ok.rows, List.length_map, hS.ok.len, show 0 + 264 - 33 * 8 = 0 from rfl, List.drop_zero, List.toList_toArray])
  have HO := Lib.hid (all_oneCell_toArray (cs := (zRows.map row).flatten) (fun v hv => by
    obtain ⟨r, hr, hv⟩ := List.mem_flatten.1 hv
    obtain ⟨p, _, rfl⟩ := List.mem_map.1 hr
    exact row_one p v hv))
  clear hS
  go_enter Tryd.func50, Tryd.ntmps50
  go_upto_region 2 with (refine wpList_store_frm rfl 138 (.tmp 7) (.tmp 5) rfl g 0 ((zRows.map row).flatten).toArray rfl (by kernel_rfl) 140 (slC s) HK.out HFT.out HI.out HO.out ?_; intro w2 K2 F2)
  rw [HSP.out] at K2
  have hk2 : Sl w2 g { rs := zRows, lk := s.lk, dd := s.dd } := ⟨zRows_ok _ _, K2⟩
  have hc : w2.cell? ⟨g, 265, none⟩ = some (.bool s.dd) := hk2.cellAt hk2.ok.deadAt
  have hf : w2.frozen? ⟨g, 265, none⟩ = false := hk2.blk.frozen _
  have hl := hk2.lt
  have HE := Lib.hid (show Sl (w2.setCell ⟨g, 265, none⟩ (.bool true)) g (killSt s) from ⟨zRows_ok _ _, by
    have := hk2.blk.set 265 (.bool true)
    simp only [List.setIfInBounds_toArray] at this
    rw [slC_dead _ true hk2.ok] at this
    exact this⟩)
  have HF := Lib.hid (show Frm [g] w (w2.setCell ⟨g, 265, none⟩ (.bool true)) from F2.setCell (p := ⟨g, 265, none⟩) (.inl (by simp)) _)
  clear hk2 K2 F2
  go_wp2_with fail
  go_light
  go_end0
  exact ⟨rfl, HE.out, HF.out⟩
set_option maxHeartbeats 1000000 in
theorem kill_nil (w : World) : Calls Tryd.prog 50 #[.pointer none] w (fun e w' => e = .returned (.tuple #[]) ∧ w = w') := by
  go_enter Tryd.func50, Tryd.ntmps50
  go_wp2_with fail
  go_light
  go_end0
  exact ⟨rfl, rfl⟩
end Slot
end Go.Proofs.YtpakdcgcgekcfaaDoor

/-
  Package slot: New, Count, Wipe.
-/
set_option linter.unusedSimpArgs false
set_option linter.unusedVariables false
namespace Go.Proofs.YtpakdcgcgekcfaaDoor
open Go.RowKit

namespace Slot
open Otp R1 Sha Mac
def newSt : Slt := { rs := zRows, lk := false, dd := false }
set_option maxRecDepth 100000 in
set_option maxHeartbeats 1000000 in
theorem snew_any (w : World) : Calls Tryd.prog 34 #[] w (fun e w' => e = .returned (.pointer (some ⟨w.heap.size, 0, none⟩)) ∧ Sl w' w.heap.size newSt ∧ Below w.heap.size w w') := by
  have HZ : (slC newSt).toArray = Tryd.zeroCells140 := by kernel_rfl
  have HK := Lib.hid (show Blk (w.alloc (.cells Tryd.zeroCells140 140)) w.heap.size 140 (slC newSt).toArray by rw [HZ]; exact Blk.new _ _ _)
  have HB := Lib.hid ((Below.refl _ w).alloc (Nat.le_refl _) (.cells Tryd.zeroCells140 140))
  clear HZ
  go_enter Tryd.func34, Tryd.ntmps34
  go_wp2_with fail
  go_light
  go_ret
  exact ⟨rfl, ⟨zRows_ok _ _, HK.out⟩, HB.out⟩
/-- How many of the first places aren't empty. -/
def cntE (s : Slt) : Nat → Nat
  | 0 => 0
  | i + 1 => cntE s i + (if kindE s (i : Int) = 0 then 0 else 1)
theorem cntE_le (s : Slt) : ∀ i, cntE s i ≤ i
  | 0 => Nat.le_refl _
  | i + 1 => by have := cntE_le s i; unfold cntE; split <;> omega
theorem wfI_small {h : Int} (h1 : -1000 ≤ h) (h2 : h ≤ 1000) : wfI h := by
  unfold wfI
  simp only [Lit.wf]
  have hm : IntKind.i64.min = -9223372036854775808 := by decide
  have hx : IntKind.i64.max = 9223372036854775807 := by decide
  rw [hm, hx]
  simp only [Bool.and_eq_true, decide_eq_true_eq]
  omega
set_option maxRecDepth 100000 in
set_option maxHeartbeats 2000000 in
theorem count_of (q : Value) (K : Nat → Nat) (w : World) (HK : ∀ (i : Nat) W, i < 8 → Below w.heap.size w W → Calls Tryd.prog 41 #[q, .int .i64 (i : Int)] W (IntBelow W (K i)))
    (C : Nat → Nat) (h0 : C 0 = 0) (hC : ∀ i, C (i + 1) = C i + (if K i = 0 then 0 else 1)) (hCl : ∀ i, C i ≤ i) : Calls Tryd.prog 42 #[q] w (IntBelow w (C 8)) := by
  have HKK := Lib.hid HK
  have HC := Lib.hid hC
  have HC0 := Lib.hid h0
  have HCL := Lib.hid hCl
  clear HK hC h0 hCl
  go_enter Tryd.func42, Tryd.ntmps42
  go_wp2_with fail
  go_loopg [3, 5] 8 (fun gm s3 s5 wr => ∃ (i c : Nat), i + gm = 8 ∧ s5 = .int .i64 (i : Int) ∧ s3 = .int .i64 (c : Int) ∧ Hid (c = C i) ∧ c ≤ i ∧ Hid (Below w.heap.size w wr))
  case atStart => exact ⟨0, 0, by omega, rfl, rfl, Lib.hid HC0.out.symm, Nat.le_refl _, Lib.hid (Below.refl _ _)⟩
  case round =>
    obtain ⟨i, c, hg, rfl, rfl, HCC, hci, HB⟩ := hrel
    have HG := Lib.hid hg
    have hi : i ≤ 8 := by omega
    clear hg
    by_cases hlt : i < 8
    · have HS := Lib.hid (HC.out i)
      obtain ⟨k, hk⟩ : ∃ k, K i = k := ⟨_, rfl⟩
      have HKI := Lib.hid (HKK.out i wr hlt HB.out)
      rw [hk] at HKI HS
      clear hk
      by_cases hk0 : k = 0
      · have hb : (((k : Nat) : Int) != 0) = false := by rw [bne_eq_false_iff_eq]; omega
        rw [if_pos hk0, Nat.add_zero] at HS
        go_wp2_with fail
        (with_reducible refine HKI.out.mono ?_); rintro e w2 ⟨rfl, hB⟩
        have HB2 := Lib.hid (below_then HB.out hB (Nat.le_refl _))
        clear hB
        go_wp2_with fail
        go_light
        go_roundg (8 - (i + 1))
        case measure => have := HG.out; omega
        case rel => exact ⟨i + 1, c, by omega, by go_num, rfl, Lib.hid (by have := HS.out; rw [HCC.out]; exact this.symm), by omega, HB2⟩
      · have hb : (((k : Nat) : Int) != 0) = true := by rw [bne_iff_ne]; omega
        rw [if_neg hk0] at HS
        go_wp2_with fail
        (with_reducible refine HKI.out.mono ?_); rintro e w2 ⟨rfl, hB⟩
        have HB2 := Lib.hid (below_then HB.out hB (Nat.le_refl _))
        clear hB
        go_wp2_with fail
        go_light
        go_roundg (8 - (i + 1))
        case measure => have := HG.out; omega
        case rel => exact ⟨i + 1, c + 1, by omega, by go_num, by go_num, Lib.hid (by have := HS.out; rw [HCC.out]; exact this.symm), by omega, HB2⟩
    · have : i = 8 := by omega
      subst this
      go_wp2_with fail
      go_light
      go_ret
      exact ⟨by rw [HCC.out]; rfl, HB.out⟩
end Slot
end Go.Proofs.YtpakdcgcgekcfaaDoor

/-
  Package slot, plain: wiping, counting, a chain of keys.
-/
set_option linter.unusedSimpArgs false
set_option linter.unusedVariables false
namespace Go.Proofs.YtpakdcgcgekcfaaDoor
open Go.RowKit

namespace Slot
open Otp R1 Sha Mac
theorem mayE_in {s : Slt} (hd : s.dd = false) {i : Nat} (hi : i < 8) : mayE s [(i : Int)] = 0 := by
  unfold mayE
  rw [hd, if_neg (by decide), if_pos]
  simp [inR]
  omega
theorem mayE_put (s : Slt) (i : Nat) (p : Nat × List Nat) (l : List Int) : mayE (s.put i p) l = mayE s l := rfl
theorem row_put {s : Slt} (hok : s.Ok) {i : Nat} (hi : i < 8) (p : Nat × List Nat) (j : Nat) : (s.put i p).rs[j]? = if i = j then some p else s.rs[j]? := by
  show (s.rs.set i p)[j]? = _
  rw [List.getElem?_set]
  by_cases h : i = j
  · rw [if_pos h, if_pos h, if_pos (by rw [hok.len]; exact hi)]
  · rw [if_neg h, if_neg h]
theorem kindE_put {s : Slt} (hok : s.Ok) (hd : s.dd = false) {i : Nat} (hi : i < 8) (p : Nat × List Nat) (h : Int) : kindE (s.put i p) h = if h = (i : Int) then p.1 else kindE s h := by
  unfold kindE
  rw [mayE_put]
  by_cases h0 : mayE s [h] = 0
  · obtain ⟨_, h1, h2⟩ := mayE_zero h0
    rw [if_pos h0, if_pos h0, row_put hok hi]
    by_cases hh : h = (i : Int)
    · rw [if_pos hh, if_pos (by omega)]
      rfl
    · rw [if_neg hh, if_neg (by omega)]
  · have hne : h ≠ (i : Int) := by
      rintro rfl
      exact h0 (mayE_in hd hi)
    rw [if_neg h0, if_neg h0, if_neg hne]
theorem keyOf_put {s : Slt} (hok : s.Ok) {i : Nat} (hi : i < 8) (p : Nat × List Nat) (j : Nat) : keyOf (s.put i p) (j : Int) = if i = j then p.2 else keyOf s (j : Int) := by
  unfold keyOf
  rw [Int.toNat_natCast, row_put hok hi]
  by_cases hh : i = j
  · rw [if_pos hh, if_pos hh]
    rfl
  · rw [if_neg hh, if_neg hh]
theorem kindE_out {s : Slt} {h : Int} (hh : ¬ (0 ≤ h ∧ h < 8)) : kindE s h = 0 := by
  unfold kindE
  rw [if_neg]
  intro h0
  exact hh (mayE_zero h0).2
theorem kindE_ok {s : Slt} {h : Int} (hk : kindE s h ≠ 0) : s.dd = false ∧ 0 ≤ h ∧ h < 8 := by
  unfold kindE at hk
  split at hk
  · rename_i h0
    exact mayE_zero h0
  · exact absurd rfl hk
/-- A chain of n + 1 keys, the last one k. -/
structure Chn (s : Slt) (n : Nat) (k : List Nat) : Prop where
  ok : s.Ok
  le : n < 8
  lk : s.lk = false
  dd : s.dd = false
  kind : ∀ j : Nat, j < 8 → kindE s (j : Int) = if j = 0 then 1 else if j ≤ n then 2 else 0
  key : keyOf s (n : Int) = k
  byte : ∀ x ∈ k, x < 256
  len : k.length = 32
theorem newSt_kind (j : Nat) (hj : j < 8) : kindE newSt (j : Int) = 0 := by
  unfold kindE
  rw [if_pos (mayE_in rfl hj), Int.toNat_natCast]
  have : newSt.rs[j]? = some zRow := by
    show zRows[j]? = _
    unfold zRows
    rw [List.getElem?_replicate, if_pos hj]
  rw [this]
  rfl
theorem newSt_ok : newSt.Ok := zRows_ok _ _
theorem lay_new (key : List Nat) : layE newSt 0 1 = 0 ∧ laySt newSt 0 1 key = newSt.put 0 (1, key) := by
  have h : layE newSt 0 1 = 0 := by
    unfold layE
    have h1 : mayE newSt [0] = 0 := mayE_in (s := newSt) rfl (i := 0) (by decide)
    have h2 : kindE newSt 0 = 0 := newSt_kind 0 (by decide)
    rw [h1, h2, if_neg (by decide), if_neg (by decide), if_neg (by decide), if_neg (by decide)]
  exact ⟨h, by unfold laySt; rw [h]; rfl⟩
theorem chn_start {key : List Nat} (hl : key.length = 32) (hb : ∀ x ∈ key, x < 256) : Chn (newSt.put 0 (1, key)) 0 key := by
  refine ⟨newSt_ok.put 0 hl hb (by simp), by decide, rfl, rfl, fun j hj => ?_, ?_, hb, hl⟩
  · rw [kindE_put newSt_ok rfl (by decide), newSt_kind j hj]
    by_cases h : j = 0
    · subst h; rfl
    · rw [if_neg (by omega), if_neg h, if_neg (by omega)]
  · have := keyOf_put newSt_ok (i := 0) (by decide) (1, key) 0
    rw [if_pos rfl] at this
    exact this
section
variable {s : Slt} {n : Nat} {k : List Nat}
theorem Chn.has (h : Chn s n k) {j : Nat} (hj : j ≤ n) : kindE s (j : Int) ≠ 0 := by
  have hn := h.le
  rw [h.kind j (by omega)]
  by_cases h0 : j = 0
  · rw [if_pos h0]; decide
  · rw [if_neg h0, if_pos hj]; decide
theorem Chn.keyE (h : Chn s n k) {j : Nat} (hj : j ≤ n) : keyE s (j : Int) = 0 := by
  have hn := h.le
  unfold Slot.keyE
  rw [mayE_in h.dd (show j < 8 by omega), if_neg (by decide), if_neg (h.has hj)]
theorem Chn.der (h : Chn s n k) (hn : n < 7) (lb : List Nat) (ps : List (List Nat)) : derE s (n : Int) ((n + 1 : Nat) : Int) = 0 ∧ ∃ s', derSt s (n : Int) ((n + 1 : Nat) : Int) lb ps = s' ∧ Chn s' (n + 1) (deriveB k lb ps) := by
  have h1 : mayE s [(n : Int), ((n + 1 : Nat) : Int)] = 0 := by
    unfold mayE
    rw [h.dd, if_neg (by decide), if_pos]
    simp [inR]
    omega
  have h2 : kindE s ((n + 1 : Nat) : Int) = 0 := by
    rw [h.kind (n + 1) (by omega), if_neg (by omega), if_neg (by omega)]
  have hE : derE s (n : Int) ((n + 1 : Nat) : Int) = 0 := by
    unfold derE
    rw [h1, h2, h.keyE (Nat.le_refl _), if_neg (by decide), if_neg (by decide), if_neg (by decide)]
  refine ⟨hE, _, rfl, ?_⟩
  have hdl := deriveB_length k lb ps
  have hdb := deriveB_byte k lb ps
  unfold derSt
  rw [if_pos hE, Int.toNat_natCast, h.key]
  refine ⟨h.ok.put (n + 1) hdl hdb (by simp), by omega, h.lk, h.dd, fun j hj => ?_, ?_, hdb, hdl⟩
  · rw [kindE_put h.ok h.dd (by omega)]
    by_cases hj1 : (j : Int) = ((n + 1 : Nat) : Int)
    · rw [if_pos hj1, if_neg (by omega), if_pos (by omega)]
    · rw [if_neg hj1, h.kind j hj]
      by_cases h0 : j = 0
      · rw [if_pos h0, if_pos h0]
      · rw [if_neg h0, if_neg h0]
        by_cases hjn : j ≤ n
        · rw [if_pos hjn, if_pos (by omega)]
        · rw [if_neg hjn, if_neg (by omega)]
  · rw [keyOf_put h.ok (by omega), if_pos rfl]
theorem Chn.mac (h : Chn s n k) (ps : List (List Nat)) : macD s (n : Int) ps = macB k ps.flatten := by
  unfold macD
  rw [h.keyE (Nat.le_refl _), if_pos rfl, h.key]
theorem Chn.two (h : Chn s n k) (h1 : 1 ≤ n) : kindE s (n : Int) = 2 := by
  rw [h.kind n h.le, if_neg (by omega), if_pos (Nat.le_refl _)]
theorem Chn.cnt (h : Chn s n k) : cntE s 8 = n + 1 := by
  have hn := h.le
  have key : ∀ i, i ≤ 8 → cntE s i = min i (n + 1) := by
    intro i
    induction i with
    | zero => intro _; simp [cntE]
    | succ i ih =>
      intro hi
      rw [cntE, ih (by omega), h.kind i (by omega)]
      by_cases h0 : i = 0
      · subst h0; simp
      · rw [if_neg h0]
        by_cases hin : i ≤ n
        · rw [if_pos hin, if_neg (by decide)]; omega
        · rw [if_neg hin, if_pos rfl]; omega
  rw [key 8 (Nat.le_refl _)]
  omega
end
/-- A place is emptied, and counted. -/
def wipeOne (s : Slt) (h : Int) : Slt := if kindE s h = 0 then s else s.put h.toNat zRow
def wipe1 (p : Slt × Nat) (h : Int) : Slt × Nat := (wipeOne p.1 h, p.2 + if kindE p.1 h = 0 then 0 else 1)
def wipeL (s : Slt) (l : List Int) : Slt × Nat := l.foldl wipe1 (s, 0)
theorem wipeL_snoc (s : Slt) (l : List Int) (h : Int) : wipeL s (l ++ [h]) = wipe1 (wipeL s l) h := by
  unfold wipeL
  rw [List.foldl_append]
  rfl
theorem zRow_ok : zRow.2.length = 32 ∧ (∀ x ∈ zRow.2, x < 256) ∧ zRow.1 ≤ 3 := ⟨rfl, fun x hx => by rw [(List.mem_replicate.1 hx).2]; decide, by decide⟩
theorem wipeOne_ok {s : Slt} (hok : s.Ok) (h : Int) : (wipeOne s h).Ok := by
  unfold wipeOne
  split
  · exact hok
  · exact hok.put _ zRow_ok.1 zRow_ok.2.1 zRow_ok.2.2
theorem wipeL_le (s : Slt) (l : List Int) : (wipeL s l).2 ≤ l.length := by
  have key : ∀ (l : List Int) (p : Slt × Nat), (l.foldl wipe1 p).2 ≤ p.2 + l.length := by
    intro l
    induction l with
    | nil => intro p; exact Nat.le_refl _
    | cons a l ih =>
      intro p
      have := ih (wipe1 p a)
      rw [List.foldl_cons, List.length_cons]
      have h2 : (wipe1 p a).2 ≤ p.2 + 1 := by
        unfold wipe1
        simp only
        split <;> omega
      omega
  have := key l (s, 0)
  simpa [wipeL] using this
theorem wipe_kind {s : Slt} (hok : s.Ok) (hd : s.dd = false) (h : Int) (j : Int) : kindE (wipeOne s h) j = if j = h then 0 else kindE s j := by
  unfold wipeOne
  by_cases h0 : kindE s h = 0
  · rw [if_pos h0]
    by_cases hj : j = h
    · rw [if_pos hj, hj, h0]
    · rw [if_neg hj]
  · rw [if_neg h0]
    obtain ⟨_, h1, h2⟩ := kindE_ok h0
    rw [kindE_put hok hd (by omega)]
    by_cases hj : j = h
    · rw [if_pos hj, if_pos (by omega)]
      rfl
    · rw [if_neg hj, if_neg (by omega)]
theorem Chn.wipe {s : Slt} {n : Nat} {k : List Nat} (h : Chn s n k) : (wipeL s [0, 0, (n : Int)]).2 = 1 + min n 1 := by
  have h0 : kindE s 0 ≠ 0 := h.has (j := 0) (Nat.zero_le _)
  have hn : kindE s (n : Int) ≠ 0 := h.has (Nat.le_refl _)
  have hok1 := wipeOne_ok h.ok 0
  have hd1 : (wipeOne s 0).dd = false := by unfold wipeOne; rw [if_neg h0]; exact h.dd
  have k1 : kindE (wipeOne s 0) 0 = 0 := by rw [wipe_kind h.ok h.dd, if_pos rfl]
  have k2 : kindE (wipeOne (wipeOne s 0) 0) (n : Int) = if n = 0 then 0 else kindE s (n : Int) := by
    rw [wipe_kind hok1 hd1, wipe_kind h.ok h.dd]
    by_cases hz : n = 0
    · subst hz; rfl
    · rw [if_neg hz, if_neg (by omega), if_neg (by omega)]
  simp only [wipeL, List.foldl_cons, List.foldl_nil, wipe1]
  rw [if_neg h0, k1, if_pos rfl, k2]
  by_cases hz : n = 0
  · subst hz; rfl
  · rw [if_neg hz, if_neg hn]
    omega
theorem wipe_none (s : Slt) : (wipeL s [-1, 9]).2 = 0 ∧ (wipeL s [-1, 9]).1 = s := by
  have h1 : kindE s (-1) = 0 := kindE_out (by decide)
  have h2 : wipeOne s (-1) = s := by unfold wipeOne; rw [if_pos h1]
  have h3 : kindE s 9 = 0 := kindE_out (by decide)
  have h4 : wipeOne s 9 = s := by unfold wipeOne; rw [if_pos h3]
  simp only [wipeL, List.foldl_cons, List.foldl_nil, wipe1]
  rw [h2, h4, h1, h3]
  exact ⟨rfl, rfl⟩
end Slot
end Go.Proofs.YtpakdcgcgekcfaaDoor

/-
  Package slot: Wipe; Cipher of nil slots; the reference's Text.
-/
set_option linter.unusedSimpArgs false
set_option linter.unusedVariables false
namespace Go.Proofs.YtpakdcgcgekcfaaDoor
open Go.RowKit

theorem ints_far {k : IntKind} {w w' : World} {S : List Nat} {B : Nat} {A : Option Addr} {zs : List Int} (h : Ints k w B A zs) (hB : B ≤ w.heap.size) (hf : Frm S w w') (hA : ∀ ad : Addr, A = some ad → ad.block ∉ S) : Ints k w' B A zs := fun i z hz => by
  obtain ⟨h1, b, off, h2, h3, h4⟩ := h i z hz
  refine ⟨h1, b, off, h2, h3, ?_⟩
  rw [← h4]
  exact World.cell?_of_block (hf.block b (by omega) (hA _ h2))
namespace Slot
open Otp R1 Sha Mac
set_option maxRecDepth 100000 in
set_option maxHeartbeats 4000000 in
theorem swipe_any (g : Nat) (s : Slt) (A : Option Addr) (l : List Int) (n c : Nat) (w : World) (hS : Sl w g s) (hl : l.length = n) (hn : n ≤ 1000000) (hz : Ints .i64 w w.heap.size A l) (hA : ∀ ad : Addr, A = some ad → ad.block ≠ g) :
    Calls Tryd.prog 43 #[.pointer (some ⟨g, 0, none⟩), .slice A n c] w (WrOut w g (wipeL s l).2 (wipeL s l).1) := by
  subst hl
  have HN := Lib.hid hz
  have HA := Lib.hid hA
  have HZ := Lib.hid (show (row zRow).toArray.size = 33 from row_size (p := zRow) rfl)
  have HO := Lib.hid (all_oneCell_toArray (row_one zRow))
  have HI := Lib.hid (show (Tryd.prog.info? 137).map (·.size) = some (row zRow).toArray.size by rw [HZ.out]; exact place_info)
  have HS0 := Lib.hid hS
  clear hz hA hS
  go_enter Tryd.func43, Tryd.ntmps43
  go_wp2_with fail
  go_loopg [5, 10] l.length (fun gm s5 s10 wr => ∃ (i c : Nat) (st : Slt), i + gm = l.length ∧ s10 = .int .i64 (i : Int) ∧ s5 = .int .i64 (c : Int) ∧ Hid (wipeL s (l.take i) = (st, c)) ∧ c ≤ i ∧ Hid (Sl wr g st) ∧ Hid (Frm [g] w wr))
  case atStart => exact ⟨0, 0, s, by omega, rfl, rfl, Lib.hid rfl, Nat.le_refl _, HS0, Lib.hid (Frm.refl _ _)⟩
  case round =>
    obtain ⟨i, cn, st, hg, rfl, rfl, HW, hci, HS, HF⟩ := hrel
    have HG := Lib.hid hg
    have hi : i ≤ l.length := by omega
    clear hg
    by_cases hlt : i < l.length
    · obtain ⟨z, hx⟩ : ∃ z, l[i]? = some z := ⟨_, List.getElem?_eq_getElem hlt⟩
      obtain ⟨hwz, b, off, rfl, hb, hcx⟩ := (ints_far HN.out (Nat.le_refl _) HF.out (fun ad h => by simp; exact HA.out ad h)) i z hx
      have HT := Lib.hid (take_snoc hx)
      have hb' : b < wr.heap.size := Nat.lt_of_lt_of_le hb HF.out.size
      have HK := Lib.hid (kind_any g st z wr HS.out hwz)
      obtain ⟨k, hk⟩ : ∃ k, kindE st z = k := ⟨_, rfl⟩
      rw [hk] at HK
      clear hx
      by_cases hk0 : k = 0
      · subst hk0
        have HNX := Lib.hid (show wipeL s (l.take (i + 1)) = (st, cn) by
          rw [HT.out, wipeL_snoc, HW.out]
          unfold wipe1 wipeOne
          simp only [hk, if_true, Nat.add_zero])
        clear hk
        go_wp2_with fail
        (with_reducible refine HK.out.mono ?_); rintro e w2 ⟨rfl, hB⟩
        have HS2 := Lib.hid (HS.out.old hB)
        have HF2 := Lib.hid (HF.out.trans (Frm.of_below hB))
        clear hB
        go_wp2_with fail
        go_light
        go_roundg (l.length - (i + 1))
        case measure => have := HG.out; omega
        case rel => exact ⟨i + 1, cn, st, by omega, by go_num, rfl, HNX, by omega, HS2, HF2⟩
      · have hbk : (((k : Nat) : Int) != 0) = true := by rw [bne_iff_ne]; omega
        obtain ⟨hdd, h1, h2⟩ := kindE_ok (s := st) (h := z) (by rw [hk]; exact hk0)
        obtain ⟨j, rfl⟩ : ∃ j : Nat, z = j := ⟨z.toNat, by omega⟩
        have HNX := Lib.hid (show wipeL s (l.take (i + 1)) = (st.put j zRow, cn + 1) by
          rw [HT.out, wipeL_snoc, HW.out]
          unfold wipe1 wipeOne
          simp only [hk, if_neg hk0, Int.toNat_natCast])
        have hj8 : (j : Int) < 8 := h2
        have hok := HS.out.ok
        have HSP := Lib.hid (show splice (slC st) (j * 33) (row zRow).toArray.toList = slC (st.put j zRow) by
          rw [Nat.mul_comm]
          exact hok.splice (by omega) rfl)
        have HFT := Lib.hid (show j * 33 + (row zRow).toArray.size ≤ (slC st).length by rw [HZ.out, hok.size]; omega)
        have HOK := Lib.hid (hok.put j zRow_ok.1 zRow_ok.2.1 zRow_ok.2.2)
        clear hk hdd h1 h2 hok
        go_wp2_with fail
        (with_reducible refine HK.out.mono ?_); rintro e w2 ⟨rfl, hB⟩
        have HS2 := Lib.hid (HS.out.old hB)
        have HF2 := Lib.hid (HF.out.trans (Frm.of_below hB))
        clear hB
        have KS := Lib.hid HS2.out.blk
        go_wp2_with (refine wpList_store_frm rfl 137 (.tmp 23) (.tmp 20) rfl g (j * 33) (row zRow).toArray rfl (by kernel_rfl) 140 (slC st) KS.out HFT.out HI.out HO.out ?_; intro w7 K7 F7)
        rw [HSP.out] at K7
        have HS7 := Lib.hid (show Sl w7 g (st.put j zRow) from ⟨HOK.out, K7⟩)
        have HF7 := Lib.hid (HF2.out.trans F7)
        clear K7 F7 KS
        go_wp2_with fail
        go_light
        go_roundg (l.length - (i + 1))
        case measure => have := HG.out; omega
        case rel => exact ⟨i + 1, cn + 1, _, by omega, by go_num, by go_num, HNX, by omega, HS7, HF7⟩
    · have hil : i = l.length := by omega
      subst hil
      have HE := Lib.hid (show wipeL s l = (st, cn) by have := HW.out; rwa [List.take_length] at this)
      go_wp2_with fail
      go_light
      go_ret
      rw [HE.out]
      exact ⟨rfl, HS.out, HF.out⟩
set_option maxRecDepth 100000 in
set_option maxHeartbeats 2000000 in
theorem swipe_nil (A : Option Addr) (l : List Int) (n c : Nat) (w : World) (hl : l.length = n) (hn : n ≤ 1000000) (hz : Ints .i64 w w.heap.size A l) :
    Calls Tryd.prog 43 #[.pointer none, .slice A n c] w (IntBelow w 0) := by
  subst hl
  have HN := Lib.hid hz
  clear hz
  go_enter Tryd.func43, Tryd.ntmps43
  go_wp2_with fail
  go_loopg [5, 10] l.length (fun gm s5 s10 wr => ∃ (i : Nat), i + gm = l.length ∧ s10 = .int .i64 (i : Int) ∧ s5 = .int .i64 0 ∧ Hid (Below w.heap.size w wr))
  case atStart => exact ⟨0, by omega, rfl, rfl, Lib.hid (Below.refl _ _)⟩
  case round =>
    obtain ⟨i, hg, rfl, rfl, HB⟩ := hrel
    have HG := Lib.hid hg
    have hi : i ≤ l.length := by omega
    clear hg
    by_cases hlt : i < l.length
    · obtain ⟨z, hx⟩ : ∃ z, l[i]? = some z := ⟨_, List.getElem?_eq_getElem hlt⟩
      obtain ⟨hwz, b, off, rfl, hb, hcx⟩ := (HN.out.below HB.out) i z hx
      have hb' : b < wr.heap.size := Nat.lt_of_lt_of_le hb HB.out.size
      clear hx
      go_wp2_with fail
      (with_reducible refine (kind_nil _ _).mono ?_); rintro e w2 ⟨rfl, hB⟩
      have HB2 := Lib.hid (below_then HB.out hB (Nat.le_refl _))
      clear hB
      go_wp2_with fail
      go_light
      go_roundg (l.length - (i + 1))
      case measure => have := HG.out; omega
      case rel => exact ⟨i + 1, by omega, by go_num, rfl, HB2⟩
    · have hil : i = l.length := by omega
      subst hil
      go_wp2_with fail
      go_light
      go_ret
      exact ⟨rfl, HB.out⟩
end Slot
end Go.Proofs.YtpakdcgcgekcfaaDoor

/-
  What stands from a world on, under growth.
-/
set_option linter.unusedSimpArgs false
set_option linter.unusedVariables false
namespace Go.Proofs.YtpakdcgcgekcfaaDoor
open Go.RowKit

/-- What is told of each world that has grown out of w. -/
def From (w : World) (F : World → Prop) : Prop := ∀ W, Below w.heap.size w W → F W
section
variable {w w' : World} {F G : World → Prop}
theorem From.now (h : From w F) : F w := h w (Below.refl _ _)
theorem From.at (h : From w F) {W : World} (hb : Below w.heap.size w W) : F W := h W hb
theorem From.next (h : From w F) (hB : Below w.heap.size w w') : From w' F := fun W k => h W (below_then hB k (Nat.le_refl _))
theorem From.and (h : From w F) (g : From w G) : From w (fun W => F W ∧ G W) := fun W k => ⟨h W k, g W k⟩
theorem From.mono (h : From w F) (g : ∀ W, F W → G W) : From w G := fun W k => g W (h W k)
theorem From.below {B : Nat} {w0 : World} (h : Below B w0 w) (hB : B ≤ w0.heap.size) : From w (fun W => Below B w0 W) := fun _ k => below_then h k hB
theorem From.blk {g : Nat} {t : TypeId} {cs : Array Value} (h : Blk w g t cs) : From w (fun W => Blk W g t cs) := fun _ k => h.next k rfl
theorem From.nats {k : IntKind} {M : Nat} {A : Option Addr} {l : List Nat} (h : Nats k M w w.heap.size A l) : From w (fun W => Nats k M W W.heap.size A l) := fun _ hB => (h.below hB).more hB.size
theorem range_frm {S : List Nat} {g o : Nat} {l : List Value} (h : w.rangeAt g o l) (hf : Frm S w w') (hg : g < w.heap.size) (hS : g ∉ S) : w'.rangeAt g o l := fun j v hv => by
  rw [← h j v hv]
  exact World.cell?_of_block (hf.block g hg hS)
end
end Go.Proofs.YtpakdcgcgekcfaaDoor

/-
  Rel once more, where no block's mark turns: what is told of a slot need only stand under growth of memory.
-/
set_option linter.unusedSimpArgs false
set_option linter.unusedVariables false
namespace Go.Proofs.YtpakdcgcgekcfaaDoor
open Go Go.RowKit

namespace RelG
/-- One operation's doing: what is older than B stands, all else reads the same. -/
structure Step (B : Nat) (W W' : World) : Prop where
  old : Below B W W'
  soft : Rel.Grow W W'
theorem Step.refl (B : Nat) (W : World) : Step B W W := ⟨Below.refl _ _, Rel.Grow.refl _⟩
theorem Step.of {B : Nat} {W W' : World} (hB : B ≤ W.heap.size) (h : Rel.Grow W W') : Step B W W' := ⟨Below.mono h hB, h⟩
/-- What an operation's value is: a constant; or told by a predicate. -/
inductive Kind where
  | const (c : Value)
  | any (V : Value → World → Prop) (h : ∀ v W W', Rel.Grow W W' → V v W → V v W')
def kindOf (ks : List (Tmp × Kind)) (o : Oper) : Option Kind := match o.dst with
  | some d => ks.lookup d
  | none => none
/-- Operations that are walked as they stand. -/
def pureOp (o : Oper) : Bool := match o.op with
  | .move _ | .assign _ | .pick _ _ _ | .build _ _ | .load _ _ | .binOp _ _ _ _ _ | .unOp _ _ _ | .convert _ _ _ | .slice _ _ _ _ _ | .fieldAddr _ _ _ | .field _ _ _ | .indexAddr _ _ _ | .index _ _ _ | .extract _ _ | .sliceToArrayPointer _ _ => true
  | _ => false
section
variable {P : Program} {ops : Array Oper} {md : Region.Mode}
theorem value_of_pure {o : Oper} {ρ : Operand → Value} {w w' : World} {n : Next} (hp : pureOp o = true) (h : (execOp ρ o).run P w = .ok n w') : ∃ u, n = .value u := by
  have key : ∀ (s : Sem Value), (do let x ← s; pure (Next.value x) : Sem Next).run P w = .ok n w' → ∃ u, n = .value u := fun s hs => by
    rw [Sem.run_bind] at hs
    cases hr : s.run P w with
    | ok x w1 => rw [hr] at hs; simp [Result.andThen] at hs; exact ⟨x, hs.1.symm⟩
    | halt x w1 => rw [hr] at hs; simp [Result.andThen] at hs
  obtain ⟨dst, op, type, pos, after, guard⟩ := o
  cases op <;> simp only [pureOp, Bool.false_eq_true] at hp <;> simp only [execOp] at h
  case move x => simp at h; exact ⟨_, h.1.symm⟩
  case assign x => simp at h; exact ⟨_, h.1.symm⟩
  case pick c x y =>
    rw [Sem.run_bind] at h
    cases hr : (asBool (ρ c)).run P w with
    | ok b w1 => rw [hr] at h; simp [Result.andThen] at h; exact ⟨_, h.1.symm⟩
    | halt b w1 => rw [hr] at h; simp [Result.andThen] at h
  all_goals exact key _ h
/-- An operation that may make memory, or call. -/
def relUpon (P : Program) (W : World) (V : Value → World → Prop) : Result Next → Prop
  | .ok (.value v) w' => Rel.Grow W w' ∧ V v w'
  | .ok .skip w' => Rel.Grow W w' ∧ V undef w'
  | .ok (.enter f args) w' => Calls P f args w' (fun e w'' => ∃ v, e = .returned v ∧ Rel.Grow W w'' ∧ V v w'')
  | _ => False
def relAt (P : Program) (o : Oper) (a : Act) (W : World) (V : Value → World → Prop) : Prop := relUpon P W V ((execOp a.eval o).run P W)
def stepUpon (P : Program) (B : Nat) (W : World) (V : Value → World → Prop) : Result Next → Prop
  | .ok (.value v) w' => Step B W w' ∧ V v w'
  | .ok .skip w' => Step B W w' ∧ V undef w'
  | .ok (.enter f args) w' => Calls P f args w' (fun e w'' => ∃ v, e = .returned v ∧ Step B W w'' ∧ V v w'')
  | _ => False
def stepAt (P : Program) (B : Nat) (o : Oper) (a : Act) (W : World) (V : Value → World → Prop) : Prop := stepUpon P B W V ((execOp a.eval o).run P W)
theorem stepAt.of {P : Program} {B : Nat} {o : Oper} {a : Act} {W : World} {V : Value → World → Prop} (hB : B ≤ W.heap.size) (h : relAt P o a W V) : stepAt P B o a W V := by
  unfold relAt at h
  unfold stepAt
  generalize (execOp a.eval o).run P W = r at *
  cases r with
  | ok x w1 =>
    cases x <;> simp only [relUpon] at h <;> simp only [stepUpon]
    case value v => exact ⟨Step.of hB h.1, h.2⟩
    case skip => exact ⟨Step.of hB h.1, h.2⟩
    case enter f args => exact Calls.mono h fun e w'' ⟨v, he, hg, hV⟩ => ⟨v, he, Step.of hB hg, hV⟩
  | halt x w1 => simp only [relUpon] at h
/-- What is told of slots. -/
abbrev Facts := Tmp → World → Prop
def Facts.put (F : Facts) (d : Option Tmp) (p : World → Prop) : Facts := fun x => match d with
  | some y => if x = y then p else F x
  | none => F x
def bare : Facts := fun _ _ => True
/-- The walk in the text's order. -/
def tree (P : Program) (ops : Array Oper) (ks : List (Tmp × Kind)) (w0 : World) (Q : Act → World → Prop) : List Oper → Facts → Act → Prop
  | [], F, a => ∀ W, Rel.Grow w0 W → (∀ d, F d W) → Q a W
  | o :: rest, F, a => if Region.wanted o (yielded ops a.tmps) then
      match kindOf ks o with
      | .none => pureOp o = true ∧ ∃ v, (∀ W, Rel.Grow w0 W → (∀ d, d ∈ o.looksAt ops → F d W) → (execOp a.eval o).run P W = .ok (.value v) W) ∧ tree P ops ks w0 Q rest F (a.put o.dst v)
      | .some (.const c) => (∀ W, Rel.Grow w0 W → (∀ d, d ∈ o.looksAt ops → F d W) → stepAt P w0.heap.size o a W (fun v _ => v = c)) ∧ tree P ops ks w0 Q rest F (a.put o.dst c)
      | .some (.any V _) => (∀ W, Rel.Grow w0 W → (∀ d, d ∈ o.looksAt ops → F d W) → stepAt P w0.heap.size o a W V) ∧ ∀ v, tree P ops ks w0 Q rest (F.put o.dst (V v)) (a.put o.dst v)
    else tree P ops ks w0 Q rest F (a.put o.dst undef)
/-- The region's form: edges lead back; each slot is written once; what is looked at is there, or waited for. -/
def headB (md : Region.Mode) (ops : Array Oper) (n : Nat) : Bool :=
  (List.range n).all fun i => match ops[i]? with
    | .none => false
    | .some o => (o.after.all fun e => !Region.binds md e || decide (e.on < i)) &&
      (List.range n).all fun j => match ops[j]? with
        | .none => false
        | .some p => match p.dst with
          | .none => true
          | .some d => (decide (i = j) || (o.dst != .some d)) && (!(o.looksAt ops).contains d || (decide (j < i) && Region.waitsFor md ops i j))
def canon (n m : Nat) : Array Bool := (List.replicate n true ++ List.replicate (m - n) false).toArray
def tailB (md : Region.Mode) (ops : Array Oper) (n : Nat) : Bool := decide (n = ops.size) || (decide (n < ops.size) && Region.sinkB md ops n && Region.chainB md ops n)
def okB (md : Region.Mode) (ops : Array Oper) (n : Nat) : Bool := Region.noSelect ops && headB md ops n && tailB md ops n && Region.seqB md ops (ops.size - n) n (canon n ops.size)
def cnt (s : Array Bool) : Nat → Nat
  | 0 => 0
  | m + 1 => cnt s m + (if s.getD m false then 0 else 1)
theorem cnt_far {s : Array Bool} {i : Nat} : ∀ m, m ≤ i → cnt (s.setIfInBounds i true) m = cnt s m
  | 0, _ => rfl
  | m + 1, h => by rw [cnt, cnt, cnt_far m (by omega), getD_set_ne false (by omega)]
theorem cnt_set {s : Array Bool} {i : Nat} (hs : i < s.size) (hf : s.getD i false = false) : ∀ m, i < m → cnt (s.setIfInBounds i true) m + 1 = cnt s m
  | m + 1, h => by
    by_cases him : i = m
    · subst him
      have e : (s.setIfInBounds i true).getD i false = true := by simp [hs]
      rw [cnt, cnt, cnt_far i (Nat.le_refl _), e, hf]
      simp
    · rw [cnt, cnt, getD_set_ne false him, ← cnt_set hs hf m (by omega)]
      omega
theorem cnt_zero {s : Array Bool} : ∀ m, cnt s m = 0 → ∀ j, j < m → s.getD j false = true
  | m + 1, h, j, hj => by
    rw [cnt] at h
    by_cases hjm : j = m
    · subst hjm
      cases he : s.getD j false
      · rw [he] at h; simp at h
      · rfl
    · exact cnt_zero m (by omega) j (by omega)
theorem cnt_pos {s : Array Bool} : ∀ m, 0 < cnt s m → ∃ i, i < m ∧ s.getD i false = false ∧ ∀ j, j < i → s.getD j false = true
  | m + 1, h => by
    by_cases h0 : 0 < cnt s m
    · obtain ⟨i, hi, hf, ha⟩ := cnt_pos m h0
      exact ⟨i, by omega, hf, ha⟩
    · refine ⟨m, by omega, ?_, cnt_zero m (by omega)⟩
      rw [cnt] at h
      cases he : s.getD m false
      · rfl
      · rw [he] at h; simp at h; omega
theorem head_edges {n i : Nat} {o : Oper} (h : headB md ops n = true) (hi : i < n) (ho : ops[i]? = some o) : ∀ e ∈ o.after, Region.binds md e = true → e.on < i := fun e he hb => by
  have h1 := List.all_eq_true.1 h i (List.mem_range.2 hi)
  simp only [ho, Bool.and_eq_true] at h1
  have h2 := Array.all_eq_true_iff_forall_mem.1 h1.1 e he
  simpa [hb] using h2
theorem head_apart {n i j : Nat} {o p : Oper} {d : Tmp} (h : headB md ops n = true) (hi : i < n) (ho : ops[i]? = some o) (hj : j < n) (hp : ops[j]? = some p) (hd : p.dst = some d) :
    (i ≠ j → o.dst ≠ some d) ∧ (d ∈ o.looksAt ops → j < i ∧ Region.waitsFor md ops i j = true) := by
  have h1 := List.all_eq_true.1 h i (List.mem_range.2 hi)
  simp only [ho, Bool.and_eq_true] at h1
  have h2 := List.all_eq_true.1 h1.2 j (List.mem_range.2 hj)
  simp only [hp, hd, Bool.or_eq_true, decide_eq_true_eq, Bool.and_eq_true, bne_iff_ne, Bool.not_eq_true'] at h2
  refine ⟨fun hij => h2.1.resolve_left hij, fun hm => ?_⟩
  rcases h2.2 with h3 | h3
  · simp [hm] at h3
  · exact h3
theorem head_op {n i : Nat} (h : headB md ops n = true) (hi : i < n) : ∃ o, ops[i]? = some o := by
  have h1 := List.all_eq_true.1 h i (List.mem_range.2 hi)
  cases ho : ops[i]? with
  | none => simp [ho] at h1
  | some o => exact ⟨o, rfl⟩
theorem exec_agree {a b : Act} (o : Oper) (hs : ∀ cs b, o.op ≠ .select cs b) (h : ∀ d, d ∈ o.looksAt ops → b.tmps[d]? = a.tmps[d]?) : execOp b.eval o = execOp a.eval o ∧ Region.wanted o (yielded ops b.tmps) = Region.wanted o (yielded ops a.tmps) := by
  refine ⟨execOp_congr o hs fun x hx => ?_, ?_⟩
  · cases x with
    | tmp d =>
      have := h d (List.mem_append_left _ (List.mem_filterMap.2 ⟨.tmp d, by simpa using hx, rfl⟩))
      simp [Act.eval, this]
    | _ => rfl
  · unfold Region.wanted
    cases hg : o.guard with
    | none => rfl
    | some gw =>
      obtain ⟨g, want⟩ := gw
      have hy : yielded ops b.tmps g = yielded ops a.tmps g := by
        unfold yielded
        cases ht : (ops[g]?).bind (·.dst) with
        | none => rfl
        | some t =>
          have := h t (by simp [Oper.looksAt, hg, ht])
          simp [this]
      simp only [hy]
end
section
variable (P : Program) (ops : Array Oper) (md : Region.Mode) (n : Nat) (ks : List (Tmp × Kind)) (w0 : World) (a0 : Act)
/-- What is told of an executed operation's slot. -/
def Told (p : Oper) (a : Act) (W : World) (v : Value) : Prop := ∀ V h, kindOf ks p = some (.any V h) → Region.wanted p (yielded ops a.tmps) = true → V v W
def Good (u : Nat → Value) (o : Oper) (a : Act) (w : World) (v : Value) : Prop :=
  if Region.wanted o (yielded ops a.tmps) then
    match kindOf ks o with
    | .none => ∃ W, Rel.Grow w0 W ∧ (∀ d, d ∈ o.looksAt ops → ∀ j p, j < n → ops[j]? = some p → p.dst = some d → Told ops ks p a W (u j)) ∧ (execOp a.eval o).run P W = .ok (.value v) W
    | .some (.const c) => v = c
    | .some (.any V _) => V v w
  else v = undef
structure Inv (s : Array Bool) (a : Act) (w : World) (u : Nat → Value) : Prop where
  head : HeadInv md ops n s
  grow : Rel.Grow w0 w
  defers : a.defers = a0.defers
  size : a.tmps.size = a0.tmps.size
  rest : ∀ d, (∀ j o, j < n → ops[j]? = some o → s.getD j false = true → o.dst ≠ some d) → a.tmps[d]? = a0.tmps[d]?
  slot : ∀ j o d, j < n → ops[j]? = some o → s.getD j false = true → o.dst = some d → a.tmps[d]? = (a0.tmps.setIfInBounds d (u j))[d]?
  good : ∀ j o, j < n → ops[j]? = some o → s.getD j false = true → Good P ops n ks w0 u o a w (u j)
structure Br (s : Array Bool) (a : Act) (u : Nat → Value) (k : Nat) (b : Act) (F : Facts) : Prop where
  defers : b.defers = a0.defers
  size : b.tmps.size = a0.tmps.size
  rest : ∀ d, (∀ j o, j < k → ops[j]? = some o → o.dst ≠ some d) → b.tmps[d]? = a0.tmps[d]?
  slot : ∀ j o d, j < k → ops[j]? = some o → s.getD j false = true → o.dst = some d → b.tmps[d]? = (a0.tmps.setIfInBounds d (u j))[d]?
  free : ∀ d, (∀ j o, j < k → ops[j]? = some o → o.dst ≠ some d) → ∀ W, F d W
  told : ∀ j o d, j < k → ops[j]? = some o → s.getD j false = true → o.dst = some d → ∀ W, Told ops ks o a W (u j) → F d W
end
section
variable {P : Program} {ops : Array Oper} {md : Region.Mode} {n : Nat} {ks : List (Tmp × Kind)} {w0 : World} {a0 : Act} {s : Array Bool} {a : Act} {w : World} {u : Nat → Value}
theorem put_get (a : Act) (x : Option Tmp) (v : Value) (d : Tmp) (h : x ≠ some d) : (a.put x v).tmps[d]? = a.tmps[d]? := by
  cases x with
  | none => rfl
  | some y => simp [Act.put, Array.getElem?_setIfInBounds_ne (show y ≠ d from fun e => h (by rw [e]))]
theorem put_size (a : Act) (x : Option Tmp) (v : Value) : (a.put x v).tmps.size = a.tmps.size := by cases x <;> simp [Act.put]
theorem put_defers (a : Act) (x : Option Tmp) (v : Value) : (a.put x v).defers = a.defers := by cases x <;> rfl
theorem put_self (a : Act) (v : Value) (d : Tmp) (hs : a.tmps.size = a0.tmps.size) : (a.put (some d) v).tmps[d]? = (a0.tmps.setIfInBounds d v)[d]? := by
  simp only [Act.put, Array.getElem?_setIfInBounds, hs]
  simp
theorem waits_done {i j : Nat} {o : Oper} (ho : ops[i]? = some o) (hw : Region.waitsFor md ops i j = true) (h : ∀ e ∈ o.after, Region.binds md e = true → s.getD e.on false = true) : s.getD j false = true := by
  obtain ⟨o', ho', e, he, hb, hon⟩ := Region.waitsFor_spec hw
  rw [ho] at ho'
  cases ho'
  rw [← hon]
  exact h e he hb
/-- Every slot that an operation looks at is settled. -/
def Settled (ops : Array Oper) (n : Nat) (s : Array Bool) (o : Oper) : Prop := ∀ j p d, j < n → ops[j]? = some p → p.dst = some d → d ∈ o.looksAt ops → s.getD j false = true
theorem settled_of (hB : headB md ops n = true) {i : Nat} {o : Oper} (hi : i < n) (ho : ops[i]? = some o) (h : ∀ e ∈ o.after, Region.binds md e = true → s.getD e.on false = true) : Settled ops n s o :=
  fun _ _ _ hj hp hd hm => waits_done ho ((head_apart hB hi ho hj hp hd).2 hm).2 h
theorem looks_agree (hB : headB md ops n = true) (inv : Inv P ops md n ks w0 a0 s a w u) {i : Nat} {o : Oper} (hi : i < n) (ho : ops[i]? = some o) (hset : Settled ops n s o) {b : Act} {F : Facts} (br : Br ops ks a0 s a u i b F) :
    ∀ d, d ∈ o.looksAt ops → b.tmps[d]? = a.tmps[d]? := fun d hm => by
  by_cases h : ∃ j p, j < n ∧ ops[j]? = some p ∧ p.dst = some d
  · obtain ⟨j, p, hj, hp, hd⟩ := h
    have hex := hset j p d hj hp hd hm
    have hlt := ((head_apart hB hi ho hj hp hd).2 hm).1
    rw [br.slot j p d hlt hp hex hd, inv.slot j p d hj hp hex hd]
  · rw [br.rest d (fun j p hj hp hd => h ⟨j, p, by omega, hp, hd⟩), inv.rest d (fun j p hj hp _ hd => h ⟨j, p, hj, hp, hd⟩)]
theorem facts_of (hB : headB md ops n = true) {i : Nat} {o : Oper} (hi : i < n) (ho : ops[i]? = some o) (hset : Settled ops n s o) {b : Act} {F : Facts} (br : Br ops ks a0 s a u i b F) {W : World}
    (h : ∀ d, d ∈ o.looksAt ops → ∀ j p, j < n → ops[j]? = some p → p.dst = some d → Told ops ks p a W (u j)) : ∀ d, d ∈ o.looksAt ops → F d W := fun d hm => by
  by_cases hx : ∃ j p, j < n ∧ ops[j]? = some p ∧ p.dst = some d
  · obtain ⟨j, p, hj, hp, hd⟩ := hx
    exact br.told j p d ((head_apart hB hi ho hj hp hd).2 hm).1 hp (hset j p d hj hp hd hm) hd W (h d hm j p hj hp hd)
  · exact br.free d (fun j p hj hp hd => hx ⟨j, p, by omega, hp, hd⟩) W
theorem told_now (inv : Inv P ops md n ks w0 a0 s a w u) {j : Nat} {p : Oper} (hj : j < n) (hp : ops[j]? = some p) (hex : s.getD j false = true) : Told ops ks p a w (u j) := fun V h hk hw => by
  have := inv.good j p hj hp hex
  unfold Good at this
  rw [if_pos hw, hk] at this
  exact this
theorem br_next {k : Nat} {o : Oper} (hB : headB md ops n = true) (hk : k < n) (ho : ops[k]? = some o) {b : Act} {F F' : Facts} (br : Br ops ks a0 s a u k b F) (v : Value)
    (h1 : s.getD k false = true → v = u k) (h2 : ∀ d, o.dst ≠ some d → F' d = F d) (h3 : ∀ d, s.getD k false = true → o.dst = some d → ∀ W, Told ops ks o a W (u k) → F' d W) : Br ops ks a0 s a u (k + 1) (b.put o.dst v) F' := by
  have hne : ∀ d, (∀ j p, j < k + 1 → ops[j]? = some p → p.dst ≠ some d) → o.dst ≠ some d := fun d h => h k o (by omega) ho
  have hlow : ∀ d, (∀ j p, j < k + 1 → ops[j]? = some p → p.dst ≠ some d) → ∀ j p, j < k → ops[j]? = some p → p.dst ≠ some d := fun d h j p hj hp => h j p (by omega) hp
  refine ⟨by rw [put_defers]; exact br.defers, by rw [put_size]; exact br.size, fun d h => by rw [put_get _ _ _ _ (hne d h)]; exact br.rest d (hlow d h), fun j p d hj hp hex hd => ?_, fun d h W => by rw [h2 d (hne d h)]; exact br.free d (hlow d h) W, fun j p d hj hp hex hd W ht => ?_⟩
  · by_cases hjk : j = k
    · subst hjk
      rw [ho] at hp
      cases hp
      rw [hd, h1 hex]
      exact put_self _ _ _ br.size
    · have hdk : o.dst ≠ some d := (head_apart hB hk ho (show j < n by omega) hp hd).1 (fun e => hjk e.symm)
      rw [put_get _ _ _ _ hdk]
      exact br.slot j p d (by omega) hp hex hd
  · by_cases hjk : j = k
    · subst hjk
      rw [ho] at hp
      cases hp
      exact h3 d hex hd W ht
    · have hdk : o.dst ≠ some d := (head_apart hB hk ho (show j < n by omega) hp hd).1 (fun e => hjk e.symm)
      rw [h2 d hdk]
      exact br.told j p d (by omega) hp hex hd W ht
theorem br_step {Q : Act → World → Prop} (hsel : Region.noSelect ops = true) (hB : headB md ops n = true) (inv : Inv P ops md n ks w0 a0 s a w u) {k : Nat} {o : Oper} {rest : List Oper} (hk : k < n) (ho : ops[k]? = some o) {b : Act} {F : Facts} (br : Br ops ks a0 s a u k b F)
    (ht : tree P ops ks w0 Q (o :: rest) F b) : ∃ b' F', tree P ops ks w0 Q rest F' b' ∧ Br ops ks a0 s a u (k + 1) b' F' := by
  have hfree : ∀ d, o.dst = some d → ∀ W, F d W := fun d hd W => br.free d (fun j p hj hp hpd => (head_apart hB hk ho (show j < n by omega) hp hpd).1 (by omega) hd) W
  unfold tree at ht
  cases hex : s.getD k false with
  | false =>
    have nx : ∀ {p : Prop}, s.getD k false = true → p := fun h => by rw [hex] at h; cases h
    by_cases hw : Region.wanted o (yielded ops b.tmps) = true
    · rw [if_pos hw] at ht
      cases hkd : kindOf ks o with
      | none =>
        rw [hkd] at ht
        obtain ⟨_, v, _, h⟩ := ht
        exact ⟨_, F, h, br_next hB hk ho br v (fun h => nx h) (fun _ _ => rfl) (fun _ h => nx h)⟩
      | some kd =>
        rw [hkd] at ht
        cases kd with
        | const c => exact ⟨_, F, ht.2, br_next hB hk ho br c (fun h => nx h) (fun _ _ => rfl) (fun _ h => nx h)⟩
        | any V hV => exact ⟨_, _, ht.2 undef, br_next hB hk ho br undef (fun h => nx h) (fun d hd => by
            funext W
            unfold Facts.put
            cases hod : o.dst with
            | none => rfl
            | some y => simp only []; rw [if_neg (fun e => hd (by rw [hod, e]))]) (fun _ h => nx h)⟩
    · rw [if_neg hw] at ht
      exact ⟨_, F, ht, br_next hB hk ho br undef (fun h => nx h) (fun _ _ => rfl) (fun _ h => nx h)⟩
  | true =>
    have hset := settled_of (s := s) hB hk ho (inv.head.closed k o ho hex)
    obtain ⟨hexec, hwant⟩ := exec_agree o (Region.noSelect_spec hsel k o · · ho) (looks_agree hB inv hk ho hset br)
    have hg := inv.good k o hk ho hex
    unfold Good at hg
    by_cases hw : Region.wanted o (yielded ops b.tmps) = true
    · rw [if_pos hw] at ht
      rw [hwant] at hw
      rw [if_pos hw] at hg
      cases hkd : kindOf ks o with
      | none =>
        rw [hkd] at ht hg
        obtain ⟨_, v, hv, h⟩ := ht
        obtain ⟨W, hgW, hfW, hrW⟩ := hg
        have hrun := hv W hgW (facts_of hB hk ho hset br hfW)
        rw [hexec, hrW] at hrun
        have hvu : v = u k := by injection hrun with h1; injection h1 with h2; exact h2.symm
        exact ⟨_, F, h, br_next hB hk ho br v (fun _ => hvu) (fun _ _ => rfl) (fun d _ hd W _ => hfree d hd W)⟩
      | some kd =>
        rw [hkd] at ht hg
        cases kd with
        | const c => exact ⟨_, F, ht.2, br_next hB hk ho br c (fun _ => hg.symm) (fun _ _ => rfl) (fun d _ hd W _ => hfree d hd W)⟩
        | any V hV => exact ⟨_, _, ht.2 (u k), br_next hB hk ho br (u k) (fun _ => rfl) (fun d hd => by
            funext W
            unfold Facts.put
            cases hod : o.dst with
            | none => rfl
            | some y => simp only []; rw [if_neg (fun e => hd (by rw [hod, e]))]) (fun d _ hd W htold => by
            unfold Facts.put
            rw [hd]
            simp only [if_pos]
            exact htold V hV hkd hw)⟩
    · rw [if_neg hw] at ht
      rw [hwant] at hw
      rw [if_neg hw] at hg
      exact ⟨_, F, ht, br_next hB hk ho br undef (fun _ => hg.symm) (fun _ _ => rfl) (fun d _ hd W _ => hfree d hd W)⟩
theorem reach {Q : Act → World → Prop} (hsel : Region.noSelect ops = true) (hB : headB md ops n = true) (inv : Inv P ops md n ks w0 a0 s a w u) {L : List Oper} (hL : ∀ j, j < n → L[j]? = ops[j]?) (hLn : L.length = n) (ht : tree P ops ks w0 Q L bare a0) :
    ∀ k, k ≤ n → ∃ b F, tree P ops ks w0 Q (L.drop k) F b ∧ Br ops ks a0 s a u k b F
  | 0, _ => ⟨a0, bare, by simpa using ht, rfl, rfl, fun _ _ => rfl, fun j _ _ hj => absurd hj (by omega), fun _ _ _ => trivial, fun j _ _ hj => absurd hj (by omega)⟩
  | k + 1, hk => by
    obtain ⟨b, F, h, br⟩ := reach hsel hB inv hL hLn ht k (by omega)
    obtain ⟨o, ho⟩ := head_op hB (show k < n by omega)
    have hd : L.drop k = o :: L.drop (k + 1) := by
      have h1 : L[k]? = some o := by rw [hL k (by omega)]; exact ho
      obtain ⟨hlt, he⟩ := List.getElem?_eq_some_iff.1 h1
      rw [List.drop_eq_getElem_cons hlt, he]
    rw [hd] at h
    exact br_step hsel hB inv (by omega) ho br h
theorem inv_next (hsel : Region.noSelect ops = true) (hB : headB md ops n = true) (inv : Inv P ops md n ks w0 a0 s a w u) {i : Nat} {o : Oper} (hi : i < n) (ho : ops[i]? = some o) (hr : i ∈ Region.ready md ops s) {v : Value} {w' : World} (hg : Step w0.heap.size w w')
    (hgood : Good P ops n ks w0 u o a w' v) : Inv P ops md n ks w0 a0 (s.setIfInBounds i true) (a.put o.dst v) w' (fun j => if j = i then v else u j) := by
  have hun : s.getD i false = false := getD_both (mem_ready.1 hr).1
  have hset : ∀ j, j ≠ i → (s.setIfInBounds i true).getD j false = true → s.getD j false = true := fun j hj h => by rwa [getD_set_ne false (Ne.symm hj)] at h
  -- an executed operation looks not at the new slot
  have hlook : ∀ j p, j < n → ops[j]? = some p → s.getD j false = true → ∀ d, o.dst = some d → d ∉ p.looksAt ops := fun j p hj hp hex d hd hm => by
    have h1 := waits_done (s := s) hp ((head_apart hB hj hp hi ho hd).2 hm).2 (inv.head.closed j p hp hex)
    rw [hun] at h1
    cases h1
  have hself : ∀ d, o.dst = some d → d ∉ o.looksAt ops := fun d hd hm => by
    have := ((head_apart hB hi ho hi ho hd).2 hm).1
    omega
  have htold : ∀ j p, j < n → ops[j]? = some p → s.getD j false = true → ∀ W, Told ops ks p a W (u j) → Told ops ks p (a.put o.dst v) W (if j = i then v else u j) := fun j p hj hp hex W h V hV hk hw => by
    have hji : j ≠ i := fun e => by rw [e, hun] at hex; cases hex
    rw [wanted_put p a o.dst v (hlook j p hj hp hex)] at hw
    rw [if_neg hji]
    exact h V hV hk hw
  have hgoodp : ∀ p, (∀ d, o.dst = some d → d ∉ p.looksAt ops) → (∀ cs b, p.op ≠ .select cs b) → Settled ops n s p → ∀ x, Good P ops n ks w0 u p a w' x → Good P ops n ks w0 (fun j => if j = i then v else u j) p (a.put o.dst v) w' x := fun p hp hsp hsett x h => by
    unfold Good at h ⊢
    rw [wanted_put p a o.dst v hp]
    by_cases hw : Region.wanted p (yielded ops a.tmps) = true
    · rw [if_pos hw] at h ⊢
      cases hkd : kindOf ks p with
      | none =>
        rw [hkd] at h
        simp only at h ⊢
        obtain ⟨W, h1, h2, h3⟩ := h
        refine ⟨W, h1, fun d hm j q hj hq hd => htold j q hj hq (hsett j q d hj hq hd hm) W (h2 d hm j q hj hq hd), ?_⟩
        rw [execOp_put p hsp a o.dst v hp]
        exact h3
      | some kd =>
        rw [hkd] at h
        cases kd <;> exact h
    · rw [if_neg hw] at h ⊢
      exact h
  refine ⟨inv.head.set hr hi, Below.trans inv.grow hg.old, by rw [put_defers]; exact inv.defers, by rw [put_size]; exact inv.size, fun d h => ?_, fun j p d hj hp hex hd => ?_, fun j p hj hp hex => ?_⟩
  · have hlt : i < s.size := by rw [inv.head.size]; exact (Array.getElem?_eq_some_iff.1 ho).1
    rw [put_get _ _ _ _ (h i o hi ho (by simp [hlt]))]
    exact inv.rest d (fun j p hj hp hex => h j p hj hp (getD_set_true hex))
  · by_cases hji : j = i
    · subst hji
      rw [ho] at hp
      cases hp
      rw [hd]
      simp only [if_pos]
      exact put_self _ _ _ inv.size
    · rw [put_get _ _ _ _ ((head_apart hB hi ho hj hp hd).1 (fun e => hji e.symm))]
      simp only [if_neg hji]
      exact inv.slot j p d hj hp (hset j hji hex) hd
  · by_cases hji : j = i
    · subst hji
      rw [ho] at hp
      cases hp
      simp only [if_pos]
      exact hgoodp o hself (Region.noSelect_spec hsel j o · · ho) (settled_of hB hi ho (mem_ready.1 hr |>.2.elim fun o' h => by
        have e := h.1
        rw [ho] at e
        cases e
        exact h.2)) v hgood
    · have hex' := hset j hji hex
      simp only [if_neg hji]
      refine hgoodp p (hlook j p hj hp hex') (Region.noSelect_spec hsel j p · · hp) (settled_of hB hj hp (inv.head.closed j p hp hex')) (u j) ?_
      have h := inv.good j p hj hp hex'
      unfold Good at h ⊢
      by_cases hw : Region.wanted p (yielded ops a.tmps) = true
      · rw [if_pos hw] at h ⊢
        cases hkd : kindOf ks p with
        | none => rw [hkd] at h; exact h
        | some kd =>
          rw [hkd] at h
          cases kd with
          | const c => exact h
          | any V hV => exact hV _ _ _ hg.soft h
      · rw [if_neg hw] at h ⊢
        exact h
theorem wp_of_rel {B : Nat} {o : Oper} {V : Value → World → Prop} {R : Exit → Act → World → Prop} {K : Act → World → Prop} (h : stepAt P B o a w V) (hK : ∀ v w', Step B w w' → V v w' → K (a.put o.dst v) w') : o.wp P a w K R := by
  unfold stepAt at h
  unfold Oper.wp
  generalize (execOp a.eval o).run P w = r at *
  cases r with
  | ok x w1 =>
    cases x <;> simp only [stepUpon] at h <;> simp only [Oper.upon]
    case value v => exact hK _ _ h.1 h.2
    case skip => exact hK _ _ h.1 h.2
    case enter f args => exact Calls.mono h fun e w'' ⟨v, he, hg, hV⟩ => by subst he; exact hK _ _ hg hV
  | halt x w1 => simp only [stepUpon] at h
theorem canon_eq {s : Array Bool} {m : Nat} (hn : n ≤ m) (hs : s.size = m) (h1 : ∀ j, j < n → s.getD j false = true) (h2 : ∀ j, n ≤ j → j < m → s.getD j true = false) : s = canon n m := by
  apply Array.ext_getElem?
  intro j
  unfold canon
  have e : (List.replicate n true ++ List.replicate (m - n) false).toArray[j]? = (List.replicate n true ++ List.replicate (m - n) false)[j]? := by rw [List.getElem?_toArray]
  rw [e]
  by_cases hj : j < m
  · have hjs : j < s.size := by omega
    rw [Array.getElem?_eq_getElem hjs]
    by_cases hjn : j < n
    · have := h1 j hjn
      simp only [Array.getD_eq_getD_getElem?, Array.getElem?_eq_getElem hjs, Option.getD_some] at this
      rw [this, List.getElem?_append_left (by rw [List.length_replicate]; exact hjn), List.getElem?_replicate, if_pos hjn]
    · have := h2 j (by omega) hj
      simp only [Array.getD_eq_getD_getElem?, Array.getElem?_eq_getElem hjs, Option.getD_some] at this
      rw [this, List.getElem?_append_right (by rw [List.length_replicate]; omega), List.length_replicate, List.getElem?_replicate, if_pos (by omega)]
  · rw [Array.getElem?_eq_none (by omega), List.getElem?_eq_none (by rw [List.length_append, List.length_replicate, List.length_replicate]; omega)]
theorem tree_any {Q : Act → World → Prop} {R : Exit → Act → World → Prop} {g : Nat} (hsel : Region.noSelect ops = true) (hB : headB md ops n = true) (hn : n ≤ ops.size) (hT : ∀ s, HeadInv md ops n s → ∀ i, i < n → s.getD i true = false → ∀ t, t ∈ Region.ready md ops s → t < n)
    {L : List Oper} (hL : ∀ j, j < n → L[j]? = ops[j]?) (hLn : L.length = n) (ht : tree P ops ks w0 Q L bare a0) (hQ : ∀ a w, Q a w → wpAny P md ops R g (canon n ops.size) a w) :
    ∀ (m : Nat) (s : Array Bool) (a : Act) (w : World) (u : Nat → Value), Inv P ops md n ks w0 a0 s a w u → cnt s n = m → wpAny P md ops R (m + g) s a w
  | 0, s, a, w, u, inv, hc => by
    have hall := cnt_zero n hc
    obtain ⟨b, F, h, br⟩ := reach hsel hB inv hL hLn ht n (Nat.le_refl _)
    rw [List.drop_of_length_le (by omega)] at h
    have hba : b = a := by
      have e1 : b.tmps = a.tmps := by
        apply Array.ext_getElem?
        intro d
        by_cases hx : ∃ j p, j < n ∧ ops[j]? = some p ∧ p.dst = some d
        · obtain ⟨j, p, hj, hp, hd⟩ := hx
          rw [br.slot j p d hj hp (hall j hj) hd, inv.slot j p d hj hp (hall j hj) hd]
        · rw [br.rest d (fun j p hj hp hd => hx ⟨j, p, hj, hp, hd⟩), inv.rest d (fun j p hj hp _ hd => hx ⟨j, p, hj, hp, hd⟩)]
      have e2 : b.defers = a.defers := br.defers.trans inv.defers.symm
      cases b; cases a
      simp only at e1 e2
      rw [e1, e2]
    rw [hba] at h
    have hq : Q a w := h w inv.grow (fun d => by
      by_cases hx : ∃ j p, j < n ∧ ops[j]? = some p ∧ p.dst = some d
      · obtain ⟨j, p, hj, hp, hd⟩ := hx
        exact br.told j p d hj hp (hall j hj) hd w (told_now inv hj hp (hall j hj))
      · exact br.free d (fun j p hj hp hd => hx ⟨j, p, hj, hp, hd⟩) w)
    rw [Nat.zero_add, canon_eq hn inv.head.size hall (fun j h1 h2 => inv.head.tail j h1 h2)]
    exact hQ a w hq
  | m + 1, s, a, w, u, inv, hc => by
    have e : m + 1 + g = m + g + 1 := by omega
    rw [e]
    obtain ⟨i0, hi0, hf0, hlow⟩ := cnt_pos (s := s) n (by omega)
    have hs0 : i0 < s.size := by rw [inv.head.size]; omega
    obtain ⟨o0, ho0⟩ := head_op hB hi0
    have hr0 : i0 ∈ Region.ready md ops s := mem_ready.2 ⟨getD_in hs0 hf0, o0, ho0, fun e he hb => hlow e.on (head_edges hB hi0 ho0 e he hb)⟩
    refine ⟨fun h => (by rw [h] at hr0; cases hr0), fun i hi => ?_⟩
    have hin : i < n := hT s inv.head i0 hi0 (getD_in hs0 hf0) i hi
    obtain ⟨hun, o, ho, hall⟩ := mem_ready.1 hi
    have hset : Settled ops n s o := settled_of hB hin ho hall
    obtain ⟨b, F, h, br⟩ := reach hsel hB inv hL hLn ht i (by omega)
    have hd : L.drop i = o :: L.drop (i + 1) := by
      have h1 : L[i]? = some o := by rw [hL i hin]; exact ho
      obtain ⟨hlt, he⟩ := List.getElem?_eq_some_iff.1 h1
      rw [List.drop_eq_getElem_cons hlt, he]
    rw [hd] at h
    obtain ⟨hexec, hwant⟩ := exec_agree o (Region.noSelect_spec hsel i o · · ho) (looks_agree hB inv hin ho hset br)
    have hfw := facts_of hB hin ho hset br (W := w) (fun d hm j p hj hp hpd => told_now inv hj hp (hset j p d hj hp hpd hm))
    have hcs : cnt (s.setIfInBounds i true) n = m := by
      have := cnt_set (s := s) (i := i) (by rw [inv.head.size]; omega) (getD_both hun) n hin
      omega
    have next : ∀ v w', Step w0.heap.size w w' → Good P ops n ks w0 u o a w' v → wpAny P md ops R (m + g) (s.setIfInBounds i true) (a.put o.dst v) w' := fun v w' hg hgood =>
      tree_any hsel hB hn hT hL hLn ht hQ m _ _ _ _ (inv_next hsel hB inv hin ho hi hg hgood) hcs
    unfold tree at h
    unfold wpOp
    simp only [ho]
    by_cases hw : Region.wanted o (yielded ops b.tmps) = true
    · rw [if_pos hw] at h
      rw [hwant] at hw
      rw [if_pos hw]
      refine .inl ?_
      have hgd : ∀ v w', (match kindOf ks o with
          | .none => ∃ W, Rel.Grow w0 W ∧ (∀ d, d ∈ o.looksAt ops → ∀ j p, j < n → ops[j]? = some p → p.dst = some d → Told ops ks p a W (u j)) ∧ (execOp a.eval o).run P W = .ok (.value v) W
          | .some (.const c) => v = c
          | .some (.any V _) => V v w') → Good P ops n ks w0 u o a w' v := fun v w' hx => by
        unfold Good
        rw [if_pos hw]
        exact hx
      cases hkd : kindOf ks o with
      | none =>
        rw [hkd] at h
        obtain ⟨_, v, hv, _⟩ := h
        have hrun := hv w inv.grow hfw
        rw [hexec] at hrun
        unfold Oper.wp
        rw [hrun]
        exact next v w (Step.refl _ _) (hgd v w (by
          rw [hkd]
          exact ⟨w, inv.grow, fun d hm j p hj hp hpd => told_now inv hj hp (hset j p d hj hp hpd hm), hrun⟩))
      | some kd =>
        rw [hkd] at h
        cases kd with
        | const c =>
          have hr := h.1 w inv.grow hfw
          unfold stepAt at hr
          rw [hexec] at hr
          exact wp_of_rel hr (fun v w' hg hv => next v w' hg (hgd v w' (by rw [hkd]; exact hv)))
        | any V hV =>
          have hr := h.1 w inv.grow hfw
          unfold stepAt at hr
          rw [hexec] at hr
          exact wp_of_rel hr (fun v w' hg hv => next v w' hg (hgd v w' (by rw [hkd]; exact hv)))
    · rw [hwant] at hw
      rw [if_neg hw]
      exact next undef w (Step.refl _ _) (by unfold Good; rw [if_neg hw])
/-- The region's law: n operations in whatever order, then a tail in one order. -/
theorem wp_region_rel {id : Nat} {Q : Exit → Act → World → Prop} {a : Act} {w : World} {l : List Oper} (n : Nat) (ks : List (Tmp × Kind)) (hm : P.follows .mixedOrders = true) (hB : okB .any l.toArray n = true)
    (h : tree P l.toArray ks w.drew (fun a' W => wpList P l.toArray Q (l.drop n) a' W) (l.take n) bare a) : (Code.region id l.toArray true).wp P Q a w := by
  simp only [okB, Bool.and_eq_true] at hB
  obtain ⟨⟨⟨hsel, hhead⟩, htail⟩, hseq⟩ := hB
  have hn : n ≤ l.toArray.size := by
    simp only [tailB, Bool.or_eq_true, decide_eq_true_eq, Bool.and_eq_true] at htail
    omega
  have hnl : n ≤ l.length := by simpa using hn
  have hT : ∀ s, HeadInv .any l.toArray n s → ∀ i, i < n → s.getD i true = false → ∀ t, t ∈ Region.ready .any l.toArray s → t < n := fun s inv i hi hun t ht => by
    simp only [tailB, Bool.or_eq_true, decide_eq_true_eq, Bool.and_eq_true] at htail
    rcases htail with h1 | ⟨⟨h1, h2⟩, h3⟩
    · obtain ⟨_, o, ho, _⟩ := mem_ready.1 ht
      have := (Array.getElem?_eq_some_iff.1 ho).1
      omega
    · rcases Nat.lt_or_ge t n with h4 | h4
      · exact h4
      · exact absurd ht (tail_waits h2 h3 h1 inv _ i rfl hi hun t h4)
  have inv0 : Inv P l.toArray .any n ks w.drew a (Array.replicate l.toArray.size false) a w.drew (fun _ => undef) :=
    ⟨⟨by simp, fun j oj _ hl => (by rw [getD_replicate_false] at hl; cases hl), fun t _ ht => getD_in (by simpa using ht) (getD_replicate_false _ _)⟩, Rel.Grow.refl _, rfl, rfl, fun _ _ => rfl, fun j o d _ _ hl => (by rw [getD_replicate_false] at hl; cases hl), fun j o _ _ hl => (by rw [getD_replicate_false] at hl; cases hl)⟩
  have hc : ∀ m, cnt (Array.replicate l.toArray.size false) m = m := fun m => by
    induction m with
    | zero => rfl
    | succ m ih => rw [cnt, ih, getD_replicate_false]; rfl
  refine wp_region_any hm ?_
  have hdl : (l.drop n).length = l.toArray.size - n := by simp
  have := tree_any (g := l.toArray.size - n) (R := Q) hsel hhead hn hT (L := l.take n) (fun j hj => by simp [hj]) (by simp; omega) h (fun a' w' hq => by
    have h2 := wpAny_of_seq (md := .any) (Q' := Q) (l.drop n) n (canon n l.toArray.size) a' w' (fun j => by simp [List.getElem?_drop]) (by rw [hdl]; exact hseq) hq
    rwa [hdl] at h2) n _ _ _ _ inv0 (hc n)
  rw [show n + (l.toArray.size - n) = l.toArray.size by omega] at this
  exact this
/-! ### Steps -/
theorem tree_skip {Q : Act → World → Prop} {o : Oper} {rest : List Oper} {F : Facts} (hw : Region.wanted o (yielded ops a.tmps) = false) (h : tree P ops ks w0 Q rest F (a.put o.dst undef)) : tree P ops ks w0 Q (o :: rest) F a := by
  unfold tree
  rw [if_neg (by rw [hw]; exact Bool.false_ne_true)]
  exact h
/-- An operation as it stands, in a class of worlds: the quiet walk's own step serves. -/
theorem tree_quiet {Q : Act → World → Prop} {o : Oper} {rest : List Oper} {F : Facts} (hw : Region.wanted o (yielded ops a.tmps) = true) (hk : kindOf ks o = .none) (hp : pureOp o = true)
    (h : ∀ K : Act → Prop, (∀ a', tree P ops ks w0 Q rest F a' → K a') → o.quiet P a (fun w' => ∃ p : Regrown, w' = Sort.grow (redrawn w0 p.d) p.os) K) : tree P ops ks w0 Q (o :: rest) F a := by
  unfold tree
  rw [if_pos hw, hk]
  obtain ⟨v, hv, hn⟩ := h _ (fun _ h => h)
  refine ⟨hp, v, fun W hg _ => ?_, hn⟩
  have hq := hv W (regrown_of_below hg)
  unfold Oper.quietAt at hq
  generalize hr : (execOp a.eval o).run P W = r at *
  cases r with
  | ok x w1 =>
    obtain ⟨y, rfl⟩ := value_of_pure hp hr
    simp only [Oper.quietUpon] at hq
    rw [hq.1, hq.2]
  | halt x w1 => simp only [Oper.quietUpon] at hq
theorem tree_pure {Q : Act → World → Prop} {o : Oper} {rest : List Oper} {F : Facts} (hw : Region.wanted o (yielded ops a.tmps) = true) (hk : kindOf ks o = .none) (hp : pureOp o = true) (v : Value)
    (h : ∀ W, Rel.Grow w0 W → (∀ d, d ∈ o.looksAt ops → F d W) → (execOp a.eval o).run P W = .ok (.value v) W) (hn : tree P ops ks w0 Q rest F (a.put o.dst v)) : tree P ops ks w0 Q (o :: rest) F a := by
  unfold tree
  rw [if_pos hw, hk]
  exact ⟨hp, v, h, hn⟩
theorem tree_const {Q : Act → World → Prop} {o : Oper} {rest : List Oper} {F : Facts} (hw : Region.wanted o (yielded ops a.tmps) = true) (c : Value) (hk : kindOf ks o = some (.const c))
    (h : ∀ W, Rel.Grow w0 W → (∀ d, d ∈ o.looksAt ops → F d W) → relAt P o a W (fun v _ => v = c)) (hn : tree P ops ks w0 Q rest F (a.put o.dst c)) : tree P ops ks w0 Q (o :: rest) F a := by
  unfold tree
  rw [if_pos hw, hk]
  exact ⟨fun W hW hF => stepAt.of (Below.size hW) (h W hW hF), hn⟩
theorem tree_rel {Q : Act → World → Prop} {o : Oper} {rest : List Oper} {F : Facts} (hw : Region.wanted o (yielded ops a.tmps) = true) (V : Value → World → Prop) (hV : ∀ v W W', Rel.Grow W W' → V v W → V v W') (hk : kindOf ks o = some (.any V hV))
    (h : ∀ W, Rel.Grow w0 W → (∀ d, d ∈ o.looksAt ops → F d W) → relAt P o a W V) (hn : ∀ v, tree P ops ks w0 Q rest (F.put o.dst (V v)) (a.put o.dst v)) : tree P ops ks w0 Q (o :: rest) F a := by
  unfold tree
  rw [if_pos hw, hk]
  exact ⟨fun W hW hF => stepAt.of (Below.size hW) (h W hW hF), hn⟩
/-- The same, where an operation turns a new block's mark. -/
theorem tree_step {Q : Act → World → Prop} {o : Oper} {rest : List Oper} {F : Facts} (hw : Region.wanted o (yielded ops a.tmps) = true) (V : Value → World → Prop) (hV : ∀ v W W', Rel.Grow W W' → V v W → V v W') (hk : kindOf ks o = some (.any V hV))
    (h : ∀ W, Rel.Grow w0 W → (∀ d, d ∈ o.looksAt ops → F d W) → stepAt P w0.heap.size o a W V) (hn : ∀ v, tree P ops ks w0 Q rest (F.put o.dst (V v)) (a.put o.dst v)) : tree P ops ks w0 Q (o :: rest) F a := by
  unfold tree
  rw [if_pos hw, hk]
  exact ⟨h, hn⟩
end
end RelG
end Go.Proofs.YtpakdcgcgekcfaaDoor

/-
  The reference's Text (curtilageref01): a text's beginning.
-/
set_option linter.unusedSimpArgs false
set_option linter.unusedVariables false
namespace Go.Proofs.YtpakdcgcgekcfaaDoor
open Go.RowKit

namespace R1
set_option maxHeartbeats 1000000 in
theorem text_any (s : ByteArray) (m : Int) (k : Nat) (w : World) (hmk : m = k) (hk : k ≤ 1000000) (hs : s.size ≤ maxLen) :
    Calls Tryd.prog 36 #[.string s, .int .i64 m] w (fun e w' => ∃ s' : ByteArray, e = .returned (.string s') ∧ s'.size ≤ k ∧ w = w') := by
  subst hmk
  simp only [maxLen] at hs
  by_cases hlt : (s.size : Int) ≤ (k : Int)
  · go_enter Tryd.func36, Tryd.ntmps36
    go_wp2_with fail
    go_light
    go_ret
    refine ⟨_, rfl, ?_, rfl⟩
    first | omega | (rw [ByteArray.size_extract]; omega)
  · go_enter Tryd.func36, Tryd.ntmps36
    go_wp2_with fail
    go_light
    go_ret
    refine ⟨_, rfl, ?_, rfl⟩
    first | omega | (rw [ByteArray.size_extract]; omega)
end R1
end Go.Proofs.YtpakdcgcgekcfaaDoor
