/-
  Texts of this claim, joined: MacA, MacB, MacC, MacD, MacE, SlotD, SlotE, SlotF, RfC, RfD, RfE, RfF.
-/
import Derived.Test.YtpakdcgcgekcfaaDoorProg
import Derived.Test.YtpakdcgcgekcfaaDoorJ52d9bedf
import Derived.Test.YtpakdcgcgekcfaaDoorJ2f1c4a9b
import Derived.Test.YtpakdcgcgekcfaaDoorJ8b3fd3ea
import Derived.Test.YtpakdcgcgekcfaaDoorJb7c72ce9
import Derived.Test.YtpakdcgcgekcfaaDoorJ155f9c5c
import Derived.Deep.LoopGhost
import Derived.Laws.Rows
import Derived.Laws.CopyOwn
import Derived.Laws.BitsAllLaws
import Derived.IntWalk
import Derived.Laws.ResultCell
import Derived.Test.YtpakdcgcgekcfaaDoorJ74515501
set_option linter.unusedVariables false
/-
  Package mac: pad, num, New (keys of at most a block), Feed.
-/
set_option linter.unusedSimpArgs false
set_option linter.unusedVariables false
namespace Go.Proofs.YtpakdcgcgekcfaaDoor
open Go.RowKit

namespace Mac
open Otp R1 Sha
def BytesRet (w : World) (l : List Nat) (e : Ending) (w' : World) : Prop := ∃ v, e = .returned v ∧ Bytes l v w' ∧ Below w.heap.size w w'
theorem bytes_ret {P : Program} {f : FuncId} {args : Array Value} {W : World} {l : List Nat} (h : Calls P f args W (BytesRet W l)) : Calls P f args W (fun e w'' => ∃ v, e = .returned v ∧ Rel.Grow W w'' ∧ Bytes l v w'') :=
  h.mono fun _ _ ⟨v, he, ho, hB⟩ => ⟨v, he, hB, ho⟩
theorem bytes_blk {w : World} {g o n : Nat} {t : TypeId} {L : List Value} {l : List Nat} (h : Blk w g t L.toArray) (hb : ∀ x ∈ l, x < 256) (hc : ∀ (j : Nat) (v : Value), (v8 l)[j]? = some v → L[o + j]? = some v) (hn : l.length = n) (c : Nat) (hcap : n ≤ c) : Bytes l (.slice (some ⟨g, o, none⟩) n c) w := by
  subst hn
  refine ⟨_, c, rfl, hcap, fun i z hz => ⟨hb z (List.mem_of_getElem? hz), g, o, rfl, h.lt, ?_⟩⟩
  rw [h.cell]
  have := hc i (.int .u8 (z : Int)) (by simp [v8, hz])
  simpa using this
theorem bytes_b8 {w : World} {g n : Nat} {t : TypeId} {l : List Nat} (h : Blk w g t (b8 l)) (hb : ∀ x ∈ l, x < 256) (hn : l.length = n) : Bytes l (.slice (some ⟨g, 0, none⟩) n n) w :=
  bytes_blk (o := 0) (L := v8 l) h hb (fun j v hv => by simpa using hv) hn n (Nat.le_refl _)
set_option maxRecDepth 100000 in
set_option maxHeartbeats 2000000 in
theorem pad_to (kb : List Nat) (c : Nat) (ci : Int) (w : World) (hci : ci = c) (hk : kb.length = 64) (hb : ∀ x ∈ kb, x < 256) (hc : c < 256) :
    Calls Tryd.prog 123 #[.agg (b8 kb), .int .u8 ci] w (BytesRet w (kb.map (· ^^^ c))) := by
  subst hci
  obtain ⟨res, hres⟩ : ∃ r, kb.map (· ^^^ c) = r := ⟨_, rfl⟩
  rw [hres]
  have HRL := wall (show res.length = 64 by rw [← hres, List.length_map, hk])
  have HRB := wall (show ∀ x ∈ res, x < 256 by rw [← hres]; exact turn_byte hc hb)
  have HRA := wall (show ∀ i x, kb[i]? = some x → res[i]? = some (x ^^^ c) from fun i x h => by rw [← hres, List.getElem?_map, h]; rfl)
  have HK := wall hk
  have HKB := wall hb
  clear hk hb hres
  go_enter Tryd.func123, Tryd.ntmps123
  go_wp2_with fail
  go_loopg [5, 6] 64 (fun g s5 s6 wr => ∃ i : Nat, i + g = 64 ∧ s6 = .int .i64 (i : Int) ∧ Wall (Blk wr w.heap.size 173 (b8 (res.take i ++ kb.drop i))) ∧ Wall (Below w.heap.size w wr))
  case atStart => exact ⟨0, by omega, rfl, wall (Blk.new w _ _), wall ((Below.refl _ w).alloc (Nat.le_refl _) _)⟩
  case round =>
    obtain ⟨i, hg, rfl, K, HB⟩ := hrel
    have HG := wall hg
    have hi : i ≤ 64 := by omega
    clear hg
    by_cases hlt : i < 64
    · obtain ⟨x, hx⟩ : ∃ x, kb[i]? = some x := ⟨_, List.getElem?_eq_getElem (by have := HK.out; omega)⟩
      have hxM := HKB.out x (List.mem_of_getElem? hx)
      have htl : (res.take i).length = i := by rw [List.length_take, HRL.out]; omega
      have hcx : wr.cell? ⟨w.heap.size, i, none⟩ = some (.int .u8 (x : Int)) := by
        rw [K.out.cell]
        refine b8_at ?_
        rw [List.getElem?_append_right (by omega), htl, Nat.sub_self, List.getElem?_drop, Nat.add_zero]
        exact hx
      have hfr : wr.frozen? ⟨w.heap.size, i, none⟩ = false := K.out.frozen _
      have hxo := u8_xor_nat x c hxM hc
      have HS := wall (show (res.take i ++ kb.drop i).set i (x ^^^ c) = res.take (i + 1) ++ kb.drop (i + 1) by
        rw [take_snoc (HRA.out i x hx), List.set_append_right _ _ (by omega), htl, Nat.sub_self, List.drop_eq_getElem_cons (by have := HK.out; omega), List.set_cons_zero, List.append_assoc]
        rfl)
      have hsz := K.out.lt
      obtain ⟨y, hy⟩ : ∃ y, x ^^^ c = y := ⟨_, rfl⟩
      rw [hy] at hxo HS
      clear hx htl hy
      go_wp2_with fail
      go_light
      go_roundg (64 - (i + 1))
      case measure => have := HG.out; omega
      case rel =>
        refine ⟨i + 1, by omega, by go_num, wall ?_, wall ?_⟩
        · have := K.out.set i (.int .u8 (y : Int))
          rw [b8_set, HS.out] at this
          exact this
        · exact HB.out.setCell (p := ⟨w.heap.size, i, none⟩) (Nat.le_refl _) _
    · have hi64 : i = 64 := by omega
      have hni : ¬ ((i : Int) < 64) := by omega
      have K2 := wall (show Blk wr w.heap.size 173 (b8 res) by
        have := K.out
        rw [hi64, List.take_of_length_le (by rw [HRL.out]; omega), List.drop_of_length_le (by rw [HK.out]; omega), List.append_nil] at this
        exact this)
      clear K hi64 hlt
      go_wp2_with fail
      go_light
      go_ret
      exact ⟨_, rfl, bytes_b8 K2.out HRB.out HRL.out, HB.out⟩
set_option maxHeartbeats 1000000 in
theorem num4_any (z : Int) (n : Nat) (w : World) (hz : z = n) (hn : z ≤ 1000000) : Calls Tryd.prog 106 #[.int .i64 z] w (BytesOut w (numB n 4)) := by
  have HZ := wall hz
  have h0 : 0 ≤ z := by omega
  clear hz
  go_enter Tryd.func106, Tryd.ntmps106
  go_wp2_with fail
  go_light
  go_ret
  refine ⟨.slice (some ⟨w.heap.size, 0, none⟩) 4 4, rfl, ?_, (Below.refl _ w).alloc (Nat.le_refl _) _⟩
  have hl : (numB n 4).length = 4 := numB_length n 4
  have hc : ((numB n 4).map fun x => Value.int .u8 ((x : Nat) : Int)) = [Value.int .u8 (z / 16777216), Value.int .u8 (z / 65536), Value.int .u8 (z / 256 % 256), Value.int .u8 (z % 256)] := by
    have e1 : z / 16777216 = ((n / 256 ^ 3 % 256 : Nat) : Int) := by have := HZ.out; omega
    have e2 : z / 65536 = ((n / 256 ^ 2 % 256 : Nat) : Int) := by have := HZ.out; omega
    have e3 : z / 256 % 256 = ((n / 256 ^ 1 % 256 : Nat) : Int) := by have := HZ.out; omega
    have e4 : z % 256 = ((n / 256 ^ 0 % 256 : Nat) : Int) := by have := HZ.out; omega
    rw [e1, e2, e3, e4]
    rfl
  unfold OwnB
  rw [hc, hl]
  exact ⟨rfl, .inr ⟨w.heap.size, 4, _, rfl, Nat.le_refl _, heap_alloc_new w _, Nat.le_refl _, by decide, rfl, rfl⟩⟩
end Mac
end Go.Proofs.YtpakdcgcgekcfaaDoor

/-
  Package mac: New (keys of at most a block), Feed, Mac.Sum.
-/
set_option linter.unusedSimpArgs false
set_option linter.unusedVariables false
namespace Go.Proofs.YtpakdcgcgekcfaaDoor
open Go.RowKit

namespace Mac
open Otp R1 Sha
/-- The cells of a sum by a key. -/
def mC (a b : List Nat) : List Value := cS a ++ cS b
theorem mC_length (a b : List Nat) : (mC a b).length = 146 := by unfold mC; rw [List.length_append, cS_length, cS_length]
theorem mC_one (a b : List Nat) : ∀ v ∈ mC a b, v.oneCell' = true := fun v hv => by
  unfold mC at hv
  rcases List.mem_append.1 hv with h | h
  · exact cS_one a v h
  · exact cS_one b v h
def zM : List Value := zS ++ zS
theorem mac_info : (Tryd.prog.info? 177).map (·.size) = some 146 := by kernel_rfl
theorem mac_built (x y : List Value) (hx : x.length = 73) (hy : y.length = 73) : Tryd.prog.built 177 [(0, .agg x.toArray), (1, .agg y.toArray)] = some (x ++ y).toArray := by
  have h : Tryd.prog.built 177 [(0, .agg x.toArray), (1, .agg y.toArray)] = Instr.fill ((#[(0, 73), (73, 73)] : Array (Nat × Nat))[·]?) zM.toArray [(0, .agg x.toArray), (1, .agg y.toArray)] := by kernel_rfl
  have hz : zM.length = 146 := rfl
  rw [h, fill_part _ zM 0 x _ 0 (by rw [hx]; rfl) (by rw [hx, hz]; decide), fill_part _ _ 1 y _ 73 (by rw [hy]; rfl) (by rw [length_splice _ _ _ (by rw [hx, hz]; decide), hy, hz]; decide)]
  rw [Instr.fill, show (73 : Nat) = x.length from hx.symm, splice_two zM x y (by rw [hz, hx, hy])]
theorem run_slice_arr_all {P : Program} (t e : TypeId) (N : Nat) (ht : P.underlying t = some (.array N e)) (hs : ∀ w, (sizeOf e).run P w = .ok 1 w) (b o : Nat) (h3 : 0 < N) (w : World) :
    (Instr.sliceAt t (.pointer (some ⟨b, o, none⟩)) none none none).run P w = .ok (.slice (some ⟨b, o, none⟩) N N) w := by
  have hn : P.arrayLen t = N := by simp [Program.arrayLen, ht]
  have he : P.elem t = e := by simp [Program.elem, ht]
  have ht' : P.underlying t = some (.array (P.arrayLen t) (P.elem t)) := by rw [hn, he]; exact ht
  rw [run_sliceAt_array_all w t ⟨b, o, none⟩ ht', he, hs, hn]
  have hne : ¬ N = 0 := by omega
  simp [Result.andThen, slicedAt, hne, Go.WideShapes.add_plain]
set_option maxRecDepth 100000 in
set_option maxHeartbeats 4000000 in
theorem mnew_any (k : List Nat) (A : Option Addr) (len cap : Nat) (w : World) (hT : STab w) (hl : k.length = len) (h64 : len ≤ 64) (hz : Nats .u8 256 w w.heap.size A k) :
    Calls Tryd.prog 104 #[.slice A len cap] w (fun e w' => e = .returned (.agg (mC ((keyB k).map (· ^^^ 54)) ((keyB k).map (· ^^^ 92))).toArray) ∧ Below w.heap.size w w') := by
  obtain ⟨kb, hkb⟩ : ∃ b, keyB k = b := ⟨_, rfl⟩
  obtain ⟨p1, hp1⟩ : ∃ b, kb.map (· ^^^ 54) = b := ⟨_, rfl⟩
  obtain ⟨p2, hp2⟩ : ∃ b, kb.map (· ^^^ 92) = b := ⟨_, rfl⟩
  rw [hkb, hp1, hp2]
  have HKB := wall (show ∀ x ∈ k, x < 256 from fun x hx => by
    obtain ⟨i, hi⟩ := List.mem_iff_getElem?.1 hx
    exact (hz i x hi).1)
  have HBL := wall (show kb.length = 64 by rw [← hkb]; exact keyB_length k)
  have HBB := wall (show ∀ x ∈ kb, x < 256 by rw [← hkb]; exact keyB_byte HKB.out)
  have HP1 := wall (show p1.length = 64 by rw [← hp1, List.length_map]; exact HBL.out)
  have HP2 := wall (show p2.length = 64 by rw [← hp2, List.length_map]; exact HBL.out)
  have HPA1 := wall (fun W => pad_to kb 54 54 W rfl HBL.out HBB.out (by decide))
  have HPA2 := wall (fun W => pad_to kb 92 92 W rfl HBL.out HBB.out (by decide))
  rw [hp1] at HPA1
  rw [hp2] at HPA2
  have HCP := wall (show splice (v8 (List.replicate 64 0)) 0 (v8 k) = v8 kb by
    rw [← hkb, keyB, if_neg (by omega)]
    unfold splice
    rw [List.take_zero, List.nil_append, v8_append, v8_length, hl, Nat.zero_add, v8, v8, v8, ← List.map_drop, List.drop_replicate])
  have HKL := wall (show (v8 k).length = len by rw [v8_length]; exact hl)
  have HT := wall hT
  have HN := wall hz
  have hN0 : 0 < len → ∃ b off, A = some ⟨b, off, none⟩ := fun h => by
    obtain ⟨x, hx⟩ : ∃ x, k[0]? = some x := ⟨_, List.getElem?_eq_getElem (by omega)⟩
    obtain ⟨_, b, off, h, _⟩ := hz 0 x hx
    exact ⟨b, off, h⟩
  have HN0 := wall hN0
  have HSB := wall (show (Tryd.prog.info? 173).map (·.size) = some (b8 kb).size by rw [b8_size, HBL.out]; exact blk64_info)
  clear hkb hp1 hp2 hT hz hl hN0
  obtain ⟨W1, hW1⟩ : ∃ W, W = (w.alloc (.cells zM.toArray 177)).alloc (.cells (v8 (List.replicate 64 0)).toArray 173) := ⟨_, rfl⟩
  have K0 := wall (show Blk W1 w.heap.size 177 zM.toArray by rw [hW1]; exact (Blk.new w _ _).alloc _)
  have K1 := wall (show Blk W1 (w.heap.size + 1) 173 (v8 (List.replicate 64 0)).toArray by rw [hW1]; exact blk_new' (by simp))
  have HB := wall (show Below w.heap.size w W1 by rw [hW1]; exact ((Below.refl _ w).alloc (Nat.le_refl _) _).alloc (by simp) _)
  have HW1 := wall hW1
  clear hW1
  have hsl := run_slice_arr_all (P := Tryd.prog) 173 5 64 Tryd.underlying173 (fun _ => by kernel_rfl) (w.heap.size + 1) 0 (by decide)
  have hni : ¬ ((len : Int) > 64) := by omega
  go_enter Tryd.func104, Tryd.ntmps104
  go_upto_region 2 with fail
  change Code.wp _ _ _ _ ((w.alloc (.cells zM.toArray 177)).alloc (.cells (v8 (List.replicate 64 0)).toArray 173))
  rw [← HW1.out]
  clear HW1
  go_upto_region 6 with (refine wpList_copy_frm rfl (.tmp 12) (.tmp 13) 53 53 rfl 5 Tryd.underlying53 u8_size _ _ 64 64 len cap rfl rfl (w.heap.size + 1) 0 173 _ K1.out (v8 k) len HKL.out (Nat.min_eq_left h64).symm (fun h => ⟨rfl, by obtain ⟨b, off, hA⟩ := HN0.out h; exact ⟨⟨b, off, none⟩, hA, fun j v hv => by obtain ⟨ad, h1, h2⟩ := nats_src (HN.out.below HB.out) j v hv; rw [hA] at h1; cases h1; exact h2⟩⟩) (by rw [v8_length, List.length_replicate]; omega) (fun v hv => by obtain ⟨_, _, rfl⟩ := List.mem_map.1 hv; rfl) ?_; intro w4 hK4 hF4)
  rw [HCP.out] at hK4
  have K14 := wall (show Blk w4 (w.heap.size + 1) 173 (b8 kb) from hK4)
  have K04 := wall (K0.out.frm hF4 (by simp))
  have HB4 := wall (Below.frm HB.out hF4 (Nat.le_refl _) (by simp))
  have HT4 := wall (HT.out.old HB4.out)
  clear hK4 hF4 K0 K1 HB hsl
  refine Rel.wp_region_rel 9 [(15, .const (.agg (cS []).toArray)), (17, .any (Bytes p1) Bytes.grow), (18, .const (.agg (cS p1).toArray)), (19, .const (.agg (cS []).toArray)), (21, .any (Bytes p2) Bytes.grow), (22, .const (.agg (cS p2).toArray))] (by kernel_rfl) (by kernel_rfl) ?_
  simp only [List.take_succ_cons, List.take_zero, List.drop_succ_cons, List.drop_zero]
  refine Rel.tree_const rfl (.agg (cS []).toArray) rfl (fun W hW _ => ?_) ?_
  · unfold Rel.relAt; go_simp; show Calls _ _ _ _ _
    exact const_call (new_any W (HT4.out.old hW.undrew))
  simp only [Act.put, List.setIfInBounds_toArray, List.set_cons_zero, List.set_cons_succ]
  refine Rel.tree_pure rfl rfl rfl (.agg (b8 kb)) (fun W hW _ => Rel.exec_load _ _ rfl (w.heap.size + 1) 0 rfl _ _ (Blk.range (hW.blk K14.out.drew)) Tryd.underlying173 rfl HSB.out) ?_
  simp only [Act.put, List.setIfInBounds_toArray, List.set_cons_zero, List.set_cons_succ]
  refine Rel.tree_rel rfl (Bytes p1) Bytes.grow rfl (fun W hW _ => ?_) (fun v17 => ?_)
  · unfold Rel.relAt; go_simp; show Calls _ _ _ _ _
    exact bytes_ret (HPA1.out W)
  simp only [Act.put, List.setIfInBounds_toArray, List.set_cons_zero, List.set_cons_succ]
  refine Rel.tree_const rfl (.agg (cS p1).toArray) rfl (fun W hW hF => ?_) ?_
  · obtain ⟨A2, c, rfl, hc, hN⟩ : Bytes p1 v17 W := hF 17 (by decide)
    clear hF
    unfold Rel.relAt; go_simp; show Calls _ _ _ _ _
    exact const_call (feed_any [] p1 A2 p1.length c W (HT4.out.old hW.undrew) (by simp) rfl (by have := HP1.out; simp; omega) hc hN)
  simp only [Act.put, List.setIfInBounds_toArray, List.set_cons_zero, List.set_cons_succ]
  refine Rel.tree_const rfl (.agg (cS []).toArray) rfl (fun W hW _ => ?_) ?_
  · unfold Rel.relAt; go_simp; show Calls _ _ _ _ _
    exact const_call (new_any W (HT4.out.old hW.undrew))
  simp only [Act.put, List.setIfInBounds_toArray, List.set_cons_zero, List.set_cons_succ]
  refine Rel.tree_pure rfl rfl rfl (.agg (b8 kb)) (fun W hW _ => Rel.exec_load _ _ rfl (w.heap.size + 1) 0 rfl _ _ (Blk.range (hW.blk K14.out.drew)) Tryd.underlying173 rfl HSB.out) ?_
  simp only [Act.put, List.setIfInBounds_toArray, List.set_cons_zero, List.set_cons_succ]
  refine Rel.tree_rel rfl (Bytes p2) Bytes.grow rfl (fun W hW _ => ?_) (fun v21 => ?_)
  · unfold Rel.relAt; go_simp; show Calls _ _ _ _ _
    exact bytes_ret (HPA2.out W)
  simp only [Act.put, List.setIfInBounds_toArray, List.set_cons_zero, List.set_cons_succ]
  refine Rel.tree_const rfl (.agg (cS p2).toArray) rfl (fun W hW hF => ?_) ?_
  · obtain ⟨A2, c, rfl, hc, hN⟩ : Bytes p2 v21 W := hF 21 (by decide)
    clear hF
    unfold Rel.relAt; go_simp; show Calls _ _ _ _ _
    exact const_call (feed_any [] p2 A2 p2.length c W (HT4.out.old hW.undrew) (by simp) rfl (by have := HP2.out; simp; omega) hc hN)
  simp only [Act.put, List.setIfInBounds_toArray, List.set_cons_zero, List.set_cons_succ]
  refine Rel.tree_pure rfl rfl rfl (.agg (mC p1 p2).toArray) (fun W hW _ => Rel.exec_build _ _ rfl _ (mac_built (cS p1) (cS p2) (cS_length _) (cS_length _))) ?_
  simp only [Act.put, List.setIfInBounds_toArray, List.set_cons_zero, List.set_cons_succ]
  intro W hW _
  have KR := wall (hW.blk K04.out.drew)
  have HBW := wall (below_then HB4.out hW.undrew (Nat.le_refl _))
  have HS := wall (show (Tryd.prog.info? 177).map (·.size) = some (mC p1 p2).toArray.size by rw [List.size_toArray, mC_length]; exact mac_info)
  have HZ := wall (show zM.toArray.size = (mC p1 p2).toArray.size by rw [List.size_toArray, List.size_toArray, mC_length]; rfl)
  have HO := wall (all_oneCell_toArray (mC_one p1 p2))
  clear hW
  go_wp2_with (refine wpList_store_row rfl 177 (.tmp 2) _ rfl w.heap.size (mC p1 p2).toArray rfl rfl 177 zM.toArray KR.out HS.out HZ.out HO.out ?_)
  have hb := setRow_heap _ _ _ (mC p1 p2).toArray _ _ KR.out
  have hB := below_setRow HBW.out (Nat.le_refl _) (mC p1 p2).toArray
  go_light
  exact bodyPost_ret (v := .agg (mC p1 p2).toArray) (results_cell_row Tryd.results104 _ _ w.heap.size 177 (mC p1 p2).toArray (0, 0) _ rfl hb Tryd.underlying177 rfl HS.out) rfl ⟨rfl, hB⟩
end Mac
end Go.Proofs.YtpakdcgcgekcfaaDoor

/-
  Package mac: Feed, Sum of a sum by a key.
-/
set_option linter.unusedSimpArgs false
set_option linter.unusedVariables false
namespace Go.Proofs.YtpakdcgcgekcfaaDoor
open Go.RowKit

namespace Mac
open Otp R1 Sha
def MFeedOut (w : World) (a b : List Nat) (e : Ending) (w' : World) : Prop := e = .returned (.agg (mC a b).toArray) ∧ Below w.heap.size w w'
set_option maxRecDepth 100000 in
set_option maxHeartbeats 4000000 in
theorem mfeed_any (a b p : List Nat) (A : Option Addr) (len cap : Nat) (w : World) (hT : STab w) (ha : ∀ x ∈ a, x < 256) (hpl : p.length = len) (hm : a.length + p.length ≤ 1000000) (hc : len ≤ cap) (hz : Nats .u8 256 w w.heap.size A p) :
    Calls Tryd.prog 105 #[.agg (mC a b).toArray, .slice A len cap] w (MFeedOut w (a ++ p) b) := by
  obtain ⟨W1, hW1⟩ : ∃ W, W = (w.alloc (.cells (mC a b).toArray 177)).alloc (.cells zM.toArray 177) := ⟨_, rfl⟩
  have K0 := wall (show Blk W1 w.heap.size 177 (mC a b).toArray by rw [hW1]; exact (Blk.new w _ _).alloc _)
  have K1 := wall (show Blk W1 (w.heap.size + 1) 177 zM.toArray by rw [hW1]; exact blk_new' (by simp))
  have HB := wall (show Below w.heap.size w W1 by rw [hW1]; exact ((Below.refl _ w).alloc (Nat.le_refl _) _).alloc (by simp) _)
  have HW1 := wall hW1
  have HF := wall (feed_any a p A len cap W1 (hT.old HB.out) ha hpl hm hc ((hz.below HB.out).more HB.out.size))
  have HR := wall (show W1.rangeAt w.heap.size 0 (cS a).toArray.toList from K0.out.rangeAt 0 _ (fun j v hv => by
    rw [Nat.zero_add, mC, List.getElem?_append_left (List.getElem?_eq_some_iff.1 hv).1]
    exact hv))
  have HS1 := wall (show (Tryd.prog.info? 175).map (·.size) = some (cS a).toArray.size by rw [List.size_toArray, cS_length]; exact st_info)
  have HS2 := wall (show (Tryd.prog.info? 175).map (·.size) = some (cS (a ++ p)).toArray.size by rw [List.size_toArray, cS_length]; exact st_info)
  have HFT := wall (show 0 + (cS (a ++ p)).toArray.size ≤ (mC a b).length by rw [List.size_toArray, cS_length, mC_length]; decide)
  have HSP := wall (show splice (mC a b) 0 (cS (a ++ p)).toArray.toList = mC (a ++ p) b by
    unfold splice mC
    rw [List.take_zero, List.nil_append, List.toList_toArray, List.drop_append, List.drop_of_length_le (by rw [cS_length, cS_length]; decide), List.nil_append, cS_length, cS_length, show 0 + 73 - 73 = 0 from rfl, List.drop_zero])
  clear hW1 hT hz hm ha
  go_enter Tryd.func105, Tryd.ntmps105
  go_upto_region 1 with fail
  change Code.wp _ _ _ _ ((w.alloc (.cells (mC a b).toArray 177)).alloc (.cells zM.toArray 177))
  rw [← HW1.out]
  clear HW1
  go_wp2_with (refine wpList_load_arr rfl 175 (.tmp 5) rfl w.heap.size 0 rfl (cS a).toArray _ HR.out Tryd.underlying175 rfl HS1.out ?_)
  (with_reducible refine HF.out.mono ?_); rintro e w6 ⟨rfl, hB6⟩
  have K6 := wall (K0.out.next hB6 rfl)
  have K16 := wall (K1.out.next hB6 rfl)
  have HB6 := wall (below_then HB.out hB6 (Nat.le_refl _))
  clear hB6 K0 K1 HB HF HR
  go_upto_region 2 with (refine wpList_store_frm rfl 175 (.tmp 9) (.tmp 8) rfl w.heap.size 0 (cS (a ++ p)).toArray rfl rfl 177 (mC a b) K6.out HFT.out HS2.out (all_oneCell_toArray (cS_one _)) ?_; intro w7 K7 F7)
  rw [HSP.out] at K7
  have K07 := wall K7
  have K17 := wall (K16.out.frm F7 (by simp))
  have HB7 := wall (Below.frm HB6.out F7 (Nat.le_refl _) (by simp))
  clear K7 F7 K6 K16 HB6
  have HS := wall (show (Tryd.prog.info? 177).map (·.size) = some (mC (a ++ p) b).toArray.size by rw [List.size_toArray, mC_length]; exact mac_info)
  have HZ := wall (show zM.toArray.size = (mC (a ++ p) b).toArray.size by rw [List.size_toArray, List.size_toArray, mC_length]; rfl)
  have HO := wall (all_oneCell_toArray (mC_one (a ++ p) b))
  go_wp2_with (first | refine wpList_load_row rfl 177 _ rfl w.heap.size rfl 177 (mC (a ++ p) b).toArray (0, 0) _ K07.out Tryd.underlying177 rfl HS.out ?_ | refine wpList_store_row rfl 177 (.tmp 4) _ rfl (w.heap.size + 1) (mC (a ++ p) b).toArray rfl rfl 177 zM.toArray K17.out HS.out HZ.out HO.out ?_)
  have hb := setRow_heap _ _ _ (mC (a ++ p) b).toArray _ _ K17.out
  have hB := below_setRow HB7.out (show w.heap.size ≤ w.heap.size + 1 by omega) (mC (a ++ p) b).toArray
  go_light
  exact bodyPost_ret (v := .agg (mC (a ++ p) b).toArray) (results_cell_row Tryd.results105 _ _ (w.heap.size + 1) 177 (mC (a ++ p) b).toArray (0, 0) _ rfl hb Tryd.underlying177 rfl HS.out) rfl ⟨rfl, hB⟩
set_option maxRecDepth 100000 in
set_option maxHeartbeats 4000000 in
theorem msum_any (a b : List Nat) (w : World) (hT : STab w) (ha : ∀ x ∈ a, x < 256) (hb : ∀ x ∈ b, x < 256) (hma : a.length ≤ 900000) (hmb : b.length ≤ 800000) :
    Calls Tryd.prog 107 #[.agg (mC a b).toArray] w (fun e w' => e = .returned (.agg (b8 (sumB (b ++ sumB a)))) ∧ Below w.heap.size w w') := by
  obtain ⟨d, hd⟩ : ∃ d, sumB a = d := ⟨_, rfl⟩
  obtain ⟨r, hr⟩ : ∃ x, sumB (b ++ d) = x := ⟨_, rfl⟩
  obtain ⟨W1, hW1⟩ : ∃ W, W = (w.alloc (.cells (mC a b).toArray 177)).alloc (.cells (b8 (List.replicate 32 0)) 23) := ⟨_, rfl⟩
  have K0 := wall (show Blk W1 w.heap.size 177 (mC a b).toArray by rw [hW1]; exact (Blk.new w _ _).alloc _)
  have K1 := wall (show Blk W1 (w.heap.size + 1) 23 (b8 (List.replicate 32 0)) by rw [hW1]; exact blk_new' (by simp))
  have HB := wall (show Below w.heap.size w W1 by rw [hW1]; exact ((Below.refl _ w).alloc (Nat.le_refl _) _).alloc (by simp) _)
  have HW1 := wall hW1
  have HF := wall (sum_any a W1 (hT.old HB.out) ha hma)
  rw [hd] at HF
  have HDL := wall (show d.length = 32 by rw [← hd]; exact sumB_length _)
  have HDB := wall (show ∀ x ∈ d, x < 256 by rw [← hd]; exact sumB_byte _)
  have HRE := wall (show sumB (b ++ sumB a) = r by rw [hd]; exact hr)
  have HRL := wall (show r.length = 32 by rw [← hr]; exact sumB_length _)
  have HR0 := wall (show W1.rangeAt w.heap.size 0 (cS a).toArray.toList from K0.out.rangeAt 0 _ (fun j v hv => by
    rw [Nat.zero_add, mC, List.getElem?_append_left (List.getElem?_eq_some_iff.1 hv).1]
    exact hv))
  have HS1 := wall (show (Tryd.prog.info? 175).map (·.size) = some (cS a).toArray.size by rw [List.size_toArray, cS_length]; exact st_info)
  have HS2 := wall (show (Tryd.prog.info? 175).map (·.size) = some (cS b).toArray.size by rw [List.size_toArray, cS_length]; exact st_info)
  have HSD := wall (show (Tryd.prog.info? 23).map (·.size) = some (b8 d).size by rw [b8_size, HDL.out]; exact dig_info)
  have HSR := wall (show (Tryd.prog.info? 23).map (·.size) = some (b8 r).size by rw [b8_size, HRL.out]; exact dig_info)
  have HZD := wall (show (b8 (List.replicate 32 0)).size = (b8 d).size by rw [b8_size, b8_size, HDL.out]; rfl)
  have HZR := wall (show (b8 (List.replicate 32 0)).size = (b8 r).size by rw [b8_size, b8_size, HRL.out]; rfl)
  have HTB := wall (show ∀ x ∈ b ++ d, x < 256 from fun x hx => by
    rcases List.mem_append.1 hx with h | h
    · exact hb x h
    · exact HDB.out x h)
  have HT := wall hT
  have HBB := wall hb
  have HRR := wall hr
  clear hW1 hT ha hb hma hd hr
  go_enter Tryd.func107, Tryd.ntmps107
  go_upto_region 1 with fail
  change Code.wp _ _ _ _ ((w.alloc (.cells (mC a b).toArray 177)).alloc (.cells (b8 (List.replicate 32 0)) 23))
  rw [← HW1.out]
  clear HW1
  go_wp2_with (refine wpList_load_arr rfl 175 (.tmp 4) rfl w.heap.size 0 rfl (cS a).toArray _ HR0.out Tryd.underlying175 rfl HS1.out ?_)
  (with_reducible refine HF.out.mono ?_); rintro e w6 ⟨rfl, hB6⟩
  have K6 := wall (K0.out.next hB6 rfl)
  have K16 := wall (K1.out.next hB6 rfl)
  have HB6 := wall (below_then HB.out hB6 (Nat.le_refl _))
  clear hB6 K0 K1 HB HF HR0
  go_upto_region 2 with (refine wpList_new_row rfl 23 (.tmp 3) (.tmp 6) rfl w6.heap.size (b8 d) rfl rfl 23 (b8 (List.replicate 32 0)) (Blk.new _ _ _) HSD.out HZD.out (b8_one _) w6.heap.size w6 ((Below.refl _ w6).alloc (Nat.le_refl _) _) (Nat.le_refl _) ?_; intro w7 KD hB7)
  have hw6 : w.heap.size + 1 < w6.heap.size := K16.out.lt
  have KD := wall (show Blk w7 w6.heap.size 23 (b8 d) from KD.out)
  have K7 := wall (K6.out.next hB7 rfl)
  have K17 := wall (K16.out.next hB7 rfl)
  have HB7 := wall (below_then HB6.out hB7 (Nat.le_refl _))
  have HT7 := wall (HT.out.old HB7.out)
  clear hB7 K6 K16 HB6
  generalize w6.heap.size = gD at *
  have hsl := run_slice_arr_all (P := Tryd.prog) 23 5 32 Tryd.underlying23 (fun _ => by kernel_rfl) gD 0 (by decide)
  go_wp2_with fail
  refine Rel.wp_region_rel 5 [(10, .const (.agg (cS (b ++ d)).toArray)), (11, .const (.agg (b8 r)))] (by kernel_rfl) (by kernel_rfl) ?_
  simp only [List.take_succ_cons, List.take_zero, List.drop_succ_cons, List.drop_zero, Act.put, List.setIfInBounds_toArray, List.set_cons_zero, List.set_cons_succ]
  (refine Rel.tree_quiet rfl rfl rfl (fun K hK => ?_); go_big_quiet_op; refine hK _ ?_; clear hK K)
  refine Rel.tree_pure rfl rfl rfl (.agg (cS b).toArray) (fun W hW _ => Rel.exec_load _ _ rfl w.heap.size 73 rfl _ _ ((hW.blk K7.out.drew).rangeAt 73 _ (fun j v hv => by
    rw [mC, List.getElem?_append_right (by rw [cS_length]; omega), cS_length, show 73 + j - 73 = j by omega]
    exact hv)) Tryd.underlying175 rfl HS2.out) ?_
  simp only [Act.put, List.setIfInBounds_toArray, List.set_cons_zero, List.set_cons_succ]
  (refine Rel.tree_quiet rfl rfl rfl (fun K hK => ?_); go_big_quiet_op; refine hK _ ?_; clear hK K)
  refine Rel.tree_const rfl (.agg (cS (b ++ d)).toArray) rfl (fun W hW _ => ?_) ?_
  · unfold Rel.relAt; go_simp; show Calls _ _ _ _ _
    exact const_call (feed_any b d _ 32 32 W (HT7.out.old hW.undrew) HBB.out HDL.out (by have := HDL.out; omega) (Nat.le_refl _) (nats_b8 (hW.blk KD.out.drew) HDB.out))
  simp only [Act.put, List.setIfInBounds_toArray, List.set_cons_zero, List.set_cons_succ]
  refine Rel.tree_const rfl (.agg (b8 r)) rfl (fun W hW _ => ?_) ?_
  · unfold Rel.relAt; go_simp; show Calls _ _ _ _ _
    have h := sum_any (b ++ d) W (HT7.out.old hW.undrew) HTB.out (by rw [List.length_append, HDL.out]; omega)
    rw [HRR.out] at h
    exact const_call h
  simp only [Act.put, List.setIfInBounds_toArray, List.set_cons_zero, List.set_cons_succ]
  intro W hW _
  have KR := wall (hW.blk K17.out.drew)
  have HBW := wall (below_then HB7.out hW.undrew (Nat.le_refl _))
  clear hW hsl
  go_wp2_with (refine wpList_store_row rfl 23 (.tmp 2) _ rfl (w.heap.size + 1) (b8 r) rfl rfl 23 (b8 (List.replicate 32 0)) KR.out HSR.out HZR.out (b8_one _) ?_)
  have hb := setRow_heap _ _ _ (b8 r) _ _ KR.out
  have hB := below_setRow HBW.out (show w.heap.size ≤ w.heap.size + 1 by omega) (b8 r)
  go_light
  exact bodyPost_ret (v := .agg (b8 r)) (results_cell_row Tryd.results107 _ _ (w.heap.size + 1) 23 (b8 r) (0, 0) _ rfl hb Tryd.underlying23 rfl HSR.out) rfl ⟨by rw [HRE.out], hB⟩
end Mac
end Go.Proofs.YtpakdcgcgekcfaaDoor

/-
  Package mac: Sum and Derive (keys of at most a block).
-/
set_option linter.unusedSimpArgs false
set_option linter.unusedVariables false
namespace Go.Proofs.YtpakdcgcgekcfaaDoor
open Go.RowKit

namespace Mac
open Otp R1 Sha
def ipad (k : List Nat) : List Nat := (keyB k).map (· ^^^ 54)
def opad (k : List Nat) : List Nat := (keyB k).map (· ^^^ 92)
theorem ipad_length (k : List Nat) : (ipad k).length = 64 := by unfold ipad; rw [List.length_map]; exact keyB_length k
theorem opad_length (k : List Nat) : (opad k).length = 64 := by unfold opad; rw [List.length_map]; exact keyB_length k
theorem macB_pads (k p : List Nat) : macB k p = sumB (opad k ++ sumB (ipad k ++ p)) := rfl
theorem flatten_take_snoc {ps : List (List Nat)} {i : Nat} {p : List Nat} (h : ps[i]? = some p) : (ps.take (i + 1)).flatten = (ps.take i).flatten ++ p := by rw [take_snoc h]; simp
theorem flatten_take_le : ∀ (ps : List (List Nat)) (i : Nat), (ps.take i).flatten.length ≤ ps.flatten.length
  | [], i => by simp
  | p :: ps, 0 => by simp
  | p :: ps, i + 1 => by have := flatten_take_le ps i; simp only [List.take_succ_cons, List.flatten_cons, List.length_append]; omega
theorem mem_flatten_le {ps : List (List Nat)} {i : Nat} {p : List Nat} (h : ps[i]? = some p) : (ps.take i).flatten.length + p.length ≤ ps.flatten.length := by
  have h1 := flatten_take_le ps (i + 1)
  rw [flatten_take_snoc h, List.length_append] at h1
  exact h1
def DigOut (w : World) (d : List Nat) (e : Ending) (w' : World) : Prop := e = .returned (.agg (b8 d)) ∧ Below w.heap.size w w'
theorem bytesN_byte {w : World} {B : Nat} {p : List Nat} {v : Value} (h : BytesN w B p v) : ∀ x ∈ p, x < 256 := fun x hx => by
  obtain ⟨A, c, _, _, _, hN⟩ := h
  obtain ⟨i, hi⟩ := List.mem_iff_getElem?.1 hx
  exact (hN i x hi).1
theorem parts_byte {w : World} {B : Nat} {A : Option Addr} {ps : List (List Nat)} (h : Parts w B A ps) : ∀ x ∈ ps.flatten, x < 256 := fun x hx => by
  obtain ⟨p, hp, hx⟩ := List.mem_flatten.1 hx
  obtain ⟨i, hi⟩ := List.mem_iff_getElem?.1 hp
  obtain ⟨_, _, _, _, _, _, h4⟩ := h i p hi
  exact bytesN_byte h4 x hx
set_option maxRecDepth 100000 in
set_option maxHeartbeats 4000000 in
theorem macsum_any (k : List Nat) (A : Option Addr) (len cap : Nat) (ps : List (List Nat)) (PA : Option Addr) (pn pc : Nat) (w : World) (hT : STab w) (hl : k.length = len) (h64 : len ≤ 64) (hz : Nats .u8 256 w w.heap.size A k) (hkb : ∀ x ∈ k, x < 256)
    (hpn : ps.length = pn) (hpm : pn ≤ 1000000) (hP : Parts w w.heap.size PA ps) (hm : ps.flatten.length ≤ 500000) :
    Calls Tryd.prog 85 #[.slice A len cap, .slice PA pn pc] w (DigOut w (macB k ps.flatten)) := by
  subst hpn
  have HNEW := wall (fun W (h1 : STab W) (h2 : Nats .u8 256 W W.heap.size A k) => mnew_any k A len cap W h1 hl h64 h2)
  obtain ⟨ip, hip⟩ : ∃ x, ipad k = x := ⟨_, rfl⟩
  obtain ⟨op, hop⟩ : ∃ x, opad k = x := ⟨_, rfl⟩
  obtain ⟨r, hr⟩ : ∃ x, macB k ps.flatten = x := ⟨_, rfl⟩
  rw [hr]
  change Wall (∀ W, STab W → Nats .u8 256 W W.heap.size A k → Calls Tryd.prog 104 #[.slice A len cap] W (fun e w' => e = .returned (.agg (mC (ipad k) (opad k)).toArray) ∧ Below W.heap.size W w')) at HNEW
  rw [hip, hop] at HNEW
  have HIL := wall (show ip.length = 64 by rw [← hip]; exact ipad_length k)
  have HOL := wall (show op.length = 64 by rw [← hop]; exact opad_length k)
  have HIB := wall (show ∀ x ∈ ip, x < 256 by rw [← hip]; exact turn_byte (by decide) (keyB_byte hkb))
  have HOB := wall (show ∀ x ∈ op, x < 256 by rw [← hop]; exact turn_byte (by decide) (keyB_byte hkb))
  have HR := wall (show sumB (op ++ sumB (ip ++ ps.flatten)) = r by rw [← hr, macB_pads, hip, hop])
  have HRL := wall (show r.length = 32 by rw [← hr]; exact macB_length _ _)
  have HT := wall hT
  have HN := wall hz
  have HP := wall hP
  have HM := wall hm
  have HPB := wall (parts_byte hP)
  have HSM := fun x y => wall (show (Tryd.prog.info? 177).map (·.size) = some (mC x y).toArray.size by rw [List.size_toArray, mC_length]; exact mac_info)
  clear hT hz hP hm hip hop hr hkb
  obtain ⟨W1, hW1⟩ : ∃ W, W = w.alloc (.cells (b8 (List.replicate 32 0)) 23) := ⟨_, rfl⟩
  have K0 := wall (show Blk W1 w.heap.size 23 (b8 (List.replicate 32 0)) by rw [hW1]; exact Blk.new _ _ _)
  have HB := wall (show Below w.heap.size w W1 by rw [hW1]; exact (Below.refl _ w).alloc (Nat.le_refl _) _)
  have HW1 := wall hW1
  clear hW1
  go_enter Tryd.func85, Tryd.ntmps85
  go_upto_region 1 with fail
  change Code.wp _ _ _ _ (w.alloc (.cells (b8 (List.replicate 32 0)) 23))
  rw [← HW1.out]
  clear HW1
  go_wp2_with fail
  (with_reducible refine (HNEW.out _ (HT.out.old HB.out) ((HN.out.below HB.out).more HB.out.size)).mono ?_); rintro e w2 ⟨rfl, hB2⟩
  have K2 := wall (K0.out.next hB2 rfl)
  have HB2 := wall (below_then HB.out hB2 (Nat.le_refl _))
  clear hB2 K0 HB HNEW HN
  have HZM := wall (show zM.toArray.size = (mC ip op).toArray.size by rw [List.size_toArray, List.size_toArray, mC_length]; rfl)
  go_upto_region 2 with (refine wpList_new_row rfl 177 (.tmp 5) (.tmp 9) rfl w2.heap.size (mC ip op).toArray rfl rfl 177 zM.toArray (Blk.new _ _ _) (HSM ip op).out HZM.out (all_oneCell_toArray (mC_one ip op)) w2.heap.size w2 ((Below.refl _ w2).alloc (Nat.le_refl _) _) (Nat.le_refl _) ?_; intro w3 KM hB3)
  have hw2 : w.heap.size < w2.heap.size := K2.out.lt
  have KM := wall (show Blk w3 w2.heap.size 177 (mC (ip ++ (ps.take 0).flatten) op).toArray by rw [List.take_zero, List.flatten_nil, List.append_nil]; exact KM.out)
  have K3 := wall (K2.out.next hB3 rfl)
  have HB3 := wall (below_then HB2.out hB3 (Nat.le_refl _))
  clear hB3 K2 HB2
  generalize w2.heap.size = g at *
  go_wp2_with fail
  go_loopg [12] ps.length (fun gm s12 wr => ∃ i : Nat, i + gm = ps.length ∧ s12 = .int .i64 (i : Int) ∧ Wall (Blk wr w.heap.size 23 (b8 (List.replicate 32 0))) ∧ Wall (Blk wr g 177 (mC (ip ++ (ps.take i).flatten) op).toArray) ∧ Wall (Below w.heap.size w wr))
  case atStart => exact ⟨0, by omega, rfl, K3, KM, HB3⟩
  case round =>
    clear K3 KM HB3
    obtain ⟨i, hg, rfl, K3, KM, HB⟩ := hrel
    have HG := wall hg
    have hi : i ≤ ps.length := by omega
    clear hg
    by_cases hlt : i < ps.length
    · obtain ⟨p, hp⟩ : ∃ p, ps[i]? = some p := ⟨_, List.getElem?_eq_getElem hlt⟩
      obtain ⟨J, off, v, rfl, hJ, hcv, hBN⟩ := (HP.out.below HB.out) i p hp
      obtain ⟨Ap, cp, rfl, hcp, hnil, hN⟩ := hBN
      have HNP := wall hN
      have HFL := wall (flatten_take_snoc hp)
      have hsz := mem_flatten_le hp
      obtain ⟨cur, hcur⟩ : ∃ c, (ps.take i).flatten = c := ⟨_, rfl⟩
      rw [hcur] at KM HFL hsz
      have HCB := wall (show ∀ x ∈ ip ++ cur, x < 256 from fun x hx => by
        rcases List.mem_append.1 hx with h | h
        · exact HIB.out x h
        · rw [← hcur] at h
          obtain ⟨q, hq, hx⟩ := List.mem_flatten.1 h
          exact HPB.out x (List.mem_flatten.2 ⟨q, List.mem_of_mem_take hq, hx⟩))
      have HFE := wall (mfeed_any (ip ++ cur) op p Ap p.length cp wr (HT.out.old HB.out) HCB.out rfl (by rw [List.length_append, HIL.out]; have := HM.out; omega) hcp (HNP.out.more HB.out.size))
      obtain ⟨c2, hc2⟩ : ∃ c, ip ++ cur ++ p = c := ⟨_, rfl⟩
      rw [hc2] at HFE
      obtain ⟨c1, hc1⟩ : ∃ c, ip ++ cur = c := ⟨_, rfl⟩
      rw [hc1] at HFE KM
      have HC2 := wall (show ip ++ (ps.take (i + 1)).flatten = c2 by rw [HFL.out, ← List.append_assoc]; exact hc2)
      have HZ := wall (show (mC c1 op).toArray.size = (mC c2 op).toArray.size by rw [List.size_toArray, List.size_toArray, mC_length, mC_length])
      clear hp hnil hN hcur hsz hc1 hc2 HCB
      go_wp2_with (refine wpList_load_row rfl 177 _ rfl g rfl 177 (mC c1 op).toArray (0, 0) _ KM.out Tryd.underlying177 rfl (HSM _ _).out ?_)
      (with_reducible refine HFE.out.mono ?_); rintro e w5 ⟨rfl, hB5⟩
      have K5 := wall (K3.out.next hB5 rfl)
      have KM5 := wall (KM.out.next hB5 rfl)
      have HB5 := wall (below_then HB.out hB5 (Nat.le_refl _))
      clear hB5 K3 KM HB HFE
      go_wp2_with (refine wpList_store_row rfl 177 (.tmp 5) _ rfl g (mC c2 op).toArray rfl rfl 177 (mC c1 op).toArray KM5.out (HSM _ _).out HZ.out (all_oneCell_toArray (mC_one _ _)) ?_)
      go_light
      go_roundg (ps.length - (i + 1))
      case measure => have := HG.out; omega
      case rel =>
        refine ⟨i + 1, by omega, by go_num, wall ?_, wall ?_, wall ?_⟩
        · exact K5.out.frm (frm_setRow (g := g) w5 _) (by simp; omega)
        · rw [HC2.out]; exact setRow_heap _ _ _ _ _ _ KM5.out
        · exact below_setRow HB5.out (by omega) _
    · have hil : i = ps.length := by omega
      subst hil
      have hni : ¬ (((ps.length : Nat) : Int) < ((ps.length : Nat) : Int)) := by omega
      rw [List.take_length] at KM
      have HTB := wall (show ∀ x ∈ ip ++ ps.flatten, x < 256 from fun x hx => by
        rcases List.mem_append.1 hx with h | h
        · exact HIB.out x h
        · exact HPB.out x h)
      have HSU := wall (msum_any (ip ++ ps.flatten) op wr (HT.out.old HB.out) HTB.out HOB.out (by rw [List.length_append, HIL.out]; have := HM.out; omega) (by rw [HOL.out]; decide))
      rw [HR.out] at HSU
      have HS := wall (show (Tryd.prog.info? 23).map (·.size) = some (b8 r).size by rw [b8_size, HRL.out]; exact dig_info)
      have HZ := wall (show (b8 (List.replicate 32 0)).size = (b8 r).size by rw [b8_size, b8_size, HRL.out]; rfl)
      clear hlt
      go_wp2_with (refine wpList_load_row rfl 177 _ rfl g rfl 177 (mC (ip ++ ps.flatten) op).toArray (0, 0) _ KM.out Tryd.underlying177 rfl (HSM _ _).out ?_)
      (with_reducible refine HSU.out.mono ?_); rintro e w5 ⟨rfl, hB5⟩
      have K5 := wall (K3.out.next hB5 rfl)
      have HB5 := wall (below_then HB.out hB5 (Nat.le_refl _))
      clear hB5 K3 KM HB HSU
      go_wp2_with (refine wpList_store_row rfl 23 (.tmp 4) _ rfl w.heap.size (b8 r) rfl rfl 23 (b8 (List.replicate 32 0)) K5.out HS.out HZ.out (b8_one _) ?_)
      have hb := setRow_heap _ _ _ (b8 r) _ _ K5.out
      have hB := below_setRow HB5.out (Nat.le_refl _) (b8 r)
      go_light
      exact bodyPost_ret (v := .agg (b8 r)) (results_cell_row Tryd.results85 _ _ w.heap.size 23 (b8 r) (0, 0) _ rfl hb Tryd.underlying23 rfl HS.out) rfl ⟨rfl, hB⟩
end Mac
end Go.Proofs.YtpakdcgcgekcfaaDoor

/-
  Package mac: Derive (keys of at most a block).
-/
set_option linter.unusedSimpArgs false
set_option linter.unusedVariables false
namespace Go.Proofs.YtpakdcgcgekcfaaDoor
open Go.RowKit

namespace Mac
open Otp R1 Sha
theorem partsB_snoc (ps : List (List Nat)) (p : List Nat) : partsB (ps ++ [p]) = partsB ps ++ numB p.length 4 ++ p := by simp [partsB]
theorem partsB_take {ps : List (List Nat)} {i : Nat} {p : List Nat} (h : ps[i]? = some p) : partsB (ps.take (i + 1)) = partsB (ps.take i) ++ numB p.length 4 ++ p := by rw [take_snoc h, partsB_snoc]
theorem partsB_length : ∀ ps : List (List Nat), (partsB ps).length = 4 * ps.length + ps.flatten.length
  | [] => rfl
  | p :: ps => by
    have := partsB_length ps
    simp only [partsB, List.flatMap_cons, List.length_append, numB_length, List.length_cons, List.flatten_cons] at this ⊢
    omega
theorem partsB_byte {ps : List (List Nat)} (h : ∀ x ∈ ps.flatten, x < 256) : ∀ x ∈ partsB ps, x < 256 := fun x hx => by
  obtain ⟨p, hp, hx⟩ := List.mem_flatMap.1 hx
  rcases List.mem_append.1 hx with h1 | h1
  · exact numB_byte _ 4 x h1
  · exact h x (List.mem_flatten.2 ⟨p, hp, h1⟩)
theorem sub_byte {a b : List Nat} (ha : ∀ x ∈ a, x < 256) (hb : ∀ x ∈ b, x < 256) : ∀ x ∈ a ++ b, x < 256 := fun x hx => by
  rcases List.mem_append.1 hx with h | h
  · exact ha x h
  · exact hb x h
set_option maxRecDepth 100000 in
set_option maxHeartbeats 8000000 in
theorem mderive_any (k : List Nat) (A : Option Addr) (len cap : Nat) (s : ByteArray) (ps : List (List Nat)) (PA : Option Addr) (pn pc : Nat) (w : World) (hT : STab w) (hl : k.length = len) (h64 : len ≤ 64) (hz : Nats .u8 256 w w.heap.size A k) (hkb : ∀ x ∈ k, x < 256)
    (hs : s.size ≤ 100000) (hpn : ps.length = pn) (hpm : pn ≤ 1000) (hP : Parts w w.heap.size PA ps) (hm : ps.flatten.length ≤ 100000) :
    Calls Tryd.prog 83 #[.slice A len cap, .string s, .slice PA pn pc] w (DigOut w (deriveB k (sB s) ps)) := by
  subst hpn
  have HNEW := wall (fun W (h1 : STab W) (h2 : Nats .u8 256 W W.heap.size A k) => mnew_any k A len cap W h1 hl h64 h2)
  obtain ⟨ip, hip⟩ : ∃ x, ipad k = x := ⟨_, rfl⟩
  obtain ⟨op, hop⟩ : ∃ x, opad k = x := ⟨_, rfl⟩
  obtain ⟨r, hr⟩ : ∃ x, deriveB k (sB s) ps = x := ⟨_, rfl⟩
  obtain ⟨lb, hlb⟩ : ∃ x, sB s = x := ⟨_, rfl⟩
  obtain ⟨n1, hn1⟩ : ∃ x, numB s.size 4 = x := ⟨_, rfl⟩
  obtain ⟨n2, hn2⟩ : ∃ x, numB ps.length 4 = x := ⟨_, rfl⟩
  obtain ⟨c1, hc1⟩ : ∃ x, ip ++ n1 = x := ⟨_, rfl⟩
  obtain ⟨c2, hc2⟩ : ∃ x, c1 ++ lb = x := ⟨_, rfl⟩
  obtain ⟨c3, hc3⟩ : ∃ x, c2 ++ n2 = x := ⟨_, rfl⟩
  rw [hr]
  change Wall (∀ W, STab W → Nats .u8 256 W W.heap.size A k → Calls Tryd.prog 104 #[.slice A len cap] W (fun e w' => e = .returned (.agg (mC (ipad k) (opad k)).toArray) ∧ Below W.heap.size W w')) at HNEW
  rw [hip, hop] at HNEW
  have HIL := wall (show ip.length = 64 by rw [← hip]; exact ipad_length k)
  have HOL := wall (show op.length = 64 by rw [← hop]; exact opad_length k)
  have HIB := wall (show ∀ x ∈ ip, x < 256 by rw [← hip]; exact turn_byte (by decide) (keyB_byte hkb))
  have HOB := wall (show ∀ x ∈ op, x < 256 by rw [← hop]; exact turn_byte (by decide) (keyB_byte hkb))
  have HN1L := wall (show n1.length = 4 by rw [← hn1]; exact numB_length _ _)
  have HN2L := wall (show n2.length = 4 by rw [← hn2]; exact numB_length _ _)
  have HN1B := wall (show ∀ x ∈ n1, x < 256 by rw [← hn1]; exact numB_byte _ _)
  have HN2B := wall (show ∀ x ∈ n2, x < 256 by rw [← hn2]; exact numB_byte _ _)
  have HLL := wall (show lb.length = s.size by rw [← hlb]; exact sB_length s)
  have HLB := wall (show ∀ x ∈ lb, x < 256 by rw [← hlb]; exact sB_byte s)
  have HC1L := wall (show c1.length = 68 by rw [← hc1, List.length_append, HIL.out, HN1L.out])
  have HC2L := wall (show c2.length = 68 + s.size by rw [← hc2, List.length_append, HC1L.out, HLL.out])
  have HC3L := wall (show c3.length = 72 + s.size by rw [← hc3, List.length_append, HC2L.out, HN2L.out]; omega)
  have HC1B := wall (show ∀ x ∈ c1, x < 256 by rw [← hc1]; exact sub_byte HIB.out HN1B.out)
  have HC2B := wall (show ∀ x ∈ c2, x < 256 by rw [← hc2]; exact sub_byte HC1B.out HLB.out)
  have HC3B := wall (show ∀ x ∈ c3, x < 256 by rw [← hc3]; exact sub_byte HC2B.out HN2B.out)
  have HR := wall (show sumB (op ++ sumB (c3 ++ partsB ps)) = r by
    rw [← hr, deriveB, macB_pads, hip, hop, hlb, hn2, ← hc3, ← hc2, ← hc1, show numB lb.length 4 = n1 by rw [HLL.out]; exact hn1]
    simp only [List.append_assoc])
  have HRL := wall (show r.length = 32 by rw [← hr]; exact deriveB_length _ _ _)
  have HNU1 := wall (fun W => num4_any (s.size : Int) s.size W rfl (by omega))
  have HNU2 := wall (fun W => num4_any (ps.length : Int) ps.length W rfl (by omega))
  rw [hn1] at HNU1
  rw [hn2] at HNU2
  have HT := wall hT
  have HN := wall hz
  have HP := wall hP
  have HM := wall hm
  have HPB := wall (parts_byte hP)
  have HSM := fun x y => wall (show (Tryd.prog.info? 177).map (·.size) = some (mC x y).toArray.size by rw [List.size_toArray, mC_length]; exact mac_info)
  have HLBE := wall hlb
  have HC1 := wall hc1
  have HC2 := wall hc2
  have HC3 := wall hc3
  clear hT hz hP hm hip hop hr hkb hlb hn1 hn2 hc1 hc2 hc3
  obtain ⟨W1, hW1⟩ : ∃ W, W = w.alloc (.cells (b8 (List.replicate 32 0)) 23) := ⟨_, rfl⟩
  have K0 := wall (show Blk W1 w.heap.size 23 (b8 (List.replicate 32 0)) by rw [hW1]; exact Blk.new _ _ _)
  have HB := wall (show Below w.heap.size w W1 by rw [hW1]; exact (Below.refl _ w).alloc (Nat.le_refl _) _)
  have HW1 := wall hW1
  clear hW1
  go_enter Tryd.func83, Tryd.ntmps83
  go_upto_region 1 with fail
  change Code.wp _ _ _ _ (w.alloc (.cells (b8 (List.replicate 32 0)) 23))
  rw [← HW1.out]
  clear HW1
  go_wp2_with fail
  (with_reducible refine (HNEW.out _ (HT.out.old HB.out) ((HN.out.below HB.out).more HB.out.size)).mono ?_); rintro e w2 ⟨rfl, hB2⟩
  have K2 := wall (K0.out.next hB2 rfl)
  have HB2 := wall (below_then HB.out hB2 (Nat.le_refl _))
  clear hB2 K0 HB HNEW HN
  go_wp2_with fail
  (with_reducible refine (HNU1.out _).mono ?_); rintro e w3 ⟨v3, rfl, hO3, hB3⟩
  obtain ⟨A3, cp3, rfl, hcp3, hN3, _⟩ := own_nats hO3 HN1B.out
  have K3 := wall (K2.out.next hB3 rfl)
  have HB3 := wall (below_then HB2.out hB3 (Nat.le_refl _))
  have HF1 := wall (mfeed_any ip op n1 A3 n1.length cp3 w3 (HT.out.old HB3.out) HIB.out rfl (by rw [HIL.out, HN1L.out]; decide) hcp3 hN3)
  rw [HC1.out] at HF1
  clear hO3 hB3 hN3 K2 HB2 HNU1
  go_wp2_with fail
  (with_reducible refine HF1.out.mono ?_); rintro e w4 ⟨rfl, hB4⟩
  have K4 := wall (K3.out.next hB4 rfl)
  have HB4 := wall (below_then HB3.out hB4 (Nat.le_refl _))
  clear hB4 K3 HB3 HF1
  go_wp2_with (refine wpList_convert_str rfl 9 53 5 (.tmp 16) rfl Tryd.underlying9 Tryd.underlying53 Tryd.underlying5 s rfl ?_; intro v5 w5 hv5 hB5)
  rw [HLBE.out] at hv5
  obtain ⟨A5, cp5, rfl, hcp5, _, hN5⟩ := hv5
  have K5 := wall (K4.out.next hB5 rfl)
  have HB5 := wall (below_then HB4.out hB5 (Nat.le_refl _))
  have HF2 := wall (mfeed_any c1 op lb A5 lb.length cp5 w5 (HT.out.old HB5.out) HC1B.out rfl (by rw [HC1L.out, HLL.out]; omega) hcp5 hN5)
  rw [HC2.out] at HF2
  clear hB5 hN5 K4 HB4
  (with_reducible refine HF2.out.mono ?_); rintro e w6 ⟨rfl, hB6⟩
  have K6 := wall (K5.out.next hB6 rfl)
  have HB6 := wall (below_then HB5.out hB6 (Nat.le_refl _))
  clear hB6 K5 HB5 HF2
  go_wp2_with fail
  (with_reducible refine (HNU2.out _).mono ?_); rintro e w7 ⟨v7, rfl, hO7, hB7⟩
  obtain ⟨A7, cp7, rfl, hcp7, hN7, _⟩ := own_nats hO7 HN2B.out
  have K7 := wall (K6.out.next hB7 rfl)
  have HB7 := wall (below_then HB6.out hB7 (Nat.le_refl _))
  have HF3 := wall (mfeed_any c2 op n2 A7 n2.length cp7 w7 (HT.out.old HB7.out) HC2B.out rfl (by rw [HC2L.out, HN2L.out]; omega) hcp7 hN7)
  rw [HC3.out] at HF3
  clear hO7 hB7 hN7 K6 HB6 HNU2
  go_wp2_with fail
  (with_reducible refine HF3.out.mono ?_); rintro e w8 ⟨rfl, hB8⟩
  have K8 := wall (K7.out.next hB8 rfl)
  have HB8 := wall (below_then HB7.out hB8 (Nat.le_refl _))
  clear hB8 K7 HB7 HF3
  have HZM := wall (show zM.toArray.size = (mC c3 op).toArray.size by rw [List.size_toArray, List.size_toArray, mC_length]; rfl)
  go_upto_region 2 with (refine wpList_new_row rfl 177 (.tmp 7) (.tmp 22) rfl w8.heap.size (mC c3 op).toArray rfl rfl 177 zM.toArray (Blk.new _ _ _) (HSM c3 op).out HZM.out (all_oneCell_toArray (mC_one c3 op)) w8.heap.size w8 ((Below.refl _ w8).alloc (Nat.le_refl _) _) (Nat.le_refl _) ?_; intro w9 KM hB9)
  have hw8 : w.heap.size < w8.heap.size := K8.out.lt
  have KM := wall (show Blk w9 w8.heap.size 177 (mC (c3 ++ partsB (ps.take 0)) op).toArray by rw [List.take_zero, show partsB [] = [] from rfl, List.append_nil]; exact KM.out)
  have K9 := wall (K8.out.next hB9 rfl)
  have HB9 := wall (below_then HB8.out hB9 (Nat.le_refl _))
  clear hB9 K8 HB8
  generalize w8.heap.size = g at *
  go_wp2_with fail
  go_loopg [25] ps.length (fun gm s25 wr => ∃ i : Nat, i + gm = ps.length ∧ s25 = .int .i64 (i : Int) ∧ Wall (Blk wr w.heap.size 23 (b8 (List.replicate 32 0))) ∧ Wall (Blk wr g 177 (mC (c3 ++ partsB (ps.take i)) op).toArray) ∧ Wall (Below w.heap.size w wr))
  case atStart => exact ⟨0, by omega, rfl, K9, KM, HB9⟩
  case round =>
    clear K9 KM HB9
    obtain ⟨i, hg, rfl, K3, KM, HB⟩ := hrel
    have HG := wall hg
    have hi : i ≤ ps.length := by omega
    clear hg
    by_cases hlt : i < ps.length
    · obtain ⟨p, hp⟩ : ∃ p, ps[i]? = some p := ⟨_, List.getElem?_eq_getElem hlt⟩
      obtain ⟨J, off, v, rfl, hJ, hcv, hBN⟩ := (HP.out.below HB.out) i p hp
      obtain ⟨Ap, cp, rfl, hcp, hnil, hN⟩ := hBN
      have HNP := wall hN
      have HFL := wall (partsB_take hp)
      have hsz := mem_flatten_le hp
      have hpl : p.length ≤ 100000 := by have := HM.out; omega
      obtain ⟨cur, hcur⟩ : ∃ c, c3 ++ partsB (ps.take i) = c := ⟨_, rfl⟩
      have HCL := wall (show cur.length ≤ 300000 by
        rw [← hcur, List.length_append, HC3L.out, partsB_length, List.length_take]
        have := HM.out
        omega)
      have HCB := wall (show ∀ x ∈ cur, x < 256 by
        rw [← hcur]
        refine sub_byte HC3B.out (partsB_byte (fun x hx => ?_))
        obtain ⟨q, hq, hx⟩ := List.mem_flatten.1 hx
        exact HPB.out x (List.mem_flatten.2 ⟨q, List.mem_of_mem_take hq, hx⟩))
      rw [hcur] at KM
      obtain ⟨nb, hnb⟩ : ∃ x, numB p.length 4 = x := ⟨_, rfl⟩
      obtain ⟨d1, hd1⟩ : ∃ x, cur ++ nb = x := ⟨_, rfl⟩
      obtain ⟨d2, hd2⟩ : ∃ x, d1 ++ p = x := ⟨_, rfl⟩
      have HD2 := wall (show c3 ++ partsB (ps.take (i + 1)) = d2 by
        rw [HFL.out, ← hd2, ← hd1, ← hcur, hnb]
        simp only [List.append_assoc])
      have HNB := wall (show ∀ x ∈ nb, x < 256 by rw [← hnb]; exact numB_byte _ _)
      have HNL := wall (show nb.length = 4 by rw [← hnb]; exact numB_length _ _)
      have HD1B := wall (show ∀ x ∈ d1, x < 256 by rw [← hd1]; exact sub_byte HCB.out HNB.out)
      have HD1L := wall (show d1.length ≤ 300004 by rw [← hd1, List.length_append, HNL.out]; have := HCL.out; omega)
      have HNU := wall (fun W => num4_any (p.length : Int) p.length W rfl (by omega))
      rw [hnb] at HNU
      have HD1 := wall hd1
      have HD2E := wall hd2
      have HZ := wall (show (mC cur op).toArray.size = (mC d2 op).toArray.size by rw [List.size_toArray, List.size_toArray, mC_length, mC_length])
      have HT3 := wall (HT.out.old HB.out)
      have HNQ := wall (fun W (h : Rel.Grow wr.drew W) => (HNP.out.below (h.undrew.mono HB.out.size)).more (Nat.le_trans HB.out.size h.undrew.size))
      clear hp hnil hN hcur hnb hd1 hd2 HFL HNP
      go_wp2_with fail
      refine Rel.wp_region_rel 7 [(31, .const (.int .i64 (p.length : Int))), (32, .any (Bytes nb) Bytes.grow), (33, .const (.agg (mC d1 op).toArray)), (35, .const (.agg (mC d2 op).toArray))] (by kernel_rfl) (by kernel_rfl) ?_
      simp only [List.take_succ_cons, List.take_zero, List.drop_succ_cons, List.drop_zero, Act.put, List.setIfInBounds_toArray, List.set_cons_zero, List.set_cons_succ]
      refine Rel.tree_pure rfl rfl rfl (.agg (mC cur op).toArray) (fun W hW _ => Rel.exec_load _ _ rfl g 0 rfl _ _ (Blk.range (hW.blk KM.out.drew)) Tryd.underlying177 rfl (HSM _ _).out) ?_
      simp only [Act.put, List.setIfInBounds_toArray, List.set_cons_zero, List.set_cons_succ]
      (refine Rel.tree_quiet rfl rfl rfl (fun K hK => ?_); go_big_quiet_op; refine hK _ ?_; clear hK K)
      refine Rel.tree_const rfl (.int .i64 (p.length : Int)) rfl (fun W hW _ => ?_) ?_
      · unfold Rel.relAt; go_simp; exact ⟨Rel.Grow.refl _, rfl⟩
      simp only [Act.put, List.setIfInBounds_toArray, List.set_cons_zero, List.set_cons_succ]
      refine Rel.tree_rel rfl (Bytes nb) Bytes.grow rfl (fun W hW _ => ?_) (fun v32 => ?_)
      · unfold Rel.relAt; go_simp; show Calls _ _ _ _ _
        exact bytes_call (HNU.out W) HNB.out
      simp only [Act.put, List.setIfInBounds_toArray, List.set_cons_zero, List.set_cons_succ]
      refine Rel.tree_const rfl (.agg (mC d1 op).toArray) rfl (fun W hW hF => ?_) ?_
      · obtain ⟨A2, c, rfl, hc, hN⟩ : Bytes nb v32 W := hF 32 (by decide)
        clear hF
        unfold Rel.relAt; go_simp; show Calls _ _ _ _ _
        have h := mfeed_any cur op nb A2 nb.length c W (HT3.out.old hW.undrew) HCB.out rfl (by rw [HNL.out]; have := HCL.out; omega) hc hN
        rw [HD1.out] at h
        exact const_call h
      simp only [Act.put, List.setIfInBounds_toArray, List.set_cons_zero, List.set_cons_succ]
      (refine Rel.tree_quiet rfl rfl rfl (fun K hK => ?_); go_big_quiet_op; refine hK _ ?_; clear hK K)
      refine Rel.tree_const rfl (.agg (mC d2 op).toArray) rfl (fun W hW _ => ?_) ?_
      · unfold Rel.relAt; go_simp; show Calls _ _ _ _ _
        have h := mfeed_any d1 op p Ap p.length cp W (HT3.out.old hW.undrew) HD1B.out rfl (by have := HD1L.out; omega) hcp (HNQ.out W hW)
        rw [HD2E.out] at h
        exact const_call h
      simp only [Act.put, List.setIfInBounds_toArray, List.set_cons_zero, List.set_cons_succ]
      intro W hW _
      have K5 := wall (hW.blk K3.out.drew)
      have KM5 := wall (hW.blk KM.out.drew)
      have HB5 := wall (below_then HB.out hW.undrew (Nat.le_refl _))
      clear hW K3 KM HB HNQ
      go_wp2_with (refine wpList_store_row rfl 177 (.tmp 7) _ rfl g (mC d2 op).toArray rfl rfl 177 (mC cur op).toArray KM5.out (HSM _ _).out HZ.out (all_oneCell_toArray (mC_one _ _)) ?_)
      go_light
      go_roundg (ps.length - (i + 1))
      case measure => have := HG.out; omega
      case rel =>
        refine ⟨i + 1, by have := HG.out; omega, by go_num, wall ?_, wall ?_, wall ?_⟩
        · exact K5.out.frm (frm_setRow (g := g) W _) (by simp; omega)
        · rw [HD2.out]; exact setRow_heap _ _ _ _ _ _ KM5.out
        · exact below_setRow HB5.out (by omega) _
    · have hil : i = ps.length := by omega
      subst hil
      have hni : ¬ (((ps.length : Nat) : Int) < ((ps.length : Nat) : Int)) := by omega
      rw [List.take_length] at KM
      obtain ⟨tot, htot⟩ : ∃ x, c3 ++ partsB ps = x := ⟨_, rfl⟩
      rw [htot] at KM
      have HTB := wall (show ∀ x ∈ tot, x < 256 by rw [← htot]; exact sub_byte HC3B.out (partsB_byte HPB.out))
      have HTL := wall (show tot.length ≤ 900000 by
        rw [← htot, List.length_append, HC3L.out, partsB_length]
        have := HM.out
        omega)
      have HSU := wall (msum_any tot op wr (HT.out.old HB.out) HTB.out HOB.out HTL.out (by rw [HOL.out]; decide))
      rw [show sumB (op ++ sumB tot) = r by rw [← htot]; exact HR.out] at HSU
      have HS := wall (show (Tryd.prog.info? 23).map (·.size) = some (b8 r).size by rw [b8_size, HRL.out]; exact dig_info)
      have HZ := wall (show (b8 (List.replicate 32 0)).size = (b8 r).size by rw [b8_size, b8_size, HRL.out]; rfl)
      clear hlt htot
      go_wp2_with (refine wpList_load_row rfl 177 _ rfl g rfl 177 (mC tot op).toArray (0, 0) _ KM.out Tryd.underlying177 rfl (HSM _ _).out ?_)
      (with_reducible refine HSU.out.mono ?_); rintro e w5 ⟨rfl, hB5⟩
      have K5 := wall (K3.out.next hB5 rfl)
      have HB5 := wall (below_then HB.out hB5 (Nat.le_refl _))
      clear hB5 K3 KM HB HSU
      go_wp2_with (refine wpList_store_row rfl 23 (.tmp 6) _ rfl w.heap.size (b8 r) rfl rfl 23 (b8 (List.replicate 32 0)) K5.out HS.out HZ.out (b8_one _) ?_)
      have hb := setRow_heap _ _ _ (b8 r) _ _ K5.out
      have hB := below_setRow HB5.out (Nat.le_refl _) (b8 r)
      go_light
      exact bodyPost_ret (v := .agg (b8 r)) (results_cell_row Tryd.results83 _ _ w.heap.size 23 (b8 r) (0, 0) _ rfl hb Tryd.underlying23 rfl HS.out) rfl ⟨rfl, hB⟩
end Mac
end Go.Proofs.YtpakdcgcgekcfaaDoor

/-
  Package slot: Derive, Mac.
-/
set_option linter.unusedSimpArgs false
set_option linter.unusedVariables false
namespace Go.Proofs.YtpakdcgcgekcfaaDoor
open Go.RowKit

namespace Slot
open Otp R1 Sha Mac
theorem dig_end {fn : Func} {p u : Tmp} (h : fn.results = #[.cell p 23, .tmp u]) {tmps : Array Value} {w : World} (g : Nat) (E : Int) (D : List Nat) (h1 : tmps.getD p undef = .pointer (some ⟨g, 0, none⟩)) (h2 : tmps.getD u undef = .int .i64 E) (hb : Blk w g 23 (b8 D)) (hl : D.length = 32) :
    (results fn tmps).run Tryd.prog w = .ok (.tuple #[.agg (b8 D), .int .i64 E]) w := by
  rw [results_cell_tmp h, h1, h2]
  have := run_loadVar_row (P := Tryd.prog) w g 23 23 (b8 D) (0, 0) _ hb Tryd.underlying23 rfl (by rw [b8_size, hl]; kernel_rfl)
  simp only [asAddr, Sem.run_pure, Result.andThen_ok, this]
def derE (s : Slt) (a b : Int) : Nat := if mayE s [a, b] ≠ 0 then mayE s [a, b] else if keyE s a ≠ 0 then keyE s a else if kindE s b ≠ 0 then 13 else 0
def derSt (s : Slt) (a b : Int) (lb : List Nat) (ps : List (List Nat)) : Slt := if derE s a b = 0 then s.put b.toNat (2, deriveB (keyOf s a) lb ps) else s
theorem mayE_two {s : Slt} {a b : Int} (h : mayE s [a, b] = 0) : mayE s [a] = 0 ∧ mayE s [b] = 0 := by
  unfold mayE at *
  split at h
  · cases h
  · rename_i hd
    rw [if_neg hd, if_neg hd]
    split at h
    · rename_i h2
      simp only [List.all_cons, List.all_nil, Bool.and_true, Bool.and_eq_true] at h2
      simp [h2.1, h2.2]
    · cases h
theorem keyE_row {s : Slt} {h : Int} (hk : keyE s h = 0) (hok : s.Ok) : (keyOf s h).length = 32 ∧ ∀ x ∈ keyOf s h, x < 256 := by
  unfold keyE at hk
  split at hk
  · rename_i h1; exact absurd hk h1
  · rename_i h1
    obtain ⟨_, h2, h3⟩ := mayE_zero (Decidable.not_not.1 h1)
    obtain ⟨p, hp, hl, hb, _⟩ := row_at hok (show h.toNat < 8 by omega)
    unfold keyOf
    rw [hp]
    exact ⟨hl, hb⟩
set_option maxRecDepth 100000 in
set_option maxHeartbeats 4000000 in
theorem sderive_any (g : Nat) (s : Slt) (a b : Int) (lb : ByteArray) (ps : List (List Nat)) (PA : Option Addr) (pn pc : Nat) (w : World) (hT : STab w) (hS : Sl w g s) (ha : wfI a) (hb : wfI b)
    (hlb : lb.size ≤ 100000) (hpn : ps.length = pn) (hpm : pn ≤ 1000) (hP : Parts w w.heap.size PA ps) (hm : ps.flatten.length ≤ 100000) :
    Calls Tryd.prog 37 #[.pointer (some ⟨g, 0, none⟩), .int .i64 a, .int .i64 b, .string lb, .slice PA pn pc] w (WrOut w g (derE s a b) (derSt s a b (sB lb) ps)) := by
  obtain ⟨W2, hW2⟩ : ∃ W, W = w.alloc (.cells #[.int .i64 a, .int .i64 b] 3) := ⟨_, rfl⟩
  have HW2 := Lib.hid hW2
  have HB2 := Lib.hid (show Below w.heap.size w W2 by rw [hW2]; exact (Below.refl _ w).alloc (Nat.le_refl _) _)
  have HS2 := Lib.hid (hS.old HB2.out)
  have HM := Lib.hid (may_any g s (some ⟨w.heap.size, 0, none⟩) [a, b] 2 2 W2 HS2.out rfl (by decide) (by rw [hW2]; exact ints_two w a b ha hb))
  have HEND := Lib.hid (show Frm [g] w W2 from Frm.of_below HB2.out)
  have HKY := Lib.hid (key_any g s a W2 HS2.out ha)
  obtain ⟨E, hE⟩ : ∃ E, mayE s [a, b] = E := ⟨_, rfl⟩
  rw [hE] at HM
  have hok := HS2.out.ok
  have HT := Lib.hid hT
  have HP := Lib.hid hP
  clear hW2 hS hT hP
  by_cases h0 : E = 0
  · subst h0
    obtain ⟨ma, mb⟩ := mayE_two hE
    obtain ⟨_, h1, h2⟩ := mayE_zero mb
    obtain ⟨i, rfl⟩ : ∃ i : Nat, b = i := ⟨b.toNat, by omega⟩
    obtain ⟨p, hp, hpl, hpb, hp3⟩ := row_at hok (show i < 8 by omega)
    have hkd : kindE s (i : Int) = p.1 := by rw [kindE, if_pos mb, Int.toNat_natCast, hp]; rfl
    have hi8 : (i : Int) < 8 := h2
    obtain ⟨K, hK⟩ : ∃ K, keyE s a = K := ⟨_, rfl⟩
    obtain ⟨k, hk⟩ : ∃ k, keyOf s a = k := ⟨_, rfl⟩
    rw [hK, hk] at HKY
    by_cases hK0 : K = 0
    · subst hK0
      have hkr := keyE_row hK hok
      rw [hk] at hkr
      have HKB := Lib.hid hkr.2
      by_cases hkk : p.1 = 0
      · obtain ⟨d, hd⟩ : ∃ d, deriveB k (sB lb) ps = d := ⟨_, rfl⟩
        have HE := Lib.hid (show derE s a (i : Int) = 0 by rw [derE, hE, if_neg (by decide), hK, if_neg (by decide), hkd, hkk]; rfl)
        have HL := Lib.hid (show derSt s a (i : Int) (sB lb) ps = s.put i (2, d) by rw [derSt, HE.out, if_pos rfl, hk, hd]; rfl)
        rw [HE.out, HL.out]
        have hdl : d.length = 32 := by rw [← hd]; exact deriveB_length _ _ _
        have hdb : ∀ x ∈ d, x < 256 := by rw [← hd]; exact deriveB_byte _ _ _
        have HSP := Lib.hid (show splice (slC s) (i * 33) (row (2, d)).toArray.toList = slC (s.put i (2, d)) by
          rw [Nat.mul_comm]
          exact hok.splice (by omega) hdl)
        have HOK := Lib.hid (hok.put i (p := (2, d)) hdl hdb (show 2 ≤ 3 by decide))
        have HSZ := Lib.hid (show (Tryd.prog.info? 137).map (·.size) = some (row (2, d)).toArray.size by rw [row_size hdl]; exact place_info)
        have HFT := Lib.hid (show i * 33 + (row (2, d)).toArray.size ≤ (slC s).length by rw [row_size hdl, hok.size]; omega)
        have HPB := Lib.hid (place_built 2 d hdl)
        have HDV := Lib.hid (fun W (h : Below W2.heap.size W2 W) A n c (hn : n = 32) (hN : Nats .u8 256 W W.heap.size A k) (hP : Parts W W.heap.size PA ps) => mderive_any k A n c lb ps PA pn pc W (HT.out.old (below_then HB2.out h (Nat.le_refl _))) (by rw [hn]; exact hkr.1) (by omega) hN hkr.2 hlb hpn hpm hP hm)
        rw [hd] at HDV
        have HKAT := Lib.hid (hok.kindAt hp)
        clear hE hp h1 h2 hkd HE HL hok ma mb hK hk hd hdl hdb hkr ha hb
        go_enter Tryd.func37, Tryd.ntmps37
        go_upto_region 2 with (go_at_call 81; change Calls _ _ _ (w.alloc (.cells #[.int .i64 a, .int .i64 (i : Int)] 3)) _; rw [← HW2.out]; (with_reducible refine HM.out.mono ?_); rintro e w2 ⟨rfl, rfl⟩)
        go_wp2_with fail
        (with_reducible refine HKY.out.mono ?_); rintro e w3 ⟨A, n, c, rfl, hkey, hB3⟩
        obtain ⟨hn32, hnc, hkl, hN⟩ := hkey rfl
        have HKEY := Lib.hid hN
        have HB3 := Lib.hid (below_then HB2.out hB3 (Nat.le_refl _))
        have HB23 := Lib.hid hB3
        have HS3 := Lib.hid (HS2.out.old hB3)
        have HP3 := Lib.hid ((HP.out.below HB3.out).more HB3.out.size)
        have hck : w3.cell? ⟨g, i * 33, none⟩ = some (.int .i64 (p.1 : Int)) := HS3.out.cellAt (by rw [Nat.mul_comm]; exact HKAT.out)
        rw [hkk] at hck
        have HN32 := Lib.hid hn32
        clear hkey hB3 hN hn32 HM HKY HS2 HEND HP hkl hnc
        go_wp2_with fail
        refine Rel.wp_region_rel 10 [(46, .const (.agg (b8 d))), (48, .const (.pointer (some ⟨g, 0, none⟩)))] (by kernel_rfl) (by kernel_rfl) ?_
        simp only [List.take_succ_cons, List.take_zero, List.drop_succ_cons, List.drop_zero, Act.put, List.setIfInBounds_toArray, List.set_cons_zero, List.set_cons_succ]
        repeat (refine Rel.tree_quiet rfl rfl rfl (fun K hK => ?_); go_big_quiet_op; refine hK _ ?_; clear hK K)
        refine Rel.tree_const rfl (.agg (b8 d)) rfl (fun W hW _ => ?_) ?_
        · unfold Rel.relAt; go_simp; show Calls _ _ _ _ _
          exact const_call (HDV.out W (HB23.out.trans (hW.undrew.mono HB23.out.size)) A n c HN32.out (nats_step HKEY.out hW.undrew) ((HP3.out.below hW.undrew).more hW.undrew.size))
        simp only [Act.put, List.setIfInBounds_toArray, List.set_cons_zero, List.set_cons_succ]
        refine Rel.tree_pure rfl rfl rfl (.agg (row (2, d)).toArray) (fun W hW _ => Rel.exec_build _ _ rfl _ HPB.out) ?_
        simp only [Act.put, List.setIfInBounds_toArray, List.set_cons_zero, List.set_cons_succ]
        refine Rel.tree_const rfl (.pointer (some ⟨g, 0, none⟩)) rfl (fun W hW _ => ?_) ?_
        · unfold Rel.relAt; go_simp; exact ⟨Rel.Grow.refl _, rfl⟩
        simp only [Act.put, List.setIfInBounds_toArray, List.set_cons_zero, List.set_cons_succ]
        repeat (refine Rel.tree_quiet rfl rfl rfl (fun K hK => ?_); go_big_quiet_op; refine hK _ ?_; clear hK K)
        intro W hW _
        have KS := Lib.hid (hW.blk HS3.out.blk.drew)
        have HBW := Lib.hid (below_then HB3.out hW.undrew (Nat.le_refl _))
        clear hW
        go_wp2_with (refine wpList_store_frm rfl 137 (.tmp 50) (.tmp 47) rfl g (i * 33) (row (2, d)).toArray rfl rfl 140 (slC s) KS.out HFT.out HSZ.out (all_oneCell_toArray (row_one _)) ?_; intro w7 K7 F7)
        rw [HSP.out] at K7
        go_light
        go_ret
        exact ⟨rfl, ⟨HOK.out, K7⟩, (Frm.of_below HBW.out).trans' F7 (fun x hx _ => hx)⟩
      · have HE := Lib.hid (show derE s a (i : Int) = 13 by rw [derE, hE, if_neg (by decide), hK, if_neg (by decide), hkd, if_pos hkk])
        have HL := Lib.hid (show derSt s a (i : Int) (sB lb) ps = s by rw [derSt, HE.out]; rfl)
        rw [HE.out, HL.out]
        have hne : (((p.1 : Nat) : Int) != 0) = true := by rw [bne_iff_ne]; omega
        have HKAT := Lib.hid (hok.kindAt hp)
        clear hE hp h1 h2 hkd HE HL hok ma mb hK hk hkr ha hb
        go_enter Tryd.func37, Tryd.ntmps37
        go_upto_region 2 with (go_at_call 81; change Calls _ _ _ (w.alloc (.cells #[.int .i64 a, .int .i64 (i : Int)] 3)) _; rw [← HW2.out]; (with_reducible refine HM.out.mono ?_); rintro e w2 ⟨rfl, rfl⟩)
        go_wp2_with fail
        (with_reducible refine HKY.out.mono ?_); rintro e w3 ⟨A, n, c, rfl, hkey, hB3⟩
        have HB3 := Lib.hid (below_then HB2.out hB3 (Nat.le_refl _))
        have HS3 := Lib.hid (HS2.out.old hB3)
        have hck : w3.cell? ⟨g, i * 33, none⟩ = some (.int .i64 (p.1 : Int)) := HS3.out.cellAt (by rw [Nat.mul_comm]; exact HKAT.out)
        clear hkey hB3 HM HKY HS2 HEND HP
        go_wp2_with fail
        go_light
        go_ret
        exact ⟨rfl, HS3.out, Frm.of_below HB3.out⟩
    · have HE := Lib.hid (show derE s a (i : Int) = K by rw [derE, hE, if_neg (by decide), hK, if_pos hK0])
      have HL := Lib.hid (show derSt s a (i : Int) (sB lb) ps = s by rw [derSt, HE.out, if_neg hK0])
      rw [HE.out, HL.out]
      have hne : (((K : Nat) : Int) != 0) = true := by rw [bne_iff_ne]; omega
      clear hE hp h1 h2 hkd HE HL hok ma mb hK hk ha hb
      go_enter Tryd.func37, Tryd.ntmps37
      go_upto_region 2 with (go_at_call 81; change Calls _ _ _ (w.alloc (.cells #[.int .i64 a, .int .i64 (i : Int)] 3)) _; rw [← HW2.out]; (with_reducible refine HM.out.mono ?_); rintro e w2 ⟨rfl, rfl⟩)
      go_wp2_with fail
      (with_reducible refine HKY.out.mono ?_); rintro e w3 ⟨A, n, c, rfl, hkey, hB3⟩
      have HB3 := Lib.hid (below_then HB2.out hB3 (Nat.le_refl _))
      have HS3 := Lib.hid (HS2.out.old hB3)
      clear hkey hB3 HM HKY HS2 HEND HP
      go_wp2_with fail
      go_light
      go_ret
      exact ⟨rfl, HS3.out, Frm.of_below HB3.out⟩
  · have HE := Lib.hid (show derE s a b = E by rw [derE, hE, if_pos h0])
    have HL := Lib.hid (show derSt s a b (sB lb) ps = s by rw [derSt, HE.out, if_neg h0])
    have hne : (((E : Nat) : Int) != 0) = true := by rw [bne_iff_ne]; omega
    rw [HE.out, HL.out]
    clear hE HE HL hok ha hb HKY HP
    go_enter Tryd.func37, Tryd.ntmps37
    go_upto_region 2 with (go_at_call 81; change Calls _ _ _ (w.alloc (.cells #[.int .i64 a, .int .i64 b] 3)) _; rw [← HW2.out]; (with_reducible refine HM.out.mono ?_); rintro e w2 ⟨rfl, rfl⟩)
    go_wp2_with fail
    go_light
    go_ret
    exact ⟨rfl, HS2.out, HEND.out⟩
set_option maxHeartbeats 1000000 in
theorem sderive_nil (a b : Int) (lb : ByteArray) (PA : Option Addr) (pn pc : Nat) (w : World) : Calls Tryd.prog 37 #[.pointer none, .int .i64 a, .int .i64 b, .string lb, .slice PA pn pc] w (IntBelow w 3) := by
  have HB := Lib.hid ((Below.refl _ w).alloc (Nat.le_refl _) (.cells #[.int .i64 a, .int .i64 b] 3))
  go_enter Tryd.func37, Tryd.ntmps37
  go_wp2_with fail
  (with_reducible refine (may_nil _ _ _ _).mono ?_); rintro e w2 ⟨rfl, rfl⟩
  go_wp2_with fail
  go_light
  go_ret
  exact ⟨rfl, HB.out⟩
end Slot
end Go.Proofs.YtpakdcgcgekcfaaDoor

/-
  Package slot: Mac, Lock, Locked, Dead.
-/
set_option linter.unusedSimpArgs false
set_option linter.unusedVariables false
namespace Go.Proofs.YtpakdcgcgekcfaaDoor
open Go.RowKit

namespace Slot
open Otp R1 Sha Mac
def macD (s : Slt) (h : Int) (ps : List (List Nat)) : List Nat := if keyE s h = 0 then macB (keyOf s h) ps.flatten else List.replicate 32 0
def DigErr (w : World) (D : List Nat) (E : Int) (e : Ending) (w' : World) : Prop := e = .returned (.tuple #[.agg (b8 D), .int .i64 E]) ∧ Below w.heap.size w w'
set_option maxRecDepth 100000 in
set_option maxHeartbeats 4000000 in
theorem smac_of (q : Value) (h : Int) (E : Nat) (k : List Nat) (ps : List (List Nat)) (PA : Option Addr) (pn pc : Nat) (w : World) (hT : STab w) (hkb : E = 0 → ∀ x ∈ k, x < 256)
    (HK : ∀ W, Below w.heap.size w W → Calls Tryd.prog 82 #[q, .int .i64 h] W (KeyOut W E k)) (hpn : ps.length = pn) (hpm : pn ≤ 1000) (hP : Parts w w.heap.size PA ps) (hm : ps.flatten.length ≤ 100000) :
    Calls Tryd.prog 39 #[q, .int .i64 h, .slice PA pn pc] w (DigErr w (if E = 0 then macB k ps.flatten else List.replicate 32 0) E) := by
  obtain ⟨W1, hW1⟩ : ∃ W, W = w.alloc (.cells (b8 (List.replicate 32 0)) 23) := ⟨_, rfl⟩
  have HW1 := Lib.hid hW1
  have HB1 := Lib.hid (show Below w.heap.size w W1 by rw [hW1]; exact (Below.refl _ w).alloc (Nat.le_refl _) _)
  have HR1 := Lib.hid (show Blk W1 w.heap.size 23 (b8 (List.replicate 32 0)) by rw [hW1]; exact Blk.new _ _ _)
  have HKY := Lib.hid (HK W1 HB1.out)
  have HT := Lib.hid hT
  have HP := Lib.hid hP
  have HKB := Lib.hid hkb
  clear hW1 HK hT hP hkb
  by_cases h0 : E = 0
  · subst h0
    obtain ⟨d, hd⟩ : ∃ d, macB k ps.flatten = d := ⟨_, rfl⟩
    rw [if_pos rfl, hd]
    have HDL := Lib.hid (show d.length = 32 by rw [← hd]; exact macB_length _ _)
    have HSD := Lib.hid (show (Tryd.prog.info? 23).map (·.size) = some (b8 d).size by rw [b8_size, HDL.out]; exact dig_info)
    have HZD := Lib.hid (show (b8 (List.replicate 32 0)).size = (b8 d).size by rw [b8_size, b8_size, HDL.out]; rfl)
    have HDV := Lib.hid (fun W (h : Below w.heap.size w W) A n c (hn : n = 32) (hkl : k.length = 32) (hN : Nats .u8 256 W W.heap.size A k) => macsum_any k A n c ps PA pn pc W (HT.out.old h) (by rw [hn]; exact hkl) (by omega) hN (HKB.out rfl) hpn (by omega) ((HP.out.below h).more h.size) (by omega))
    rw [hd] at HDV
    clear hd
    go_enter Tryd.func39, Tryd.ntmps39
    go_upto_region 1 with fail
    change Code.wp _ _ _ _ (w.alloc (.cells (b8 (List.replicate 32 0)) 23))
    rw [← HW1.out]
    go_wp2_with fail
    (with_reducible refine HKY.out.mono ?_); rintro e w3 ⟨A, n, c, rfl, hkey, hB3⟩
    obtain ⟨hn32, hnc, hkl, hN⟩ := hkey rfl
    have HKEY := Lib.hid hN
    have HB3 := Lib.hid (below_then HB1.out hB3 (Nat.le_refl _))
    have HR3 := Lib.hid (HR1.out.next hB3 rfl)
    have HN32 := Lib.hid hn32
    have HKL := Lib.hid hkl
    clear hkey hB3 hN hn32 HKY HR1 hkl hnc
    go_wp2_with fail
    (with_reducible refine (HDV.out w3 HB3.out A n c HN32.out HKL.out HKEY.out).mono ?_); rintro e w4 ⟨rfl, hB4⟩
    have HR4 := Lib.hid (HR3.out.next hB4 rfl)
    have HB4 := Lib.hid (below_then HB3.out hB4 (Nat.le_refl _))
    clear hB4 HR3 HKEY
    go_wp2_with (refine wpList_store_row rfl 23 (.tmp 6) _ rfl w.heap.size (b8 d) rfl rfl 23 (b8 (List.replicate 32 0)) HR4.out HSD.out HZD.out (b8_one _) ?_)
    have hb := setRow_heap _ _ _ (b8 d) _ _ HR4.out
    have hB := below_setRow HB4.out (Nat.le_refl _) (b8 d)
    go_light
    exact bodyPost_ret (v := .tuple #[.agg (b8 d), .int .i64 0]) (dig_end Tryd.results39 w.heap.size 0 d rfl rfl hb HDL.out) rfl ⟨rfl, hB⟩
  · have hne : (((E : Nat) : Int) != 0) = true := by rw [bne_iff_ne]; omega
    rw [if_neg h0]
    have HSD := Lib.hid (show (Tryd.prog.info? 23).map (·.size) = some (b8 (List.replicate 32 0)).size by rw [b8_size]; exact dig_info)
    clear HKB HP HT
    go_enter Tryd.func39, Tryd.ntmps39
    go_upto_region 1 with fail
    change Code.wp _ _ _ _ (w.alloc (.cells (b8 (List.replicate 32 0)) 23))
    rw [← HW1.out]
    go_wp2_with fail
    (with_reducible refine HKY.out.mono ?_); rintro e w3 ⟨A, n, c, rfl, hkey, hB3⟩
    have HB3 := Lib.hid (below_then HB1.out hB3 (Nat.le_refl _))
    have HR3 := Lib.hid (HR1.out.next hB3 rfl)
    clear hkey hB3 HKY HR1
    go_wp2_with (refine wpList_store_row rfl 23 (.tmp 6) _ rfl w.heap.size (b8 (List.replicate 32 0)) rfl rfl 23 (b8 (List.replicate 32 0)) HR3.out HSD.out rfl (b8_one _) ?_)
    have hb := setRow_heap _ _ _ (b8 (List.replicate 32 0)) _ _ HR3.out
    have hB := below_setRow HB3.out (Nat.le_refl _) (b8 (List.replicate 32 0))
    go_light
    exact bodyPost_ret (v := .tuple #[.agg (b8 (List.replicate 32 0)), .int .i64 (E : Int)]) (dig_end Tryd.results39 w.heap.size E (List.replicate 32 0) rfl rfl hb (by rw [List.length_replicate])) rfl ⟨rfl, hB⟩
theorem smac_any (g : Nat) (s : Slt) (h : Int) (ps : List (List Nat)) (PA : Option Addr) (pn pc : Nat) (w : World) (hT : STab w) (hS : Sl w g s) (hw : wfI h) (hpn : ps.length = pn) (hpm : pn ≤ 1000) (hP : Parts w w.heap.size PA ps) (hm : ps.flatten.length ≤ 100000) :
    Calls Tryd.prog 39 #[.pointer (some ⟨g, 0, none⟩), .int .i64 h, .slice PA pn pc] w (DigErr w (macD s h ps) (keyE s h)) :=
  smac_of _ h (keyE s h) (keyOf s h) ps PA pn pc w hT (fun h => (keyE_row h hS.ok).2) (fun W hb => key_any g s h W (hS.old hb) hw) hpn hpm hP hm
theorem smac_nil (h : Int) (ps : List (List Nat)) (PA : Option Addr) (pn pc : Nat) (w : World) (hT : STab w) (hpn : ps.length = pn) (hpm : pn ≤ 1000) (hP : Parts w w.heap.size PA ps) (hm : ps.flatten.length ≤ 100000) :
    Calls Tryd.prog 39 #[.pointer none, .int .i64 h, .slice PA pn pc] w (DigErr w (List.replicate 32 0) 3) :=
  smac_of _ h 3 [] ps PA pn pc w hT (fun h => by cases h) (fun W _ => key_nil h W) hpn hpm hP hm
def LkOut (w : World) (g : Nat) (s' : Slt) (e : Ending) (w' : World) : Prop := e = .returned (.tuple #[]) ∧ Sl w' g s' ∧ Frm [g] w w'
theorem slC_lock (s : Slt) (b : Bool) (h : s.Ok) : (slC s).set 264 (.bool b) = slC { s with lk := b } := by
  unfold slC
  rw [List.set_append_right _ _ (by rw [flat_len _ h.rows, List.length_map, h.len]; decide), flat_len _ h.rows, List.length_map, h.len]
  rfl
theorem slC_dead (s : Slt) (b : Bool) (h : s.Ok) : (slC s).set 265 (.bool b) = slC { s with dd := b } := by
  unfold slC
  rw [List.set_append_right _ _ (by rw [flat_len _ h.rows, List.length_map, h.len]; decide), flat_len _ h.rows, List.length_map, h.len]
  rfl
theorem Slt.Ok.flags {s : Slt} (h : s.Ok) (a b : Bool) : Slt.Ok { s with lk := a, dd := b } := ⟨h.len, h.key, h.byte, h.kind⟩
set_option maxRecDepth 100000 in
set_option maxHeartbeats 1000000 in
theorem lock_any (g : Nat) (s : Slt) (w : World) (hS : Sl w g s) : Calls Tryd.prog 49 #[.pointer (some ⟨g, 0, none⟩)] w (LkOut w g { s with lk := true }) := by
  have hc : w.cell? ⟨g, 264, none⟩ = some (.bool s.lk) := hS.cellAt hS.ok.lockAt
  have hf : w.frozen? ⟨g, 264, none⟩ = false := hS.blk.frozen _
  have hl := hS.lt
  have HE := Lib.hid (show Sl (w.setCell ⟨g, 264, none⟩ (.bool true)) g { s with lk := true } from ⟨hS.ok.flags true s.dd, by
    have := hS.blk.set 264 (.bool true)
    simp only [List.setIfInBounds_toArray] at this
    rw [slC_lock s true hS.ok] at this
    exact this⟩)
  have HF := Lib.hid (show Frm [g] w (w.setCell ⟨g, 264, none⟩ (.bool true)) from (Frm.refl _ _).setCell (p := ⟨g, 264, none⟩) (.inl (by simp)) _)
  clear hS
  go_enter Tryd.func49, Tryd.ntmps49
  go_wp2_with fail
  go_light
  go_end0
  exact ⟨rfl, HE.out, HF.out⟩
set_option maxHeartbeats 1000000 in
theorem lock_nil (w : World) : Calls Tryd.prog 49 #[.pointer none] w (fun e w' => e = .returned (.tuple #[]) ∧ w = w') := by
  go_enter Tryd.func49, Tryd.ntmps49
  go_wp2_with fail
  go_light
  go_end0
  exact ⟨rfl, rfl⟩
def BoolSame (w : World) (b : Bool) (e : Ending) (w' : World) : Prop := e = .returned (.bool b) ∧ w = w'
set_option maxHeartbeats 1000000 in
theorem locked_any (g : Nat) (s : Slt) (w : World) (hS : Sl w g s) : Calls Tryd.prog 51 #[.pointer (some ⟨g, 0, none⟩)] w (BoolSame w s.lk) := by
  have hc : w.cell? ⟨g, 264, none⟩ = some (.bool s.lk) := hS.cellAt hS.ok.lockAt
  clear hS
  generalize s.lk = b at *
  go_enter Tryd.func51, Tryd.ntmps51
  cases b
  all_goals
    go_wp2_with fail
    go_light
    go_ret
    exact ⟨rfl, rfl⟩
set_option maxHeartbeats 1000000 in
theorem locked_nil (w : World) : Calls Tryd.prog 51 #[.pointer none] w (BoolSame w false) := by
  go_enter Tryd.func51, Tryd.ntmps51
  go_wp2_with fail
  go_light
  go_ret
  exact ⟨rfl, rfl⟩
set_option maxHeartbeats 1000000 in
theorem dead_any (g : Nat) (s : Slt) (w : World) (hS : Sl w g s) : Calls Tryd.prog 52 #[.pointer (some ⟨g, 0, none⟩)] w (BoolSame w s.dd) := by
  have hc : w.cell? ⟨g, 265, none⟩ = some (.bool s.dd) := hS.cellAt hS.ok.deadAt
  clear hS
  generalize s.dd = b at *
  go_enter Tryd.func52, Tryd.ntmps52
  cases b
  all_goals
    go_wp2_with fail
    go_light
    go_ret
    exact ⟨rfl, rfl⟩
set_option maxHeartbeats 1000000 in
theorem dead_nil (w : World) : Calls Tryd.prog 52 #[.pointer none] w (BoolSame w false) := by
  go_enter Tryd.func52, Tryd.ntmps52
  go_wp2_with fail
  go_light
  go_ret
  exact ⟨rfl, rfl⟩
/-- Nothing in any place. -/
def zRow : Nat × List Nat := (0, List.replicate 32 0)
def zRows : List (Nat × List Nat) := List.replicate 8 zRow
def killSt (s : Slt) : Slt := { rs := zRows, lk := s.lk, dd := true }
theorem zRows_ok (a b : Bool) : Slt.Ok { rs := zRows, lk := a, dd := b } := by
  have h : ∀ p ∈ zRows, p = zRow := fun p hp => (List.mem_replicate.1 hp).2
  refine ⟨rfl, fun p hp => ?_, fun p hp x hx => ?_, fun p hp => ?_⟩ <;> rw [h p hp] at *
  · rfl
  · rw [(List.mem_replicate.1 hx).2]; decide
  · decide
theorem places_info : (Tryd.prog.info? 138).map (·.size) = some 264 := by kernel_rfl
set_option maxRecDepth 100000 in
set_option maxHeartbeats 4000000 in
theorem kill_any (g : Nat) (s : Slt) (w : World) (hS : Sl w g s) : Calls Tryd.prog 50 #[.pointer (some ⟨g, 0, none⟩)] w (LkOut w g (killSt s)) := by
  have HK := Lib.hid hS.blk
  have HSZ := Lib.hid hS.ok.size
  have HZL := Lib.hid (show ((zRows.map row).flatten).toArray.size = 264 by kernel_rfl)
  have HFT := Lib.hid (show 0 + ((zRows.map row).flatten).toArray.size ≤ (slC s).length by rw [HZL.out, HSZ.out]; decide)
  have HI := Lib.hid (show (Tryd.prog.info? 138).map (·.size) = some ((zRows.map row).flatten).toArray.size by rw [HZL.out]; exact places_info)
  have HSP := Lib.hid (show splice (slC s) 0 ((zRows.map row).flatten).toArray.toList = slC { rs := zRows, lk := s.lk, dd := s.dd } by
    unfold splice slC
    have h1 : ((zRows.map row).flatten).toArray.toList.length = 264 := by simpa using HZL.out
    rw [List.take_zero, List.nil_append, List.drop_append, List.drop_of_length_le (by rw [h1, flat_len _ hS.ok.rows, List.length_map, hS.ok.len]; decide), List.nil_append, h1, flat_len _ hS.ok.rows, List.length_map, hS.ok.len, show 0 + 264 - 33 * 8 = 0 from rfl, List.drop_zero, List.toList_toArray])
  have HO := Lib.hid (all_oneCell_toArray (cs := (zRows.map row).flatten) (fun v hv => by
    obtain ⟨r, hr, hv⟩ := List.mem_flatten.1 hv
    obtain ⟨p, _, rfl⟩ := List.mem_map.1 hr
    exact row_one p v hv))
  clear hS
  go_enter Tryd.func50, Tryd.ntmps50
  go_upto_region 2 with (refine wpList_store_frm rfl 138 (.tmp 7) (.tmp 5) rfl g 0 ((zRows.map row).flatten).toArray rfl (by kernel_rfl) 140 (slC s) HK.out HFT.out HI.out HO.out ?_; intro w2 K2 F2)
  rw [HSP.out] at K2
  have hk2 : Sl w2 g { rs := zRows, lk := s.lk, dd := s.dd } := ⟨zRows_ok _ _, K2⟩
  have hc : w2.cell? ⟨g, 265, none⟩ = some (.bool s.dd) := hk2.cellAt hk2.ok.deadAt
  have hf : w2.frozen? ⟨g, 265, none⟩ = false := hk2.blk.frozen _
  have hl := hk2.lt
  have HE := Lib.hid (show Sl (w2.setCell ⟨g, 265, none⟩ (.bool true)) g (killSt s) from ⟨zRows_ok _ _, by
    have := hk2.blk.set 265 (.bool true)
    simp only [List.setIfInBounds_toArray] at this
    rw [slC_dead _ true hk2.ok] at this
    exact this⟩)
  have HF := Lib.hid (show Frm [g] w (w2.setCell ⟨g, 265, none⟩ (.bool true)) from F2.setCell (p := ⟨g, 265, none⟩) (.inl (by simp)) _)
  clear hk2 K2 F2
  go_wp2_with fail
  go_light
  go_end0
  exact ⟨rfl, HE.out, HF.out⟩
set_option maxHeartbeats 1000000 in
theorem kill_nil (w : World) : Calls Tryd.prog 50 #[.pointer none] w (fun e w' => e = .returned (.tuple #[]) ∧ w = w') := by
  go_enter Tryd.func50, Tryd.ntmps50
  go_wp2_with fail
  go_light
  go_end0
  exact ⟨rfl, rfl⟩
end Slot
end Go.Proofs.YtpakdcgcgekcfaaDoor

/-
  Package slot: New, Count, Wipe.
-/
set_option linter.unusedSimpArgs false
set_option linter.unusedVariables false
namespace Go.Proofs.YtpakdcgcgekcfaaDoor
open Go.RowKit

namespace Slot
open Otp R1 Sha Mac
def newSt : Slt := { rs := zRows, lk := false, dd := false }
set_option maxRecDepth 100000 in
set_option maxHeartbeats 1000000 in
theorem snew_any (w : World) : Calls Tryd.prog 34 #[] w (fun e w' => e = .returned (.pointer (some ⟨w.heap.size, 0, none⟩)) ∧ Sl w' w.heap.size newSt ∧ Below w.heap.size w w') := by
  have HZ : (slC newSt).toArray = Tryd.zeroCells140 := by kernel_rfl
  have HK := Lib.hid (show Blk (w.alloc (.cells Tryd.zeroCells140 140)) w.heap.size 140 (slC newSt).toArray by rw [HZ]; exact Blk.new _ _ _)
  have HB := Lib.hid ((Below.refl _ w).alloc (Nat.le_refl _) (.cells Tryd.zeroCells140 140))
  clear HZ
  go_enter Tryd.func34, Tryd.ntmps34
  go_wp2_with fail
  go_light
  go_ret
  exact ⟨rfl, ⟨zRows_ok _ _, HK.out⟩, HB.out⟩
/-- How many of the first places aren't empty. -/
def cntE (s : Slt) : Nat → Nat
  | 0 => 0
  | i + 1 => cntE s i + (if kindE s (i : Int) = 0 then 0 else 1)
theorem cntE_le (s : Slt) : ∀ i, cntE s i ≤ i
  | 0 => Nat.le_refl _
  | i + 1 => by have := cntE_le s i; unfold cntE; split <;> omega
theorem wfI_small {h : Int} (h1 : -1000 ≤ h) (h2 : h ≤ 1000) : wfI h := by
  unfold wfI
  simp only [Lit.wf]
  have hm : IntKind.i64.min = -9223372036854775808 := by decide
  have hx : IntKind.i64.max = 9223372036854775807 := by decide
  rw [hm, hx]
  simp only [Bool.and_eq_true, decide_eq_true_eq]
  omega
set_option maxRecDepth 100000 in
set_option maxHeartbeats 2000000 in
theorem count_of (q : Value) (K : Nat → Nat) (w : World) (HK : ∀ (i : Nat) W, i < 8 → Below w.heap.size w W → Calls Tryd.prog 41 #[q, .int .i64 (i : Int)] W (IntBelow W (K i)))
    (C : Nat → Nat) (h0 : C 0 = 0) (hC : ∀ i, C (i + 1) = C i + (if K i = 0 then 0 else 1)) (hCl : ∀ i, C i ≤ i) : Calls Tryd.prog 42 #[q] w (IntBelow w (C 8)) := by
  have HKK := Lib.hid HK
  have HC := Lib.hid hC
  have HC0 := Lib.hid h0
  have HCL := Lib.hid hCl
  clear HK hC h0 hCl
  go_enter Tryd.func42, Tryd.ntmps42
  go_wp2_with fail
  go_loopg [3, 5] 8 (fun gm s3 s5 wr => ∃ (i c : Nat), i + gm = 8 ∧ s5 = .int .i64 (i : Int) ∧ s3 = .int .i64 (c : Int) ∧ Hid (c = C i) ∧ c ≤ i ∧ Hid (Below w.heap.size w wr))
  case atStart => exact ⟨0, 0, by omega, rfl, rfl, Lib.hid HC0.out.symm, Nat.le_refl _, Lib.hid (Below.refl _ _)⟩
  case round =>
    obtain ⟨i, c, hg, rfl, rfl, HCC, hci, HB⟩ := hrel
    have HG := Lib.hid hg
    have hi : i ≤ 8 := by omega
    clear hg
    by_cases hlt : i < 8
    · have HS := Lib.hid (HC.out i)
      obtain ⟨k, hk⟩ : ∃ k, K i = k := ⟨_, rfl⟩
      have HKI := Lib.hid (HKK.out i wr hlt HB.out)
      rw [hk] at HKI HS
      clear hk
      by_cases hk0 : k = 0
      · have hb : (((k : Nat) : Int) != 0) = false := by rw [bne_eq_false_iff_eq]; omega
        rw [if_pos hk0, Nat.add_zero] at HS
        go_wp2_with fail
        (with_reducible refine HKI.out.mono ?_); rintro e w2 ⟨rfl, hB⟩
        have HB2 := Lib.hid (below_then HB.out hB (Nat.le_refl _))
        clear hB
        go_wp2_with fail
        go_light
        go_roundg (8 - (i + 1))
        case measure => have := HG.out; omega
        case rel => exact ⟨i + 1, c, by omega, by go_num, rfl, Lib.hid (by have := HS.out; rw [HCC.out]; exact this.symm), by omega, HB2⟩
      · have hb : (((k : Nat) : Int) != 0) = true := by rw [bne_iff_ne]; omega
        rw [if_neg hk0] at HS
        go_wp2_with fail
        (with_reducible refine HKI.out.mono ?_); rintro e w2 ⟨rfl, hB⟩
        have HB2 := Lib.hid (below_then HB.out hB (Nat.le_refl _))
        clear hB
        go_wp2_with fail
        go_light
        go_roundg (8 - (i + 1))
        case measure => have := HG.out; omega
        case rel => exact ⟨i + 1, c + 1, by omega, by go_num, by go_num, Lib.hid (by have := HS.out; rw [HCC.out]; exact this.symm), by omega, HB2⟩
    · have : i = 8 := by omega
      subst this
      go_wp2_with fail
      go_light
      go_ret
      exact ⟨by rw [HCC.out]; rfl, HB.out⟩
end Slot
end Go.Proofs.YtpakdcgcgekcfaaDoor

/-
  The reference's AES: Boxes, Xor.
-/
set_option linter.unusedSimpArgs false
set_option linter.unusedVariables false
namespace Go.Proofs.YtpakdcgcgekcfaaDoor
open Go.RowKit

namespace Aes
open Otp R1 Fuse Sha
theorem made_u8 (n : Nat) : madeCells (#[.int .u8 0] : Array Value) n = b8 (List.replicate n 0) := by
  apply Array.ext_getElem?
  intro i
  by_cases h : i < n
  · rw [made_get _ n i h (by decide)]
    simp [b8, h, Nat.mod_one]
  · rw [Array.getElem?_eq_none (by have := size_madeCells (#[.int .u8 0] : Array Value) n; omega), Array.getElem?_eq_none (by rw [b8_size, List.length_replicate]; omega)]
theorem make_u8 (n : Nat) (hn : n ≤ 1000000) (w : World) : (Instr.makeSlice 53 (.int .i64 (n : Int)) (.int .i64 (n : Int))).run Tryd.prog w = .ok (.slice (some ⟨w.heap.size, 0, none⟩) n n) (w.alloc (.cells (b8 (List.replicate n 0)) 5)) := by
  obtain ⟨i, hi, hz, hs, hby⟩ := info_row u8_info
  have h := run_make_rowN (P := Tryd.prog) 53 5 i _ Tryd.underlying53 hi hz .i64 .i64 n n (Nat.le_refl _) (by rw [hby]; omega) (by omega) w
  rw [hs, Nat.mul_one] at h
  rw [h, ← made_u8 n]
  rfl
def BxOut (w : World) (e : Ending) (w' : World) : Prop := ∃ g, e = .returned (.slice (some ⟨g, 0, none⟩) 256 256) ∧ w.heap.size ≤ g ∧ Blk w' g 5 (b8 sbox) ∧ Below w.heap.size w w'
set_option maxRecDepth 100000 in
set_option maxHeartbeats 2000000 in
theorem rboxes_any (w : World) : Calls Tryd.prog 92 #[] w (BxOut w) := by
  have hmk := make_u8 256 (by decide)
  have hmk2 : ∀ w : World, (Instr.makeSlice 53 (.int .i64 256) (.int .i64 256)).run Tryd.prog w = .ok (.slice (some ⟨w.heap.size, 0, none⟩) 256 256) (w.alloc (.cells (b8 z256) 5)) := fun w => hmk w
  clear hmk
  go_enter Tryd.func92, Tryd.ntmps92
  go_upto_region 2 with fail
  clear hmk2
  obtain ⟨w1, hw1⟩ : ∃ W, W = w.alloc (.cells (b8 z256) 5) := ⟨_, rfl⟩
  have HB1 := wall (show Below w.heap.size w w1 by rw [hw1]; exact (Below.refl _ _).alloc (Nat.le_refl _) _)
  have HK1 := wall (show Blk w1 w.heap.size 5 (b8 z256) by rw [hw1]; exact Blk.new _ _ _)
  rw [← hw1]
  clear hw1
  obtain ⟨g, hg⟩ : ∃ x, w.heap.size = x := ⟨_, rfl⟩
  have HG0 := wall hg
  rw [hg] at HK1 ⊢
  clear hg
  go_wp2_with fail
  go_loopg [6] 256 (fun gm s6 wr => ∃ (i : Nat) (cur : List Nat), i + gm = 256 ∧ s6 = .int .i64 (i : Int) ∧ cur.length = 256 ∧ Wall (∀ j, cur[j]? = if j < i then sbox[j]? else z256[j]?) ∧ Wall (Blk wr g 5 (b8 cur)) ∧ Wall (Below w.heap.size w wr))
  case atStart => exact ⟨0, z256, by omega, rfl, rfl, wall (fun j => by simp), HK1, HB1⟩
  case round =>
    clear HB1 HK1
    obtain ⟨i, cur, hg, rfl, hcl, HC, HK, HB⟩ := hrel
    have HG := wall hg
    have HCL := wall hcl
    have hi : i ≤ 256 := by omega
    clear hg hcl
    by_cases hlt : i < 256
    · have HBC := wall (fun W => rbox_any (i : Int) i W rfl hlt)
      have hbx := box_at hlt
      obtain ⟨y, hy⟩ : ∃ y, boxR i = y := ⟨_, rfl⟩
      rw [hy] at HBC hbx
      have hcx : cur[i]? = some 0 := by
        rw [HC.out, if_neg (by omega)]
        exact List.getElem?_replicate_of_lt hlt
      have hcv : IntKind.u8.wrap (i : Int) = (i : Int) := by rw [IntKind.wrap_u8]; omega
      have HC2 := wall (show ∀ j, (cur.set i y)[j]? = if j < i + 1 then sbox[j]? else z256[j]? from fun j => by
        rw [List.getElem?_set]
        by_cases h : i = j
        · subst h
          rw [if_pos rfl, if_pos (by rw [HCL.out]; exact hlt), if_pos (by omega), hbx]
        · rw [if_neg h, HC.out j]
          by_cases hj : j < i
          · rw [if_pos hj, if_pos (by omega)]
          · rw [if_neg hj, if_neg (by omega)])
      have HCX := wall hcx
      clear hbx hcx hy HC
      go_wp2_with fail
      (with_reducible refine (HBC.out _).mono ?_); rintro e w3 ⟨rfl, hB3⟩
      have hK3 : Blk w3 g 5 (b8 cur) := HK.out.next hB3 rfl
      have HB3 := wall (below_then HB.out hB3 (Nat.le_refl _))
      have hc3 : w3.cell? ⟨g, i, none⟩ = some (.int .u8 ((0 : Nat) : Int)) := by rw [hK3.cell]; exact b8_at HCX.out
      have hf3 := hK3.frozen i
      have hl3 := hK3.lt
      have HK4 := wall (show Blk (w3.setCell ⟨g, i, none⟩ (.int .u8 (y : Int))) g 5 (b8 (cur.set i y)) by rw [← b8_put]; exact hK3.set _ _)
      have HB4 := wall (show Below w.heap.size w (w3.setCell ⟨g, i, none⟩ (.int .u8 (y : Int))) from HB3.out.setCell (p := ⟨g, i, none⟩) (by have := HG0.out; simp only; omega) _)
      clear hB3 hK3 HB HK HB3 HBC
      go_wp2_with fail
      go_light
      go_roundg (256 - (i + 1))
      case measure => have := HG.out; omega
      case rel => exact ⟨i + 1, cur.set i y, by omega, by go_num, by rw [List.length_set]; exact HCL.out, HC2, HK4, HB4⟩
    · have hcur : cur = sbox := by
        apply List.ext_getElem?
        intro j
        rw [HC.out j]
        by_cases hj : j < i
        · rw [if_pos hj]
        · rw [if_neg hj, List.getElem?_eq_none (by rw [z256, List.length_replicate]; omega), List.getElem?_eq_none (by rw [sbox_len]; omega)]
      subst hcur
      clear HCL HC
      go_wp2_with fail
      go_light
      go_ret
      exact ⟨g, rfl, by rw [HG0.out]; exact Nat.le_refl _, HK.out, HB.out⟩
end Aes
end Go.Proofs.YtpakdcgcgekcfaaDoor

/-
  A slice of slices of bytes that the call itself makes, row behind row.
-/
set_option linter.unusedSimpArgs false
set_option linter.unusedVariables false
namespace Go.Proofs.YtpakdcgcgekcfaaDoor
open Go.RowKit

namespace Aes
open Otp R1 Fuse Sha
def Rws (w : World) (B : Nat) (ws : List (List Nat)) (vs : List Value) : Prop := vs.length = ws.length ∧ ∀ (k : Nat) (word : List Nat), ws[k]? = some word → ∃ v, vs[k]? = some v ∧ OwnB w B v word
def RwsO (w : World) (B : Nat) (ws : List (List Nat)) (u : Value) : Prop := ∃ vs, Rws w B ws vs ∧ w.ownsRow B 53 1 u ws.length vs
theorem RwsO.frm {w w' : World} {B : Nat} {ws : List (List Nat)} {u : Value} {S : List Nat} (h : RwsO w B ws u) (hf : Frm S w w') (hS : ∀ x ∈ S, x < B) : RwsO w' B ws u := by
  obtain ⟨vs, ⟨h1, h2⟩, h3⟩ := h
  exact ⟨vs, ⟨h1, fun k word hk => let ⟨v, h4, h5⟩ := h2 k word hk; ⟨v, h4, own_frm h5 hf hS⟩⟩, own_frm h3 hf hS⟩
theorem RwsO.old {w w' : World} {B : Nat} {ws : List (List Nat)} {u : Value} (h : RwsO w B ws u) (hb : Below w.heap.size w w') : RwsO w' B ws u := h.frm (S := []) (Frm.of_below hb) (fun x hx => by simp at hx)
theorem RwsO.nil (w : World) (B : Nat) : RwsO w B [] (.slice none 0 0) := ⟨[], ⟨rfl, fun k word hk => by simp at hk⟩, World.ownsRow_nil _ _ _ _⟩
theorem row_info : (Tryd.prog.info? 53).map (fun i => (i.zero, i.size, i.bytes)) = some (some (.slice none 0 0), 1, 24) := by kernel_rfl
theorem own_block {t : TypeId} {w : World} {B n : Nat} {u : Value} {vs : List Value} {q : Nat} (h : w.ownsRow B t 1 u n vs) (hq : u.ownBlock = some q) : ∃ cs, Blk w q t cs := by
  rcases h.2 with ⟨rfl, _⟩ | ⟨g, cap, cur, rfl, _, hg, _⟩
  · cases hq
  · simp only [Value.ownBlock] at hq
    cases hq
    exact ⟨cur, hg⟩
theorem own_apart {w w' : World} {B B' n : Nat} {u : Value} {vs : List Value} {v : Value} {l : List Nat} (hu : w.ownsRow B 53 1 u n vs) (hg : w.grownBy w' u.ownBlock) (h : OwnB w B' v l) : OwnB w' B' v l := by
  refine ⟨h.1, ?_⟩
  rcases h.2 with hn | ⟨q, cap, cur, hv, hbg, hq, rest⟩
  · exact .inl hn
  · refine .inr ⟨q, cap, cur, hv, hbg, (hg.block q (Lib.lt_of_heap hq) (fun hx => ?_)).trans hq, rest⟩
    obtain ⟨cs, hc⟩ := own_block hu hx.symm
    have := (Blk.eq hc (show Blk w q 5 cur from hq)).1
    exact absurd this (by decide)
theorem blk_apart {w w' : World} {B n : Nat} {u : Value} {vs : List Value} {g : Nat} {t : TypeId} {cs : Array Value} (hu : w.ownsRow B 53 1 u n vs) (hg : w.grownBy w' u.ownBlock) (h : Blk w g t cs) (ht : t ≠ 53) : Blk w' g t cs := by
  refine (hg.block g h.lt (fun hx => ?_)).trans h
  obtain ⟨cs', hc⟩ := own_block hu hx.symm
  exact ht (Blk.eq h hc).1
theorem own_slice {w : World} {B : Nat} {v : Value} {l : List Nat} {n : Nat} (h : OwnB w B v l) (hn : l.length = n) (h0 : 0 < n) : ∃ g cap, v = .slice (some ⟨g, 0, none⟩) n cap := by
  rcases h.2 with ⟨_, h1⟩ | ⟨q, cap, cur, rfl, _⟩
  · omega
  · exact ⟨q, cap, by rw [hn]⟩
theorem ownB_one {w : World} {B : Nat} {v : Value} {l : List Nat} (h : OwnB w B v l) : v.oneCell' = true := by
  rcases h.2 with ⟨rfl, _⟩ | ⟨q, cap, cur, rfl, _⟩ <;> rfl
/-- A row behind the rows. -/
theorem wpList_append_row {ops : Array Oper} {rest : List Oper} {o : Oper} {a : Act} {W : World} {Q : Exit → Act → World → Prop} (hgd : o.guard = none) (s x : Operand) (ho : o.op = .call { callee := .builtin .append, args := #[s, x], argTypes := #[134, 134] })
    (B : Nat) (u : Value) (ws : List (List Nat)) (hs : a.eval s = u) (hO : RwsO W B ws u) (v : Value) (word : List Nat) (hv : OwnB W B v word) (hx : a.eval x = .slice (some ⟨W.heap.size, 0, none⟩) 1 1) (hl : ws.length ≤ 1000000) (hB : B ≤ W.heap.size)
    (h : ∀ u' w', RwsO w' B (ws ++ [word]) u' → Below B W w' → (∀ g t cs, Blk W g t cs → t ≠ 53 → Blk w' g t cs) → wpList Tryd.prog ops Q rest (a.put o.dst u') w') : wpList Tryd.prog ops Q (o :: rest) a (W.alloc (.cells #[v] 53)) := by
  obtain ⟨i0, hi0, hz0, hz1, hz2⟩ := info_row row_info
  obtain ⟨vs, ⟨h1, h2⟩, h3⟩ := hO
  have h3a : (W.alloc (.cells #[v] 53)).ownsRow B 53 1 u ws.length vs := h3.alloc _
  refine wpList_append_own _ hgd s x 134 ho B 53 i0 (.slice none 0 0) 1 24 Tryd.underlying134 hi0 hz0 hz1 hz2 rfl (by decide) u _ _ hs h3a ⟨W.heap.size, 0, none⟩ 1 1 [v] hx rfl (by simpa using cell_one_new W v 53) (fun z hz => by simp at hz; subst hz; exact ownB_one hv) (by simp only [maxLen]; omega) (by omega) (by simp; omega) (fun v1 w1 hO1 hg1 _ => ?_)
  refine h v1 w1 ⟨vs ++ [v], ⟨by simp [h1], fun k wd hk => ?_⟩, by simpa using hO1⟩ ((((Below.refl W.heap.size W).alloc (Nat.le_refl _) _).mono hB).grown hg1 (by simp; omega) (fun k hk => (World.ownsRow.lt h3a k hk).1)) (fun g t cs hg ht => blk_apart h3a hg1 (hg.alloc _) ht)
  rw [List.getElem?_append] at hk ⊢
  rw [h1]
  by_cases hkl : k < ws.length
  · rw [if_pos hkl] at hk ⊢
    obtain ⟨z, h4, h5⟩ := h2 k wd hk
    exact ⟨z, h4, own_apart h3a hg1 (own_frm h5 (Frm.of_below (S := []) ((Below.refl _ W).alloc (Nat.le_refl _) _)) (fun x hx => by simp at hx))⟩
  · rw [if_neg hkl] at hk ⊢
    obtain ⟨hk0, rfl⟩ : k - ws.length = 0 ∧ wd = word := by
      cases hq : k - ws.length with
      | zero => rw [hq] at hk; simp at hk; exact ⟨rfl, hk.symm⟩
      | succ m => rw [hq] at hk; simp at hk
    rw [hk0]
    exact ⟨v, rfl, own_apart h3a hg1 (own_frm hv (Frm.of_below (S := []) ((Below.refl _ W).alloc (Nat.le_refl _) _)) (fun x hx => by simp at hx))⟩
/-- A row that is looked at. -/
theorem RwsO.row {w : World} {B : Nat} {ws : List (List Nat)} {u : Value} (h : RwsO w B ws u) {k : Nat} {word : List Nat} (hk : ws[k]? = some word) : ∃ g cap v, u = .slice (some ⟨g, 0, none⟩) ws.length cap ∧ ws.length ≤ cap ∧ g < w.heap.size ∧ w.cell? ⟨g, k, none⟩ = some v ∧ OwnB w B v word := by
  obtain ⟨vs, ⟨h1, h2⟩, h3⟩ := h
  obtain ⟨v, h4, h5⟩ := h2 k word hk
  have hkl : k < ws.length := (List.getElem?_eq_some_iff.1 hk).1
  rcases h3.2 with ⟨_, h0⟩ | ⟨g, cap, cur, rfl, _, hg, hc, _, _, htk⟩
  · omega
  · refine ⟨g, cap, v, rfl, hc, Lib.lt_of_heap hg, ?_, h5⟩
    rw [cell_of_row w g k cur _ _ hg]
    have : (cur.toList.take (ws.length * 1))[k]? = some v := by rw [htk]; exact h4
    rw [List.getElem?_take, if_pos (by omega)] at this
    simpa using this
end Aes
end Go.Proofs.YtpakdcgcgekcfaaDoor

/-
  The reference's AES: Words.
-/
set_option linter.unusedSimpArgs false
set_option linter.unusedVariables false
namespace Go.Proofs.YtpakdcgcgekcfaaDoor
open Go.RowKit

namespace Aes
open Otp R1 Fuse Sha
/-- The schedule's words so far. -/
def wSo (n : Nat) (key : List Nat) (i : Nat) : List (List Nat) := if i ≤ n then (kw0 key n).take i else kGo n (kw0 key n) (i - n)
theorem wSo_length {n : Nat} {key : List Nat} (i : Nat) : (wSo n key i).length = i := by
  unfold wSo
  split
  · rw [List.length_take, kw0_length]; omega
  · rw [kGo_length, kw0_length]; omega
theorem wSo_first {n : Nat} {key : List Nat} {i : Nat} (hi : i < n) : wSo n key (i + 1) = wSo n key i ++ [(key.drop (4 * i)).take 4] := by
  unfold wSo
  rw [if_pos (by omega), if_pos (by omega)]
  refine take_snoc ?_
  rw [kw0, List.getElem?_map, List.getElem?_range hi]
  rfl
theorem wSo_go {n : Nat} {key : List Nat} {i : Nat} (hi : n ≤ i) : wSo n key i = kGo n (kw0 key n) (i - n) := by
  unfold wSo
  by_cases h : i ≤ n
  · rw [if_pos h, show i - n = 0 by omega, kGo, List.take_of_length_le (by rw [kw0_length]; omega)]
  · rw [if_neg h]
theorem wSo_next {n : Nat} {key : List Nat} {i : Nat} (hn : 0 < n) (hi : n ≤ i) {t o : List Nat} (ht : (wSo n key i)[i - 1]? = some t) (ho : (wSo n key i)[i - n]? = some o) : wSo n key (i + 1) = wSo n key i ++ [xorL (kTurn n i t) o] := by
  rw [wSo_go (by omega), wSo_go hi, show i + 1 - n = i - n + 1 by omega]
  rw [wSo_go hi] at ht ho
  have := kGo_next n (kw0 key n) (i - n) (t := t) (o := o) (by rw [kw0_length, show n + (i - n) - 1 = i - 1 by omega]; exact ht) (by rw [kw0_length, show n + (i - n) - n = i - n by omega]; exact ho)
  rw [kw0_length, show n + (i - n) = i by omega] at this
  exact this
theorem wSo_w4 {n : Nat} {key : List Nat} (hn : 0 < n) (hl : key.length = 4 * n) (hb : ∀ x ∈ key, x < 256) (i : Nat) : ∀ t ∈ wSo n key i, W4 t := by
  unfold wSo
  split
  · exact fun t ht => kw0_ok hl hb t (List.mem_of_mem_take ht)
  · exact kGo_ok hn (kw0_length _ _) (kw0_ok hl hb) _
theorem gm_two : ((List.range 256).all fun x => gm x 2 == xt x) = true := by decide +kernel
theorem rmul_two {x : Nat} (hx : x < 256) : rmul x 2 = xt x := by
  rw [rmul_gm hx (by decide)]
  have := all256 gm_two hx
  simpa using this
theorem own_lit4 (W : World) {B a b c d : Nat} (hB : B ≤ W.heap.size) : OwnB (W.alloc (.cells #[.int .u8 (a : Int), .int .u8 (b : Int), .int .u8 (c : Int), .int .u8 (d : Int)] 5)) B (.slice (some ⟨W.heap.size, 0, none⟩) 4 4) [a, b, c, d] :=
  ⟨rfl, .inr ⟨W.heap.size, 4, #[.int .u8 (a : Int), .int .u8 (b : Int), .int .u8 (c : Int), .int .u8 (d : Int)], rfl, hB, heap_alloc_new W _, Nat.le_refl _, by decide, rfl, rfl⟩⟩
theorem own_set {w : World} {B g n c j y : Nat} {l : List Nat} (h : OwnB w B (.slice (some ⟨g, 0, none⟩) n c) l) (hn : l.length = n) (hj : j < n) : OwnB (w.setCell ⟨g, j, none⟩ (.int .u8 (y : Int))) B (.slice (some ⟨g, 0, none⟩) n c) (l.set j y) := by
  refine ⟨by simp, ?_⟩
  rcases h.2 with ⟨h0, _⟩ | ⟨q, cap, cur, hv, hb, hq, h1, h2, h3, h4⟩
  · cases h0
  · cases hv
    refine .inr ⟨g, c, cur.setIfInBounds j (.int .u8 (y : Int)), by rw [List.length_set, hn], hb, Blk.set (show Blk w g 5 cur from hq) j _, by rw [List.length_set]; exact h1, h2, by simpa using h3, ?_⟩
    rw [Array.toList_setIfInBounds, List.length_set, Nat.mul_one, List.take_set, List.map_set]
    rw [Nat.mul_one] at h4
    rw [h4]
theorem own_cell {w : World} {B g n c : Nat} {l : List Nat} (h : OwnB w B (.slice (some ⟨g, 0, none⟩) n c) l) : g < w.heap.size ∧ B ≤ g ∧ (∀ j, w.frozen? ⟨g, j, none⟩ = false) ∧ ∀ (j x : Nat), l[j]? = some x → w.cell? ⟨g, j, none⟩ = some (.int .u8 (x : Int)) := by
  rcases h.2 with ⟨h0, _⟩ | ⟨q, cap, cur, hv, hb, hq, h1, h2, h3, h4⟩
  · cases h0
  · cases hv
    have hk : Blk w g 5 cur := hq
    refine ⟨hk.lt, hb, hk.frozen, fun j x hx => ?_⟩
    rw [hk.cell]
    have hjl : j < l.length := (List.getElem?_eq_some_iff.1 hx).1
    have : (cur.toList.take (l.length * 1))[j]? = some (.int .u8 (x : Int)) := by rw [h4, List.getElem?_map, hx]; rfl
    rw [List.getElem?_take, if_pos (by omega)] at this
    simpa using this
theorem conA_turn {n i : Nat} (hn : 0 < n) (hi : n ≤ i) : conA (i / n) = if i % n = 0 then xt (conA ((i - 1) / n)) else conA ((i - 1) / n) := by
  by_cases h : i % n = 0
  · rw [if_pos h, con_less hn hi h]
    have : 0 < i / n := Nat.div_pos hi hn
    obtain ⟨k, hk⟩ : ∃ k, i / n = k + 1 := ⟨i / n - 1, by omega⟩
    rw [hk]
    rfl
  · rw [if_neg h, con_same hn (by omega) h]
structure Wd (W : World) (gb : Nat) (ws : List (List Nat)) (u : Value) (w : World) : Prop where
  bx : Blk w gb 5 (b8 sbox)
  rows : RwsO w W.heap.size ws u
  bel : Below W.heap.size W w
theorem Wd.old {W w w' : World} {gb : Nat} {ws : List (List Nat)} {u : Value} (h : Wd W gb ws u w) (hb : Below w.heap.size w w') : Wd W gb ws u w' := ⟨h.bx.next hb rfl, h.rows.old hb, below_then h.bel hb (Nat.le_refl _)⟩
def WordsOut (w : World) (ws : List (List Nat)) (e : Ending) (w' : World) : Prop := ∃ u, e = .returned u ∧ RwsO w' w.heap.size ws u ∧ Below w.heap.size w w'
set_option maxRecDepth 100000 in
set_option maxHeartbeats 4000000 in
theorem rwords_any (A : Option Addr) (len cap n : Nat) (key : List Nat) (w : World) (hn : n = 4 ∨ n = 8) (hlen : len = 4 * n) (hl : key.length = len) (hc : len ≤ cap) (hz : Nats .u8 256 w w.heap.size A key) :
    Calls Tryd.prog 93 #[.slice A len cap] w (WordsOut w (wSo n key (4 * (n + 7)))) := by
  have HZ := wall hz
  have HKL := wall (show key.length = 4 * n by omega)
  have HKB := wall (show ∀ x ∈ key, x < 256 from fun x hx => by
    obtain ⟨i, hi⟩ := List.mem_iff_getElem?.1 hx
    exact (hz i x hi).1)
  have HW4 := wall (fun i => wSo_w4 (n := n) (by omega) HKL.out HKB.out i)
  have HWL := wall (fun i => wSo_length (n := n) (key := key) i)
  have HWF := wall (fun i (h : i < n) => wSo_first (key := key) h)
  have HWN := wall (fun i t o (h : n ≤ i) (ht : (wSo n key i)[i - 1]? = some t) (ho : (wSo n key i)[i - n]? = some o) => wSo_next (key := key) (by omega) h ht ho)
  have HW0 := wall (show wSo n key 0 = [] by simp [wSo])
  have hq : (len : Int).tdiv 4 = (n : Int) := by rw [Int.tdiv_eq_ediv_of_nonneg (by omega)]; omega
  have hq2 : (len : Int) / 4 = (n : Int) := by omega
  generalize wSo n key = ws at *
  have HLN := wall hlen
  obtain ⟨ad, rfl⟩ : ∃ ad, A = some ad := by
    obtain ⟨_, b, off, h, _⟩ := hz 0 key[0] (List.getElem?_eq_getElem (by omega))
    exact ⟨_, h⟩
  clear hz hlen hl
  go_enter Tryd.func93, Tryd.ntmps93
  go_wp2_with fail
  (with_reducible refine (rboxes_any _).mono ?_); rintro e w1 ⟨gb, rfl, hgb, hK1, hB1⟩
  have HD1 := wall (show Wd w gb (ws 0) (.slice none 0 0) w1 from ⟨hK1, by rw [HW0.out]; exact RwsO.nil _ _, hB1⟩)
  have HGB := wall hgb
  clear hK1 hB1 hgb hq hq2
  go_wp2_with fail
  go_loopg [5, 6, 7] (4 * (n + 7)) (fun gm s5 s6 s7 wr => ∃ (i : Nat) (u : Value), i + gm = 4 * (n + 7) ∧ s7 = .int .i64 (i : Int) ∧ s5 = u ∧ s6 = .int .u8 (conA ((i - 1) / n) : Int) ∧ Wall (Wd w gb (ws i) u wr))
  case atStart => exact ⟨0, .slice none 0 0, by omega, rfl, rfl, by simp; rfl, HD1⟩
  case round =>
    clear HD1
    obtain ⟨i, u, hg, rfl, rfl, rfl, HD⟩ := hrel
    have HG := wall hg
    have hi : i ≤ 4 * (n + 7) := by omega
    clear hg
    by_cases hlt : i < 4 * (n + 7)
    · by_cases hin : i < n
      · have hsl := run_slice_lh1 (P := Tryd.prog) 53 5 Tryd.underlying53 (fun _ => by kernel_rfl) (some ad) len cap (4 * i) (4 * i + 4) .i64 .i64 (4 * (i : Int)) (4 * (i : Int) + 4) (by omega) (by omega) (by omega) (by have := HLN.out; omega)
        rw [show 4 * i + 4 - 4 * i = 4 by omega] at hsl
        obtain ⟨word, hwd⟩ : ∃ x, (key.drop (4 * i)).take 4 = x := ⟨_, rfl⟩
        have HWD := wall (show word.length = 4 by rw [← hwd, List.length_take, List.length_drop, HKL.out]; omega)
        have hnx := HWF.out i hin
        rw [hwd] at hnx
        have HNX := wall hnx
        have HNW := wall (show Nats .u8 256 w w.heap.size (slA (some ad) (4 * i) cap) word by rw [← hwd]; exact (nats_slA (i := 4 * i) (cap := cap) HZ.out (by have := HLN.out; have := HKL.out; omega)).take 4)
        have HSN := wall (show slA (some ad) (4 * i) cap = none → cap - 4 * i = 0 from fun h => by
          unfold slA at h
          split at h <;> cases h)
        have HWL1 := wall (show (ws i).length ≤ 1000000 by rw [HWL.out]; omega)
        obtain ⟨A2, hA2⟩ : ∃ x, slA (some ad) (4 * i) cap = x := ⟨_, rfl⟩
        rw [hA2] at hsl HNW HSN
        have HB0 := wall (show Below wr.heap.size wr (wr.alloc (.cells #[] 5)) from (Below.refl _ _).alloc (Nat.le_refl _) _)
        have HO0 := wall (own_zero wr)
        clear hwd hnx hA2
        go_wp2_with (refine wpList_append_bytes rfl (.tmp 25) (.tmp 32) rfl wr.heap.size (.slice (some ⟨wr.heap.size, 0, none⟩) 0 0) [] rfl HO0.out A2 4 (cap - 4 * i) word rfl HWD.out ⟨_, HNW.out.below (HD.out.bel.trans (HB0.out.mono HD.out.bel.size))⟩ HSN.out (by decide) HB0.out.size ?_; intro v1 w3 hO3 hB3; refine Sha.Wall.out (?_ : Wall _))
        refine ⟨?_⟩
        have HB3 := wall (show Below wr.heap.size wr w3 from HB0.out.trans hB3)
        have HD3 := wall (HD.out.old HB3.out)
        have HO3 := wall (show OwnB w3 w.heap.size v1 word from own_less (by simpa using hO3) HD.out.bel.size)
        clear hO3 hB3 hsl HO0 HB0 HSN HNW HB3
        obtain ⟨g1, c1, rfl⟩ := own_slice HO3.out HWD.out (by decide)
        go_wp2_with (refine wpList_append_row rfl (.tmp 24) (.tmp 34) rfl w.heap.size u5 (ws i) rfl HD3.out.rows (.slice (some ⟨g1, 0, none⟩) 4 c1) word HO3.out rfl HWL1.out HD3.out.bel.size ?_; intro u' w4 hR hB4 hK4)
        have HD4 := wall (show Wd w gb (ws (i + 1)) u' w4 from ⟨hK4 _ _ _ HD3.out.bx (by decide), by rw [HNX.out]; exact hR, HD3.out.bel.trans hB4⟩)
        clear hR hB4 hK4 HD3 HO3 HD
        go_light
        go_roundg (4 * (n + 7) - (i + 1))
        case measure => have := HG.out; omega
        case rel => exact ⟨i + 1, u', by omega, by go_num, rfl, by rw [show (i + 1 - 1) / n = 0 from Nat.div_eq_of_lt (by omega), show (i - 1) / n = 0 from Nat.div_eq_of_lt (by omega)], HD4⟩
      · have hni : n ≤ i := by omega
        have hwl := HWL.out i
        obtain ⟨t, ht⟩ : ∃ t, (ws i)[i - 1]? = some t := ⟨_, List.getElem?_eq_getElem (by omega)⟩
        obtain ⟨o, ho⟩ : ∃ o, (ws i)[i - n]? = some o := ⟨_, List.getElem?_eq_getElem (by omega)⟩
        have hnx := HWN.out i t o hni ht ho
        obtain ⟨x0, x1, x2, x3, htx, b0, b1, b2, b3⟩ := (HW4.out i t (List.mem_of_getElem? ht)).four
        obtain ⟨y0, y1, y2, y3, hoy, d0, d1, d2, d3⟩ := (HW4.out i o (List.mem_of_getElem? ho)).four
        obtain ⟨gu, cu, vt, rfl, hcu, hgu, hcell, hot⟩ := HD.out.rows.row ht
        rw [hwl] at hcu ⊢
        obtain ⟨gp, cp, rfl⟩ := own_slice hot (by rw [htx]; rfl) (show 0 < 4 by decide)
        have HNX := wall hnx
        have HT4 := wall (show t.length = 4 by rw [htx]; rfl)
        have HTB := wall (show ∀ x ∈ t, x < 256 from (HW4.out i t (List.mem_of_getElem? ht)).2)
        obtain ⟨Ap, cp', hpe, hcp, hNp, -⟩ := own_nats hot HTB.out
        rw [HT4.out] at hpe
        cases hpe
        have HNP := wall hNp
        have hi1 : (i : Int) - 1 = ((i - 1 : Nat) : Int) := by omega
        have HO0 := wall (own_zero wr)
        have HB0 := wall (show Below wr.heap.size wr (wr.alloc (.cells #[] 5)) from (Below.refl _ _).alloc (Nat.le_refl _) _)
        have hcell2 := (hcell : wr.cell? ⟨gu, i - 1, none⟩ = _)
        have htn : ((i : Int) - 1).toNat = i - 1 := by omega
        have h1i : (1 : Int) ≤ (i : Int) := by omega
        have hcl : (wr.alloc (.cells #[] 5)).cell? ⟨gu, i - 1, none⟩ = some (.slice (some ⟨gp, 0, none⟩) 4 cp) := (HB0.out.cell (p := ⟨gu, i - 1, none⟩) hgu).trans hcell
        have hgl : gu < (wr.alloc (.cells #[] 5)).heap.size := by simp; omega
        have HR := wall (And.intro ht ho)
        clear hnx hot hcp hNp hwl ht ho hcell hcell2
        go_upto_region 11 with (refine wpList_append_bytes rfl (.tmp 36) (.tmp 41) rfl wr.heap.size (.slice (some ⟨wr.heap.size, 0, none⟩) 0 0) [] rfl HO0.out (some ⟨gp, 0, none⟩) 4 cp t rfl HT4.out ⟨_, HNP.out.below HB0.out⟩ (fun h => nomatch h) (by decide) HB0.out.size ?_; intro v3 w3 hO3 hB3)
        have HB3 := wall (show Below wr.heap.size wr w3 from HB0.out.trans hB3)
        have HD3 := wall (HD.out.old HB3.out)
        have HO3 := wall (show OwnB w3 wr.heap.size v3 t by simpa using hO3)
        clear hO3 hB3 HO0 HB0 HNP hcl hgl htn hi1
        obtain ⟨gt, ct, rfl⟩ := own_slice HO3.out HT4.out (by decide)
        obtain ⟨At, ct', hte, hct, hNt, hgt⟩ := own_nats HO3.out HTB.out
        rw [HT4.out] at hte
        cases hte
        have hgt2 : wr.heap.size ≤ gt := hgt _ rfl
        have hgtl : gt < w3.heap.size := by
          obtain ⟨_, b, off, hq, hb, _⟩ := hNt 0 x0 (by rw [htx]; rfl)
          cases hq
          exact hb
        have HNT := wall (show ∀ (j x : Nat), t[j]? = some x → w3.cell? ⟨gt, j, none⟩ = some (.int .u8 (x : Int)) from fun j x hx => by
          obtain ⟨_, b, off, hq, _, hc⟩ := hNt j x hx
          cases hq
          simpa using hc)
        have HSB := wall (fun x (h : x < 256) => show w3.cell? ⟨gb, x, none⟩ = some (.int .u8 (sb x : Int)) by
          rw [HD3.out.bx.cell]
          exact b8_at (sb_at h))
        have hgb3 := HD3.out.bx.lt
        obtain ⟨m, hm⟩ : ∃ m, i % n = m := ⟨_, rfl⟩
        have hmt : ((i : Int)).tmod (n : Int) = (m : Int) := by rw [Int.tmod_eq_emod_of_nonneg (by omega), ← hm]; simp
        have hme : ((i : Int)) % (n : Int) = (m : Int) := by rw [← hm]; simp
        have hn0 : ¬ (n : Int) = 0 := by omega
        have hcl := conA_lt ((i - 1) / n)
        have hct := conA_turn (show 0 < n by omega) hni
        have hkt : kTurn n i t = if m = 0 then [sb x1 ^^^ conA ((i - 1) / n), sb x2, sb x3, sb x0] else if 6 < n ∧ m = 4 then [sb x0, sb x1, sb x2, sb x3] else t := by
          rw [kTurn, hm, htx]
          by_cases h0 : m = 0
          · rw [if_pos h0, if_pos h0, con_less (show 0 < n by omega) hni (by omega)]
            rfl
          · rw [if_neg h0, if_neg h0]
            rfl
        rw [hm] at hct
        obtain ⟨cn, hcn⟩ : ∃ c, conA ((i - 1) / n) = c := ⟨_, rfl⟩
        obtain ⟨cn', hcn'⟩ : ∃ c, conA (i / n) = c := ⟨_, rfl⟩
        obtain ⟨T, hT⟩ : ∃ T, kTurn n i t = T := ⟨_, rfl⟩
        have HCN := wall hcn'
        have HTW := wall (show W4 T by rw [← hT]; exact kTurn_ok ⟨HT4.out, HTB.out⟩)
        have HO := wall HR.out.2
        rw [hcn] at hcl hct hkt ⊢
        rw [hcn'] at hct
        rw [hT] at hkt HNX
        have HKT := wall hkt
        have HCT := wall hct
        have HM := wall hm
        have HMUL := wall (fun W => show Calls Tryd.prog 94 #[.int .u8 (cn : Int), .int .u8 2] W (fun e w' => e = .returned (.int .u8 (xt cn : Int)) ∧ W = w') by
          have := rmul_any (cn : Int) 2 cn 2 W rfl rfl hcl (by decide)
          rw [rmul_two hcl] at this
          exact this)
        have HTX := wall htx
        clear hm hgt hNt hT hcn hcn' hkt hct htx
        go_upto_if 46 with fail
        go_cut [6, 8] (fun s6 s8 w' => s6 = .int .u8 (cn' : Int) ∧ ∃ (g c : Nat), s8 = .slice (some ⟨g, 0, none⟩) 4 c ∧ wr.heap.size ≤ g ∧ Wall (OwnB w' wr.heap.size (.slice (some ⟨g, 0, none⟩) 4 c) T) ∧ Wall (Below w3.heap.size w3 w'))
        case first =>
          have c0 := HNT.out 0 x0 (by rw [HTX.out]; rfl)
          have c1 := HNT.out 1 x1 (by rw [HTX.out]; rfl)
          have c2 := HNT.out 2 x2 (by rw [HTX.out]; rfl)
          have c3 := HNT.out 3 x3 (by rw [HTX.out]; rfl)
          have e0 := HSB.out x0 b0
          have e1 := HSB.out x1 b1
          have e2 := HSB.out x2 b2
          have e3 := HSB.out x3 b3
          have l1 := sb_lt x1
          have hkt := HKT.out
          have hct := HCT.out
          generalize sb x0 = s0 at *
          generalize sb x1 = s1 at *
          generalize sb x2 = s2 at *
          generalize sb x3 = s3 at *
          have hxr := u8_xor_nat s1 cn l1 hcl
          obtain ⟨z, hz⟩ : ∃ z, s1 ^^^ cn = z := ⟨_, rfl⟩
          rw [hz] at hxr hkt
          have HBB := wall (show wr.heap.size ≤ w3.heap.size from HB3.out.size)
          clear hz l1 HNT HSB
          by_cases hm0 : m = 0
          · rw [if_pos hm0] at hkt hct
            have HKT2 := wall hkt
            have HCT2 := wall hct
            subst hm0
            clear hkt hct hmt hme HKT HCT
            have i0 : (x0 : Int) < 256 := by omega
            have i1 : (x1 : Int) < 256 := by omega
            have i2 : (x2 : Int) < 256 := by omega
            have i3 : (x3 : Int) < 256 := by omega
            go_wp2_with fail
            go_still_tail 26, (by kernel_rfl)
            change wpList _ _ _ _ _ w3.drew
            go_wp2_with fail
            (with_reducible refine (HMUL.out _).mono ?_); rintro e w4 ⟨rfl, rfl⟩
            go_wp2_with fail
            go_meet
            exact ⟨by rw [HCT2.out], w3.heap.size, 4, rfl, HBB.out, wall (by rw [HKT2.out]; exact own_lit4 w3 HBB.out), wall ((Below.drew (Below.refl _ w3)).alloc (Nat.le_refl _) _)⟩
          · have hmf : ((m : Int) == 0) = false := by rw [beq_eq_false_iff_ne]; omega
            rw [if_neg hm0] at hkt hct
            have HCT2 := wall hct
            by_cases h8 : n = 8
            · have h8t : ((n : Int) == 8) = true := by rw [beq_iff_eq]; omega
              have hmt8 : ((i : Int)).tmod 8 = (m : Int) := by
                rw [h8] at hmt
                exact hmt
              by_cases hm4 : m = 4
              · have hm4t : ((m : Int) == 4) = true := by rw [beq_iff_eq]; omega
                rw [if_pos ⟨by omega, hm4⟩] at hkt
                have HKT2 := wall hkt
                have i0 : (x0 : Int) < 256 := by omega
                have i1 : (x1 : Int) < 256 := by omega
                have i2 : (x2 : Int) < 256 := by omega
                have i3 : (x3 : Int) < 256 := by omega
                clear hkt hct HKT HCT h8 hm4 hm0 hme
                go_wp2_with fail
                go_still_tail 24, (by kernel_rfl)
                change wpList _ _ _ _ _ w3.drew
                go_wp2_with fail
                go_meet
                exact ⟨by rw [HCT2.out], w3.heap.size, 4, rfl, HBB.out, wall (by rw [HKT2.out]; exact own_lit4 w3 HBB.out), wall ((Below.drew (Below.refl _ w3)).alloc (Nat.le_refl _) _)⟩
              · have hm4f : ((m : Int) == 4) = false := by rw [beq_eq_false_iff_ne]; omega
                rw [if_neg (by omega)] at hkt
                have HKT2 := wall hkt
                clear hkt hct HKT HCT h8 hm4 hm0 hme
                go_wp2_with fail
                go_meet
                exact ⟨by rw [HCT2.out], gt, ct, rfl, hgt2, wall (by rw [HKT2.out]; exact HO3.out), wall (Below.refl _ _)⟩
            · have h8f : ((n : Int) == 8) = false := by rw [beq_eq_false_iff_ne]; omega
              rw [if_neg (by omega)] at hkt
              have HKT2 := wall hkt
              clear hkt hct HKT HCT h8 hm0 hme
              go_wp2_with fail
              go_meet
              exact ⟨by rw [HCT2.out], gt, ct, rfl, hgt2, wall (by rw [HKT2.out]; exact HO3.out), wall (Below.refl _ _)⟩
        case rest =>
          obtain ⟨rfl, g, c, rfl, hgg, hOT, hBT⟩ := hcut
          obtain ⟨gO, rfl⟩ : ∃ q, q = gk := ⟨_, rfl⟩
          obtain ⟨wO, rfl⟩ : ∃ q, q = wr := ⟨_, rfl⟩
          have HBT := wall (show Below wO.heap.size wO wc from HB3.out.trans (hBT.out.mono HB3.out.size))
          have HOT := wall hOT.out
          obtain ⟨t0, t1, t2, t3, hTx, -⟩ := HTW.out.four
          have HHG := wall hgg
          have HXO := wall (show (xorL T o).length = 4 by rw [hTx, hoy]; rfl)
          have HXB := wall (show ∀ x ∈ xorL T o, x < 256 from xorL_byte HTW.out.2 (HW4.out i o (List.mem_of_getElem? HO.out)).2)
          have HTO := wall (fun j (h : j < 4) => show ∃ a b, T[j]? = some a ∧ o[j]? = some b ∧ a < 256 ∧ b < 256 ∧ (xorL T o)[j]? = some (a ^^^ b) by
            have h1 : T[j]? = some (at0 T j) := at0_get (by rw [HTW.out.1]; exact h)
            have h2 : o[j]? = some (at0 o j) := at0_get (by rw [hoy]; exact h)
            exact ⟨_, _, h1, h2, HTW.out.2 _ (List.mem_of_getElem? h1), (HW4.out i o (List.mem_of_getElem? HO.out)).2 _ (List.mem_of_getElem? h2), xorL_at h1 h2⟩)
          have HO4 := wall (show o.length = 4 by rw [hoy]; rfl)
          obtain ⟨X, hX⟩ : ∃ X, xorL T o = X := ⟨_, rfl⟩
          rw [hX] at HXO HXB HTO HNX
          clear hOT hBT HO3 HNT HSB HKT HCT HMUL HTX HD3 HB3 hgtl hgb3 hmt hme hn0 hTx hX hgg
          go_wp2_with fail
          go_loopg [110] 4 (fun gm s110 wr' => ∃ (j : Nat) (cur : List Nat), j + gm = 4 ∧ s110 = .int .i64 (j : Int) ∧ cur.length = 4 ∧ Wall (∀ k, cur[k]? = if k < j then X[k]? else T[k]?) ∧ Wall (OwnB wr' wO.heap.size (.slice (some ⟨g, 0, none⟩) 4 c) cur) ∧ Wall (Below wO.heap.size wO wr'))
          case atStart => exact ⟨0, T, by omega, rfl, HTW.out.1, wall (fun k => by simp), HOT, HBT⟩
          case round =>
            clear HOT HBT
            obtain ⟨j, cur, hgj, rfl, hcl4, HCU, HOC, HBC⟩ := hrel
            have HGJ := wall hgj
            have HCL := wall hcl4
            have hj : j ≤ 4 := by omega
            clear hgj hcl4
            by_cases hjl : j < 4
            · obtain ⟨a, b, ha, hb, ha8, hb8, hab⟩ := HTO.out j hjl
              have HDJ := wall (HD.out.old HBC.out)
              obtain ⟨gu2, cu2, vo, hue, -, hgu2, hco, hoo⟩ := HDJ.out.rows.row HO.out
              cases hue
              obtain ⟨go1, co1, rfl⟩ := own_slice hoo HO4.out (by decide)
              obtain ⟨ho1, -, -, ho2⟩ := own_cell hoo
              have hob := ho2 j b hb
              obtain ⟨hg1, hg2, hg3, hg4⟩ := own_cell HOC.out
              have hca : cur[j]? = some a := by rw [HCU.out, if_neg (by omega)]; exact ha
              have hcj := hg4 j a hca
              have hfj := hg3 j
              have hxr := u8_xor_nat a b ha8 hb8
              obtain ⟨z, hz⟩ : ∃ z, a ^^^ b = z := ⟨_, rfl⟩
              rw [hz] at hxr hab
              have HOC2 := wall (own_set (y := z) HOC.out HCL.out hjl)
              have HBC2 := wall (show Below wO.heap.size wO (wr.setCell ⟨g, j, none⟩ (.int .u8 (z : Int))) from HBC.out.setCell (p := ⟨g, j, none⟩) (by simp only; exact hg2) _)
              have HCU2 := wall (show ∀ k, (cur.set j z)[k]? = if k < j + 1 then X[k]? else T[k]? from fun k => by
                rw [List.getElem?_set]
                by_cases h : j = k
                · subst h
                  rw [if_pos rfl, if_pos (by rw [HCL.out]; exact hjl), if_pos (by omega), hab]
                · rw [if_neg h, HCU.out k]
                  by_cases hk : k < j
                  · rw [if_pos hk, if_pos (by omega)]
                  · rw [if_neg hk, if_neg (by omega)])
              have hin1 : (i : Int) - (n : Int) = ((i - n : Nat) : Int) := by omega
              have hin2 : ((i - n : Nat) : Int) < (i : Int) := by omega
              have hinw : IntKind.i64.wrap ((i : Int) - (n : Int)) = ((i - n : Nat) : Int) := by rw [IntKind.wrap_i64]; omega
              have hinw2 : IntKind.i64.wrap ((i - n : Nat) : Int) = ((i - n : Nat) : Int) := by rw [IntKind.wrap_i64]; omega
              have hj4 : (j : Int) < 4 := by omega
              have hgun : gu < wr.heap.size := hgu2
              clear hz hg2 hg3 hg4 ho2 hab ha hb hca HCU HOC HBC HDJ hoo HTO
              go_wp2_with fail
              go_still_tail 15, (by kernel_rfl)
              change wpList _ _ _ _ _ wr.drew
              go_wp2_with fail
              go_light
              go_roundg (4 - (j + 1))
              case measure => have := HGJ.out; omega
              case rel => exact ⟨j + 1, cur.set j z, by omega, by go_num, by rw [List.length_set]; exact HCL.out, HCU2, HOC2, wall (Below.drew HBC2.out)⟩
            · have hj4 : j = 4 := by omega
              have hcur : cur = X := by
                apply List.ext_getElem?
                intro k
                rw [HCU.out k]
                by_cases hk : k < j
                · rw [if_pos hk]
                · rw [if_neg hk, List.getElem?_eq_none (by rw [HTW.out.1]; omega), List.getElem?_eq_none (by rw [HXO.out]; omega)]
              subst hcur
              have hjn : ¬ (j : Int) < 4 := by omega
              have HDJ := wall (HD.out.old HBC.out)
              have HWO := wall (show OwnB wr w.heap.size (.slice (some ⟨g, 0, none⟩) 4 c) cur from own_less HOC.out HD.out.bel.size)
              have HWI := wall (HWL.out i)
              have HL6 := wall (show (ws i).length ≤ 1000000 by rw [HWL.out]; omega)
              have HUW := wall (show RwsO wr w.heap.size (ws i) (.slice (some ⟨gu, 0, none⟩) i cu) by have := HDJ.out.rows; rw [HWL.out] at this; exact this)
              clear hj4 HCU HOC HBC HCL HTO
              go_wp2_with (refine wpList_append_row rfl (.tmp 129) (.tmp 131) rfl w.heap.size (.slice (some ⟨gu, 0, none⟩) i cu) (ws i) rfl HUW.out (.slice (some ⟨g, 0, none⟩) 4 c) cur HWO.out rfl HL6.out HDJ.out.bel.size ?_; intro u' w4 hR hB4 hK4)
              have HD4 := wall (show Wd w gb (ws (i + 1)) u' w4 from ⟨hK4 _ _ _ HDJ.out.bx (by decide), by rw [HNX.out]; exact hR, HDJ.out.bel.trans hB4⟩)
              clear hR hB4 hK4 HDJ HWO HD HUW
              go_light
              go_roundg (4 * (n + 7) - (i + 1))
              case measure => have := HG.out; omega
              case rel => exact ⟨i + 1, u', by omega, by go_num, rfl, by rw [show i + 1 - 1 = i by omega, HCN.out], HD4⟩
    · have hie : i = 4 * (n + 7) := by omega
      have hin : ¬ (i : Int) < 4 * ((n : Int) + 7) := by omega
      have HIE := wall hie
      clear hie hlt
      go_wp2_with fail
      go_light
      go_ret
      exact ⟨_, rfl, by rw [← HIE.out]; exact HD.out.rows, HD.out.bel⟩
end Aes
end Go.Proofs.YtpakdcgcgekcfaaDoor

/-
  The reference's AES: Encrypt (words for its walk).
-/
set_option linter.unusedSimpArgs false
set_option linter.unusedVariables false
namespace Go.Proofs.YtpakdcgcgekcfaaDoor
open Go.RowKit

namespace Aes
open Otp R1 Fuse Sha
theorem own_farT {w w' : World} {e t : TypeId} {B g n : Nat} {v : Value} {xs : List Value} {cs : Array Value} (h : w.ownsRow B e 1 v n xs) (hf : Frm [g] w w') (hk : Blk w g t cs) (ht : t ≠ e) : w'.ownsRow B e 1 v n xs := by
  refine ⟨h.1, ?_⟩
  rcases h.2 with hn | ⟨q, cap, cur, hv, hbg, hq, rest⟩
  · exact .inl hn
  · refine .inr ⟨q, cap, cur, hv, hbg, (hf.block q (Lib.lt_of_heap hq) (fun hx => ?_)).trans hq, rest⟩
    simp only [List.mem_singleton] at hx
    subst hx
    exact ht (Blk.eq hk (show Blk w q e cur from hq)).1
theorem own_lessR {w : World} {e : TypeId} {B B' n : Nat} {v : Value} {xs : List Value} (h : w.ownsRow B e 1 v n xs) (hB : B' ≤ B) : w.ownsRow B' e 1 v n xs := by
  refine ⟨h.1, ?_⟩
  rcases h.2 with hn | ⟨q, cap, cur, hv, hbg, hq, rest⟩
  · exact .inl hn
  · exact .inr ⟨q, cap, cur, hv, Nat.le_trans hB hbg, hq, rest⟩
theorem RwsO.farT {w w' : World} {B g : Nat} {t : TypeId} {ws : List (List Nat)} {u : Value} {cs : Array Value} (h : RwsO w B ws u) (hf : Frm [g] w w') (hk : Blk w g t cs) (h1 : t ≠ 5) (h2 : t ≠ 53) : RwsO w' B ws u := by
  obtain ⟨vs, ⟨a, b⟩, c⟩ := h
  exact ⟨vs, ⟨a, fun k word hk' => let ⟨v, h4, h5⟩ := b k word hk'; ⟨v, h4, own_farT h5 hf hk h1⟩⟩, own_farT c hf hk h2⟩
/-- The reference's Encrypt under way. -/
structure En (W : World) (gR gb gs : Nat) (ws : List (List Nat)) (u : Value) (S : List Nat) (w : World) : Prop where
  bx : Blk w gb 5 (b8 sbox)
  rows : RwsO w W.heap.size ws u
  ks : Blk w gs 90 (b8 S)
  kr : Blk w gR 90 (b8 z16)
  bel : Below W.heap.size W w
  o1 : W.heap.size ≤ gR
  o2 : gR < gs
section
variable {W w w' : World} {gR gb gs : Nat} {ws : List (List Nat)} {u : Value} {S S' : List Nat}
theorem En.old (h : En W gR gb gs ws u S w) (hb : Below w.heap.size w w') : En W gR gb gs ws u S w' := ⟨h.bx.next hb rfl, h.rows.old hb, h.ks.next hb rfl, h.kr.next hb rfl, below_then h.bel hb (Nat.le_refl _), h.o1, h.o2⟩
theorem En.far (h : En W gR gb gs ws u S w) {g : Nat} {t : TypeId} {cs : Array Value} (hf : Frm [g] w w') (hk : Blk w g t cs) (h1 : t ≠ 5) (h2 : t ≠ 53) (hg : gs < g) : En W gR gb gs ws u S w' := by
  have o1 := h.o1
  have o2 := h.o2
  exact ⟨h.bx.frm hf (fun hx => by simp at hx; subst hx; exact h1 (Blk.eq hk h.bx).1), h.rows.farT hf hk h1 h2, h.ks.frm hf (by simp; omega), h.kr.frm hf (by simp; omega), Below.frm h.bel hf (Nat.le_refl _) (fun x hx => by simp at hx; omega), o1, o2⟩
theorem En.put (h : En W gR gb gs ws u S w) (hf : Frm [gs] w w') (hk : Blk w' gs 90 (b8 S')) : En W gR gb gs ws u S' w' := by
  have o1 := h.o1
  have o2 := h.o2
  exact ⟨h.bx.frm hf (fun hx => by simp at hx; subst hx; exact absurd (Blk.eq h.ks h.bx).1 (by decide)), h.rows.farT hf h.ks (by decide) (by decide), hk, h.kr.frm hf (by simp; omega), Below.frm h.bel hf (Nat.le_refl _) (fun x hx => by simp at hx; omega), o1, o2⟩
theorem En.set (h : En W gR gb gs ws u S w) (j y : Nat) : En W gR gb gs ws u (S.set j y) (w.setCell ⟨gs, j, none⟩ (.int .u8 (y : Int))) := by
  refine h.put ((Frm.refl _ _).setCell (.inl (by simp)) _) ?_
  rw [← b8_put]
  exact h.ks.set _ _
theorem En.setT (h : En W gR gb gs ws u S w) {g : Nat} {cur : List Nat} (hk : Blk w g 90 (b8 cur)) (hg : gs < g) (j y : Nat) : En W gR gb gs ws u S (w.setCell ⟨g, j, none⟩ (.int .u8 (y : Int))) ∧ Blk (w.setCell ⟨g, j, none⟩ (.int .u8 (y : Int))) g 90 (b8 (cur.set j y)) := by
  refine ⟨h.far ((Frm.refl _ _).setCell (.inl (by simp)) _) hk (by decide) (by decide) hg, ?_⟩
  rw [← b8_put]
  exact hk.set _ _
end
/-- A round's work on a block, ahead of its key. -/
def pre1 (R r : Nat) (S : List Nat) : List Nat := if r = 0 then S else if r < R then mix [2, 3, 1, 1] (shiftF S) else shiftF S
def sSt (key b : List Nat) : Nat → List Nat
  | 0 => b
  | r + 1 => xorL (pre1 (rounds key) r (sSt key b r)) (kRound key r)
theorem sSt_enc (key b : List Nat) : ∀ r, r < rounds key → sSt key b (r + 1) = encGo key b r
  | 0, h => by rw [sSt, pre1, if_pos rfl]; rfl
  | r + 1, h => by
    rw [sSt, sSt_enc key b r (by omega), pre1, if_neg (by omega), if_pos h]
    rfl
theorem sSt_end (key b : List Nat) (h : 1 ≤ rounds key) : sSt key b (rounds key + 1) = encB key b := by
  obtain ⟨k, hk⟩ : ∃ k, rounds key = k + 1 := ⟨rounds key - 1, by omega⟩
  rw [sSt, pre1, if_neg (by omega), if_neg (by omega), encB, hk, sSt_enc key b k (by omega)]
  rfl
theorem pre1_ok (R r : Nat) {S : List Nat} (h : S.length = 16) (hb : ∀ x ∈ S, x < 256) : (pre1 R r S).length = 16 ∧ ∀ x ∈ pre1 R r S, x < 256 := by
  unfold pre1
  split
  · exact ⟨h, hb⟩
  · split
    · exact mixF_ok (shiftF_length _) (shiftF_byte _)
    · exact ⟨shiftF_length _, shiftF_byte _⟩
theorem sSt_ok {key b : List Nat} (hk : KeyOk key) (h : b.length = 16) (hb : ∀ x ∈ b, x < 256) : ∀ r, r ≤ rounds key + 1 → (sSt key b r).length = 16 ∧ ∀ x ∈ sSt key b r, x < 256
  | 0, _ => ⟨h, hb⟩
  | r + 1, hr => by
    obtain ⟨h1, h2⟩ := sSt_ok hk h hb r (by omega)
    obtain ⟨h3, h4⟩ := pre1_ok (rounds key) r h1 h2
    obtain ⟨h5, h6⟩ := hk.2 r (by omega)
    exact ⟨xorL_length h3 h5, xorL_byte h4 h6⟩
theorem kWords_so {key : List Nat} {n : Nat} (hn : key.length = 4 * n) (h0 : 0 < n) : wSo n key (4 * (n + 7)) = kWords key := by
  rw [wSo_go (by omega), kWords, show key.length / 4 = n by omega, show 4 * (n + 7) - n = 3 * n + 28 by omega]
end Aes
end Go.Proofs.YtpakdcgcgekcfaaDoor
