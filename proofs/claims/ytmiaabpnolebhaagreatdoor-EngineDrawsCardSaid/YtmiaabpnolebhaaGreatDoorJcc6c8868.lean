/-
  Texts of this claim, joined: MacA, MacB, MacC, MacD.
-/
import Derived.Test.YtmiaabpnolebhaaGreatDoorR1Sum
set_option linter.unusedSimpArgs false
set_option linter.unusedVariables false
/-
  Package mac: pad, num, New (keys of at most a block), Feed.
-/
namespace Go.Proofs.YtmiaabpnolebhaaGreatDoor
open Go.RowKit

namespace Mac
open Otp R1 Sha
def BytesRet (w : World) (l : List Nat) (e : Ending) (w' : World) : Prop := ∃ v, e = .returned v ∧ Bytes l v w' ∧ Below w.heap.size w w'
theorem bytes_ret {P : Program} {f : FuncId} {args : Array Value} {W : World} {l : List Nat} (h : Calls P f args W (BytesRet W l)) : Calls P f args W (fun e w'' => ∃ v, e = .returned v ∧ Rel.Grow W w'' ∧ Bytes l v w'') :=
  h.mono fun _ _ ⟨v, he, ho, hB⟩ => ⟨v, he, hB, ho⟩
theorem bytes_blk {w : World} {g o n : Nat} {t : TypeId} {L : List Value} {l : List Nat} (h : Blk w g t L.toArray) (hb : ∀ x ∈ l, x < 256) (hc : ∀ (j : Nat) (v : Value), (v8 l)[j]? = some v → L[o + j]? = some v) (hn : l.length = n) (c : Nat) (hcap : n ≤ c) : Bytes l (.slice (some ⟨g, o, none⟩) n c) w := by
  subst hn
  refine ⟨_, c, rfl, hcap, fun i z hz => ⟨hb z (List.mem_of_getElem? hz), g, o, rfl, h.lt, ?_⟩⟩
  rw [h.cell]
  have := hc i (.int .u8 (z : Int)) (by simp [v8, hz])
  simpa using this
theorem bytes_b8 {w : World} {g n : Nat} {t : TypeId} {l : List Nat} (h : Blk w g t (b8 l)) (hb : ∀ x ∈ l, x < 256) (hn : l.length = n) : Bytes l (.slice (some ⟨g, 0, none⟩) n n) w :=
  bytes_blk (o := 0) (L := v8 l) h hb (fun j v hv => by simpa using hv) hn n (Nat.le_refl _)
set_option maxRecDepth 100000 in
set_option maxHeartbeats 2000000 in
theorem pad_to (kb : List Nat) (c : Nat) (ci : Int) (w : World) (hci : ci = c) (hk : kb.length = 64) (hb : ∀ x ∈ kb, x < 256) (hc : c < 256) :
    Calls Tryz.prog 280 #[.agg (b8 kb), .int .u8 ci] w (BytesRet w (kb.map (· ^^^ c))) := by
  subst hci
  obtain ⟨res, hres⟩ : ∃ r, kb.map (· ^^^ c) = r := ⟨_, rfl⟩
  rw [hres]
  have HRL := wall (show res.length = 64 by rw [← hres, List.length_map, hk])
  have HRB := wall (show ∀ x ∈ res, x < 256 by rw [← hres]; exact turn_byte hc hb)
  have HRA := wall (show ∀ i x, kb[i]? = some x → res[i]? = some (x ^^^ c) from fun i x h => by rw [← hres, List.getElem?_map, h]; rfl)
  have HK := wall hk
  have HKB := wall hb
  clear hk hb hres
  go_enter Tryz.func280, Tryz.ntmps280
  go_wp2_with fail
  go_loopg [5, 6] 64 (fun g s5 s6 wr => ∃ i : Nat, i + g = 64 ∧ s6 = .int .i64 (i : Int) ∧ Wall (Blk wr w.heap.size 193 (b8 (res.take i ++ kb.drop i))) ∧ Wall (Below w.heap.size w wr))
  case atStart => exact ⟨0, by omega, rfl, wall (Blk.new w _ _), wall ((Below.refl _ w).alloc (Nat.le_refl _) _)⟩
  case round =>
    obtain ⟨i, hg, rfl, K, HB⟩ := hrel
    have HG := wall hg
    have hi : i ≤ 64 := by omega
    clear hg
    by_cases hlt : i < 64
    · obtain ⟨x, hx⟩ : ∃ x, kb[i]? = some x := ⟨_, List.getElem?_eq_getElem (by have := HK.out; omega)⟩
      have hxM := HKB.out x (List.mem_of_getElem? hx)
      have htl : (res.take i).length = i := by rw [List.length_take, HRL.out]; omega
      have hcx : wr.cell? ⟨w.heap.size, i, none⟩ = some (.int .u8 (x : Int)) := by
        rw [K.out.cell]
        refine b8_at ?_
        rw [List.getElem?_append_right (by omega), htl, Nat.sub_self, List.getElem?_drop, Nat.add_zero]
        exact hx
      have hfr : wr.frozen? ⟨w.heap.size, i, none⟩ = false := K.out.frozen _
      have hxo := u8_xor_nat x c hxM hc
      have HS := wall (show (res.take i ++ kb.drop i).set i (x ^^^ c) = res.take (i + 1) ++ kb.drop (i + 1) by
        rw [take_snoc (HRA.out i x hx), List.set_append_right _ _ (by omega), htl, Nat.sub_self, List.drop_eq_getElem_cons (by have := HK.out; omega), List.set_cons_zero, List.append_assoc]
        rfl)
      have hsz := K.out.lt
      obtain ⟨y, hy⟩ : ∃ y, x ^^^ c = y := ⟨_, rfl⟩
      rw [hy] at hxo HS
      clear hx htl hy
      go_wp2_with fail
      go_light
      go_roundg (64 - (i + 1))
      case measure => have := HG.out; omega
      case rel =>
        refine ⟨i + 1, by omega, by go_num, wall ?_, wall ?_⟩
        · have := K.out.set i (.int .u8 (y : Int))
          rw [b8_set, HS.out] at this
          exact this
        · exact HB.out.setCell (p := ⟨w.heap.size, i, none⟩) (Nat.le_refl _) _
    · have hi64 : i = 64 := by omega
      have hni : ¬ ((i : Int) < 64) := by omega
      have K2 := wall (show Blk wr w.heap.size 193 (b8 res) by
        have := K.out
        rw [hi64, List.take_of_length_le (by rw [HRL.out]; omega), List.drop_of_length_le (by rw [HK.out]; omega), List.append_nil] at this
        exact this)
      clear K hi64 hlt
      go_wp2_with fail
      go_light
      go_ret
      exact ⟨_, rfl, bytes_b8 K2.out HRB.out HRL.out, HB.out⟩
set_option maxHeartbeats 1000000 in
theorem num4_any (z : Int) (n : Nat) (w : World) (hz : z = n) (hn : z ≤ 1000000) : Calls Tryz.prog 276 #[.int .i64 z] w (BytesOut w (numB n 4)) := by
  have HZ := wall hz
  have h0 : 0 ≤ z := by omega
  clear hz
  go_enter Tryz.func276, Tryz.ntmps276
  go_wp2_with fail
  go_light
  go_ret
  refine ⟨.slice (some ⟨w.heap.size, 0, none⟩) 4 4, rfl, ?_, (Below.refl _ w).alloc (Nat.le_refl _) _⟩
  have hl : (numB n 4).length = 4 := numB_length n 4
  have hc : ((numB n 4).map fun x => Value.int .u8 ((x : Nat) : Int)) = [Value.int .u8 (z / 16777216), Value.int .u8 (z / 65536), Value.int .u8 (z / 256 % 256), Value.int .u8 (z % 256)] := by
    have e1 : z / 16777216 = ((n / 256 ^ 3 % 256 : Nat) : Int) := by have := HZ.out; omega
    have e2 : z / 65536 = ((n / 256 ^ 2 % 256 : Nat) : Int) := by have := HZ.out; omega
    have e3 : z / 256 % 256 = ((n / 256 ^ 1 % 256 : Nat) : Int) := by have := HZ.out; omega
    have e4 : z % 256 = ((n / 256 ^ 0 % 256 : Nat) : Int) := by have := HZ.out; omega
    rw [e1, e2, e3, e4]
    rfl
  unfold OwnB
  rw [hc, hl]
  exact ⟨rfl, .inr ⟨w.heap.size, 4, _, rfl, Nat.le_refl _, heap_alloc_new w _, Nat.le_refl _, by decide, rfl, rfl⟩⟩
end Mac
end Go.Proofs.YtmiaabpnolebhaaGreatDoor

/-
  Package mac: New (keys of at most a block), Feed, Mac.Sum.
-/
namespace Go.Proofs.YtmiaabpnolebhaaGreatDoor
open Go.RowKit

namespace Mac
open Otp R1 Sha
/-- The cells of a sum by a key. -/
def mC (a b : List Nat) : List Value := cS a ++ cS b
theorem mC_length (a b : List Nat) : (mC a b).length = 146 := by unfold mC; rw [List.length_append, cS_length, cS_length]
theorem mC_one (a b : List Nat) : ∀ v ∈ mC a b, v.oneCell' = true := fun v hv => by
  unfold mC at hv
  rcases List.mem_append.1 hv with h | h
  · exact cS_one a v h
  · exact cS_one b v h
def zM : List Value := zS ++ zS
theorem mac_info : (Tryz.prog.info? 412).map (·.size) = some 146 := by kernel_rfl
theorem mac_built (x y : List Value) (hx : x.length = 73) (hy : y.length = 73) : Tryz.prog.built 412 [(0, .agg x.toArray), (1, .agg y.toArray)] = some (x ++ y).toArray := by
  have h : Tryz.prog.built 412 [(0, .agg x.toArray), (1, .agg y.toArray)] = Instr.fill ((#[(0, 73), (73, 73)] : Array (Nat × Nat))[·]?) zM.toArray [(0, .agg x.toArray), (1, .agg y.toArray)] := by kernel_rfl
  have hz : zM.length = 146 := rfl
  rw [h, fill_part _ zM 0 x _ 0 (by rw [hx]; rfl) (by rw [hx, hz]; decide), fill_part _ _ 1 y _ 73 (by rw [hy]; rfl) (by rw [length_splice _ _ _ (by rw [hx, hz]; decide), hy, hz]; decide)]
  rw [Instr.fill, show (73 : Nat) = x.length from hx.symm, splice_two zM x y (by rw [hz, hx, hy])]
theorem run_slice_arr_all {P : Program} (t e : TypeId) (N : Nat) (ht : P.underlying t = some (.array N e)) (hs : ∀ w, (sizeOf e).run P w = .ok 1 w) (b o : Nat) (h3 : 0 < N) (w : World) :
    (Instr.sliceAt t (.pointer (some ⟨b, o, none⟩)) none none none).run P w = .ok (.slice (some ⟨b, o, none⟩) N N) w := by
  have hn : P.arrayLen t = N := by simp [Program.arrayLen, ht]
  have he : P.elem t = e := by simp [Program.elem, ht]
  have ht' : P.underlying t = some (.array (P.arrayLen t) (P.elem t)) := by rw [hn, he]; exact ht
  rw [run_sliceAt_array_all w t ⟨b, o, none⟩ ht', he, hs, hn]
  have hne : ¬ N = 0 := by omega
  simp [Result.andThen, slicedAt, hne, Go.WideShapes.add_plain]
set_option maxRecDepth 100000 in
set_option maxHeartbeats 4000000 in
theorem mnew_any (k : List Nat) (A : Option Addr) (len cap : Nat) (w : World) (hT : STab w) (hl : k.length = len) (h64 : len ≤ 64) (hz : Nats .u8 256 w w.heap.size A k) :
    Calls Tryz.prog 268 #[.slice A len cap] w (fun e w' => e = .returned (.agg (mC ((keyB k).map (· ^^^ 54)) ((keyB k).map (· ^^^ 92))).toArray) ∧ Below w.heap.size w w') := by
  obtain ⟨kb, hkb⟩ : ∃ b, keyB k = b := ⟨_, rfl⟩
  obtain ⟨p1, hp1⟩ : ∃ b, kb.map (· ^^^ 54) = b := ⟨_, rfl⟩
  obtain ⟨p2, hp2⟩ : ∃ b, kb.map (· ^^^ 92) = b := ⟨_, rfl⟩
  rw [hkb, hp1, hp2]
  have HKB := wall (show ∀ x ∈ k, x < 256 from fun x hx => by
    obtain ⟨i, hi⟩ := List.mem_iff_getElem?.1 hx
    exact (hz i x hi).1)
  have HBL := wall (show kb.length = 64 by rw [← hkb]; exact keyB_length k)
  have HBB := wall (show ∀ x ∈ kb, x < 256 by rw [← hkb]; exact keyB_byte HKB.out)
  have HP1 := wall (show p1.length = 64 by rw [← hp1, List.length_map]; exact HBL.out)
  have HP2 := wall (show p2.length = 64 by rw [← hp2, List.length_map]; exact HBL.out)
  have HPA1 := wall (fun W => pad_to kb 54 54 W rfl HBL.out HBB.out (by decide))
  have HPA2 := wall (fun W => pad_to kb 92 92 W rfl HBL.out HBB.out (by decide))
  rw [hp1] at HPA1
  rw [hp2] at HPA2
  have HCP := wall (show splice (v8 (List.replicate 64 0)) 0 (v8 k) = v8 kb by
    rw [← hkb, keyB, if_neg (by omega)]
    unfold splice
    rw [List.take_zero, List.nil_append, v8_append, v8_length, hl, Nat.zero_add, v8, v8, v8, ← List.map_drop, List.drop_replicate])
  have HKL := wall (show (v8 k).length = len by rw [v8_length]; exact hl)
  have HT := wall hT
  have HN := wall hz
  have hN0 : 0 < len → ∃ b off, A = some ⟨b, off, none⟩ := fun h => by
    obtain ⟨x, hx⟩ : ∃ x, k[0]? = some x := ⟨_, List.getElem?_eq_getElem (by omega)⟩
    obtain ⟨_, b, off, h, _⟩ := hz 0 x hx
    exact ⟨b, off, h⟩
  have HN0 := wall hN0
  have HSB := wall (show (Tryz.prog.info? 193).map (·.size) = some (b8 kb).size by rw [b8_size, HBL.out]; exact blk64_info)
  clear hkb hp1 hp2 hT hz hl hN0
  obtain ⟨W1, hW1⟩ : ∃ W, W = (w.alloc (.cells zM.toArray 412)).alloc (.cells (v8 (List.replicate 64 0)).toArray 193) := ⟨_, rfl⟩
  have K0 := wall (show Blk W1 w.heap.size 412 zM.toArray by rw [hW1]; exact (Blk.new w _ _).alloc _)
  have K1 := wall (show Blk W1 (w.heap.size + 1) 193 (v8 (List.replicate 64 0)).toArray by rw [hW1]; exact blk_new' (by simp))
  have HB := wall (show Below w.heap.size w W1 by rw [hW1]; exact ((Below.refl _ w).alloc (Nat.le_refl _) _).alloc (by simp) _)
  have HW1 := wall hW1
  clear hW1
  have hsl := run_slice_arr_all (P := Tryz.prog) 193 5 64 Tryz.underlying193 (fun _ => by kernel_rfl) (w.heap.size + 1) 0 (by decide)
  have hni : ¬ ((len : Int) > 64) := by omega
  go_enter Tryz.func268, Tryz.ntmps268
  go_upto_region 2 with fail
  change Code.wp _ _ _ _ ((w.alloc (.cells zM.toArray 412)).alloc (.cells (v8 (List.replicate 64 0)).toArray 193))
  rw [← HW1.out]
  clear HW1
  go_upto_region 6 with (refine wpList_copy_frm rfl (.tmp 12) (.tmp 13) 24 24 rfl 5 Tryz.underlying24 u8_size _ _ 64 64 len cap rfl rfl (w.heap.size + 1) 0 193 _ K1.out (v8 k) len HKL.out (Nat.min_eq_left h64).symm (fun h => ⟨rfl, by obtain ⟨b, off, hA⟩ := HN0.out h; exact ⟨⟨b, off, none⟩, hA, fun j v hv => by obtain ⟨ad, h1, h2⟩ := nats_src (HN.out.below HB.out) j v hv; rw [hA] at h1; cases h1; exact h2⟩⟩) (by rw [v8_length, List.length_replicate]; omega) (fun v hv => by obtain ⟨_, _, rfl⟩ := List.mem_map.1 hv; rfl) ?_; intro w4 hK4 hF4)
  rw [HCP.out] at hK4
  have K14 := wall (show Blk w4 (w.heap.size + 1) 193 (b8 kb) from hK4)
  have K04 := wall (K0.out.frm hF4 (by simp))
  have HB4 := wall (Below.frm HB.out hF4 (Nat.le_refl _) (by simp))
  have HT4 := wall (HT.out.old HB4.out)
  clear hK4 hF4 K0 K1 HB hsl
  refine Rel.wp_region_rel 9 [(15, .const (.agg (cS []).toArray)), (17, .any (Bytes p1) Bytes.grow), (18, .const (.agg (cS p1).toArray)), (19, .const (.agg (cS []).toArray)), (21, .any (Bytes p2) Bytes.grow), (22, .const (.agg (cS p2).toArray))] (by kernel_rfl) (by kernel_rfl) ?_
  simp only [List.take_succ_cons, List.take_zero, List.drop_succ_cons, List.drop_zero]
  refine Rel.tree_const rfl (.agg (cS []).toArray) rfl (fun W hW _ => ?_) ?_
  · unfold Rel.relAt; go_simp; show Calls _ _ _ _ _
    exact const_call (new_any W (HT4.out.old hW.undrew))
  simp only [Act.put, List.setIfInBounds_toArray, List.set_cons_zero, List.set_cons_succ]
  refine Rel.tree_pure rfl rfl rfl (.agg (b8 kb)) (fun W hW _ => Rel.exec_load _ _ rfl (w.heap.size + 1) 0 rfl _ _ (Blk.range (hW.blk K14.out.drew)) Tryz.underlying193 rfl HSB.out) ?_
  simp only [Act.put, List.setIfInBounds_toArray, List.set_cons_zero, List.set_cons_succ]
  refine Rel.tree_rel rfl (Bytes p1) Bytes.grow rfl (fun W hW _ => ?_) (fun v17 => ?_)
  · unfold Rel.relAt; go_simp; show Calls _ _ _ _ _
    exact bytes_ret (HPA1.out W)
  simp only [Act.put, List.setIfInBounds_toArray, List.set_cons_zero, List.set_cons_succ]
  refine Rel.tree_const rfl (.agg (cS p1).toArray) rfl (fun W hW hF => ?_) ?_
  · obtain ⟨A2, c, rfl, hc, hN⟩ : Bytes p1 v17 W := hF 17 (by decide)
    clear hF
    unfold Rel.relAt; go_simp; show Calls _ _ _ _ _
    exact const_call (feed_any [] p1 A2 p1.length c W (HT4.out.old hW.undrew) (by simp) rfl (by have := HP1.out; simp; omega) hc hN)
  simp only [Act.put, List.setIfInBounds_toArray, List.set_cons_zero, List.set_cons_succ]
  refine Rel.tree_const rfl (.agg (cS []).toArray) rfl (fun W hW _ => ?_) ?_
  · unfold Rel.relAt; go_simp; show Calls _ _ _ _ _
    exact const_call (new_any W (HT4.out.old hW.undrew))
  simp only [Act.put, List.setIfInBounds_toArray, List.set_cons_zero, List.set_cons_succ]
  refine Rel.tree_pure rfl rfl rfl (.agg (b8 kb)) (fun W hW _ => Rel.exec_load _ _ rfl (w.heap.size + 1) 0 rfl _ _ (Blk.range (hW.blk K14.out.drew)) Tryz.underlying193 rfl HSB.out) ?_
  simp only [Act.put, List.setIfInBounds_toArray, List.set_cons_zero, List.set_cons_succ]
  refine Rel.tree_rel rfl (Bytes p2) Bytes.grow rfl (fun W hW _ => ?_) (fun v21 => ?_)
  · unfold Rel.relAt; go_simp; show Calls _ _ _ _ _
    exact bytes_ret (HPA2.out W)
  simp only [Act.put, List.setIfInBounds_toArray, List.set_cons_zero, List.set_cons_succ]
  refine Rel.tree_const rfl (.agg (cS p2).toArray) rfl (fun W hW hF => ?_) ?_
  · obtain ⟨A2, c, rfl, hc, hN⟩ : Bytes p2 v21 W := hF 21 (by decide)
    clear hF
    unfold Rel.relAt; go_simp; show Calls _ _ _ _ _
    exact const_call (feed_any [] p2 A2 p2.length c W (HT4.out.old hW.undrew) (by simp) rfl (by have := HP2.out; simp; omega) hc hN)
  simp only [Act.put, List.setIfInBounds_toArray, List.set_cons_zero, List.set_cons_succ]
  refine Rel.tree_pure rfl rfl rfl (.agg (mC p1 p2).toArray) (fun W hW _ => Rel.exec_build _ _ rfl _ (mac_built (cS p1) (cS p2) (cS_length _) (cS_length _))) ?_
  simp only [Act.put, List.setIfInBounds_toArray, List.set_cons_zero, List.set_cons_succ]
  intro W hW _
  have KR := wall (hW.blk K04.out.drew)
  have HBW := wall (below_then HB4.out hW.undrew (Nat.le_refl _))
  have HS := wall (show (Tryz.prog.info? 412).map (·.size) = some (mC p1 p2).toArray.size by rw [List.size_toArray, mC_length]; exact mac_info)
  have HZ := wall (show zM.toArray.size = (mC p1 p2).toArray.size by rw [List.size_toArray, List.size_toArray, mC_length]; rfl)
  have HO := wall (all_oneCell_toArray (mC_one p1 p2))
  clear hW
  go_wp2_with (refine wpList_store_row rfl 412 (.tmp 2) _ rfl w.heap.size (mC p1 p2).toArray rfl rfl 412 zM.toArray KR.out HS.out HZ.out HO.out ?_)
  have hb := setRow_heap _ _ _ (mC p1 p2).toArray _ _ KR.out
  have hB := below_setRow HBW.out (Nat.le_refl _) (mC p1 p2).toArray
  go_light
  exact bodyPost_ret (v := .agg (mC p1 p2).toArray) (results_cell_row Tryz.results268 _ _ w.heap.size 412 (mC p1 p2).toArray (0, 0) _ rfl hb Tryz.underlying412 rfl HS.out) rfl ⟨rfl, hB⟩
end Mac
end Go.Proofs.YtmiaabpnolebhaaGreatDoor

/-
  Package mac: Feed, Sum of a sum by a key.
-/
namespace Go.Proofs.YtmiaabpnolebhaaGreatDoor
open Go.RowKit

namespace Mac
open Otp R1 Sha
def MFeedOut (w : World) (a b : List Nat) (e : Ending) (w' : World) : Prop := e = .returned (.agg (mC a b).toArray) ∧ Below w.heap.size w w'
set_option maxRecDepth 100000 in
set_option maxHeartbeats 4000000 in
theorem mfeed_any (a b p : List Nat) (A : Option Addr) (len cap : Nat) (w : World) (hT : STab w) (ha : ∀ x ∈ a, x < 256) (hpl : p.length = len) (hm : a.length + p.length ≤ 1000000) (hc : len ≤ cap) (hz : Nats .u8 256 w w.heap.size A p) :
    Calls Tryz.prog 269 #[.agg (mC a b).toArray, .slice A len cap] w (MFeedOut w (a ++ p) b) := by
  obtain ⟨W1, hW1⟩ : ∃ W, W = (w.alloc (.cells (mC a b).toArray 412)).alloc (.cells zM.toArray 412) := ⟨_, rfl⟩
  have K0 := wall (show Blk W1 w.heap.size 412 (mC a b).toArray by rw [hW1]; exact (Blk.new w _ _).alloc _)
  have K1 := wall (show Blk W1 (w.heap.size + 1) 412 zM.toArray by rw [hW1]; exact blk_new' (by simp))
  have HB := wall (show Below w.heap.size w W1 by rw [hW1]; exact ((Below.refl _ w).alloc (Nat.le_refl _) _).alloc (by simp) _)
  have HW1 := wall hW1
  have HF := wall (feed_any a p A len cap W1 (hT.old HB.out) ha hpl hm hc ((hz.below HB.out).more HB.out.size))
  have HR := wall (show W1.rangeAt w.heap.size 0 (cS a).toArray.toList from K0.out.rangeAt 0 _ (fun j v hv => by
    rw [Nat.zero_add, mC, List.getElem?_append_left (List.getElem?_eq_some_iff.1 hv).1]
    exact hv))
  have HS1 := wall (show (Tryz.prog.info? 284).map (·.size) = some (cS a).toArray.size by rw [List.size_toArray, cS_length]; exact st_info)
  have HS2 := wall (show (Tryz.prog.info? 284).map (·.size) = some (cS (a ++ p)).toArray.size by rw [List.size_toArray, cS_length]; exact st_info)
  have HFT := wall (show 0 + (cS (a ++ p)).toArray.size ≤ (mC a b).length by rw [List.size_toArray, cS_length, mC_length]; decide)
  have HSP := wall (show splice (mC a b) 0 (cS (a ++ p)).toArray.toList = mC (a ++ p) b by
    unfold splice mC
    rw [List.take_zero, List.nil_append, List.toList_toArray, List.drop_append, List.drop_of_length_le (by rw [cS_length, cS_length]; decide), List.nil_append, cS_length, cS_length, show 0 + 73 - 73 = 0 from rfl, List.drop_zero])
  clear hW1 hT hz hm ha
  go_enter Tryz.func269, Tryz.ntmps269
  go_upto_region 1 with fail
  change Code.wp _ _ _ _ ((w.alloc (.cells (mC a b).toArray 412)).alloc (.cells zM.toArray 412))
  rw [← HW1.out]
  clear HW1
  go_wp2_with (refine wpList_load_arr rfl 284 (.tmp 5) rfl w.heap.size 0 rfl (cS a).toArray _ HR.out Tryz.underlying284 rfl HS1.out ?_)
  (with_reducible refine HF.out.mono ?_); rintro e w6 ⟨rfl, hB6⟩
  have K6 := wall (K0.out.next hB6 rfl)
  have K16 := wall (K1.out.next hB6 rfl)
  have HB6 := wall (below_then HB.out hB6 (Nat.le_refl _))
  clear hB6 K0 K1 HB HF HR
  go_upto_region 2 with (refine wpList_store_frm rfl 284 (.tmp 9) (.tmp 8) rfl w.heap.size 0 (cS (a ++ p)).toArray rfl rfl 412 (mC a b) K6.out HFT.out HS2.out (all_oneCell_toArray (cS_one _)) ?_; intro w7 K7 F7)
  rw [HSP.out] at K7
  have K07 := wall K7
  have K17 := wall (K16.out.frm F7 (by simp))
  have HB7 := wall (Below.frm HB6.out F7 (Nat.le_refl _) (by simp))
  clear K7 F7 K6 K16 HB6
  have HS := wall (show (Tryz.prog.info? 412).map (·.size) = some (mC (a ++ p) b).toArray.size by rw [List.size_toArray, mC_length]; exact mac_info)
  have HZ := wall (show zM.toArray.size = (mC (a ++ p) b).toArray.size by rw [List.size_toArray, List.size_toArray, mC_length]; rfl)
  have HO := wall (all_oneCell_toArray (mC_one (a ++ p) b))
  go_wp2_with (first | refine wpList_load_row rfl 412 _ rfl w.heap.size rfl 412 (mC (a ++ p) b).toArray (0, 0) _ K07.out Tryz.underlying412 rfl HS.out ?_ | refine wpList_store_row rfl 412 (.tmp 4) _ rfl (w.heap.size + 1) (mC (a ++ p) b).toArray rfl rfl 412 zM.toArray K17.out HS.out HZ.out HO.out ?_)
  have hb := setRow_heap _ _ _ (mC (a ++ p) b).toArray _ _ K17.out
  have hB := below_setRow HB7.out (show w.heap.size ≤ w.heap.size + 1 by omega) (mC (a ++ p) b).toArray
  go_light
  exact bodyPost_ret (v := .agg (mC (a ++ p) b).toArray) (results_cell_row Tryz.results269 _ _ (w.heap.size + 1) 412 (mC (a ++ p) b).toArray (0, 0) _ rfl hb Tryz.underlying412 rfl HS.out) rfl ⟨rfl, hB⟩
set_option maxRecDepth 100000 in
set_option maxHeartbeats 4000000 in
theorem msum_any (a b : List Nat) (w : World) (hT : STab w) (ha : ∀ x ∈ a, x < 256) (hb : ∀ x ∈ b, x < 256) (hma : a.length ≤ 900000) (hmb : b.length ≤ 800000) :
    Calls Tryz.prog 270 #[.agg (mC a b).toArray] w (fun e w' => e = .returned (.agg (b8 (sumB (b ++ sumB a)))) ∧ Below w.heap.size w w') := by
  obtain ⟨d, hd⟩ : ∃ d, sumB a = d := ⟨_, rfl⟩
  obtain ⟨r, hr⟩ : ∃ x, sumB (b ++ d) = x := ⟨_, rfl⟩
  obtain ⟨W1, hW1⟩ : ∃ W, W = (w.alloc (.cells (mC a b).toArray 412)).alloc (.cells (b8 (List.replicate 32 0)) 23) := ⟨_, rfl⟩
  have K0 := wall (show Blk W1 w.heap.size 412 (mC a b).toArray by rw [hW1]; exact (Blk.new w _ _).alloc _)
  have K1 := wall (show Blk W1 (w.heap.size + 1) 23 (b8 (List.replicate 32 0)) by rw [hW1]; exact blk_new' (by simp))
  have HB := wall (show Below w.heap.size w W1 by rw [hW1]; exact ((Below.refl _ w).alloc (Nat.le_refl _) _).alloc (by simp) _)
  have HW1 := wall hW1
  have HF := wall (sum_any a W1 (hT.old HB.out) ha hma)
  rw [hd] at HF
  have HDL := wall (show d.length = 32 by rw [← hd]; exact sumB_length _)
  have HDB := wall (show ∀ x ∈ d, x < 256 by rw [← hd]; exact sumB_byte _)
  have HRE := wall (show sumB (b ++ sumB a) = r by rw [hd]; exact hr)
  have HRL := wall (show r.length = 32 by rw [← hr]; exact sumB_length _)
  have HR0 := wall (show W1.rangeAt w.heap.size 0 (cS a).toArray.toList from K0.out.rangeAt 0 _ (fun j v hv => by
    rw [Nat.zero_add, mC, List.getElem?_append_left (List.getElem?_eq_some_iff.1 hv).1]
    exact hv))
  have HS1 := wall (show (Tryz.prog.info? 284).map (·.size) = some (cS a).toArray.size by rw [List.size_toArray, cS_length]; exact st_info)
  have HS2 := wall (show (Tryz.prog.info? 284).map (·.size) = some (cS b).toArray.size by rw [List.size_toArray, cS_length]; exact st_info)
  have HSD := wall (show (Tryz.prog.info? 23).map (·.size) = some (b8 d).size by rw [b8_size, HDL.out]; exact dig_info)
  have HSR := wall (show (Tryz.prog.info? 23).map (·.size) = some (b8 r).size by rw [b8_size, HRL.out]; exact dig_info)
  have HZD := wall (show (b8 (List.replicate 32 0)).size = (b8 d).size by rw [b8_size, b8_size, HDL.out]; rfl)
  have HZR := wall (show (b8 (List.replicate 32 0)).size = (b8 r).size by rw [b8_size, b8_size, HRL.out]; rfl)
  have HTB := wall (show ∀ x ∈ b ++ d, x < 256 from fun x hx => by
    rcases List.mem_append.1 hx with h | h
    · exact hb x h
    · exact HDB.out x h)
  have HT := wall hT
  have HBB := wall hb
  have HRR := wall hr
  clear hW1 hT ha hb hma hd hr
  go_enter Tryz.func270, Tryz.ntmps270
  go_upto_region 1 with fail
  change Code.wp _ _ _ _ ((w.alloc (.cells (mC a b).toArray 412)).alloc (.cells (b8 (List.replicate 32 0)) 23))
  rw [← HW1.out]
  clear HW1
  go_wp2_with (refine wpList_load_arr rfl 284 (.tmp 4) rfl w.heap.size 0 rfl (cS a).toArray _ HR0.out Tryz.underlying284 rfl HS1.out ?_)
  (with_reducible refine HF.out.mono ?_); rintro e w6 ⟨rfl, hB6⟩
  have K6 := wall (K0.out.next hB6 rfl)
  have K16 := wall (K1.out.next hB6 rfl)
  have HB6 := wall (below_then HB.out hB6 (Nat.le_refl _))
  clear hB6 K0 K1 HB HF HR0
  go_upto_region 2 with (refine wpList_new_row rfl 23 (.tmp 3) (.tmp 6) rfl w6.heap.size (b8 d) rfl rfl 23 (b8 (List.replicate 32 0)) (Blk.new _ _ _) HSD.out HZD.out (b8_one _) w6.heap.size w6 ((Below.refl _ w6).alloc (Nat.le_refl _) _) (Nat.le_refl _) ?_; intro w7 KD hB7)
  have hw6 : w.heap.size + 1 < w6.heap.size := K16.out.lt
  have KD := wall (show Blk w7 w6.heap.size 23 (b8 d) from KD.out)
  have K7 := wall (K6.out.next hB7 rfl)
  have K17 := wall (K16.out.next hB7 rfl)
  have HB7 := wall (below_then HB6.out hB7 (Nat.le_refl _))
  have HT7 := wall (HT.out.old HB7.out)
  clear hB7 K6 K16 HB6
  generalize w6.heap.size = gD at *
  have hsl := run_slice_arr_all (P := Tryz.prog) 23 5 32 Tryz.underlying23 (fun _ => by kernel_rfl) gD 0 (by decide)
  go_wp2_with fail
  refine Rel.wp_region_rel 5 [(10, .const (.agg (cS (b ++ d)).toArray)), (11, .const (.agg (b8 r)))] (by kernel_rfl) (by kernel_rfl) ?_
  simp only [List.take_succ_cons, List.take_zero, List.drop_succ_cons, List.drop_zero, Act.put, List.setIfInBounds_toArray, List.set_cons_zero, List.set_cons_succ]
  (refine Rel.tree_quiet rfl rfl rfl (fun K hK => ?_); go_big_quiet_op; refine hK _ ?_; clear hK K)
  refine Rel.tree_pure rfl rfl rfl (.agg (cS b).toArray) (fun W hW _ => Rel.exec_load _ _ rfl w.heap.size 73 rfl _ _ ((hW.blk K7.out.drew).rangeAt 73 _ (fun j v hv => by
    rw [mC, List.getElem?_append_right (by rw [cS_length]; omega), cS_length, show 73 + j - 73 = j by omega]
    exact hv)) Tryz.underlying284 rfl HS2.out) ?_
  simp only [Act.put, List.setIfInBounds_toArray, List.set_cons_zero, List.set_cons_succ]
  (refine Rel.tree_quiet rfl rfl rfl (fun K hK => ?_); go_big_quiet_op; refine hK _ ?_; clear hK K)
  refine Rel.tree_const rfl (.agg (cS (b ++ d)).toArray) rfl (fun W hW _ => ?_) ?_
  · unfold Rel.relAt; go_simp; show Calls _ _ _ _ _
    exact const_call (feed_any b d _ 32 32 W (HT7.out.old hW.undrew) HBB.out HDL.out (by have := HDL.out; omega) (Nat.le_refl _) (nats_b8 (hW.blk KD.out.drew) HDB.out))
  simp only [Act.put, List.setIfInBounds_toArray, List.set_cons_zero, List.set_cons_succ]
  refine Rel.tree_const rfl (.agg (b8 r)) rfl (fun W hW _ => ?_) ?_
  · unfold Rel.relAt; go_simp; show Calls _ _ _ _ _
    have h := sum_any (b ++ d) W (HT7.out.old hW.undrew) HTB.out (by rw [List.length_append, HDL.out]; omega)
    rw [HRR.out] at h
    exact const_call h
  simp only [Act.put, List.setIfInBounds_toArray, List.set_cons_zero, List.set_cons_succ]
  intro W hW _
  have KR := wall (hW.blk K17.out.drew)
  have HBW := wall (below_then HB7.out hW.undrew (Nat.le_refl _))
  clear hW hsl
  go_wp2_with (refine wpList_store_row rfl 23 (.tmp 2) _ rfl (w.heap.size + 1) (b8 r) rfl rfl 23 (b8 (List.replicate 32 0)) KR.out HSR.out HZR.out (b8_one _) ?_)
  have hb := setRow_heap _ _ _ (b8 r) _ _ KR.out
  have hB := below_setRow HBW.out (show w.heap.size ≤ w.heap.size + 1 by omega) (b8 r)
  go_light
  exact bodyPost_ret (v := .agg (b8 r)) (results_cell_row Tryz.results270 _ _ (w.heap.size + 1) 23 (b8 r) (0, 0) _ rfl hb Tryz.underlying23 rfl HSR.out) rfl ⟨by rw [HRE.out], hB⟩
end Mac
end Go.Proofs.YtmiaabpnolebhaaGreatDoor

/-
  Package mac: Sum and Derive (keys of at most a block).
-/
namespace Go.Proofs.YtmiaabpnolebhaaGreatDoor
open Go.RowKit

namespace Mac
open Otp R1 Sha
def ipad (k : List Nat) : List Nat := (keyB k).map (· ^^^ 54)
def opad (k : List Nat) : List Nat := (keyB k).map (· ^^^ 92)
theorem ipad_length (k : List Nat) : (ipad k).length = 64 := by unfold ipad; rw [List.length_map]; exact keyB_length k
theorem opad_length (k : List Nat) : (opad k).length = 64 := by unfold opad; rw [List.length_map]; exact keyB_length k
theorem macB_pads (k p : List Nat) : macB k p = sumB (opad k ++ sumB (ipad k ++ p)) := rfl
theorem flatten_take_snoc {ps : List (List Nat)} {i : Nat} {p : List Nat} (h : ps[i]? = some p) : (ps.take (i + 1)).flatten = (ps.take i).flatten ++ p := by rw [take_snoc h]; simp
theorem flatten_take_le : ∀ (ps : List (List Nat)) (i : Nat), (ps.take i).flatten.length ≤ ps.flatten.length
  | [], i => by simp
  | p :: ps, 0 => by simp
  | p :: ps, i + 1 => by have := flatten_take_le ps i; simp only [List.take_succ_cons, List.flatten_cons, List.length_append]; omega
theorem mem_flatten_le {ps : List (List Nat)} {i : Nat} {p : List Nat} (h : ps[i]? = some p) : (ps.take i).flatten.length + p.length ≤ ps.flatten.length := by
  have h1 := flatten_take_le ps (i + 1)
  rw [flatten_take_snoc h, List.length_append] at h1
  exact h1
def DigOut (w : World) (d : List Nat) (e : Ending) (w' : World) : Prop := e = .returned (.agg (b8 d)) ∧ Below w.heap.size w w'
theorem bytesN_byte {w : World} {B : Nat} {p : List Nat} {v : Value} (h : BytesN w B p v) : ∀ x ∈ p, x < 256 := fun x hx => by
  obtain ⟨A, c, _, _, _, hN⟩ := h
  obtain ⟨i, hi⟩ := List.mem_iff_getElem?.1 hx
  exact (hN i x hi).1
theorem parts_byte {w : World} {B : Nat} {A : Option Addr} {ps : List (List Nat)} (h : Parts w B A ps) : ∀ x ∈ ps.flatten, x < 256 := fun x hx => by
  obtain ⟨p, hp, hx⟩ := List.mem_flatten.1 hx
  obtain ⟨i, hi⟩ := List.mem_iff_getElem?.1 hp
  obtain ⟨_, _, _, _, _, _, h4⟩ := h i p hi
  exact bytesN_byte h4 x hx
set_option maxRecDepth 100000 in
set_option maxHeartbeats 4000000 in
theorem macsum_any (k : List Nat) (A : Option Addr) (len cap : Nat) (ps : List (List Nat)) (PA : Option Addr) (pn pc : Nat) (w : World) (hT : STab w) (hl : k.length = len) (h64 : len ≤ 64) (hz : Nats .u8 256 w w.heap.size A k) (hkb : ∀ x ∈ k, x < 256)
    (hpn : ps.length = pn) (hpm : pn ≤ 1000000) (hP : Parts w w.heap.size PA ps) (hm : ps.flatten.length ≤ 500000) :
    Calls Tryz.prog 249 #[.slice A len cap, .slice PA pn pc] w (DigOut w (macB k ps.flatten)) := by
  subst hpn
  have HNEW := wall (fun W (h1 : STab W) (h2 : Nats .u8 256 W W.heap.size A k) => mnew_any k A len cap W h1 hl h64 h2)
  obtain ⟨ip, hip⟩ : ∃ x, ipad k = x := ⟨_, rfl⟩
  obtain ⟨op, hop⟩ : ∃ x, opad k = x := ⟨_, rfl⟩
  obtain ⟨r, hr⟩ : ∃ x, macB k ps.flatten = x := ⟨_, rfl⟩
  rw [hr]
  change Wall (∀ W, STab W → Nats .u8 256 W W.heap.size A k → Calls Tryz.prog 268 #[.slice A len cap] W (fun e w' => e = .returned (.agg (mC (ipad k) (opad k)).toArray) ∧ Below W.heap.size W w')) at HNEW
  rw [hip, hop] at HNEW
  have HIL := wall (show ip.length = 64 by rw [← hip]; exact ipad_length k)
  have HOL := wall (show op.length = 64 by rw [← hop]; exact opad_length k)
  have HIB := wall (show ∀ x ∈ ip, x < 256 by rw [← hip]; exact turn_byte (by decide) (keyB_byte hkb))
  have HOB := wall (show ∀ x ∈ op, x < 256 by rw [← hop]; exact turn_byte (by decide) (keyB_byte hkb))
  have HR := wall (show sumB (op ++ sumB (ip ++ ps.flatten)) = r by rw [← hr, macB_pads, hip, hop])
  have HRL := wall (show r.length = 32 by rw [← hr]; exact macB_length _ _)
  have HT := wall hT
  have HN := wall hz
  have HP := wall hP
  have HM := wall hm
  have HPB := wall (parts_byte hP)
  have HSM := fun x y => wall (show (Tryz.prog.info? 412).map (·.size) = some (mC x y).toArray.size by rw [List.size_toArray, mC_length]; exact mac_info)
  clear hT hz hP hm hip hop hr hkb
  obtain ⟨W1, hW1⟩ : ∃ W, W = w.alloc (.cells (b8 (List.replicate 32 0)) 23) := ⟨_, rfl⟩
  have K0 := wall (show Blk W1 w.heap.size 23 (b8 (List.replicate 32 0)) by rw [hW1]; exact Blk.new _ _ _)
  have HB := wall (show Below w.heap.size w W1 by rw [hW1]; exact (Below.refl _ w).alloc (Nat.le_refl _) _)
  have HW1 := wall hW1
  clear hW1
  go_enter Tryz.func249, Tryz.ntmps249
  go_upto_region 1 with fail
  change Code.wp _ _ _ _ (w.alloc (.cells (b8 (List.replicate 32 0)) 23))
  rw [← HW1.out]
  clear HW1
  go_wp2_with fail
  (with_reducible refine (HNEW.out _ (HT.out.old HB.out) ((HN.out.below HB.out).more HB.out.size)).mono ?_); rintro e w2 ⟨rfl, hB2⟩
  have K2 := wall (K0.out.next hB2 rfl)
  have HB2 := wall (below_then HB.out hB2 (Nat.le_refl _))
  clear hB2 K0 HB HNEW HN
  have HZM := wall (show zM.toArray.size = (mC ip op).toArray.size by rw [List.size_toArray, List.size_toArray, mC_length]; rfl)
  go_upto_region 2 with (refine wpList_new_row rfl 412 (.tmp 5) (.tmp 9) rfl w2.heap.size (mC ip op).toArray rfl rfl 412 zM.toArray (Blk.new _ _ _) (HSM ip op).out HZM.out (all_oneCell_toArray (mC_one ip op)) w2.heap.size w2 ((Below.refl _ w2).alloc (Nat.le_refl _) _) (Nat.le_refl _) ?_; intro w3 KM hB3)
  have hw2 : w.heap.size < w2.heap.size := K2.out.lt
  have KM := wall (show Blk w3 w2.heap.size 412 (mC (ip ++ (ps.take 0).flatten) op).toArray by rw [List.take_zero, List.flatten_nil, List.append_nil]; exact KM.out)
  have K3 := wall (K2.out.next hB3 rfl)
  have HB3 := wall (below_then HB2.out hB3 (Nat.le_refl _))
  clear hB3 K2 HB2
  generalize w2.heap.size = g at *
  go_wp2_with fail
  go_loopg [12] ps.length (fun gm s12 wr => ∃ i : Nat, i + gm = ps.length ∧ s12 = .int .i64 (i : Int) ∧ Wall (Blk wr w.heap.size 23 (b8 (List.replicate 32 0))) ∧ Wall (Blk wr g 412 (mC (ip ++ (ps.take i).flatten) op).toArray) ∧ Wall (Below w.heap.size w wr))
  case atStart => exact ⟨0, by omega, rfl, K3, KM, HB3⟩
  case round =>
    clear K3 KM HB3
    obtain ⟨i, hg, rfl, K3, KM, HB⟩ := hrel
    have HG := wall hg
    have hi : i ≤ ps.length := by omega
    clear hg
    by_cases hlt : i < ps.length
    · obtain ⟨p, hp⟩ : ∃ p, ps[i]? = some p := ⟨_, List.getElem?_eq_getElem hlt⟩
      obtain ⟨J, off, v, rfl, hJ, hcv, hBN⟩ := (HP.out.below HB.out) i p hp
      obtain ⟨Ap, cp, rfl, hcp, hnil, hN⟩ := hBN
      have HNP := wall hN
      have HFL := wall (flatten_take_snoc hp)
      have hsz := mem_flatten_le hp
      obtain ⟨cur, hcur⟩ : ∃ c, (ps.take i).flatten = c := ⟨_, rfl⟩
      rw [hcur] at KM HFL hsz
      have HCB := wall (show ∀ x ∈ ip ++ cur, x < 256 from fun x hx => by
        rcases List.mem_append.1 hx with h | h
        · exact HIB.out x h
        · rw [← hcur] at h
          obtain ⟨q, hq, hx⟩ := List.mem_flatten.1 h
          exact HPB.out x (List.mem_flatten.2 ⟨q, List.mem_of_mem_take hq, hx⟩))
      have HFE := wall (mfeed_any (ip ++ cur) op p Ap p.length cp wr (HT.out.old HB.out) HCB.out rfl (by rw [List.length_append, HIL.out]; have := HM.out; omega) hcp (HNP.out.more HB.out.size))
      obtain ⟨c2, hc2⟩ : ∃ c, ip ++ cur ++ p = c := ⟨_, rfl⟩
      rw [hc2] at HFE
      obtain ⟨c1, hc1⟩ : ∃ c, ip ++ cur = c := ⟨_, rfl⟩
      rw [hc1] at HFE KM
      have HC2 := wall (show ip ++ (ps.take (i + 1)).flatten = c2 by rw [HFL.out, ← List.append_assoc]; exact hc2)
      have HZ := wall (show (mC c1 op).toArray.size = (mC c2 op).toArray.size by rw [List.size_toArray, List.size_toArray, mC_length, mC_length])
      clear hp hnil hN hcur hsz hc1 hc2 HCB
      go_wp2_with (refine wpList_load_row rfl 412 _ rfl g rfl 412 (mC c1 op).toArray (0, 0) _ KM.out Tryz.underlying412 rfl (HSM _ _).out ?_)
      (with_reducible refine HFE.out.mono ?_); rintro e w5 ⟨rfl, hB5⟩
      have K5 := wall (K3.out.next hB5 rfl)
      have KM5 := wall (KM.out.next hB5 rfl)
      have HB5 := wall (below_then HB.out hB5 (Nat.le_refl _))
      clear hB5 K3 KM HB HFE
      go_wp2_with (refine wpList_store_row rfl 412 (.tmp 5) _ rfl g (mC c2 op).toArray rfl rfl 412 (mC c1 op).toArray KM5.out (HSM _ _).out HZ.out (all_oneCell_toArray (mC_one _ _)) ?_)
      go_light
      go_roundg (ps.length - (i + 1))
      case measure => have := HG.out; omega
      case rel =>
        refine ⟨i + 1, by omega, by go_num, wall ?_, wall ?_, wall ?_⟩
        · exact K5.out.frm (frm_setRow (g := g) w5 _) (by simp; omega)
        · rw [HC2.out]; exact setRow_heap _ _ _ _ _ _ KM5.out
        · exact below_setRow HB5.out (by omega) _
    · have hil : i = ps.length := by omega
      subst hil
      have hni : ¬ (((ps.length : Nat) : Int) < ((ps.length : Nat) : Int)) := by omega
      rw [List.take_length] at KM
      have HTB := wall (show ∀ x ∈ ip ++ ps.flatten, x < 256 from fun x hx => by
        rcases List.mem_append.1 hx with h | h
        · exact HIB.out x h
        · exact HPB.out x h)
      have HSU := wall (msum_any (ip ++ ps.flatten) op wr (HT.out.old HB.out) HTB.out HOB.out (by rw [List.length_append, HIL.out]; have := HM.out; omega) (by rw [HOL.out]; decide))
      rw [HR.out] at HSU
      have HS := wall (show (Tryz.prog.info? 23).map (·.size) = some (b8 r).size by rw [b8_size, HRL.out]; exact dig_info)
      have HZ := wall (show (b8 (List.replicate 32 0)).size = (b8 r).size by rw [b8_size, b8_size, HRL.out]; rfl)
      clear hlt
      go_wp2_with (refine wpList_load_row rfl 412 _ rfl g rfl 412 (mC (ip ++ ps.flatten) op).toArray (0, 0) _ KM.out Tryz.underlying412 rfl (HSM _ _).out ?_)
      (with_reducible refine HSU.out.mono ?_); rintro e w5 ⟨rfl, hB5⟩
      have K5 := wall (K3.out.next hB5 rfl)
      have HB5 := wall (below_then HB.out hB5 (Nat.le_refl _))
      clear hB5 K3 KM HB HSU
      go_wp2_with (refine wpList_store_row rfl 23 (.tmp 4) _ rfl w.heap.size (b8 r) rfl rfl 23 (b8 (List.replicate 32 0)) K5.out HS.out HZ.out (b8_one _) ?_)
      have hb := setRow_heap _ _ _ (b8 r) _ _ K5.out
      have hB := below_setRow HB5.out (Nat.le_refl _) (b8 r)
      go_light
      exact bodyPost_ret (v := .agg (b8 r)) (results_cell_row Tryz.results249 _ _ w.heap.size 23 (b8 r) (0, 0) _ rfl hb Tryz.underlying23 rfl HS.out) rfl ⟨rfl, hB⟩
end Mac
end Go.Proofs.YtmiaabpnolebhaaGreatDoor
