/-
  Texts of this claim, joined: ModeA, ModeB, TwoRow5, RelG, ModeC, ModeD, RelPur, ShelfBuf, SlotA.
-/
import Derived.Test.YtpakdcgcgekcfaaDoorJ2f1c4a9b
import Derived.Test.YtpakdcgcgekcfaaDoorJ8b3fd3ea
import Derived.Test.YtpakdcgcgekcfaaDoorJb7c72ce9
import Derived.Test.YtpakdcgcgekcfaaDoorJ52d9bedf
import Derived.StillTail
import Derived.Deep.Quiet
import Derived.Lib.QuietBelow
import Derived.BigQuiet
import Derived.Great.BuildSlice
import Derived.Laws.Cover3
import Derived.Test.YtpakdcgcgekcfaaDoorProg
import Derived.Shelf.LaysM
import Derived.Shelf.Bytes.WriteAny
import Derived.Shelf.Bytes.Bytes
import Derived.WalkKit
import Derived.Deep.LoopGhost
import Derived.Laws.Rows
import Derived.Laws.CopyOwn
import Derived.IntWalk
set_option linter.unusedVariables false
/-
  Package mode: New, At, Next.
-/
set_option linter.unusedSimpArgs false
set_option linter.unusedVariables false
namespace Go.Proofs.YtpakdcgcgekcfaaDoor
open Go.RowKit

namespace Aes
open Otp R1 Fuse Sha
/-- A mode's cells. -/
def mT (kind : Int) (back : Bool) (v : List Nat) : List Value := .int .i64 kind :: .bool back :: v8 v
def mC (K : List Value) (kind : Int) (back : Bool) (v : List Nat) : List Value := K ++ mT kind back v
def zM : List Value := mC zK 0 false z16
theorem zM_eq : zM.toArray = Tryd.zeroCells96 := by kernel_rfl
theorem mT_length (k : Int) (b : Bool) {v : List Nat} (h : v.length = 16) : (mT k b v).length = 18 := by simp [mT, v8_length, h]
theorem mC_length {K : List Value} (hK : K.length = 513) (k : Int) (b : Bool) {v : List Nat} (h : v.length = 16) : (mC K k b v).length = 531 := by rw [mC, List.length_append, hK, mT_length k b h]
theorem zM_length : zM.length = 531 := mC_length zK_length _ _ rfl
theorem mode_info : (Tryd.prog.info? 96).map (·.size) = some 531 := by kernel_rfl
theorem mC_one {K : List Value} (hK : ∀ v ∈ K, v.oneCell' = true) (k : Int) (b : Bool) (v : List Nat) : (mC K k b v).toArray.all (·.oneCell') = true := by
  refine all_oneCell_toArray (fun x hx => ?_)
  rcases List.mem_append.1 hx with h | h
  · exact hK x h
  · rcases List.mem_cons.1 h with rfl | h
    · rfl
    rcases List.mem_cons.1 h with rfl | h
    · rfl
    obtain ⟨_, _, rfl⟩ := List.mem_map.1 h
    rfl
theorem kC_ones (A : Option Addr) (n c : Nat) : ∀ v ∈ kC (.slice A n c), v.oneCell' = true := fun v hv => by
  have := kC_one A n c
  rw [Array.all_eq_true_iff_forall_mem] at this
  exact this v (by simpa using hv)
theorem zK_ones : ∀ v ∈ zK, v.oneCell' = true := fun v hv => by
  have := zK_one
  rw [Array.all_eq_true_iff_forall_mem] at this
  exact this v (by simpa using hv)
theorem mode_built (K : List Value) (hK : K.length = 513) (k : Int) (b : Bool) (v : List Nat) (hv : v.length = 16) :
    Tryd.prog.built 96 [(0, .agg K.toArray), (1, .int .i64 k), (2, .bool b), (3, .agg (b8 v))] = some (mC K k b v).toArray := by
  have h : Tryd.prog.built 96 [(0, .agg K.toArray), (1, .int .i64 k), (2, .bool b), (3, .agg (b8 v))] = Instr.fill ((#[(0, 513), (513, 1), (514, 1), (515, 16)] : Array (Nat × Nat))[·]?) zM.toArray [(0, .agg K.toArray), (1, .int .i64 k), (2, .bool b), (3, .agg (b8 v))] := by kernel_rfl
  have e1 : splice zM 0 K = K ++ mT 0 false z16 := by
    unfold splice zM mC
    rw [hK, List.take_zero, List.nil_append, Nat.zero_add, List.drop_left' zK_length]
  have hz : (mT 0 false z16).length = 18 := rfl
  have e2 : (K ++ mT 0 false z16).set 513 (.int .i64 k) = K ++ mT k false z16 := by
    rw [List.set_append_right _ _ (by omega), hK]
    rfl
  have e3 : (K ++ mT k false z16).set 514 (.bool b) = K ++ mT k b z16 := by
    rw [List.set_append_right _ _ (by omega), hK]
    rfl
  have e4 : splice (K ++ mT k b z16) 515 (v8 v) = mC K k b v := by
    unfold splice
    rw [List.take_append, List.drop_append, hK, v8_length, hv, List.take_of_length_le (by omega), List.drop_of_length_le (by omega)]
    rw [List.drop_of_length_le (by rw [mT_length _ _ rfl]; decide), mC]
    simp [mT]
  rw [h, fill_part ((#[(0, 513), (513, 1), (514, 1), (515, 16)] : Array (Nat × Nat))[·]?) zM 0 K _ 0 (by rw [hK]; rfl) (by rw [hK, zM_length]; decide), e1,
    fill_one _ _ 1 (.int .i64 k) _ 513 rfl rfl (by simp [hK, hz]), e2, fill_one _ _ 2 (.bool b) _ 514 rfl rfl (by rw [List.length_append, hK, mT_length _ _ rfl]; decide), e3]
  have := fill_part ((#[(0, 513), (513, 1), (514, 1), (515, 16)] : Array (Nat × Nat))[·]?) (K ++ mT k b z16) 3 (v8 v) [] 515 (by rw [v8_length, hv]; rfl) (by rw [v8_length, hv, List.length_append, hK, mT_length _ _ rfl]; decide)
  rw [e4] at this
  exact this
/-- A mode, plain. -/
structure Md where
  key : List Nat
  kind : Nat
  back : Bool
  v : List Nat
structure Md.Ok (m : Md) : Prop where
  good : KeyG m.key
  kind : m.kind ≤ 2
  len : m.v.length = 16
  byte : ∀ x ∈ m.v, x < 256
def mV (A : Option Addr) (L c : Nat) (m : Md) : List Value := mC (kC (.slice A L c)) m.kind m.back m.v
theorem mV_length (A : Option Addr) (L c : Nat) {m : Md} (h : m.v.length = 16) : (mV A L c m).length = 531 := mC_length (kC_length _) _ _ h
theorem mV_one (A : Option Addr) (L c : Nat) (m : Md) : (mV A L c m).toArray.all (·.oneCell') = true := mC_one (kC_ones A L c) _ _ _
theorem mV_info (A : Option Addr) (L c : Nat) {m : Md} (h : m.v.length = 16) : (Tryd.prog.info? 96).map (·.size) = some (mV A L c m).toArray.size := by
  rw [List.size_toArray, mV_length A L c h]
  exact mode_info
theorem nats_other {k : IntKind} {M : Nat} {w w' : World} {S : List Nat} {B : Nat} {A : Option Addr} {zs : List Nat} (h : Nats k M w B A zs) (hB : B ≤ w.heap.size) (hf : Frm S w w') (hA : ∀ ad : Addr, A = some ad → ad.block ∉ S) : Nats k M w' B A zs := fun i z hz => by
  obtain ⟨h1, b, off, h2, h3, h4⟩ := h i z hz
  refine ⟨h1, b, off, h2, h3, ?_⟩
  rw [← h4]
  exact World.cell?_of_block (hf.block b (Nat.lt_of_lt_of_le h3 hB) (hA _ h2))
theorem KeyV.other {w w' : World} {S : List Nat} {B : Nat} {key : List Nat} {A : Option Addr} {L c : Nat} (h : KeyV w B key A L c) (hB : B ≤ w.heap.size) (hf : Frm S w w') (hA : ∀ ad : Addr, A = some ad → ad.block ∉ S) : KeyV w' B key A L c := ⟨h.good, h.len, h.cap, nats_other h.nats hB hf hA⟩
def MnOut (w : World) (m : Md) (e : Ending) (w' : World) : Prop := ∃ A L c, e = .returned (.tuple #[.agg (mV A L c m).toArray, .int .i64 0]) ∧ KeyV w' w'.heap.size m.key A L c ∧ Below w.heap.size w w'
def MnBad (w : World) (e : Ending) (w' : World) : Prop := e = .returned (.tuple #[.agg zM.toArray, .int .i64 1]) ∧ Below w.heap.size w w'
set_option maxRecDepth 100000 in
set_option maxHeartbeats 4000000 in
theorem mnew_any (A : Option Addr) (len cap : Nat) (kind : Int) (m : Md) (w : World) (hm : m.Ok) (hk : kind = m.kind) (hlen : len = m.key.length) (hz : Nats .u8 256 w w.heap.size A m.key) :
    Calls Tryd.prog 55 #[.int .i64 kind, .bool m.back, .slice A len cap, .agg (b8 m.v)] w (MnOut w m) := by
  obtain ⟨key, kd, back, v⟩ := m
  obtain ⟨hg, hkd, hvl, hvb⟩ := hm
  simp only at hk hlen hz hg hkd hvl hvb
  obtain ⟨n, hn, hl4⟩ : ∃ n, (n = 4 ∨ n = 8) ∧ len = 4 * n := by rcases hg.len with h | h; exact ⟨4, .inl rfl, by omega⟩; exact ⟨8, .inr rfl, by omega⟩
  have HN := wall (fun W (h : Below w.heap.size w W) => new_any A len cap n key W hn hl4 hlen.symm ((hz.below h).more h.size))
  have HG := wall hg
  have k0 : decide (kind < 0) = false := by rw [decide_eq_false_iff_not]; omega
  have k2 : decide (2 < kind) = false := by rw [decide_eq_false_iff_not]; omega
  have HKD := wall hk
  have HSK := wall (fun A n c => show (Tryd.prog.info? 94).map (·.size) = some (kC (.slice A n c)).toArray.size by rw [List.size_toArray, kC_length]; exact key_info)
  have HSB := wall (show (Tryd.prog.info? 90).map (·.size) = some (b8 v).size by rw [b8_size, hvl]; exact blk_info16)
  have HSM := wall (fun A n c => mV_info A n c (m := ⟨key, kd, back, v⟩) hvl)
  have HML := wall (fun A n c => mV_length A n c (m := ⟨key, kd, back, v⟩) hvl)
  have HBU := wall (fun A n c => show Tryd.prog.built 96 [(0, .agg (kC (.slice A n c)).toArray), (1, .int .i64 kind), (2, .bool back), (3, .agg (b8 v))] = some (mV A n c ⟨key, kd, back, v⟩).toArray by rw [hk]; exact mode_built (kC (.slice A n c)) (kC_length _) (kd : Int) back v hvl)
  obtain ⟨w1, hw1⟩ : ∃ W, W = (w.alloc (.cells (b8 v) 90)).alloc (.cells zM.toArray 96) := ⟨_, rfl⟩
  have HW := wall hw1
  have HB1 := wall (show Below w.heap.size w w1 by rw [hw1]; exact ((Below.refl _ w).alloc (Nat.le_refl _) _).alloc (by simp) _)
  have HKB := wall (show Blk w1 w.heap.size 90 (b8 v) by rw [hw1]; exact (Blk.new _ _ _).alloc _)
  have HKR := wall (show Blk w1 (w.heap.size + 1) 96 zM.toArray by rw [hw1]; exact blk_new' (by simp))
  clear hw1 hz hg hvl hvb hlen hl4 hn hk hkd
  go_enter Tryd.func55, Tryd.ntmps55
  go_upto_region 1 with fail
  rw [← zM_eq]
  rw [← HW.out]
  clear HW
  go_wp2_with fail
  (with_reducible refine (HN.out _ HB1.out).mono ?_); rintro e w2 ⟨A2, c2, rfl, hc2, hN2, hA2, hB2⟩
  have HKV := wall (show KeyV w2 w2.heap.size key A2 (kWords key).length c2 from ⟨HG.out, rfl, hc2, hN2⟩)
  have HKB2 := wall (HKB.out.next hB2 rfl)
  have HKR2 := wall (HKR.out.next hB2 rfl)
  have HB2 := wall (below_then HB1.out hB2 (Nat.le_refl _))
  generalize (kWords key).length = L at *
  have HA2 := wall (show ∀ ad : Addr, A2 = some ad → ad.block ∉ [w.heap.size + 1] from fun ad h => by have := hA2 ad h; have := HKR.out.lt; simp; omega)
  clear HKB HKR HB1 hB2 hN2 HN hc2 hA2
  have hlt2 : w.heap.size + 1 < w2.heap.size := HKR2.out.lt
  go_upto_region 2 with (refine wpList_new_row rfl 94 (.tmp 10) (.tmp 15) rfl w2.heap.size (kC (.slice A2 L c2)).toArray rfl rfl 94 zK.toArray (by rw [zK_eq]; exact Blk.new _ _ _) (HSK.out A2 L c2) (by rw [List.size_toArray, List.size_toArray, kC_length, zK_length]) (kC_one _ _ _) w2.heap.size w2 ((Below.refl _ w2).alloc (Nat.le_refl _) _) (Nat.le_refl _) ?_; intro w3 K3 B3)
  replace K3 := wall K3.out
  replace B3 := wall B3.out
  have HKV3 := wall (HKV.out.next B3.out)
  have HKB3 := wall (HKB2.out.next B3.out rfl)
  have HKR3 := wall (HKR2.out.next B3.out rfl)
  have HB3 := wall (below_then HB2.out B3.out (Nat.le_refl _))
  clear HKV HKB2 HKR2 HB2 B3
  generalize w2.heap.size = gK at *
  go_upto_region 4 with fail
  go_wp2_with (first | refine wpList_load_row rfl 94 _ rfl gK rfl 94 (kC (.slice A2 L c2)).toArray (0, 0) _ K3.out Tryd.underlying94 rfl (HSK.out A2 L c2) ?_ | (refine wpList_load_row rfl 90 _ rfl w.heap.size rfl 90 (b8 v) (0, 0) _ HKB3.out Tryd.underlying90 rfl HSB.out ?_; refine Sha.Wall.out (?_ : Wall _)))
  refine ⟨?_⟩
  have hb := HBU.out A2 L c2
  have h3 := HSM.out A2 L c2
  have h4 : zM.toArray.size = (mV A2 L c2 ⟨key, kd, back, v⟩).toArray.size := by rw [List.size_toArray, List.size_toArray, HML.out, zM_length]
  have h5 := mV_one A2 L c2 ⟨key, kd, back, v⟩
  obtain ⟨MV, hMV⟩ : ∃ x, (mV A2 L c2 ⟨key, kd, back, v⟩).toArray = x := ⟨_, rfl⟩
  rw [hMV] at hb h3 h4 h5
  have HMV := wall hMV
  clear hMV
  refine wpList_build_row rfl _ _ rfl _ hb ?_
  have H3 := wall h3
  have H4 := wall h4
  have H5 := wall h5
  clear hb h3 h4 h5 HKD HG HBU
  go_wp2_with (refine wpList_set_row rfl 96 (.tmp 8) (.tmp 32) rfl (w.heap.size + 1) MV rfl rfl 96 zM.toArray HKR3.out H3.out H4.out H5.out ?_; intro w4 K4 F4)
  go_light
  have hB4 := F4.out.size
  exact bodyPost_ret (v := .tuple #[.agg MV, .int .i64 0]) (results_one_slot Tryd.results55 _ _ (w.heap.size + 1) 96 _ _ _ rfl rfl K4.out Tryd.underlying96 rfl H3.out) rfl ⟨A2, L, c2, by rw [HMV.out], (HKV3.out.other (Nat.le_refl _) F4.out HA2.out).more F4.out.size, Below.frm HB3.out F4.out (Nat.le_refl _) (fun x hx => by simp at hx; omega)⟩
set_option maxRecDepth 100000 in
set_option maxHeartbeats 4000000 in
/-- A key that there isn't. -/
theorem mnew_badkey (A : Option Addr) (n cap : Nat) (kind : Int) (back : Bool) (v : List Nat) (w : World) (h1 : n ≠ 16) (h2 : n ≠ 32) (hm : n ≤ maxLen) (hvl : v.length = 16) :
    Calls Tryd.prog 55 #[.int .i64 kind, .bool back, .slice A n cap, .agg (b8 v)] w (MnBad w) := by
  have HN := wall (fun W => new_bad A n cap W h1 h2 hm)
  obtain ⟨ZK, hZK⟩ : ∃ x, zK.toArray = x := ⟨_, rfl⟩
  have HSK := wall (show (Tryd.prog.info? 94).map (·.size) = some ZK.size by rw [← hZK, List.size_toArray, zK_length]; exact key_info)
  have HZK := wall (show ZK = Tryd.zeroCells94 by rw [← hZK, zK_eq])
  have HZ1 := wall (show ZK.all (·.oneCell') = true by rw [← hZK]; exact zK_one)
  rw [hZK] at HN
  obtain ⟨ZM, hZM⟩ : ∃ x, zM.toArray = x := ⟨_, rfl⟩
  have HSM := wall (show (Tryd.prog.info? 96).map (·.size) = some ZM.size by rw [← hZM, List.size_toArray, zM_length]; exact mode_info)
  have HZM := wall (show Tryd.zeroCells96 = ZM by rw [← hZM, zM_eq])
  have HZ2 := wall (show ZM.all (·.oneCell') = true by rw [← hZM]; exact mC_one zK_ones _ _ _)
  have HBU := wall (show Tryd.prog.built 96 [] = some ZM by rw [← HZM.out]; kernel_rfl)
  have HSB := wall (show (Tryd.prog.info? 90).map (·.size) = some (b8 v).size by rw [b8_size, hvl]; exact blk_info16)
  obtain ⟨w1, hw1⟩ : ∃ W, W = (w.alloc (.cells (b8 v) 90)).alloc (.cells ZM 96) := ⟨_, rfl⟩
  have HW := wall hw1
  have HB1 := wall (show Below w.heap.size w w1 by rw [hw1]; exact ((Below.refl _ w).alloc (Nat.le_refl _) _).alloc (by simp) _)
  have HKR := wall (show Blk w1 (w.heap.size + 1) 96 ZM by rw [hw1]; exact blk_new' (by simp))
  unfold MnBad
  rw [hZM]
  clear hw1 hZK hZM
  go_enter Tryd.func55, Tryd.ntmps55
  go_upto_region 1 with fail
  rw [HZM.out]
  rw [← HW.out]
  clear HW
  go_wp2_with fail
  (with_reducible refine (HN.out _).mono ?_); rintro e w2 ⟨rfl, hB2⟩
  have HKR2 := wall (HKR.out.next hB2 rfl)
  have HB2 := wall (below_then HB1.out hB2 (Nat.le_refl _))
  clear HKR HB1 hB2 HN
  go_upto_region 2 with (refine wpList_new_row rfl 94 (.tmp 10) (.tmp 15) rfl w2.heap.size ZK rfl rfl 94 ZK (by rw [HZK.out]; exact Blk.new _ _ _) HSK.out rfl HZ1.out w2.heap.size w2 ((Below.refl _ w2).alloc (Nat.le_refl _) _) (Nat.le_refl _) ?_; intro w3 K3 B3)
  have HKR3 := wall (HKR2.out.next B3.out rfl)
  have HB3 := wall (below_then HB2.out B3.out (Nat.le_refl _))
  clear HKR2 HB2 B3 K3
  go_wp2_with (first | (have hb := HBU.out; refine wpList_build_row rfl 96 [] rfl _ hb ?_; clear hb) | (refine wpList_new_row rfl 96 (.tmp 8) (.tmp 27) rfl (w.heap.size + 1) ZM rfl rfl 96 ZM HKR3.out HSM.out rfl HZ2.out w.heap.size w HB3.out (by omega) ?_; intro w4 K4 B4))
  go_light
  exact bodyPost_ret (v := .tuple #[.agg ZM, .int .i64 1]) (results_one_slot Tryd.results55 _ _ (w.heap.size + 1) 96 _ _ _ rfl rfl K4.out Tryd.underlying96 rfl HSM.out) rfl ⟨rfl, B4.out⟩
end Aes
end Go.Proofs.YtpakdcgcgekcfaaDoor

/-
  Package mode: New of no kind; At, Next.
-/
set_option linter.unusedSimpArgs false
set_option linter.unusedVariables false
namespace Go.Proofs.YtpakdcgcgekcfaaDoor
open Go.RowKit

namespace Aes
open Otp R1 Fuse Sha
set_option maxRecDepth 100000 in
set_option maxHeartbeats 4000000 in
/-- A kind that there isn't. -/
theorem mnew_badkind (A : Option Addr) (n cap : Nat) (key : List Nat) (kind : Int) (back : Bool) (v : List Nat) (w : World) (hg : KeyG key) (hlen : n = key.length) (hz : Nats .u8 256 w w.heap.size A key) (hk : kind < 0 ∨ 2 < kind) (hvl : v.length = 16) :
    Calls Tryd.prog 55 #[.int .i64 kind, .bool back, .slice A n cap, .agg (b8 v)] w (MnBad w) := by
  obtain ⟨q, hq, hl4⟩ : ∃ q, (q = 4 ∨ q = 8) ∧ n = 4 * q := by rcases hg.len with h | h; exact ⟨4, .inl rfl, by omega⟩; exact ⟨8, .inr rfl, by omega⟩
  have HN := wall (fun W (h : Below w.heap.size w W) => new_any A n cap q key W hq hl4 hlen.symm ((hz.below h).more h.size))
  have HSK := wall (fun A n c => show (Tryd.prog.info? 94).map (·.size) = some (kC (.slice A n c)).toArray.size by rw [List.size_toArray, kC_length]; exact key_info)
  have HKS := wall (fun A n c => show (kC (.slice A n c)).toArray.size = zK.toArray.size by rw [List.size_toArray, kC_length, List.size_toArray, zK_length])
  obtain ⟨ZK, hZK⟩ : ∃ x, zK.toArray = x := ⟨_, rfl⟩
  have HZK := wall (show ZK = Tryd.zeroCells94 by rw [← hZK, zK_eq])
  rw [hZK] at HKS
  obtain ⟨ZM, hZM⟩ : ∃ x, zM.toArray = x := ⟨_, rfl⟩
  have HSM := wall (show (Tryd.prog.info? 96).map (·.size) = some ZM.size by rw [← hZM, List.size_toArray, zM_length]; exact mode_info)
  have HZM := wall (show Tryd.zeroCells96 = ZM by rw [← hZM, zM_eq])
  have HZ2 := wall (show ZM.all (·.oneCell') = true by rw [← hZM]; exact mC_one zK_ones _ _ _)
  have HBU := wall (show Tryd.prog.built 96 [] = some ZM by rw [← HZM.out]; kernel_rfl)
  obtain ⟨w1, hw1⟩ : ∃ W, W = (w.alloc (.cells (b8 v) 90)).alloc (.cells ZM 96) := ⟨_, rfl⟩
  have HW := wall hw1
  have HB1 := wall (show Below w.heap.size w w1 by rw [hw1]; exact ((Below.refl _ w).alloc (Nat.le_refl _) _).alloc (by simp) _)
  have HKR := wall (show Blk w1 (w.heap.size + 1) 96 ZM by rw [hw1]; exact blk_new' (by simp))
  unfold MnBad
  rw [hZM]
  clear hw1 hZK hZM hz hg hlen hl4 hq
  rcases hk with hk | hk
  all_goals
    go_enter Tryd.func55, Tryd.ntmps55
    go_upto_region 1 with fail
    rw [HZM.out]
    rw [← HW.out]
    clear HW
    go_wp2_with fail
    (with_reducible refine (HN.out _ HB1.out).mono ?_); rintro e w2 ⟨A2, c2, rfl, -, -, -, hB2⟩
    have HKR2 := wall (HKR.out.next hB2 rfl)
    have HB2 := wall (below_then HB1.out hB2 (Nat.le_refl _))
    have h3 := HSK.out A2 (kWords key).length c2
    have h4 := HKS.out A2 (kWords key).length c2
    have h5 := kC_one A2 (kWords key).length c2
    generalize (kC (.slice A2 (kWords key).length c2)).toArray = KC at *
    have H3 := wall h3
    have H4 := wall h4
    have H5 := wall h5
    clear HKR HB1 hB2 HN h3 h4 h5 HSK HKS
    go_upto_region 2 with (refine wpList_new_row rfl 94 (.tmp 10) (.tmp 15) rfl w2.heap.size KC rfl rfl 94 ZK (by rw [HZK.out]; exact Blk.new _ _ _) H3.out H4.out.symm H5.out w2.heap.size w2 ((Below.refl _ w2).alloc (Nat.le_refl _) _) (Nat.le_refl _) ?_; intro w3 K3 B3)
    have HKR3 := wall (HKR2.out.next B3.out rfl)
    have HB3 := wall (below_then HB2.out B3.out (Nat.le_refl _))
    clear HKR2 HB2 B3 K3 H3 H4 H5
    go_wp2_with (first | (have hb := HBU.out; refine wpList_build_row rfl 96 [] rfl _ hb ?_; clear hb) | (refine wpList_new_row rfl 96 (.tmp 8) (.tmp 27) rfl (w.heap.size + 1) ZM rfl rfl 96 ZM HKR3.out HSM.out rfl HZ2.out w.heap.size w HB3.out (by omega) ?_; intro w4 K4 B4))
    go_light
    exact bodyPost_ret (v := .tuple #[.agg ZM, .int .i64 1]) (results_one_slot Tryd.results55 _ _ (w.heap.size + 1) 96 _ _ _ rfl rfl K4.out Tryd.underlying96 rfl HSM.out) rfl ⟨rfl, B4.out⟩
/-- Where a mode's parts lie. -/
structure MvF (MV : Array Value) (A : Option Addr) (L c : Nat) (m : Md) : Prop where
  size : MV.size = 531
  key : ∀ j v, (kC (.slice A L c))[j]? = some v → MV[0 + j]? = some v
  kind : MV[513]? = some (.int .i64 (m.kind : Int))
  back : MV[514]? = some (.bool m.back)
  v : ∀ j x, (v8 m.v)[j]? = some x → MV[515 + j]? = some x
  one : MV.all (·.oneCell') = true
  eq : MV = (mV A L c m).toArray
theorem mvF (A : Option Addr) (L c : Nat) (m : Md) (h : m.v.length = 16) : MvF (mV A L c m).toArray A L c m := by
  have hl := kC_length (.slice A L c)
  have g : ∀ i, (mV A L c m)[513 + i]? = (mT m.kind m.back m.v)[i]? := fun i => by
    rw [mV, mC, List.getElem?_append_right (by omega), hl, show 513 + i - 513 = i by omega]
  refine ⟨by rw [List.size_toArray, mV_length A L c h], fun j v hv => ?_, by rw [List.getElem?_toArray]; exact g 0, by rw [List.getElem?_toArray]; exact g 1, fun j x hx => ?_, mV_one A L c m, rfl⟩
  · have hj : j < (kC (.slice A L c)).length := (List.getElem?_eq_some_iff.1 hv).1
    rw [List.getElem?_toArray, Nat.zero_add, mV, mC, List.getElem?_append_left hj]
    exact hv
  · rw [List.getElem?_toArray, show 515 + j = 513 + (j + 2) by omega, g (j + 2)]
    exact hx
theorem MvF.info {MV : Array Value} {A : Option Addr} {L c : Nat} {m : Md} (h : MvF MV A L c m) : (Tryd.prog.info? 96).map (·.size) = some MV.size := by rw [h.size]; exact mode_info
theorem MvF.rv {MV : Array Value} {A : Option Addr} {L c : Nat} {m : Md} (h : MvF MV A L c m) {w : World} {g : Nat} (hb : Blk w g 96 MV) : w.rangeAt g 515 (b8 m.v).toList := fun j x hx => by
  rw [hb.cell]
  exact h.v j x (by simpa [b8, v8] using hx)
theorem MvF.rk {MV : Array Value} {A : Option Addr} {L c : Nat} {m : Md} (h : MvF MV A L c m) {w : World} {g : Nat} (hb : Blk w g 96 MV) : w.rangeAt g 0 (kC (.slice A L c)).toArray.toList := fun j x hx => by
  rw [hb.cell]
  exact h.key j x (by simpa using hx)
set_option maxRecDepth 100000 in
set_option maxHeartbeats 4000000 in
theorem mat_any (MV : Array Value) (A : Option Addr) (L c : Nat) (m : Md) (w : World) (hF : MvF MV A L c m) (hvl : m.v.length = 16) : Calls Tryd.prog 61 #[.agg MV] w (BkOut w m.v) := by
  obtain ⟨v, hv⟩ : ∃ v, m.v = v := ⟨_, rfl⟩
  have HF := wall hF
  have HI := wall hF.info
  have HSB := wall (show (Tryd.prog.info? 90).map (·.size) = some (b8 v).size by rw [b8_size, ← hv, hvl]; exact blk_info16)
  obtain ⟨w1, hw1⟩ : ∃ W, W = (w.alloc (.cells MV 96)).alloc (.cells (b8 z16) 90) := ⟨_, rfl⟩
  have HW := wall hw1
  have HB1 := wall (show Below w.heap.size w w1 by rw [hw1]; exact ((Below.refl _ w).alloc (Nat.le_refl _) _).alloc (by simp) _)
  have HKR := wall (show Blk w1 (w.heap.size + 1) 90 (b8 z16) by rw [hw1]; exact blk_new' (by simp))
  have HR := wall (show w1.rangeAt w.heap.size 515 (b8 v).toList by rw [← hv]; exact hF.rv (by rw [hw1]; exact (Blk.new _ _ _).alloc _))
  have HZZ := wall (show (b8 z16).size = (b8 v).size by rw [b8_size, b8_size, ← hv, hvl]; rfl)
  rw [hv]
  clear hw1 hF hv
  go_enter Tryd.func61, Tryd.ntmps61
  go_upto_region 1 with fail
  change Code.wp _ _ _ _ ((w.alloc (.cells MV 96)).alloc (.cells (b8 z16) 90))
  rw [← HW.out]
  clear HW
  go_wp2_with (first | refine wpList_load_arr rfl 90 _ rfl w.heap.size 515 rfl (b8 v) _ HR.out Tryd.underlying90 rfl HSB.out ?_ | (refine wpList_new_row rfl 90 (.tmp 2) (.tmp 4) rfl (w.heap.size + 1) (b8 v) rfl rfl 90 (b8 z16) HKR.out HSB.out HZZ.out (b8_one _) w.heap.size w HB1.out (by omega) ?_; intro w7 KD B7))
  go_light
  exact bodyPost_ret (v := .agg (b8 v)) (results_cell_row Tryd.results61 _ _ (w.heap.size + 1) 90 (b8 v) (0, 0) _ rfl KD.out Tryd.underlying90 rfl HSB.out) rfl ⟨rfl, B7.out⟩
/-- One more: from the last byte on. -/
def nxS (b : List Nat) : Nat → List Nat × Nat
  | 0 => (b, 1)
  | s + 1 => ((nxS b s).1.set (15 - s) (((nxS b s).2 + at0 b (15 - s)) % 256), ((nxS b s).2 + at0 b (15 - s)) / 256)
def nextB (b : List Nat) : List Nat := (nxS b 16).1
theorem nxS_ok {b : List Nat} (hb : b.length = 16) (hbb : ∀ x ∈ b, x < 256) : ∀ s, s ≤ 16 → (nxS b s).1.length = 16 ∧ (nxS b s).2 ≤ 1 ∧ (∀ x ∈ (nxS b s).1, x < 256) ∧ ∀ j, j < 16 - s → (nxS b s).1[j]? = b[j]?
  | 0, _ => ⟨hb, Nat.le_refl _, hbb, fun _ _ => rfl⟩
  | s + 1, h => by
    obtain ⟨h1, h2, h3, h4⟩ := nxS_ok hb hbb s (by omega)
    have hx : at0 b (15 - s) < 256 := by
      have := at0_get (b := b) (i := 15 - s) (by omega)
      exact hbb _ (List.mem_of_getElem? this)
    refine ⟨by rw [nxS, List.length_set]; exact h1, by rw [nxS]; simp only; omega, fun x hx => ?_, fun j hj => ?_⟩
    · rw [nxS] at hx
      rcases List.mem_or_eq_of_mem_set hx with h | h
      · exact h3 x h
      · rw [h]; exact Nat.mod_lt _ (by decide)
    · rw [nxS]
      simp only
      rw [List.getElem?_set_ne (by omega)]
      exact h4 j (by omega)
theorem nextB_ok {b : List Nat} (hb : b.length = 16) (hbb : ∀ x ∈ b, x < 256) : (nextB b).length = 16 ∧ ∀ x ∈ nextB b, x < 256 := ⟨(nxS_ok hb hbb 16 (Nat.le_refl _)).1, (nxS_ok hb hbb 16 (Nat.le_refl _)).2.2.1⟩
set_option maxRecDepth 100000 in
set_option maxHeartbeats 4000000 in
theorem next_any (b : List Nat) (w : World) (hb : b.length = 16) (hbb : ∀ x ∈ b, x < 256) : Calls Tryd.prog 62 #[.agg (b8 b)] w (BkOut w (nextB b)) := by
  obtain ⟨w1, hw1⟩ : ∃ W, W = (w.alloc (.cells (b8 b) 90)).alloc (.cells (b8 z16) 90) := ⟨_, rfl⟩
  have HW := wall hw1
  have HA1 := wall (show Ab w w.heap.size (w.heap.size + 1) b w1 by
    rw [hw1]
    exact ⟨(Blk.new _ _ _).alloc _, blk_new' (by simp), ((Below.refl _ w).alloc (Nat.le_refl _) _).alloc (by simp) _, Nat.le_refl _, by omega, by omega⟩)
  have HOK := wall (fun s (h : s ≤ 16) => nxS_ok hb hbb s h)
  have HBX := wall (fun s (h : s < 16) => show at0 b (15 - s) < 256 ∧ b[15 - s]? = some (at0 b (15 - s)) by
    have := at0_get (b := b) (i := 15 - s) (by omega)
    exact ⟨hbb _ (List.mem_of_getElem? this), this⟩)
  have HNX := wall (fun s => show nxS b (s + 1) = ((nxS b s).1.set (15 - s) (((nxS b s).2 + at0 b (15 - s)) % 256), ((nxS b s).2 + at0 b (15 - s)) / 256) from rfl)
  have HE := wall (show nextB b = (nxS b 16).1 from rfl)
  have H0 := wall (show nxS b 0 = (b, 1) from rfl)
  rw [HE.out]
  generalize nxS b = nx at *
  clear hw1 hb hbb
  go_enter Tryd.func62, Tryd.ntmps62
  go_upto_region 1 with fail
  change Code.wp _ _ _ _ ((w.alloc (.cells (b8 b) 90)).alloc (.cells (b8 z16) 90))
  rw [← HW.out]
  clear HW
  obtain ⟨gR, hgR⟩ : ∃ x, x = w.heap.size + 1 := ⟨_, rfl⟩
  rw [← hgR] at HA1
  rw [← hgR]
  clear hgR
  go_wp2_with fail
  go_loopg [3, 4] 16 (fun gm s3 s4 wr => ∃ s : Nat, s + gm = 16 ∧ s3 = .int .u16 ((nx s).2 : Int) ∧ s4 = .int .i64 (15 - (s : Int)) ∧ Wall (Ab w w.heap.size gR (nx s).1 wr))
  case atStart => exact ⟨0, by omega, by rw [H0.out]; rfl, by go_num, by rw [H0.out]; exact HA1⟩
  case round =>
    clear HA1
    obtain ⟨s, hg, rfl, rfl, HA⟩ := hrel
    have HG := wall hg
    have hs : s ≤ 16 := by omega
    clear hg
    obtain ⟨k1, k2, k3, k4⟩ := HOK.out s hs
    have HNXs := HNX.out s
    obtain ⟨p, hp⟩ : ∃ p, nx s = p := ⟨_, rfl⟩
    rw [hp] at HA k1 k2 k3 k4 HNXs ⊢
    obtain ⟨cur, cy⟩ := p
    simp only at HA k1 k2 k3 k4 HNXs ⊢
    by_cases hlt : s < 16
    · obtain ⟨x8, hbx⟩ := HBX.out s hlt
      have hcx := (k4 (15 - s) (by omega)).trans hbx
      generalize at0 b (15 - s) = x at *
      obtain ⟨j, hj⟩ : ∃ j : Nat, 15 - s = j := ⟨_, rfl⟩
      rw [hj] at hcx HNXs
      have hjs : (15 : Int) - (s : Int) = (j : Int) := by omega
      have hj16 : j < 16 := by omega
      obtain ⟨cc, cf, cs, HA2⟩ := HA.out.put (y := (cy + x) % 256) hcx
      have e1 : IntKind.u16.wrap ((cy : Int) + (x : Int)) = ((cy + x : Nat) : Int) := by rw [IntKind.wrap_u16]; omega
      have e2 : IntKind.u8.wrap ((cy + x : Nat) : Int) = (((cy + x) % 256 : Nat) : Int) := by rw [IntKind.wrap_u8]; omega
      have e3 : (((cy + x : Nat) : Int)) / 256 = (((cy + x) / 256 : Nat) : Int) := by omega
      have HN2 := wall HNXs
      rw [hjs]
      clear k1 k2 k3 k4 hbx hcx HNXs HA hp hj
      go_wp2_with fail
      go_light
      go_roundg (16 - (s + 1))
      case measure => have := HG.out; omega
      case rel => exact ⟨s + 1, by omega, by rw [HN2.out]; exact congrArg (Value.int .u16) (by omega), by go_num, by rw [HN2.out, show ((cy : Int) + (x : Int)) % 256 = (((cy + x) % 256 : Nat) : Int) by omega]; exact wall HA2.out⟩
    · have hs16 : s = 16 := by omega
      subst hs16
      have HP := wall hp
      have HSZ := wall (show (Tryd.prog.info? 90).map (·.size) = some (b8 cur).size by rw [b8_size, k1]; exact blk_info16)
      have HZZ := wall (show (b8 z16).size = (b8 cur).size by rw [b8_size, b8_size, k1]; rfl)
      have o2 := HA.out.o2
      clear k1 k2 k3 k4 HNXs hp
      go_wp2_with (first | refine wpList_load_row rfl 90 _ rfl w.heap.size rfl 90 (b8 cur) (0, 0) _ HA.out.kb Tryd.underlying90 rfl HSZ.out ?_ | (refine wpList_new_row rfl 90 (.tmp 2) (.tmp 21) rfl gR (b8 cur) rfl rfl 90 (b8 z16) HA.out.kr HSZ.out HZZ.out (b8_one _) w.heap.size w HA.out.bel o2 ?_; intro w7 KD B7))
      go_light
      exact bodyPost_ret (v := .agg (b8 cur)) (results_cell_row Tryd.results62 _ _ gR 90 (b8 cur) (0, 0) _ rfl KD.out Tryd.underlying90 rfl HSZ.out) rfl ⟨by rw [HP.out], B7.out⟩
end Aes
end Go.Proofs.YtpakdcgcgekcfaaDoor

/-
  A drawn region of two loads, an address, a store into a block's middle and a store: each order ends the same.
-/
set_option linter.unusedSimpArgs false
set_option linter.unusedVariables false
namespace Go.Proofs.YtpakdcgcgekcfaaDoor
open Go Go.RowKit

section
variable {P : Program}
theorem wp_store_mid_in {o : Oper} {a : Act} {w : World} {K : Act → World → Prop} {Q : Exit → Act → World → Prop} {f : Nat → Option Bool} (hgd : o.guard = none) (ty : TypeId) (x y : Operand) (ho : o.op = .store ty x y) (hdst : o.dst = none)
    (g off : Nat) (cells : Array Value) (hx : a.eval x = .pointer (some ⟨g, off, none⟩)) (hy : a.eval y = .agg cells)
    (t : TypeId) (L : List Value) (hg : Blk w g t L.toArray) (hfit : off + cells.size ≤ L.length) (hi : (P.info? ty).map (·.size) = some cells.size) (h1 : cells.all (·.oneCell') = true)
    (h : ∀ w', Blk w' g t (splice L off cells.toList).toArray → Frm [g] w w' → K a w') : if Region.wanted o f = true then Oper.wp P o a w K Q else K (a.put o.dst undef) w := by
  rw [if_pos (wanted_none hgd)]
  refine wp_store_mid ty x y ho g off cells hx hy (fun j hj => ⟨by rw [hg.cell]; simp; omega, hg.frozen _⟩) hi h1 ?_
  rw [hdst]
  exact h _ (blk_setCells cells.toList off L w hg (by simpa using hfit)) (frm_setCells _ _ _ _ _ (Frm.refl _ _) (.inl (by simp)))
theorem wp_val_in {o : Oper} {a : Act} {w : World} {K : Act → World → Prop} {Q : Exit → Act → World → Prop} {f : Nat → Option Bool} (hgd : o.guard = none) (v : Value) (hy : (execOp a.eval o).run P w = .ok (.value v) w) (h : K (a.put o.dst v) w) :
    if Region.wanted o f = true then Oper.wp P o a w K Q else K (a.put o.dst undef) w := by
  rw [if_pos (wanted_none hgd)]
  unfold Oper.wp
  rw [hy]
  exact h
theorem wp_two_rows5 {id : Nat} {Q : Exit → Act → World → Prop} {a : Act} {w : World} {o0 o1 o2 o3 o4 : Oper} (hm : P.follows .mixedOrders = true)
    (hr : readyB [o0, o1, o2, o3, o4].toArray [([false, false, false, false, false], [0, 1]), ([true, false, false, false, false], [1, 2]), ([false, true, false, false, false], [0]), ([true, true, false, false, false], [2]), ([true, false, true, false, false], [1, 3]), ([true, true, true, false, false], [3]), ([true, false, true, true, false], [1]), ([true, true, true, true, false], [4]), ([true, true, true, true, true], [])] = true)
    (g0 : o0.guard = none) (g1 : o1.guard = none) (g2 : o2.guard = none) (g3 : o3.guard = none) (g4 : o4.guard = none) (n3 : o3.dst = none) (n4 : o4.dst = none)
    (t0 t1 : TypeId) (x y q : Operand) (i j k : Tmp) (hij : i ≠ j) (hjk : j ≠ k) (p0 : o0.op = .load t0 x) (p1 : o1.op = .load t1 y) (p3 : o3.op = .store t0 (.tmp k) (.tmp i)) (p4 : o4.op = .store t1 q (.tmp j)) (d0 : o0.dst = some i) (d1 : o1.dst = some j) (d2 : o2.dst = some k)
    (gx gy gp off gq : Nat) (ca cb : Array Value) (kx ky kp kq : TypeId) (L : List Value) (cq : Array Value) (e0 e1 : TypeDesc)
    (hx : a.eval x = .pointer (some ⟨gx, 0, none⟩)) (hx' : (a.put (some j) (.agg cb)).eval x = .pointer (some ⟨gx, 0, none⟩))
    (hy : a.eval y = .pointer (some ⟨gy, 0, none⟩)) (hy' : (a.put (some i) (.agg ca)).eval y = .pointer (some ⟨gy, 0, none⟩)) (hy2 : ((a.put (some i) (.agg ca)).put (some k) (.pointer (some ⟨gp, off, none⟩))).eval y = .pointer (some ⟨gy, 0, none⟩))
    (v0 : ∀ w, (execOp (a.put (some i) (.agg ca)).eval o2).run P w = .ok (.value (.pointer (some ⟨gp, off, none⟩))) w) (v1 : ∀ w, (execOp ((a.put (some i) (.agg ca)).put (some j) (.agg cb)).eval o2).run P w = .ok (.value (.pointer (some ⟨gp, off, none⟩))) w)
    (hp : ((a.put (some i) (.agg ca)).put (some k) (.pointer (some ⟨gp, off, none⟩))).eval (.tmp k) = .pointer (some ⟨gp, off, none⟩)) (hs : ((a.put (some i) (.agg ca)).put (some k) (.pointer (some ⟨gp, off, none⟩))).eval (.tmp i) = .agg ca)
    (hp' : (((a.put (some i) (.agg ca)).put (some j) (.agg cb)).put (some k) (.pointer (some ⟨gp, off, none⟩))).eval (.tmp k) = .pointer (some ⟨gp, off, none⟩)) (hs' : (((a.put (some i) (.agg ca)).put (some j) (.agg cb)).put (some k) (.pointer (some ⟨gp, off, none⟩))).eval (.tmp i) = .agg ca)
    (hq : (((a.put (some i) (.agg ca)).put (some j) (.agg cb)).put (some k) (.pointer (some ⟨gp, off, none⟩))).eval q = .pointer (some ⟨gq, 0, none⟩)) (ht : (((a.put (some i) (.agg ca)).put (some j) (.agg cb)).put (some k) (.pointer (some ⟨gp, off, none⟩))).eval (.tmp j) = .agg cb)
    (bx : Blk w gx kx ca) (bY : Blk w gy ky cb) (bp : Blk w gp kp L.toArray) (bq : Blk w gq kq cq) (npy : gy ≠ gp) (npq : gq ≠ gp)
    (u0 : P.underlying t0 = some e0) (r0 : rowB e0 = true) (z0 : (P.info? t0).map (·.size) = some ca.size) (s0 : off + ca.size ≤ L.length) (c0 : ca.all (·.oneCell') = true)
    (u1 : P.underlying t1 = some e1) (r1 : rowB e1 = true) (z1 : (P.info? t1).map (·.size) = some cb.size) (s1 : cq.size = cb.size) (c1 : cb.all (·.oneCell') = true)
    (h : ∀ w', Blk w' gp kp (splice L off ca.toList).toArray → Blk w' gq kq cb → Frm [gp, gq] w w' → Q .normal (((a.put (some i) (.agg ca)).put (some j) (.agg cb)).put (some k) (.pointer (some ⟨gp, off, none⟩))) w') :
    (Code.region id [o0, o1, o2, o3, o4].toArray true).wp P Q a w := by
  have R : ∀ s r, (s, r) ∈ _ → _ := fun s r hm => readyB_at hr (s := s) (r := r) hm
  have fin : ∀ w', Blk w' gp kp (splice L off ca.toList).toArray → Blk w' gq kq cb → Frm [gp, gq] w w' → ∀ f, wpAny P .any [o0, o1, o2, o3, o4].toArray Q f #[true, true, true, true, true] (((a.put (some i) (.agg ca)).put (some j) (.agg cb)).put (some k) (.pointer (some ⟨gp, off, none⟩))) w' := fun w' k1 k2 k3 f =>
    wpAny_done (R [true, true, true, true, true] [] (by simp)) (h w' k1 k2 k3) f
  have last : ∀ w', Blk w' gp kp (splice L off ca.toList).toArray → Blk w' gq kq cq → Frm [gp] w w' → wpAny P .any [o0, o1, o2, o3, o4].toArray Q 1 #[true, true, true, true, false] (((a.put (some i) (.agg ca)).put (some j) (.agg cb)).put (some k) (.pointer (some ⟨gp, off, none⟩))) w' := fun w' k1 k2 k3 => by
    refine wpAny_ready (rs := [4]) (R [true, true, true, true, false] [4] (by simp)) (by simp) (AllReady.cons (o := o4) rfl (fun K hK => ?_) AllReady.nil)
    refine wp_store_in g4 t1 q (.tmp j) p4 n4 gq cb hq ht kq cq k2 z1 s1 c1 (fun w2 k4 k5 => hK _ _ ?_)
    refine fin w2 (k1.frm k5 (by simp; exact fun h => npq h.symm)) k4 ?_ 0
    exact (k3.mono (T := [gp, gq]) (fun x hx _ => by simp at hx ⊢; exact .inl hx)).trans (k5.mono (fun x hx _ => by simp at hx ⊢; exact .inr hx))
  have all3 : wpAny P .any [o0, o1, o2, o3, o4].toArray Q 2 #[true, true, true, false, false] (((a.put (some i) (.agg ca)).put (some j) (.agg cb)).put (some k) (.pointer (some ⟨gp, off, none⟩))) w.drew := by
    refine wpAny_ready (rs := [3]) (R [true, true, true, false, false] [3] (by simp)) (by simp) (AllReady.cons (o := o3) rfl (fun K hK => ?_) AllReady.nil)
    refine wp_store_mid_in g3 t0 (.tmp k) (.tmp i) p3 n3 gp off ca hp' hs' kp L bp.drew s0 z0 c0 (fun w2 k4 k5 => hK _ _ ?_)
    exact last w2 k4 (bq.drew.frm k5 (by simp; exact npq)) ((Frm.refl _ _).drew.trans k5)
  have two : wpAny P .any [o0, o1, o2, o3, o4].toArray Q 3 #[true, true, false, false, false] ((a.put (some i) (.agg ca)).put (some j) (.agg cb)) w.drew := by
    refine wpAny_ready (rs := [2]) (R [true, true, false, false, false] [2] (by simp)) (by simp) (AllReady.cons (o := o2) rfl (fun K hK => ?_) AllReady.nil)
    refine wp_val_in g2 _ (v1 _) (hK _ _ ?_)
    rw [d2]
    exact all3
  refine wp_region_any hm ?_
  change wpAny P .any [o0, o1, o2, o3, o4].toArray Q 5 #[false, false, false, false, false] a w.drew
  refine wpAny_ready (rs := [0, 1]) (R [false, false, false, false, false] [0, 1] (by simp)) (by simp) (AllReady.cons (o := o0) rfl (fun K hK => ?_) (AllReady.cons (o := o1) rfl (fun K hK => ?_) AllReady.nil))
  · refine wp_load_in g0 t0 x p0 gx hx kx ca e0 bx.drew u0 r0 z0 (hK _ _ ?_)
    rw [d0]
    refine wpAny_ready (rs := [1, 2]) (R [true, false, false, false, false] [1, 2] (by simp)) (by simp) (AllReady.cons (o := o1) rfl (fun K hK => ?_) (AllReady.cons (o := o2) rfl (fun K hK => ?_) AllReady.nil))
    · refine wp_load_in g1 t1 y p1 gy hy' ky cb e1 bY.drew u1 r1 z1 (hK _ _ ?_)
      rw [d1]
      exact two
    · refine wp_val_in g2 _ (v0 _) (hK _ _ ?_)
      rw [d2]
      refine wpAny_ready (rs := [1, 3]) (R [true, false, true, false, false] [1, 3] (by simp)) (by simp) (AllReady.cons (o := o1) rfl (fun K hK => ?_) (AllReady.cons (o := o3) rfl (fun K hK => ?_) AllReady.nil))
      · refine wp_load_in g1 t1 y p1 gy hy2 ky cb e1 bY.drew u1 r1 z1 (hK _ _ ?_)
        rw [d1, ← put_comm hjk]
        exact all3
      · refine wp_store_mid_in g3 t0 (.tmp k) (.tmp i) p3 n3 gp off ca hp hs kp L bp.drew s0 z0 c0 (fun w2 k4 k5 => hK _ _ ?_)
        refine wpAny_ready (rs := [1]) (R [true, false, true, true, false] [1] (by simp)) (by simp) (AllReady.cons (o := o1) rfl (fun K hK => ?_) AllReady.nil)
        refine wp_load_in g1 t1 y p1 gy hy2 ky cb e1 (bY.drew.frm k5 (by simp; exact npy)) u1 r1 z1 (hK _ _ ?_)
        rw [d1, ← put_comm hjk]
        exact last w2 k4 (bq.drew.frm k5 (by simp; exact npq)) ((Frm.refl _ _).drew.trans k5)
  · refine wp_load_in g1 t1 y p1 gy hy ky cb e1 bY.drew u1 r1 z1 (hK _ _ ?_)
    rw [d1]
    refine wpAny_ready (rs := [0]) (R [false, true, false, false, false] [0] (by simp)) (by simp) (AllReady.cons (o := o0) rfl (fun K hK => ?_) AllReady.nil)
    refine wp_load_in g0 t0 x p0 gx hx' kx ca e0 bx.drew u0 r0 z0 (hK _ _ ?_)
    rw [d0, ← put_comm hij]
    exact two
end
end Go.Proofs.YtpakdcgcgekcfaaDoor

/-
  Rel once more, where no block's mark turns: what is told of a slot need only stand under growth of memory.
-/
set_option linter.unusedSimpArgs false
set_option linter.unusedVariables false
namespace Go.Proofs.YtpakdcgcgekcfaaDoor
open Go Go.RowKit

namespace RelG
/-- One operation's doing: what is older than B stands, all else reads the same. -/
structure Step (B : Nat) (W W' : World) : Prop where
  old : Below B W W'
  soft : Rel.Grow W W'
theorem Step.refl (B : Nat) (W : World) : Step B W W := ⟨Below.refl _ _, Rel.Grow.refl _⟩
theorem Step.of {B : Nat} {W W' : World} (hB : B ≤ W.heap.size) (h : Rel.Grow W W') : Step B W W' := ⟨Below.mono h hB, h⟩
/-- What an operation's value is: a constant; or told by a predicate. -/
inductive Kind where
  | const (c : Value)
  | any (V : Value → World → Prop) (h : ∀ v W W', Rel.Grow W W' → V v W → V v W')
def kindOf (ks : List (Tmp × Kind)) (o : Oper) : Option Kind := match o.dst with
  | some d => ks.lookup d
  | none => none
/-- Operations that are walked as they stand. -/
def pureOp (o : Oper) : Bool := match o.op with
  | .move _ | .assign _ | .pick _ _ _ | .build _ _ | .load _ _ | .binOp _ _ _ _ _ | .unOp _ _ _ | .convert _ _ _ | .slice _ _ _ _ _ | .fieldAddr _ _ _ | .field _ _ _ | .indexAddr _ _ _ | .index _ _ _ | .extract _ _ | .sliceToArrayPointer _ _ => true
  | _ => false
section
variable {P : Program} {ops : Array Oper} {md : Region.Mode}
theorem value_of_pure {o : Oper} {ρ : Operand → Value} {w w' : World} {n : Next} (hp : pureOp o = true) (h : (execOp ρ o).run P w = .ok n w') : ∃ u, n = .value u := by
  have key : ∀ (s : Sem Value), (do let x ← s; pure (Next.value x) : Sem Next).run P w = .ok n w' → ∃ u, n = .value u := fun s hs => by
    rw [Sem.run_bind] at hs
    cases hr : s.run P w with
    | ok x w1 => rw [hr] at hs; simp [Result.andThen] at hs; exact ⟨x, hs.1.symm⟩
    | halt x w1 => rw [hr] at hs; simp [Result.andThen] at hs
  obtain ⟨dst, op, type, pos, after, guard⟩ := o
  cases op <;> simp only [pureOp, Bool.false_eq_true] at hp <;> simp only [execOp] at h
  case move x => simp at h; exact ⟨_, h.1.symm⟩
  case assign x => simp at h; exact ⟨_, h.1.symm⟩
  case pick c x y =>
    rw [Sem.run_bind] at h
    cases hr : (asBool (ρ c)).run P w with
    | ok b w1 => rw [hr] at h; simp [Result.andThen] at h; exact ⟨_, h.1.symm⟩
    | halt b w1 => rw [hr] at h; simp [Result.andThen] at h
  all_goals exact key _ h
/-- An operation that may make memory, or call. -/
def relUpon (P : Program) (W : World) (V : Value → World → Prop) : Result Next → Prop
  | .ok (.value v) w' => Rel.Grow W w' ∧ V v w'
  | .ok .skip w' => Rel.Grow W w' ∧ V undef w'
  | .ok (.enter f args) w' => Calls P f args w' (fun e w'' => ∃ v, e = .returned v ∧ Rel.Grow W w'' ∧ V v w'')
  | _ => False
def relAt (P : Program) (o : Oper) (a : Act) (W : World) (V : Value → World → Prop) : Prop := relUpon P W V ((execOp a.eval o).run P W)
def stepUpon (P : Program) (B : Nat) (W : World) (V : Value → World → Prop) : Result Next → Prop
  | .ok (.value v) w' => Step B W w' ∧ V v w'
  | .ok .skip w' => Step B W w' ∧ V undef w'
  | .ok (.enter f args) w' => Calls P f args w' (fun e w'' => ∃ v, e = .returned v ∧ Step B W w'' ∧ V v w'')
  | _ => False
def stepAt (P : Program) (B : Nat) (o : Oper) (a : Act) (W : World) (V : Value → World → Prop) : Prop := stepUpon P B W V ((execOp a.eval o).run P W)
theorem stepAt.of {P : Program} {B : Nat} {o : Oper} {a : Act} {W : World} {V : Value → World → Prop} (hB : B ≤ W.heap.size) (h : relAt P o a W V) : stepAt P B o a W V := by
  unfold relAt at h
  unfold stepAt
  generalize (execOp a.eval o).run P W = r at *
  cases r with
  | ok x w1 =>
    cases x <;> simp only [relUpon] at h <;> simp only [stepUpon]
    case value v => exact ⟨Step.of hB h.1, h.2⟩
    case skip => exact ⟨Step.of hB h.1, h.2⟩
    case enter f args => exact Calls.mono h fun e w'' ⟨v, he, hg, hV⟩ => ⟨v, he, Step.of hB hg, hV⟩
  | halt x w1 => simp only [relUpon] at h
/-- What is told of slots. -/
abbrev Facts := Tmp → World → Prop
def Facts.put (F : Facts) (d : Option Tmp) (p : World → Prop) : Facts := fun x => match d with
  | some y => if x = y then p else F x
  | none => F x
def bare : Facts := fun _ _ => True
/-- The walk in the text's order. -/
def tree (P : Program) (ops : Array Oper) (ks : List (Tmp × Kind)) (w0 : World) (Q : Act → World → Prop) : List Oper → Facts → Act → Prop
  | [], F, a => ∀ W, Rel.Grow w0 W → (∀ d, F d W) → Q a W
  | o :: rest, F, a => if Region.wanted o (yielded ops a.tmps) then
      match kindOf ks o with
      | .none => pureOp o = true ∧ ∃ v, (∀ W, Rel.Grow w0 W → (∀ d, d ∈ o.looksAt ops → F d W) → (execOp a.eval o).run P W = .ok (.value v) W) ∧ tree P ops ks w0 Q rest F (a.put o.dst v)
      | .some (.const c) => (∀ W, Rel.Grow w0 W → (∀ d, d ∈ o.looksAt ops → F d W) → stepAt P w0.heap.size o a W (fun v _ => v = c)) ∧ tree P ops ks w0 Q rest F (a.put o.dst c)
      | .some (.any V _) => (∀ W, Rel.Grow w0 W → (∀ d, d ∈ o.looksAt ops → F d W) → stepAt P w0.heap.size o a W V) ∧ ∀ v, tree P ops ks w0 Q rest (F.put o.dst (V v)) (a.put o.dst v)
    else tree P ops ks w0 Q rest F (a.put o.dst undef)
/-- The region's form: edges lead back; each slot is written once; what is looked at is there, or waited for. -/
def headB (md : Region.Mode) (ops : Array Oper) (n : Nat) : Bool :=
  (List.range n).all fun i => match ops[i]? with
    | .none => false
    | .some o => (o.after.all fun e => !Region.binds md e || decide (e.on < i)) &&
      (List.range n).all fun j => match ops[j]? with
        | .none => false
        | .some p => match p.dst with
          | .none => true
          | .some d => (decide (i = j) || (o.dst != .some d)) && (!(o.looksAt ops).contains d || (decide (j < i) && Region.waitsFor md ops i j))
def canon (n m : Nat) : Array Bool := (List.replicate n true ++ List.replicate (m - n) false).toArray
def tailB (md : Region.Mode) (ops : Array Oper) (n : Nat) : Bool := decide (n = ops.size) || (decide (n < ops.size) && Region.sinkB md ops n && Region.chainB md ops n)
def okB (md : Region.Mode) (ops : Array Oper) (n : Nat) : Bool := Region.noSelect ops && headB md ops n && tailB md ops n && Region.seqB md ops (ops.size - n) n (canon n ops.size)
def cnt (s : Array Bool) : Nat → Nat
  | 0 => 0
  | m + 1 => cnt s m + (if s.getD m false then 0 else 1)
theorem cnt_far {s : Array Bool} {i : Nat} : ∀ m, m ≤ i → cnt (s.setIfInBounds i true) m = cnt s m
  | 0, _ => rfl
  | m + 1, h => by rw [cnt, cnt, cnt_far m (by omega), getD_set_ne false (by omega)]
theorem cnt_set {s : Array Bool} {i : Nat} (hs : i < s.size) (hf : s.getD i false = false) : ∀ m, i < m → cnt (s.setIfInBounds i true) m + 1 = cnt s m
  | m + 1, h => by
    by_cases him : i = m
    · subst him
      have e : (s.setIfInBounds i true).getD i false = true := by simp [hs]
      rw [cnt, cnt, cnt_far i (Nat.le_refl _), e, hf]
      simp
    · rw [cnt, cnt, getD_set_ne false him, ← cnt_set hs hf m (by omega)]
      omega
theorem cnt_zero {s : Array Bool} : ∀ m, cnt s m = 0 → ∀ j, j < m → s.getD j false = true
  | m + 1, h, j, hj => by
    rw [cnt] at h
    by_cases hjm : j = m
    · subst hjm
      cases he : s.getD j false
      · rw [he] at h; simp at h
      · rfl
    · exact cnt_zero m (by omega) j (by omega)
theorem cnt_pos {s : Array Bool} : ∀ m, 0 < cnt s m → ∃ i, i < m ∧ s.getD i false = false ∧ ∀ j, j < i → s.getD j false = true
  | m + 1, h => by
    by_cases h0 : 0 < cnt s m
    · obtain ⟨i, hi, hf, ha⟩ := cnt_pos m h0
      exact ⟨i, by omega, hf, ha⟩
    · refine ⟨m, by omega, ?_, cnt_zero m (by omega)⟩
      rw [cnt] at h
      cases he : s.getD m false
      · rfl
      · rw [he] at h; simp at h; omega
theorem head_edges {n i : Nat} {o : Oper} (h : headB md ops n = true) (hi : i < n) (ho : ops[i]? = some o) : ∀ e ∈ o.after, Region.binds md e = true → e.on < i := fun e he hb => by
  have h1 := List.all_eq_true.1 h i (List.mem_range.2 hi)
  simp only [ho, Bool.and_eq_true] at h1
  have h2 := Array.all_eq_true_iff_forall_mem.1 h1.1 e he
  simpa [hb] using h2
theorem head_apart {n i j : Nat} {o p : Oper} {d : Tmp} (h : headB md ops n = true) (hi : i < n) (ho : ops[i]? = some o) (hj : j < n) (hp : ops[j]? = some p) (hd : p.dst = some d) :
    (i ≠ j → o.dst ≠ some d) ∧ (d ∈ o.looksAt ops → j < i ∧ Region.waitsFor md ops i j = true) := by
  have h1 := List.all_eq_true.1 h i (List.mem_range.2 hi)
  simp only [ho, Bool.and_eq_true] at h1
  have h2 := List.all_eq_true.1 h1.2 j (List.mem_range.2 hj)
  simp only [hp, hd, Bool.or_eq_true, decide_eq_true_eq, Bool.and_eq_true, bne_iff_ne, Bool.not_eq_true'] at h2
  refine ⟨fun hij => h2.1.resolve_left hij, fun hm => ?_⟩
  rcases h2.2 with h3 | h3
  · simp [hm] at h3
  · exact h3
theorem head_op {n i : Nat} (h : headB md ops n = true) (hi : i < n) : ∃ o, ops[i]? = some o := by
  have h1 := List.all_eq_true.1 h i (List.mem_range.2 hi)
  cases ho : ops[i]? with
  | none => simp [ho] at h1
  | some o => exact ⟨o, rfl⟩
theorem exec_agree {a b : Act} (o : Oper) (hs : ∀ cs b, o.op ≠ .select cs b) (h : ∀ d, d ∈ o.looksAt ops → b.tmps[d]? = a.tmps[d]?) : execOp b.eval o = execOp a.eval o ∧ Region.wanted o (yielded ops b.tmps) = Region.wanted o (yielded ops a.tmps) := by
  refine ⟨execOp_congr o hs fun x hx => ?_, ?_⟩
  · cases x with
    | tmp d =>
      have := h d (List.mem_append_left _ (List.mem_filterMap.2 ⟨.tmp d, by simpa using hx, rfl⟩))
      simp [Act.eval, this]
    | _ => rfl
  · unfold Region.wanted
    cases hg : o.guard with
    | none => rfl
    | some gw =>
      obtain ⟨g, want⟩ := gw
      have hy : yielded ops b.tmps g = yielded ops a.tmps g := by
        unfold yielded
        cases ht : (ops[g]?).bind (·.dst) with
        | none => rfl
        | some t =>
          have := h t (by simp [Oper.looksAt, hg, ht])
          simp [this]
      simp only [hy]
end
section
variable (P : Program) (ops : Array Oper) (md : Region.Mode) (n : Nat) (ks : List (Tmp × Kind)) (w0 : World) (a0 : Act)
/-- What is told of an executed operation's slot. -/
def Told (p : Oper) (a : Act) (W : World) (v : Value) : Prop := ∀ V h, kindOf ks p = some (.any V h) → Region.wanted p (yielded ops a.tmps) = true → V v W
def Good (u : Nat → Value) (o : Oper) (a : Act) (w : World) (v : Value) : Prop :=
  if Region.wanted o (yielded ops a.tmps) then
    match kindOf ks o with
    | .none => ∃ W, Rel.Grow w0 W ∧ (∀ d, d ∈ o.looksAt ops → ∀ j p, j < n → ops[j]? = some p → p.dst = some d → Told ops ks p a W (u j)) ∧ (execOp a.eval o).run P W = .ok (.value v) W
    | .some (.const c) => v = c
    | .some (.any V _) => V v w
  else v = undef
structure Inv (s : Array Bool) (a : Act) (w : World) (u : Nat → Value) : Prop where
  head : HeadInv md ops n s
  grow : Rel.Grow w0 w
  defers : a.defers = a0.defers
  size : a.tmps.size = a0.tmps.size
  rest : ∀ d, (∀ j o, j < n → ops[j]? = some o → s.getD j false = true → o.dst ≠ some d) → a.tmps[d]? = a0.tmps[d]?
  slot : ∀ j o d, j < n → ops[j]? = some o → s.getD j false = true → o.dst = some d → a.tmps[d]? = (a0.tmps.setIfInBounds d (u j))[d]?
  good : ∀ j o, j < n → ops[j]? = some o → s.getD j false = true → Good P ops n ks w0 u o a w (u j)
structure Br (s : Array Bool) (a : Act) (u : Nat → Value) (k : Nat) (b : Act) (F : Facts) : Prop where
  defers : b.defers = a0.defers
  size : b.tmps.size = a0.tmps.size
  rest : ∀ d, (∀ j o, j < k → ops[j]? = some o → o.dst ≠ some d) → b.tmps[d]? = a0.tmps[d]?
  slot : ∀ j o d, j < k → ops[j]? = some o → s.getD j false = true → o.dst = some d → b.tmps[d]? = (a0.tmps.setIfInBounds d (u j))[d]?
  free : ∀ d, (∀ j o, j < k → ops[j]? = some o → o.dst ≠ some d) → ∀ W, F d W
  told : ∀ j o d, j < k → ops[j]? = some o → s.getD j false = true → o.dst = some d → ∀ W, Told ops ks o a W (u j) → F d W
end
section
variable {P : Program} {ops : Array Oper} {md : Region.Mode} {n : Nat} {ks : List (Tmp × Kind)} {w0 : World} {a0 : Act} {s : Array Bool} {a : Act} {w : World} {u : Nat → Value}
theorem put_get (a : Act) (x : Option Tmp) (v : Value) (d : Tmp) (h : x ≠ some d) : (a.put x v).tmps[d]? = a.tmps[d]? := by
  cases x with
  | none => rfl
  | some y => simp [Act.put, Array.getElem?_setIfInBounds_ne (show y ≠ d from fun e => h (by rw [e]))]
theorem put_size (a : Act) (x : Option Tmp) (v : Value) : (a.put x v).tmps.size = a.tmps.size := by cases x <;> simp [Act.put]
theorem put_defers (a : Act) (x : Option Tmp) (v : Value) : (a.put x v).defers = a.defers := by cases x <;> rfl
theorem put_self (a : Act) (v : Value) (d : Tmp) (hs : a.tmps.size = a0.tmps.size) : (a.put (some d) v).tmps[d]? = (a0.tmps.setIfInBounds d v)[d]? := by
  simp only [Act.put, Array.getElem?_setIfInBounds, hs]
  simp
theorem waits_done {i j : Nat} {o : Oper} (ho : ops[i]? = some o) (hw : Region.waitsFor md ops i j = true) (h : ∀ e ∈ o.after, Region.binds md e = true → s.getD e.on false = true) : s.getD j false = true := by
  obtain ⟨o', ho', e, he, hb, hon⟩ := Region.waitsFor_spec hw
  rw [ho] at ho'
  cases ho'
  rw [← hon]
  exact h e he hb
/-- Every slot that an operation looks at is settled. -/
def Settled (ops : Array Oper) (n : Nat) (s : Array Bool) (o : Oper) : Prop := ∀ j p d, j < n → ops[j]? = some p → p.dst = some d → d ∈ o.looksAt ops → s.getD j false = true
theorem settled_of (hB : headB md ops n = true) {i : Nat} {o : Oper} (hi : i < n) (ho : ops[i]? = some o) (h : ∀ e ∈ o.after, Region.binds md e = true → s.getD e.on false = true) : Settled ops n s o :=
  fun _ _ _ hj hp hd hm => waits_done ho ((head_apart hB hi ho hj hp hd).2 hm).2 h
theorem looks_agree (hB : headB md ops n = true) (inv : Inv P ops md n ks w0 a0 s a w u) {i : Nat} {o : Oper} (hi : i < n) (ho : ops[i]? = some o) (hset : Settled ops n s o) {b : Act} {F : Facts} (br : Br ops ks a0 s a u i b F) :
    ∀ d, d ∈ o.looksAt ops → b.tmps[d]? = a.tmps[d]? := fun d hm => by
  by_cases h : ∃ j p, j < n ∧ ops[j]? = some p ∧ p.dst = some d
  · obtain ⟨j, p, hj, hp, hd⟩ := h
    have hex := hset j p d hj hp hd hm
    have hlt := ((head_apart hB hi ho hj hp hd).2 hm).1
    rw [br.slot j p d hlt hp hex hd, inv.slot j p d hj hp hex hd]
  · rw [br.rest d (fun j p hj hp hd => h ⟨j, p, by omega, hp, hd⟩), inv.rest d (fun j p hj hp _ hd => h ⟨j, p, hj, hp, hd⟩)]
theorem facts_of (hB : headB md ops n = true) {i : Nat} {o : Oper} (hi : i < n) (ho : ops[i]? = some o) (hset : Settled ops n s o) {b : Act} {F : Facts} (br : Br ops ks a0 s a u i b F) {W : World}
    (h : ∀ d, d ∈ o.looksAt ops → ∀ j p, j < n → ops[j]? = some p → p.dst = some d → Told ops ks p a W (u j)) : ∀ d, d ∈ o.looksAt ops → F d W := fun d hm => by
  by_cases hx : ∃ j p, j < n ∧ ops[j]? = some p ∧ p.dst = some d
  · obtain ⟨j, p, hj, hp, hd⟩ := hx
    exact br.told j p d ((head_apart hB hi ho hj hp hd).2 hm).1 hp (hset j p d hj hp hd hm) hd W (h d hm j p hj hp hd)
  · exact br.free d (fun j p hj hp hd => hx ⟨j, p, by omega, hp, hd⟩) W
theorem told_now (inv : Inv P ops md n ks w0 a0 s a w u) {j : Nat} {p : Oper} (hj : j < n) (hp : ops[j]? = some p) (hex : s.getD j false = true) : Told ops ks p a w (u j) := fun V h hk hw => by
  have := inv.good j p hj hp hex
  unfold Good at this
  rw [if_pos hw, hk] at this
  exact this
theorem br_next {k : Nat} {o : Oper} (hB : headB md ops n = true) (hk : k < n) (ho : ops[k]? = some o) {b : Act} {F F' : Facts} (br : Br ops ks a0 s a u k b F) (v : Value)
    (h1 : s.getD k false = true → v = u k) (h2 : ∀ d, o.dst ≠ some d → F' d = F d) (h3 : ∀ d, s.getD k false = true → o.dst = some d → ∀ W, Told ops ks o a W (u k) → F' d W) : Br ops ks a0 s a u (k + 1) (b.put o.dst v) F' := by
  have hne : ∀ d, (∀ j p, j < k + 1 → ops[j]? = some p → p.dst ≠ some d) → o.dst ≠ some d := fun d h => h k o (by omega) ho
  have hlow : ∀ d, (∀ j p, j < k + 1 → ops[j]? = some p → p.dst ≠ some d) → ∀ j p, j < k → ops[j]? = some p → p.dst ≠ some d := fun d h j p hj hp => h j p (by omega) hp
  refine ⟨by rw [put_defers]; exact br.defers, by rw [put_size]; exact br.size, fun d h => by rw [put_get _ _ _ _ (hne d h)]; exact br.rest d (hlow d h), fun j p d hj hp hex hd => ?_, fun d h W => by rw [h2 d (hne d h)]; exact br.free d (hlow d h) W, fun j p d hj hp hex hd W ht => ?_⟩
  · by_cases hjk : j = k
    · subst hjk
      rw [ho] at hp
      cases hp
      rw [hd, h1 hex]
      exact put_self _ _ _ br.size
    · have hdk : o.dst ≠ some d := (head_apart hB hk ho (show j < n by omega) hp hd).1 (fun e => hjk e.symm)
      rw [put_get _ _ _ _ hdk]
      exact br.slot j p d (by omega) hp hex hd
  · by_cases hjk : j = k
    · subst hjk
      rw [ho] at hp
      cases hp
      exact h3 d hex hd W ht
    · have hdk : o.dst ≠ some d := (head_apart hB hk ho (show j < n by omega) hp hd).1 (fun e => hjk e.symm)
      rw [h2 d hdk]
      exact br.told j p d (by omega) hp hex hd W ht
theorem br_step {Q : Act → World → Prop} (hsel : Region.noSelect ops = true) (hB : headB md ops n = true) (inv : Inv P ops md n ks w0 a0 s a w u) {k : Nat} {o : Oper} {rest : List Oper} (hk : k < n) (ho : ops[k]? = some o) {b : Act} {F : Facts} (br : Br ops ks a0 s a u k b F)
    (ht : tree P ops ks w0 Q (o :: rest) F b) : ∃ b' F', tree P ops ks w0 Q rest F' b' ∧ Br ops ks a0 s a u (k + 1) b' F' := by
  have hfree : ∀ d, o.dst = some d → ∀ W, F d W := fun d hd W => br.free d (fun j p hj hp hpd => (head_apart hB hk ho (show j < n by omega) hp hpd).1 (by omega) hd) W
  unfold tree at ht
  cases hex : s.getD k false with
  | false =>
    have nx : ∀ {p : Prop}, s.getD k false = true → p := fun h => by rw [hex] at h; cases h
    by_cases hw : Region.wanted o (yielded ops b.tmps) = true
    · rw [if_pos hw] at ht
      cases hkd : kindOf ks o with
      | none =>
        rw [hkd] at ht
        obtain ⟨_, v, _, h⟩ := ht
        exact ⟨_, F, h, br_next hB hk ho br v (fun h => nx h) (fun _ _ => rfl) (fun _ h => nx h)⟩
      | some kd =>
        rw [hkd] at ht
        cases kd with
        | const c => exact ⟨_, F, ht.2, br_next hB hk ho br c (fun h => nx h) (fun _ _ => rfl) (fun _ h => nx h)⟩
        | any V hV => exact ⟨_, _, ht.2 undef, br_next hB hk ho br undef (fun h => nx h) (fun d hd => by
            funext W
            unfold Facts.put
            cases hod : o.dst with
            | none => rfl
            | some y => simp only []; rw [if_neg (fun e => hd (by rw [hod, e]))]) (fun _ h => nx h)⟩
    · rw [if_neg hw] at ht
      exact ⟨_, F, ht, br_next hB hk ho br undef (fun h => nx h) (fun _ _ => rfl) (fun _ h => nx h)⟩
  | true =>
    have hset := settled_of (s := s) hB hk ho (inv.head.closed k o ho hex)
    obtain ⟨hexec, hwant⟩ := exec_agree o (Region.noSelect_spec hsel k o · · ho) (looks_agree hB inv hk ho hset br)
    have hg := inv.good k o hk ho hex
    unfold Good at hg
    by_cases hw : Region.wanted o (yielded ops b.tmps) = true
    · rw [if_pos hw] at ht
      rw [hwant] at hw
      rw [if_pos hw] at hg
      cases hkd : kindOf ks o with
      | none =>
        rw [hkd] at ht hg
        obtain ⟨_, v, hv, h⟩ := ht
        obtain ⟨W, hgW, hfW, hrW⟩ := hg
        have hrun := hv W hgW (facts_of hB hk ho hset br hfW)
        rw [hexec, hrW] at hrun
        have hvu : v = u k := by injection hrun with h1; injection h1 with h2; exact h2.symm
        exact ⟨_, F, h, br_next hB hk ho br v (fun _ => hvu) (fun _ _ => rfl) (fun d _ hd W _ => hfree d hd W)⟩
      | some kd =>
        rw [hkd] at ht hg
        cases kd with
        | const c => exact ⟨_, F, ht.2, br_next hB hk ho br c (fun _ => hg.symm) (fun _ _ => rfl) (fun d _ hd W _ => hfree d hd W)⟩
        | any V hV => exact ⟨_, _, ht.2 (u k), br_next hB hk ho br (u k) (fun _ => rfl) (fun d hd => by
            funext W
            unfold Facts.put
            cases hod : o.dst with
            | none => rfl
            | some y => simp only []; rw [if_neg (fun e => hd (by rw [hod, e]))]) (fun d _ hd W htold => by
            unfold Facts.put
            rw [hd]
            simp only [if_pos]
            exact htold V hV hkd hw)⟩
    · rw [if_neg hw] at ht
      rw [hwant] at hw
      rw [if_neg hw] at hg
      exact ⟨_, F, ht, br_next hB hk ho br undef (fun _ => hg.symm) (fun _ _ => rfl) (fun d _ hd W _ => hfree d hd W)⟩
theorem reach {Q : Act → World → Prop} (hsel : Region.noSelect ops = true) (hB : headB md ops n = true) (inv : Inv P ops md n ks w0 a0 s a w u) {L : List Oper} (hL : ∀ j, j < n → L[j]? = ops[j]?) (hLn : L.length = n) (ht : tree P ops ks w0 Q L bare a0) :
    ∀ k, k ≤ n → ∃ b F, tree P ops ks w0 Q (L.drop k) F b ∧ Br ops ks a0 s a u k b F
  | 0, _ => ⟨a0, bare, by simpa using ht, rfl, rfl, fun _ _ => rfl, fun j _ _ hj => absurd hj (by omega), fun _ _ _ => trivial, fun j _ _ hj => absurd hj (by omega)⟩
  | k + 1, hk => by
    obtain ⟨b, F, h, br⟩ := reach hsel hB inv hL hLn ht k (by omega)
    obtain ⟨o, ho⟩ := head_op hB (show k < n by omega)
    have hd : L.drop k = o :: L.drop (k + 1) := by
      have h1 : L[k]? = some o := by rw [hL k (by omega)]; exact ho
      obtain ⟨hlt, he⟩ := List.getElem?_eq_some_iff.1 h1
      rw [List.drop_eq_getElem_cons hlt, he]
    rw [hd] at h
    exact br_step hsel hB inv (by omega) ho br h
theorem inv_next (hsel : Region.noSelect ops = true) (hB : headB md ops n = true) (inv : Inv P ops md n ks w0 a0 s a w u) {i : Nat} {o : Oper} (hi : i < n) (ho : ops[i]? = some o) (hr : i ∈ Region.ready md ops s) {v : Value} {w' : World} (hg : Step w0.heap.size w w')
    (hgood : Good P ops n ks w0 u o a w' v) : Inv P ops md n ks w0 a0 (s.setIfInBounds i true) (a.put o.dst v) w' (fun j => if j = i then v else u j) := by
  have hun : s.getD i false = false := getD_both (mem_ready.1 hr).1
  have hset : ∀ j, j ≠ i → (s.setIfInBounds i true).getD j false = true → s.getD j false = true := fun j hj h => by rwa [getD_set_ne false (Ne.symm hj)] at h
  -- an executed operation looks not at the new slot
  have hlook : ∀ j p, j < n → ops[j]? = some p → s.getD j false = true → ∀ d, o.dst = some d → d ∉ p.looksAt ops := fun j p hj hp hex d hd hm => by
    have h1 := waits_done (s := s) hp ((head_apart hB hj hp hi ho hd).2 hm).2 (inv.head.closed j p hp hex)
    rw [hun] at h1
    cases h1
  have hself : ∀ d, o.dst = some d → d ∉ o.looksAt ops := fun d hd hm => by
    have := ((head_apart hB hi ho hi ho hd).2 hm).1
    omega
  have htold : ∀ j p, j < n → ops[j]? = some p → s.getD j false = true → ∀ W, Told ops ks p a W (u j) → Told ops ks p (a.put o.dst v) W (if j = i then v else u j) := fun j p hj hp hex W h V hV hk hw => by
    have hji : j ≠ i := fun e => by rw [e, hun] at hex; cases hex
    rw [wanted_put p a o.dst v (hlook j p hj hp hex)] at hw
    rw [if_neg hji]
    exact h V hV hk hw
  have hgoodp : ∀ p, (∀ d, o.dst = some d → d ∉ p.looksAt ops) → (∀ cs b, p.op ≠ .select cs b) → Settled ops n s p → ∀ x, Good P ops n ks w0 u p a w' x → Good P ops n ks w0 (fun j => if j = i then v else u j) p (a.put o.dst v) w' x := fun p hp hsp hsett x h => by
    unfold Good at h ⊢
    rw [wanted_put p a o.dst v hp]
    by_cases hw : Region.wanted p (yielded ops a.tmps) = true
    · rw [if_pos hw] at h ⊢
      cases hkd : kindOf ks p with
      | none =>
        rw [hkd] at h
        simp only at h ⊢
        obtain ⟨W, h1, h2, h3⟩ := h
        refine ⟨W, h1, fun d hm j q hj hq hd => htold j q hj hq (hsett j q d hj hq hd hm) W (h2 d hm j q hj hq hd), ?_⟩
        rw [execOp_put p hsp a o.dst v hp]
        exact h3
      | some kd =>
        rw [hkd] at h
        cases kd <;> exact h
    · rw [if_neg hw] at h ⊢
      exact h
  refine ⟨inv.head.set hr hi, Below.trans inv.grow hg.old, by rw [put_defers]; exact inv.defers, by rw [put_size]; exact inv.size, fun d h => ?_, fun j p d hj hp hex hd => ?_, fun j p hj hp hex => ?_⟩
  · have hlt : i < s.size := by rw [inv.head.size]; exact (Array.getElem?_eq_some_iff.1 ho).1
    rw [put_get _ _ _ _ (h i o hi ho (by simp [hlt]))]
    exact inv.rest d (fun j p hj hp hex => h j p hj hp (getD_set_true hex))
  · by_cases hji : j = i
    · subst hji
      rw [ho] at hp
      cases hp
      rw [hd]
      simp only [if_pos]
      exact put_self _ _ _ inv.size
    · rw [put_get _ _ _ _ ((head_apart hB hi ho hj hp hd).1 (fun e => hji e.symm))]
      simp only [if_neg hji]
      exact inv.slot j p d hj hp (hset j hji hex) hd
  · by_cases hji : j = i
    · subst hji
      rw [ho] at hp
      cases hp
      simp only [if_pos]
      exact hgoodp o hself (Region.noSelect_spec hsel j o · · ho) (settled_of hB hi ho (mem_ready.1 hr |>.2.elim fun o' h => by
        have e := h.1
        rw [ho] at e
        cases e
        exact h.2)) v hgood
    · have hex' := hset j hji hex
      simp only [if_neg hji]
      refine hgoodp p (hlook j p hj hp hex') (Region.noSelect_spec hsel j p · · hp) (settled_of hB hj hp (inv.head.closed j p hp hex')) (u j) ?_
      have h := inv.good j p hj hp hex'
      unfold Good at h ⊢
      by_cases hw : Region.wanted p (yielded ops a.tmps) = true
      · rw [if_pos hw] at h ⊢
        cases hkd : kindOf ks p with
        | none => rw [hkd] at h; exact h
        | some kd =>
          rw [hkd] at h
          cases kd with
          | const c => exact h
          | any V hV => exact hV _ _ _ hg.soft h
      · rw [if_neg hw] at h ⊢
        exact h
theorem wp_of_rel {B : Nat} {o : Oper} {V : Value → World → Prop} {R : Exit → Act → World → Prop} {K : Act → World → Prop} (h : stepAt P B o a w V) (hK : ∀ v w', Step B w w' → V v w' → K (a.put o.dst v) w') : o.wp P a w K R := by
  unfold stepAt at h
  unfold Oper.wp
  generalize (execOp a.eval o).run P w = r at *
  cases r with
  | ok x w1 =>
    cases x <;> simp only [stepUpon] at h <;> simp only [Oper.upon]
    case value v => exact hK _ _ h.1 h.2
    case skip => exact hK _ _ h.1 h.2
    case enter f args => exact Calls.mono h fun e w'' ⟨v, he, hg, hV⟩ => by subst he; exact hK _ _ hg hV
  | halt x w1 => simp only [stepUpon] at h
theorem canon_eq {s : Array Bool} {m : Nat} (hn : n ≤ m) (hs : s.size = m) (h1 : ∀ j, j < n → s.getD j false = true) (h2 : ∀ j, n ≤ j → j < m → s.getD j true = false) : s = canon n m := by
  apply Array.ext_getElem?
  intro j
  unfold canon
  have e : (List.replicate n true ++ List.replicate (m - n) false).toArray[j]? = (List.replicate n true ++ List.replicate (m - n) false)[j]? := by rw [List.getElem?_toArray]
  rw [e]
  by_cases hj : j < m
  · have hjs : j < s.size := by omega
    rw [Array.getElem?_eq_getElem hjs]
    by_cases hjn : j < n
    · have := h1 j hjn
      simp only [Array.getD_eq_getD_getElem?, Array.getElem?_eq_getElem hjs, Option.getD_some] at this
      rw [this, List.getElem?_append_left (by rw [List.length_replicate]; exact hjn), List.getElem?_replicate, if_pos hjn]
    · have := h2 j (by omega) hj
      simp only [Array.getD_eq_getD_getElem?, Array.getElem?_eq_getElem hjs, Option.getD_some] at this
      rw [this, List.getElem?_append_right (by rw [List.length_replicate]; omega), List.length_replicate, List.getElem?_replicate, if_pos (by omega)]
  · rw [Array.getElem?_eq_none (by omega), List.getElem?_eq_none (by rw [List.length_append, List.length_replicate, List.length_replicate]; omega)]
theorem tree_any {Q : Act → World → Prop} {R : Exit → Act → World → Prop} {g : Nat} (hsel : Region.noSelect ops = true) (hB : headB md ops n = true) (hn : n ≤ ops.size) (hT : ∀ s, HeadInv md ops n s → ∀ i, i < n → s.getD i true = false → ∀ t, t ∈ Region.ready md ops s → t < n)
    {L : List Oper} (hL : ∀ j, j < n → L[j]? = ops[j]?) (hLn : L.length = n) (ht : tree P ops ks w0 Q L bare a0) (hQ : ∀ a w, Q a w → wpAny P md ops R g (canon n ops.size) a w) :
    ∀ (m : Nat) (s : Array Bool) (a : Act) (w : World) (u : Nat → Value), Inv P ops md n ks w0 a0 s a w u → cnt s n = m → wpAny P md ops R (m + g) s a w
  | 0, s, a, w, u, inv, hc => by
    have hall := cnt_zero n hc
    obtain ⟨b, F, h, br⟩ := reach hsel hB inv hL hLn ht n (Nat.le_refl _)
    rw [List.drop_of_length_le (by omega)] at h
    have hba : b = a := by
      have e1 : b.tmps = a.tmps := by
        apply Array.ext_getElem?
        intro d
        by_cases hx : ∃ j p, j < n ∧ ops[j]? = some p ∧ p.dst = some d
        · obtain ⟨j, p, hj, hp, hd⟩ := hx
          rw [br.slot j p d hj hp (hall j hj) hd, inv.slot j p d hj hp (hall j hj) hd]
        · rw [br.rest d (fun j p hj hp hd => hx ⟨j, p, hj, hp, hd⟩), inv.rest d (fun j p hj hp _ hd => hx ⟨j, p, hj, hp, hd⟩)]
      have e2 : b.defers = a.defers := br.defers.trans inv.defers.symm
      cases b; cases a
      simp only at e1 e2
      rw [e1, e2]
    rw [hba] at h
    have hq : Q a w := h w inv.grow (fun d => by
      by_cases hx : ∃ j p, j < n ∧ ops[j]? = some p ∧ p.dst = some d
      · obtain ⟨j, p, hj, hp, hd⟩ := hx
        exact br.told j p d hj hp (hall j hj) hd w (told_now inv hj hp (hall j hj))
      · exact br.free d (fun j p hj hp hd => hx ⟨j, p, hj, hp, hd⟩) w)
    rw [Nat.zero_add, canon_eq hn inv.head.size hall (fun j h1 h2 => inv.head.tail j h1 h2)]
    exact hQ a w hq
  | m + 1, s, a, w, u, inv, hc => by
    have e : m + 1 + g = m + g + 1 := by omega
    rw [e]
    obtain ⟨i0, hi0, hf0, hlow⟩ := cnt_pos (s := s) n (by omega)
    have hs0 : i0 < s.size := by rw [inv.head.size]; omega
    obtain ⟨o0, ho0⟩ := head_op hB hi0
    have hr0 : i0 ∈ Region.ready md ops s := mem_ready.2 ⟨getD_in hs0 hf0, o0, ho0, fun e he hb => hlow e.on (head_edges hB hi0 ho0 e he hb)⟩
    refine ⟨fun h => (by rw [h] at hr0; cases hr0), fun i hi => ?_⟩
    have hin : i < n := hT s inv.head i0 hi0 (getD_in hs0 hf0) i hi
    obtain ⟨hun, o, ho, hall⟩ := mem_ready.1 hi
    have hset : Settled ops n s o := settled_of hB hin ho hall
    obtain ⟨b, F, h, br⟩ := reach hsel hB inv hL hLn ht i (by omega)
    have hd : L.drop i = o :: L.drop (i + 1) := by
      have h1 : L[i]? = some o := by rw [hL i hin]; exact ho
      obtain ⟨hlt, he⟩ := List.getElem?_eq_some_iff.1 h1
      rw [List.drop_eq_getElem_cons hlt, he]
    rw [hd] at h
    obtain ⟨hexec, hwant⟩ := exec_agree o (Region.noSelect_spec hsel i o · · ho) (looks_agree hB inv hin ho hset br)
    have hfw := facts_of hB hin ho hset br (W := w) (fun d hm j p hj hp hpd => told_now inv hj hp (hset j p d hj hp hpd hm))
    have hcs : cnt (s.setIfInBounds i true) n = m := by
      have := cnt_set (s := s) (i := i) (by rw [inv.head.size]; omega) (getD_both hun) n hin
      omega
    have next : ∀ v w', Step w0.heap.size w w' → Good P ops n ks w0 u o a w' v → wpAny P md ops R (m + g) (s.setIfInBounds i true) (a.put o.dst v) w' := fun v w' hg hgood =>
      tree_any hsel hB hn hT hL hLn ht hQ m _ _ _ _ (inv_next hsel hB inv hin ho hi hg hgood) hcs
    unfold tree at h
    unfold wpOp
    simp only [ho]
    by_cases hw : Region.wanted o (yielded ops b.tmps) = true
    · rw [if_pos hw] at h
      rw [hwant] at hw
      rw [if_pos hw]
      refine .inl ?_
      have hgd : ∀ v w', (match kindOf ks o with
          | .none => ∃ W, Rel.Grow w0 W ∧ (∀ d, d ∈ o.looksAt ops → ∀ j p, j < n → ops[j]? = some p → p.dst = some d → Told ops ks p a W (u j)) ∧ (execOp a.eval o).run P W = .ok (.value v) W
          | .some (.const c) => v = c
          | .some (.any V _) => V v w') → Good P ops n ks w0 u o a w' v := fun v w' hx => by
        unfold Good
        rw [if_pos hw]
        exact hx
      cases hkd : kindOf ks o with
      | none =>
        rw [hkd] at h
        obtain ⟨_, v, hv, _⟩ := h
        have hrun := hv w inv.grow hfw
        rw [hexec] at hrun
        unfold Oper.wp
        rw [hrun]
        exact next v w (Step.refl _ _) (hgd v w (by
          rw [hkd]
          exact ⟨w, inv.grow, fun d hm j p hj hp hpd => told_now inv hj hp (hset j p d hj hp hpd hm), hrun⟩))
      | some kd =>
        rw [hkd] at h
        cases kd with
        | const c =>
          have hr := h.1 w inv.grow hfw
          unfold stepAt at hr
          rw [hexec] at hr
          exact wp_of_rel hr (fun v w' hg hv => next v w' hg (hgd v w' (by rw [hkd]; exact hv)))
        | any V hV =>
          have hr := h.1 w inv.grow hfw
          unfold stepAt at hr
          rw [hexec] at hr
          exact wp_of_rel hr (fun v w' hg hv => next v w' hg (hgd v w' (by rw [hkd]; exact hv)))
    · rw [hwant] at hw
      rw [if_neg hw]
      exact next undef w (Step.refl _ _) (by unfold Good; rw [if_neg hw])
/-- The region's law: n operations in whatever order, then a tail in one order. -/
theorem wp_region_rel {id : Nat} {Q : Exit → Act → World → Prop} {a : Act} {w : World} {l : List Oper} (n : Nat) (ks : List (Tmp × Kind)) (hm : P.follows .mixedOrders = true) (hB : okB .any l.toArray n = true)
    (h : tree P l.toArray ks w.drew (fun a' W => wpList P l.toArray Q (l.drop n) a' W) (l.take n) bare a) : (Code.region id l.toArray true).wp P Q a w := by
  simp only [okB, Bool.and_eq_true] at hB
  obtain ⟨⟨⟨hsel, hhead⟩, htail⟩, hseq⟩ := hB
  have hn : n ≤ l.toArray.size := by
    simp only [tailB, Bool.or_eq_true, decide_eq_true_eq, Bool.and_eq_true] at htail
    omega
  have hnl : n ≤ l.length := by simpa using hn
  have hT : ∀ s, HeadInv .any l.toArray n s → ∀ i, i < n → s.getD i true = false → ∀ t, t ∈ Region.ready .any l.toArray s → t < n := fun s inv i hi hun t ht => by
    simp only [tailB, Bool.or_eq_true, decide_eq_true_eq, Bool.and_eq_true] at htail
    rcases htail with h1 | ⟨⟨h1, h2⟩, h3⟩
    · obtain ⟨_, o, ho, _⟩ := mem_ready.1 ht
      have := (Array.getElem?_eq_some_iff.1 ho).1
      omega
    · rcases Nat.lt_or_ge t n with h4 | h4
      · exact h4
      · exact absurd ht (tail_waits h2 h3 h1 inv _ i rfl hi hun t h4)
  have inv0 : Inv P l.toArray .any n ks w.drew a (Array.replicate l.toArray.size false) a w.drew (fun _ => undef) :=
    ⟨⟨by simp, fun j oj _ hl => (by rw [getD_replicate_false] at hl; cases hl), fun t _ ht => getD_in (by simpa using ht) (getD_replicate_false _ _)⟩, Rel.Grow.refl _, rfl, rfl, fun _ _ => rfl, fun j o d _ _ hl => (by rw [getD_replicate_false] at hl; cases hl), fun j o _ _ hl => (by rw [getD_replicate_false] at hl; cases hl)⟩
  have hc : ∀ m, cnt (Array.replicate l.toArray.size false) m = m := fun m => by
    induction m with
    | zero => rfl
    | succ m ih => rw [cnt, ih, getD_replicate_false]; rfl
  refine wp_region_any hm ?_
  have hdl : (l.drop n).length = l.toArray.size - n := by simp
  have := tree_any (g := l.toArray.size - n) (R := Q) hsel hhead hn hT (L := l.take n) (fun j hj => by simp [hj]) (by simp; omega) h (fun a' w' hq => by
    have h2 := wpAny_of_seq (md := .any) (Q' := Q) (l.drop n) n (canon n l.toArray.size) a' w' (fun j => by simp [List.getElem?_drop]) (by rw [hdl]; exact hseq) hq
    rwa [hdl] at h2) n _ _ _ _ inv0 (hc n)
  rw [show n + (l.toArray.size - n) = l.toArray.size by omega] at this
  exact this
/-! ### Steps -/
theorem tree_skip {Q : Act → World → Prop} {o : Oper} {rest : List Oper} {F : Facts} (hw : Region.wanted o (yielded ops a.tmps) = false) (h : tree P ops ks w0 Q rest F (a.put o.dst undef)) : tree P ops ks w0 Q (o :: rest) F a := by
  unfold tree
  rw [if_neg (by rw [hw]; exact Bool.false_ne_true)]
  exact h
/-- An operation as it stands, in a class of worlds: the quiet walk's own step serves. -/
theorem tree_quiet {Q : Act → World → Prop} {o : Oper} {rest : List Oper} {F : Facts} (hw : Region.wanted o (yielded ops a.tmps) = true) (hk : kindOf ks o = .none) (hp : pureOp o = true)
    (h : ∀ K : Act → Prop, (∀ a', tree P ops ks w0 Q rest F a' → K a') → o.quiet P a (fun w' => ∃ p : Regrown, w' = Sort.grow (redrawn w0 p.d) p.os) K) : tree P ops ks w0 Q (o :: rest) F a := by
  unfold tree
  rw [if_pos hw, hk]
  obtain ⟨v, hv, hn⟩ := h _ (fun _ h => h)
  refine ⟨hp, v, fun W hg _ => ?_, hn⟩
  have hq := hv W (regrown_of_below hg)
  unfold Oper.quietAt at hq
  generalize hr : (execOp a.eval o).run P W = r at *
  cases r with
  | ok x w1 =>
    obtain ⟨y, rfl⟩ := value_of_pure hp hr
    simp only [Oper.quietUpon] at hq
    rw [hq.1, hq.2]
  | halt x w1 => simp only [Oper.quietUpon] at hq
theorem tree_pure {Q : Act → World → Prop} {o : Oper} {rest : List Oper} {F : Facts} (hw : Region.wanted o (yielded ops a.tmps) = true) (hk : kindOf ks o = .none) (hp : pureOp o = true) (v : Value)
    (h : ∀ W, Rel.Grow w0 W → (∀ d, d ∈ o.looksAt ops → F d W) → (execOp a.eval o).run P W = .ok (.value v) W) (hn : tree P ops ks w0 Q rest F (a.put o.dst v)) : tree P ops ks w0 Q (o :: rest) F a := by
  unfold tree
  rw [if_pos hw, hk]
  exact ⟨hp, v, h, hn⟩
theorem tree_const {Q : Act → World → Prop} {o : Oper} {rest : List Oper} {F : Facts} (hw : Region.wanted o (yielded ops a.tmps) = true) (c : Value) (hk : kindOf ks o = some (.const c))
    (h : ∀ W, Rel.Grow w0 W → (∀ d, d ∈ o.looksAt ops → F d W) → relAt P o a W (fun v _ => v = c)) (hn : tree P ops ks w0 Q rest F (a.put o.dst c)) : tree P ops ks w0 Q (o :: rest) F a := by
  unfold tree
  rw [if_pos hw, hk]
  exact ⟨fun W hW hF => stepAt.of (Below.size hW) (h W hW hF), hn⟩
theorem tree_rel {Q : Act → World → Prop} {o : Oper} {rest : List Oper} {F : Facts} (hw : Region.wanted o (yielded ops a.tmps) = true) (V : Value → World → Prop) (hV : ∀ v W W', Rel.Grow W W' → V v W → V v W') (hk : kindOf ks o = some (.any V hV))
    (h : ∀ W, Rel.Grow w0 W → (∀ d, d ∈ o.looksAt ops → F d W) → relAt P o a W V) (hn : ∀ v, tree P ops ks w0 Q rest (F.put o.dst (V v)) (a.put o.dst v)) : tree P ops ks w0 Q (o :: rest) F a := by
  unfold tree
  rw [if_pos hw, hk]
  exact ⟨fun W hW hF => stepAt.of (Below.size hW) (h W hW hF), hn⟩
/-- The same, where an operation turns a new block's mark. -/
theorem tree_step {Q : Act → World → Prop} {o : Oper} {rest : List Oper} {F : Facts} (hw : Region.wanted o (yielded ops a.tmps) = true) (V : Value → World → Prop) (hV : ∀ v W W', Rel.Grow W W' → V v W → V v W') (hk : kindOf ks o = some (.any V hV))
    (h : ∀ W, Rel.Grow w0 W → (∀ d, d ∈ o.looksAt ops → F d W) → stepAt P w0.heap.size o a W V) (hn : ∀ v, tree P ops ks w0 Q rest (F.put o.dst (V v)) (a.put o.dst v)) : tree P ops ks w0 Q (o :: rest) F a := by
  unfold tree
  rw [if_pos hw, hk]
  exact ⟨h, hn⟩
end
end RelG
end Go.Proofs.YtpakdcgcgekcfaaDoor

/-
  Package mode: Step (words for its walk).
-/
set_option linter.unusedSimpArgs false
set_option linter.unusedVariables false
namespace Go.Proofs.YtpakdcgcgekcfaaDoor
open Go.RowKit

namespace Aes
open Otp R1 Fuse Sha
/-- A step, plain. -/
def stepM (m : Md) (b : List Nat) : Md × List Nat :=
  if m.kind = 2 then ({ m with v := nextB m.v }, xorL b (encB m.key m.v))
  else if m.kind = 1 then
    if m.back then ({ m with v := b }, xorL (decB m.key b) m.v)
    else ({ m with v := encB m.key (xorL b m.v) }, encB m.key (xorL b m.v))
  else if m.back then (m, decB m.key b) else (m, encB m.key b)
theorem stepM_ok {m : Md} (h : m.Ok) {b : List Nat} (hb : b.length = 16) (hbb : ∀ x ∈ b, x < 256) : (stepM m b).1.Ok ∧ (stepM m b).2.length = 16 ∧ (∀ x ∈ (stepM m b).2, x < 256) ∧ (stepM m b).1.key = m.key ∧ (stepM m b).1.kind = m.kind ∧ (stepM m b).1.back = m.back := by
  obtain ⟨h1, h2, h3, h4⟩ := h
  have ke := fun c => encB_ok h1.ok c
  have kd := fun c => decB_ok h1.ok c
  have kn := nextB_ok h3 h4
  obtain ⟨key, kd2, back, v⟩ := m
  simp only at *
  rw [stepM]
  generalize encB key = E at *
  generalize decB key = D at *
  generalize nextB v = n at *
  by_cases k2 : kd2 = 2
  · rw [if_pos k2]
    exact ⟨⟨h1, h2, kn.1, kn.2⟩, xorL_length hb (ke _).1, xorL_byte hbb (ke _).2, rfl, rfl, rfl⟩
  rw [if_neg k2]
  by_cases k1 : kd2 = 1
  · rw [if_pos k1]
    cases back
    · exact ⟨⟨h1, h2, (ke _).1, (ke _).2⟩, (ke _).1, (ke _).2, rfl, rfl, rfl⟩
    · exact ⟨⟨h1, h2, hb, hbb⟩, xorL_length (kd _).1 h3, xorL_byte (kd _).2 h4, rfl, rfl, rfl⟩
  rw [if_neg k1]
  cases back
  · exact ⟨⟨h1, h2, h3, h4⟩, (ke _).1, (ke _).2, rfl, rfl, rfl⟩
  · exact ⟨⟨h1, h2, h3, h4⟩, (kd _).1, (kd _).2, rfl, rfl, rfl⟩
/-- Two blocks in a row, just made. -/
def TwoV (a b : List Nat) (v : Value) (W : World) : Prop := ∃ g, v = .slice (some ⟨g, 0, none⟩) 2 2 ∧ Two W W.heap.size g a b
theorem TwoV.soft {a b : List Nat} : ∀ v W W', Rel.Soft W W' → TwoV a b v W → TwoV a b v W' := fun _ _ _ h ⟨g, h1, h2, h3, h4⟩ =>
  ⟨g, h1, Nat.lt_of_lt_of_le h2 h.size, fun i x hx => h.cell _ _ (h3 i x hx), fun i x hx => h.cell _ _ (h4 i x hx)⟩
theorem blk_info_zero : ∃ ie z, Tryd.prog.info? 90 = some ie ∧ ie.zero = some z ∧ ie.size = 16 ∧ z.cells = b8 z16 := by
  obtain ⟨ie, h1, h2, h3, h4⟩ := info_row (P := Tryd.prog) (e := 90) (z := .agg (b8 z16)) (size := 16) (bytes := 16) (by kernel_rfl)
  exact ⟨ie, _, h1, h2, h3, rfl⟩
theorem rel_two {o : Oper} {a : Act} {W : World} (x y : Operand) (ho : o.op = .buildSlice 190 2 #[(0, x), (1, y)]) (A B : List Nat) (hx : a.eval x = .agg (b8 A)) (hy : a.eval y = .agg (b8 B)) (hA : A.length = 16) (hB : B.length = 16) :
    Rel.relAt Tryd.prog o a W (TwoV A B) := by
  obtain ⟨ie, z, h1, h2, h3, h4⟩ := blk_info_zero
  have hf : Instr.fill (fun i => some (i * ie.size, ie.size)) ((Array.range (2 * ie.size)).map (z.cells[· % z.cells.size]!)) [(0, .agg (b8 A)), (1, .agg (b8 B))] = some (v8 A ++ v8 B).toArray := by
    rw [h3, h4]
    have hz : ((Array.range (2 * 16)).map ((b8 z16)[· % (b8 z16).size]!)) = (v8 (List.replicate 32 0)).toArray := by kernel_rfl
    rw [hz]
    have f1 := fill_part (fun i => some (i * 16, 16)) (v8 (List.replicate 32 0)) 0 (v8 A) [(1, .agg (b8 B))] 0 (by rw [v8_length, hA]) (by rw [v8_length, v8_length, hA]; decide)
    have f2 := fill_part (fun i => some (i * 16, 16)) (splice (v8 (List.replicate 32 0)) 0 (v8 A)) 1 (v8 B) [] 16 (by rw [v8_length, hB]) (by rw [length_splice _ _ _ (by rw [v8_length, v8_length, hA]; decide), v8_length, v8_length, hB]; decide)
    refine f1.trans (f2.trans ?_)
    have hs := splice_two (v8 (List.replicate 32 0)) (v8 A) (v8 B) (by rw [v8_length, v8_length, v8_length, hA, hB]; rfl)
    rw [v8_length, hA] at hs
    rw [hs]
    rfl
  unfold Rel.relAt execOp
  simp only [ho]
  rw [Sem.run_bind, run_buildSlice (P := Tryd.prog) W 190 90 2 _ _ ie z Tryd.underlying190 h1 h2 (by rw [h3]; decide) (by rw [h3]; decide) (by simp only [List.map_toArray, List.map_cons, List.map_nil, hx, hy]; exact hf)]
  simp only [Result.andThen_ok, Sem.run_pure, Rel.relUpon]
  have hn := Blk.new W 90 (v8 A ++ v8 B).toArray
  refine ⟨Rel.Grow.alloc _ _, W.heap.size, rfl, hn.lt, hn.rangeAt 0 _ (fun j v hv => ?_), hn.rangeAt 16 _ (fun j v hv => ?_)⟩
  · have hv : (v8 A)[j]? = some v := hv
    rw [Nat.zero_add, List.getElem?_append_left ((List.getElem?_eq_some_iff.1 hv).1)]
    exact hv
  · have hv : (v8 B)[j]? = some v := hv
    rw [List.getElem?_append_right (by rw [v8_length, hA]; omega), v8_length, hA, show 16 + j - 16 = j by omega]
    exact hv
/-- A mode, a block, room for the results. -/
structure Sb (W : World) (gM gB gS gR : Nat) (MV ZM : Array Value) (b : List Nat) (w : World) : Prop where
  km : Blk w gM 96 MV
  kb : Blk w gB 90 (b8 b)
  ks : Blk w gS 96 ZM
  kr : Blk w gR 90 (b8 z16)
  bel : Below W.heap.size W w
  o1 : W.heap.size ≤ gM
  o2 : gM < gB
  o3 : gB < gS
  o4 : gS < gR
section
variable {W w w' : World} {gM gB gS gR : Nat} {MV MV' ZM : Array Value} {b b' : List Nat}
theorem Sb.old (h : Sb W gM gB gS gR MV ZM b w) (hb : Below w.heap.size w w') : Sb W gM gB gS gR MV ZM b w' := ⟨h.km.next hb rfl, h.kb.next hb rfl, h.ks.next hb rfl, h.kr.next hb rfl, below_then h.bel hb (Nat.le_refl _), h.o1, h.o2, h.o3, h.o4⟩
theorem Sb.putB (h : Sb W gM gB gS gR MV ZM b w) (hf : Frm [gB] w w') (hk : Blk w' gB 90 (b8 b')) : Sb W gM gB gS gR MV ZM b' w' := by
  have o1 := h.o1
  have o2 := h.o2
  have o3 := h.o3
  have o4 := h.o4
  exact ⟨h.km.frm hf (by simp; omega), hk, h.ks.frm hf (by simp; omega), h.kr.frm hf (by simp; omega), Below.frm h.bel hf (Nat.le_refl _) (fun x hx => by simp at hx; omega), o1, o2, o3, o4⟩
theorem Sb.putM (h : Sb W gM gB gS gR MV ZM b w) (hf : Frm [gM] w w') (hk : Blk w' gM 96 MV') : Sb W gM gB gS gR MV' ZM b w' := by
  have o1 := h.o1
  have o2 := h.o2
  have o3 := h.o3
  have o4 := h.o4
  exact ⟨hk, h.kb.frm hf (by simp; omega), h.ks.frm hf (by simp; omega), h.kr.frm hf (by simp; omega), Below.frm h.bel hf (Nat.le_refl _) (fun x hx => by simp at hx; omega), o1, o2, o3, o4⟩
end
section
variable {W w w' : World} {gM gB gS gR : Nat} {MV MV' ZM : Array Value} {b b' : List Nat}
theorem Sb.far (h : Sb W gM gB gS gR MV ZM b w) {S : List Nat} (hf : Frm S w w') (hS : ∀ x ∈ S, gR < x) : Sb W gM gB gS gR MV ZM b w' := by
  have o1 := h.o1
  have o2 := h.o2
  have o3 := h.o3
  have o4 := h.o4
  exact ⟨h.km.frm hf (fun hx => by have := hS _ hx; omega), h.kb.frm hf (fun hx => by have := hS _ hx; omega), h.ks.frm hf (fun hx => by have := hS _ hx; omega), h.kr.frm hf (fun hx => by have := hS _ hx; omega), Below.frm h.bel hf (Nat.le_refl _) (fun x hx => by have := hS _ hx; omega), o1, o2, o3, o4⟩
theorem Sb.put2 (h : Sb W gM gB gS gR MV ZM b w) (hf : Frm [gM, gB] w w') (hk : Blk w' gM 96 MV') (hb : Blk w' gB 90 (b8 b')) : Sb W gM gB gS gR MV' ZM b' w' := by
  have o1 := h.o1
  have o2 := h.o2
  have o3 := h.o3
  have o4 := h.o4
  exact ⟨hk, hb, h.ks.frm hf (by simp; omega), h.kr.frm hf (by simp; omega), Below.frm h.bel hf (Nat.le_refl _) (fun x hx => by simp at hx; omega), o1, o2, o3, o4⟩
end
/-- A block that was just made. -/
def NewB (B : Nat) (v : Value) (W : World) : Prop := ∃ g, v = .pointer (some ⟨g, 0, none⟩) ∧ B ≤ g ∧ Blk W g 90 (b8 z16)
theorem NewB.grow {B : Nat} : ∀ v W W', Rel.Grow W W' → NewB B v W → NewB B v W' := fun _ _ _ h ⟨g, h1, h2, h3⟩ => ⟨g, h1, h2, h3.next h rfl⟩
theorem TwoV.grow {a b : List Nat} : ∀ v W W', Rel.Grow W W' → TwoV a b v W → TwoV a b v W' := fun v W W' h => TwoV.soft v W W' h.soft
theorem rel_new {o : Oper} {a : Act} {B : Nat} {W : World} (ho : o.op = .alloc 90) (hB : B ≤ W.heap.size) : RelG.relAt Tryd.prog o a W (NewB B) := by
  have hz := Tryd.zeroValue90
  have hs := Tryd.sizeOf90
  unfold RelG.relAt execOp
  simp only [ho]
  go_simp
  exact ⟨Rel.Grow.alloc _ _, W.heap.size, rfl, hB, Blk.new _ _ _⟩
theorem mV_set (A : Option Addr) (L c : Nat) (m : Md) (v : List Nat) (h : m.v.length = 16) (hv : v.length = 16) : splice (mV A L c m) 515 (v8 v) = mV A L c { m with v := v } := by
  have hl := kC_length (.slice A L c)
  unfold splice mV mC
  rw [List.take_append, List.drop_append, hl, v8_length, hv, List.take_of_length_le (by omega), List.drop_of_length_le (by omega), List.drop_of_length_le (by rw [mT_length _ _ h]; decide)]
  simp [mT]
def StepOut (w : World) (A : Option Addr) (L c : Nat) (r : Md × List Nat) (e : Ending) (w' : World) : Prop := e = .returned (.tuple #[.agg (mV A L c r.1).toArray, .agg (b8 r.2)]) ∧ Below w.heap.size w w'
end Aes
end Go.Proofs.YtpakdcgcgekcfaaDoor

/-
  Package mode: Step.
-/
set_option linter.unusedSimpArgs false
set_option linter.unusedVariables false
namespace Go.Proofs.YtpakdcgcgekcfaaDoor
open Go.RowKit

namespace Aes
open Otp R1 Fuse Sha
/-- What is known of a mode's cells. -/
def M2F (ZM : Array Value) (ML : List Value) : Prop := (Tryd.prog.info? 96).map (·.size) = some ML.toArray.size ∧ ZM.size = ML.toArray.size ∧ ML.toArray.all (·.oneCell') = true
theorem m2f (A : Option Addr) (L c : Nat) {m : Md} (h : m.v.length = 16) : M2F zM.toArray (mV A L c m) := ⟨mV_info A L c h, by rw [List.size_toArray, List.size_toArray, zM_length, mV_length A L c h], mV_one A L c m⟩
set_option maxRecDepth 100000 in
set_option maxHeartbeats 4000000 in
theorem step_any (A : Option Addr) (L c : Nat) (m : Md) (b : List Nat) (w : World) (hm : m.Ok) (hk : KeyV w w.heap.size m.key A L c) (hb : b.length = 16) (hbb : ∀ x ∈ b, x < 256) :
    Calls Tryd.prog 63 #[.agg (mV A L c m).toArray, .agg (b8 b)] w (StepOut w A L c (stepM m b)) := by
  obtain ⟨hg, hkd, hvl, hvb⟩ := hm
  have HKD := wall (encB_ok hg.ok (key := m.key))
  have HKDD := wall (decB_ok hg.ok (key := m.key))
  have HNB := wall (nextB_ok hvl hvb)
  have HKV0 := wall hk
  have HF := wall (mvF A L c m hvl)
  have HM2 := wall (fun v (h : v.length = 16) => m2f A L c (m := { m with v := v }) h)
  have HST := wall (fun v (h : v.length = 16) => mV_set A L c m v hvl h)
  have H2F0 := wall (m2f A L c hvl)
  have HSK := wall (show (Tryd.prog.info? 94).map (·.size) = some (kC (.slice A L c)).toArray.size by rw [List.size_toArray, kC_length]; exact key_info)
  have HSB := wall (fun (l : List Nat) (h : l.length = 16) => show (Tryd.prog.info? 90).map (·.size) = some (b8 l).size by rw [b8_size, h]; exact blk_info16)
  have HVL := wall hvl
  have HVB := wall hvb
  have HBL := wall hb
  have HBB := wall hbb
  obtain ⟨ZM, hZM⟩ : ∃ x, zM.toArray = x := ⟨_, rfl⟩
  have HZM := wall (show Tryd.zeroCells96 = ZM by rw [← hZM, zM_eq])
  rw [hZM] at HM2 H2F0
  obtain ⟨ML, hML⟩ : ∃ x, mV A L c m = x := ⟨_, rfl⟩
  have HML := wall hML
  rw [hML] at HF HST H2F0 ⊢
  obtain ⟨KL, hKL⟩ : ∃ x, (kC (.slice A L c)).toArray = x := ⟨_, rfl⟩
  have HKL := wall hKL
  rw [hKL] at HSK
  have HRK := wall (fun (W : World) (g : Nat) (h : Blk W g 96 ML.toArray) => hKL ▸ HF.out.rk h)
  have HRV := wall (fun (W : World) (g : Nat) (h : Blk W g 96 ML.toArray) => HF.out.rv h)
  have HC := wall (show ML.toArray[513]? = some (.int .i64 (m.kind : Int)) ∧ ML.toArray[514]? = some (.bool m.back) from ⟨HF.out.kind, HF.out.back⟩)
  have HML16 := wall (show 515 + 16 ≤ ML.length by rw [← hML, mV_length A L c hvl]; decide)
  obtain ⟨w1, hw1⟩ : ∃ W, W = (((w.alloc (.cells ML.toArray 96)).alloc (.cells (b8 b) 90)).alloc (.cells ZM 96)).alloc (.cells (b8 z16) 90) := ⟨_, rfl⟩
  have HW := wall hw1
  have HS1 := wall (show Sb w w.heap.size (w.heap.size + 1) (w.heap.size + 1 + 1) (w.heap.size + 1 + 1 + 1) ML.toArray ZM b w1 by
    rw [hw1]
    exact ⟨(((Blk.new _ _ _).alloc _).alloc _).alloc _, ((blk_new' (by simp)).alloc _).alloc _, (blk_new' (by simp)).alloc _, blk_new' (by simp), ((((Below.refl _ w).alloc (Nat.le_refl _) _).alloc (by simp) _).alloc (by simp; omega) _).alloc (by simp; omega) _, Nat.le_refl _, by omega, by omega, by omega⟩)
  obtain ⟨gR, hgR⟩ : ∃ x, x = w.heap.size + 1 + 1 + 1 := ⟨_, rfl⟩
  obtain ⟨gS, hgS⟩ : ∃ x, x = w.heap.size + 1 + 1 := ⟨_, rfl⟩
  obtain ⟨gB, hgB⟩ : ∃ x, x = w.heap.size + 1 := ⟨_, rfl⟩
  obtain ⟨gM, hgM⟩ : ∃ x, x = w.heap.size := ⟨_, rfl⟩
  have HGG := wall (show gR = w.heap.size + 1 + 1 + 1 ∧ gS = w.heap.size + 1 + 1 ∧ gB = w.heap.size + 1 ∧ gM = w.heap.size from ⟨hgR, hgS, hgB, hgM⟩)
  rw [← hgR, ← hgS, ← hgB] at HS1
  have HS1 := wall (show Sb w gM gB gS gR ML.toArray ZM b w1 by rw [hgM]; exact HS1.out)
  have HKV := wall (hk.next HS1.out.bel)
  have hkc := HS1.out.km.cell 513
  have hbc := HS1.out.km.cell 514
  rw [HC.out.1] at hkc
  rw [HC.out.2] at hbc
  have hlt := HS1.out.km.lt
  obtain ⟨key, kd2, back, v⟩ := m
  simp only at *
  clear hw1 hg hvl hvb hk hb hbb hZM hML hKL hgR hgS hgB hgM HF HC
  have go : ∀ k : Int, k = (kd2 : Int) → Calls Tryd.prog 63 #[.agg ML.toArray, .agg (b8 b)] w (StepOut w A L c (stepM ⟨key, kd2, back, v⟩ b)) := by
    intro k hk
    rw [← hk] at hkc
    rcases (show kd2 = 2 ∨ kd2 = 1 ∨ kd2 = 0 by omega) with rfl | rfl | rfl
    · have hk2 : k = 2 := by omega
      subst hk2
      clear hk hkd
      obtain ⟨e1, he1⟩ : ∃ x, encB key v = x := ⟨_, rfl⟩
      have HE1 := wall (show e1.length = 16 ∧ ∀ x ∈ e1, x < 256 by rw [← he1]; exact HKD.out v)
      have HCE := wall (fun W (h : KeyV W W.heap.size key A L c) => encrypt_any key v A L c W h HVL.out HVB.out)
      rw [he1, HKL.out] at HCE
      obtain ⟨b2, hb2⟩ : ∃ x, xorL b e1 = x := ⟨_, rfl⟩
      have HB2 := wall (show b2.length = 16 by rw [← hb2]; exact xorL_length HBL.out HE1.out.1)
      have HCX := wall (fun g W (h : Two W W.heap.size g b e1) => xor_any g b e1 W h HBL.out HE1.out.1 HBB.out HE1.out.2)
      rw [hb2] at HCX
      obtain ⟨nv, hnv⟩ : ∃ x, nextB v = x := ⟨_, rfl⟩
      have HNL := wall (show nv.length = 16 by rw [← hnv]; exact HNB.out.1)
      have HCN := wall (fun W => next_any v W HVL.out HVB.out)
      rw [hnv] at HCN
      obtain ⟨ML2, hML2⟩ : ∃ x, mV A L c ⟨key, 2, back, nv⟩ = x := ⟨_, rfl⟩
      have HML2 := wall hML2
      have H2F := wall (show M2F ZM ML2 by rw [← hML2]; exact HM2.out nv HNL.out)
      have HSP := wall (show splice ML 515 (v8 nv) = ML2 by rw [← hML2]; exact HST.out nv HNL.out)
      have HRES := wall (show stepM ⟨key, 2, back, v⟩ b = (⟨key, 2, back, nv⟩, b2) by rw [← hb2, ← he1, ← hnv]; rfl)
      clear he1 hb2 hnv hML2 HKD HKDD HNB HM2 HST
      (go_enter Tryd.func63, Tryd.ntmps63; go_upto_region 2 with fail; rw [HZM.out]; change Code.wp _ _ _ _ ((((w.alloc (.cells ML.toArray 96)).alloc (.cells (b8 b) 90)).alloc (.cells ZM 96)).alloc (.cells (b8 z16) 90)); rw [← HW.out, ← HGG.out.1, ← HGG.out.2.1, ← HGG.out.2.2.1, ← HGG.out.2.2.2]; clear HW HGG HZM; go_wp2_with fail)
      refine Rel.wp_region_rel 8 [(20, .const (.agg (b8 e1))), (21, .any (TwoV b e1) TwoV.soft), (22, .const (.agg (b8 b2)))] (by kernel_rfl) (by kernel_rfl) ?_
      simp only [List.take_succ_cons, List.take_zero, List.drop_succ_cons, List.drop_zero, Act.put, List.setIfInBounds_toArray, List.set_cons_zero, List.set_cons_succ]
      refine Rel.tree_pure rfl rfl rfl (.agg (b8 b)) (fun W hW _ => Rel.exec_load _ _ rfl gB 0 rfl _ _ (Blk.range (hW.blk HS1.out.kb.drew)) Tryd.underlying90 rfl (HSB.out _ HBL.out)) ?_
      simp only [Act.put, List.setIfInBounds_toArray, List.set_cons_zero, List.set_cons_succ]
      (refine Rel.tree_quiet rfl rfl rfl (fun K hK => ?_); go_big_quiet_op; refine hK _ ?_; clear hK K)
      refine Rel.tree_pure rfl rfl rfl (.agg KL) (fun W hW _ => Rel.exec_load _ _ rfl gM 0 rfl _ _ (HRK.out _ _ (hW.blk HS1.out.km.drew)) Tryd.underlying94 rfl HSK.out) ?_
      simp only [Act.put, List.setIfInBounds_toArray, List.set_cons_zero, List.set_cons_succ]
      (refine Rel.tree_quiet rfl rfl rfl (fun K hK => ?_); go_big_quiet_op; refine hK _ ?_; clear hK K)
      refine Rel.tree_pure rfl rfl rfl (.agg (b8 v)) (fun W hW _ => Rel.exec_load _ _ rfl gM 515 rfl _ _ (HRV.out _ _ (hW.blk HS1.out.km.drew)) Tryd.underlying90 rfl (HSB.out _ HVL.out)) ?_
      simp only [Act.put, List.setIfInBounds_toArray, List.set_cons_zero, List.set_cons_succ]
      refine Rel.tree_const rfl (.agg (b8 e1)) rfl (fun W hW _ => ?_) ?_
      · have hV := HKV.out.next hW.undrew
        unfold Rel.relAt; go_simp; show Calls _ _ _ _ _
        exact const_call (HCE.out W hV)
      simp only [Act.put, List.setIfInBounds_toArray, List.set_cons_zero, List.set_cons_succ]
      refine Rel.tree_rel rfl (TwoV b e1) TwoV.soft rfl (fun W hW _ => rel_two _ _ rfl b e1 rfl rfl HBL.out HE1.out.1) (fun v21 => ?_)
      simp only [Act.put, List.setIfInBounds_toArray, List.set_cons_zero, List.set_cons_succ]
      refine Rel.tree_const rfl (.agg (b8 b2)) rfl (fun W hW hF => ?_) ?_
      · obtain ⟨g, rfl, hT⟩ : TwoV b e1 v21 W := hF 21 (by decide)
        clear hF
        unfold Rel.relAt; go_simp; show Calls _ _ _ _ _
        exact const_call (HCX.out g W hT)
      simp only [Act.put, List.setIfInBounds_toArray, List.set_cons_zero, List.set_cons_succ]
      intro W hW _
      have HSW := wall (HS1.out.old hW.undrew)
      clear hW HS1 HKV HCE HCX
      go_upto_region 4 with (refine wpList_set_row rfl 90 (.tmp 3) (.tmp 22) rfl gB (b8 b2) rfl rfl 90 (b8 b) HSW.out.kb (HSB.out _ HB2.out) (by rw [b8_size, b8_size, HBL.out, HB2.out]) (b8_one _) ?_; intro w4 K4 F4)
      have HS4 := wall (HSW.out.putB F4.out K4.out)
      clear HSW K4 F4
      go_wp2_with (refine wpList_load_arr rfl 90 _ rfl gM 515 rfl (b8 v) _ (HRV.out _ _ HS4.out.km) Tryd.underlying90 rfl (HSB.out _ HVL.out) ?_)
      (with_reducible refine (HCN.out _).mono ?_); rintro e w5 ⟨rfl, hB5⟩
      have HS5 := wall (HS4.out.old hB5)
      clear hB5 HS4 HCN
      go_upto_region 13 with (refine wpList_store_frm rfl 90 (.tmp 26) (.tmp 25) rfl gM 515 (b8 nv) rfl rfl 96 ML HS5.out.km (by rw [b8_size, HNL.out]; exact HML16.out) (HSB.out _ HNL.out) (b8_one _) ?_; intro w6 K6 F6)
      have HSX := wall (HS5.out.putM (MV' := ML2.toArray) F6 (by rw [← HSP.out]; exact K6))
      clear HS5 K6 F6
      (have o2 := HSX.out.o2; have o3 := HSX.out.o3; have o4 := HSX.out.o4; refine wp_two_rows (by kernel_rfl) (by kernel_rfl) rfl rfl rfl rfl rfl rfl 96 90 _ _ _ _ 67 68 (by decide) rfl rfl rfl rfl rfl rfl gM gB gS gR ML2.toArray (b8 b2) 96 90 96 90 ZM (b8 z16) _ _ rfl rfl rfl rfl rfl rfl rfl rfl rfl rfl HSX.out.km HSX.out.kb HSX.out.ks HSX.out.kr (by omega) (by omega) Tryd.underlying96 rfl (H2F.out).1 (H2F.out).2.1 (H2F.out).2.2 Tryd.underlying90 rfl (HSB.out _ HB2.out) (by rw [b8_size, b8_size, HB2.out]; rfl) (b8_one _) ?_; intro wz KS KR FZ; replace KS := wall KS; replace KR := wall KR; have HBZ := wall (show Below w.heap.size w wz by have o1 := HSX.out.o1; exact Below.frm HSX.out.bel FZ (Nat.le_refl _) (fun x hx => by simp at hx; omega)); clear FZ; go_wp2_with fail; go_light; exact bodyPost_ret (v := .tuple #[.agg ML2.toArray, .agg (b8 b2)]) (results_two Tryd.results63 _ _ gS gR 96 90 ML2.toArray (b8 b2) _ _ rfl rfl KS.out KR.out Tryd.underlying96 rfl (H2F.out).1 Tryd.underlying90 rfl (HSB.out _ HB2.out)) rfl ⟨by rw [HRES.out, ← HML2.out], HBZ.out⟩)
    · have hk2 : k = 1 := by omega
      subst hk2
      clear hk hkd
      cases back
      · obtain ⟨x1, hx1⟩ : ∃ x, xorL b v = x := ⟨_, rfl⟩
        have HX1 := wall (show x1.length = 16 ∧ ∀ x ∈ x1, x < 256 by rw [← hx1]; exact ⟨xorL_length HBL.out HVL.out, xorL_byte HBB.out HVB.out⟩)
        have HCX := wall (fun g W (h : Two W W.heap.size g b v) => xor_any g b v W h HBL.out HVL.out HBB.out HVB.out)
        rw [hx1] at HCX
        obtain ⟨b2, hb2⟩ : ∃ x, encB key x1 = x := ⟨_, rfl⟩
        have HB2 := wall (show b2.length = 16 by rw [← hb2]; exact (HKD.out x1).1)
        have HCE := wall (fun W (h : KeyV W W.heap.size key A L c) => encrypt_any key x1 A L c W h HX1.out.1 HX1.out.2)
        rw [hb2, HKL.out] at HCE
        obtain ⟨ML2, hML2⟩ : ∃ x, mV A L c ⟨key, 1, false, b2⟩ = x := ⟨_, rfl⟩
        have HML2 := wall hML2
        have H2F := wall (show M2F ZM ML2 by rw [← hML2]; exact HM2.out b2 HB2.out)
        have HSP := wall (show splice ML 515 (v8 b2) = ML2 by rw [← hML2]; exact HST.out b2 HB2.out)
        have HRES := wall (show stepM ⟨key, 1, false, v⟩ b = (⟨key, 1, false, b2⟩, b2) by rw [← hb2, ← hx1]; rfl)
        clear hx1 hb2 hML2 HKD HKDD HNB HM2 HST
        (go_enter Tryd.func63, Tryd.ntmps63; go_upto_region 2 with fail; rw [HZM.out]; change Code.wp _ _ _ _ ((((w.alloc (.cells ML.toArray 96)).alloc (.cells (b8 b) 90)).alloc (.cells ZM 96)).alloc (.cells (b8 z16) 90)); rw [← HW.out, ← HGG.out.1, ← HGG.out.2.1, ← HGG.out.2.2.1, ← HGG.out.2.2.2]; clear HW HGG HZM; go_wp2_with fail)
        refine Rel.wp_region_rel 8 [(55, .any (TwoV b v) TwoV.soft), (56, .const (.agg (b8 x1))), (57, .const (.agg (b8 b2)))] (by kernel_rfl) (by kernel_rfl) ?_
        simp only [List.take_succ_cons, List.take_zero, List.drop_succ_cons, List.drop_zero, Act.put, List.setIfInBounds_toArray, List.set_cons_zero, List.set_cons_succ]
        (refine Rel.tree_quiet rfl rfl rfl (fun K hK => ?_); go_big_quiet_op; refine hK _ ?_; clear hK K)
        refine Rel.tree_pure rfl rfl rfl (.agg KL) (fun W hW _ => Rel.exec_load _ _ rfl gM 0 rfl _ _ (HRK.out _ _ (hW.blk HS1.out.km.drew)) Tryd.underlying94 rfl HSK.out) ?_
        simp only [Act.put, List.setIfInBounds_toArray, List.set_cons_zero, List.set_cons_succ]
        refine Rel.tree_pure rfl rfl rfl (.agg (b8 b)) (fun W hW _ => Rel.exec_load _ _ rfl gB 0 rfl _ _ (Blk.range (hW.blk HS1.out.kb.drew)) Tryd.underlying90 rfl (HSB.out _ HBL.out)) ?_
        simp only [Act.put, List.setIfInBounds_toArray, List.set_cons_zero, List.set_cons_succ]
        (refine Rel.tree_quiet rfl rfl rfl (fun K hK => ?_); go_big_quiet_op; refine hK _ ?_; clear hK K)
        refine Rel.tree_pure rfl rfl rfl (.agg (b8 v)) (fun W hW _ => Rel.exec_load _ _ rfl gM 515 rfl _ _ (HRV.out _ _ (hW.blk HS1.out.km.drew)) Tryd.underlying90 rfl (HSB.out _ HVL.out)) ?_
        simp only [Act.put, List.setIfInBounds_toArray, List.set_cons_zero, List.set_cons_succ]
        refine Rel.tree_rel rfl (TwoV b v) TwoV.soft rfl (fun W hW _ => rel_two _ _ rfl b v rfl rfl HBL.out HVL.out) (fun v55 => ?_)
        simp only [Act.put, List.setIfInBounds_toArray, List.set_cons_zero, List.set_cons_succ]
        refine Rel.tree_const rfl (.agg (b8 x1)) rfl (fun W hW hF => ?_) ?_
        · obtain ⟨g, rfl, hT⟩ : TwoV b v v55 W := hF 55 (by decide)
          clear hF
          unfold Rel.relAt; go_simp; show Calls _ _ _ _ _
          exact const_call (HCX.out g W hT)
        simp only [Act.put, List.setIfInBounds_toArray, List.set_cons_zero, List.set_cons_succ]
        refine Rel.tree_const rfl (.agg (b8 b2)) rfl (fun W hW _ => ?_) ?_
        · have hV := HKV.out.next hW.undrew
          unfold Rel.relAt; go_simp; show Calls _ _ _ _ _
          exact const_call (HCE.out W hV)
        simp only [Act.put, List.setIfInBounds_toArray, List.set_cons_zero, List.set_cons_succ]
        intro W hW _
        have HSW := wall (HS1.out.old hW.undrew)
        clear hW HS1 HKV HCE HCX
        go_upto_region 10 with (refine wpList_set_row rfl 90 (.tmp 3) (.tmp 57) rfl gB (b8 b2) rfl rfl 90 (b8 b) HSW.out.kb (HSB.out _ HB2.out) (by rw [b8_size, b8_size, HBL.out, HB2.out]) (b8_one _) ?_; intro w4 K4 F4)
        have HS4 := wall (HSW.out.putB F4.out K4.out)
        clear HSW K4 F4
        go_upto_region 13 with (first | refine wpList_load_row rfl 90 _ rfl gB rfl 90 (b8 b2) (0, 0) _ HS4.out.kb Tryd.underlying90 rfl (HSB.out _ HB2.out) ?_ | (refine wpList_store_frm rfl 90 (.tmp 59) (.tmp 58) rfl gM 515 (b8 b2) rfl rfl 96 ML HS4.out.km (by rw [b8_size, HB2.out]; exact HML16.out) (HSB.out _ HB2.out) (b8_one _) ?_; intro w6 K6 F6))
        have HSX := wall (HS4.out.putM (MV' := ML2.toArray) F6 (by rw [← HSP.out]; exact K6))
        clear HS4 K6 F6
        (have o2 := HSX.out.o2; have o3 := HSX.out.o3; have o4 := HSX.out.o4; refine wp_two_rows (by kernel_rfl) (by kernel_rfl) rfl rfl rfl rfl rfl rfl 96 90 _ _ _ _ 67 68 (by decide) rfl rfl rfl rfl rfl rfl gM gB gS gR ML2.toArray (b8 b2) 96 90 96 90 ZM (b8 z16) _ _ rfl rfl rfl rfl rfl rfl rfl rfl rfl rfl HSX.out.km HSX.out.kb HSX.out.ks HSX.out.kr (by omega) (by omega) Tryd.underlying96 rfl (H2F.out).1 (H2F.out).2.1 (H2F.out).2.2 Tryd.underlying90 rfl (HSB.out _ HB2.out) (by rw [b8_size, b8_size, HB2.out]; rfl) (b8_one _) ?_; intro wz KS KR FZ; replace KS := wall KS; replace KR := wall KR; have HBZ := wall (show Below w.heap.size w wz by have o1 := HSX.out.o1; exact Below.frm HSX.out.bel FZ (Nat.le_refl _) (fun x hx => by simp at hx; omega)); clear FZ; go_wp2_with fail; go_light; exact bodyPost_ret (v := .tuple #[.agg ML2.toArray, .agg (b8 b2)]) (results_two Tryd.results63 _ _ gS gR 96 90 ML2.toArray (b8 b2) _ _ rfl rfl KS.out KR.out Tryd.underlying96 rfl (H2F.out).1 Tryd.underlying90 rfl (HSB.out _ HB2.out)) rfl ⟨by rw [HRES.out, ← HML2.out], HBZ.out⟩)
      · obtain ⟨d1, hd1⟩ : ∃ x, decB key b = x := ⟨_, rfl⟩
        have HD1 := wall (show d1.length = 16 ∧ ∀ x ∈ d1, x < 256 by rw [← hd1]; exact HKDD.out b)
        have HCE := wall (fun W (h : KeyV W W.heap.size key A L c) => decrypt_any key b A L c W h HBL.out HBB.out)
        rw [hd1, HKL.out] at HCE
        obtain ⟨b2, hb2⟩ : ∃ x, xorL d1 v = x := ⟨_, rfl⟩
        have HB2 := wall (show b2.length = 16 by rw [← hb2]; exact xorL_length HD1.out.1 HVL.out)
        have HCX := wall (fun g W (h : Two W W.heap.size g d1 v) => xor_any g d1 v W h HD1.out.1 HVL.out HD1.out.2 HVB.out)
        rw [hb2] at HCX
        obtain ⟨ML2, hML2⟩ : ∃ x, mV A L c ⟨key, 1, true, b⟩ = x := ⟨_, rfl⟩
        have HML2 := wall hML2
        have H2F := wall (show M2F ZM ML2 by rw [← hML2]; exact HM2.out b HBL.out)
        have HSP := wall (show splice ML 515 (b8 b).toList = ML2 by rw [← hML2]; exact HST.out b HBL.out)
        have HRES := wall (show stepM ⟨key, 1, true, v⟩ b = (⟨key, 1, true, b⟩, b2) by rw [← hb2, ← hd1]; rfl)
        clear hd1 hb2 hML2 HKD HKDD HNB HM2 HST
        (go_enter Tryd.func63, Tryd.ntmps63; go_upto_region 2 with fail; rw [HZM.out]; change Code.wp _ _ _ _ ((((w.alloc (.cells ML.toArray 96)).alloc (.cells (b8 b) 90)).alloc (.cells ZM 96)).alloc (.cells (b8 z16) 90)); rw [← HW.out, ← HGG.out.1, ← HGG.out.2.1, ← HGG.out.2.2.1, ← HGG.out.2.2.2]; clear HW HGG HZM; go_wp2_with fail)
        refine RelG.wp_region_rel 9 [(38, .const (.agg (b8 d1))), (41, .any (TwoV d1 v) TwoV.grow), (42, .const (.agg (b8 b2))), (6, .any (NewB w1.drew.heap.size) NewB.grow)] (by kernel_rfl) (by kernel_rfl) ?_
        simp only [List.take_succ_cons, List.take_zero, List.drop_succ_cons, List.drop_zero, Act.put, List.setIfInBounds_toArray, List.set_cons_zero, List.set_cons_succ]
        (refine RelG.tree_quiet rfl rfl rfl (fun K hK => ?_); go_big_quiet_op; refine hK _ ?_; clear hK K)
        refine RelG.tree_pure rfl rfl rfl (.agg KL) (fun W hW _ => Rel.exec_load _ _ rfl gM 0 rfl _ _ (HRK.out _ _ (hW.blk HS1.out.km.drew)) Tryd.underlying94 rfl HSK.out) ?_
        simp only [Act.put, List.setIfInBounds_toArray, List.set_cons_zero, List.set_cons_succ]
        refine RelG.tree_pure rfl rfl rfl (.agg (b8 b)) (fun W hW _ => Rel.exec_load _ _ rfl gB 0 rfl _ _ (Blk.range (hW.blk HS1.out.kb.drew)) Tryd.underlying90 rfl (HSB.out _ HBL.out)) ?_
        simp only [Act.put, List.setIfInBounds_toArray, List.set_cons_zero, List.set_cons_succ]
        refine RelG.tree_const rfl (.agg (b8 d1)) rfl (fun W hW _ => ?_) ?_
        · have hV := HKV.out.next hW.undrew
          unfold RelG.relAt; go_simp; show Calls _ _ _ _ _
          exact const_call (HCE.out W hV)
        simp only [Act.put, List.setIfInBounds_toArray, List.set_cons_zero, List.set_cons_succ]
        (refine RelG.tree_quiet rfl rfl rfl (fun K hK => ?_); go_big_quiet_op; refine hK _ ?_; clear hK K)
        refine RelG.tree_pure rfl rfl rfl (.agg (b8 v)) (fun W hW _ => Rel.exec_load _ _ rfl gM 515 rfl _ _ (HRV.out _ _ (hW.blk HS1.out.km.drew)) Tryd.underlying90 rfl (HSB.out _ HVL.out)) ?_
        simp only [Act.put, List.setIfInBounds_toArray, List.set_cons_zero, List.set_cons_succ]
        refine RelG.tree_rel rfl (TwoV d1 v) TwoV.grow rfl (fun W hW _ => rel_two _ _ rfl d1 v rfl rfl HD1.out.1 HVL.out) (fun v41 => ?_)
        simp only [Act.put, List.setIfInBounds_toArray, List.set_cons_zero, List.set_cons_succ]
        refine RelG.tree_const rfl (.agg (b8 b2)) rfl (fun W hW hF => ?_) ?_
        · obtain ⟨g, rfl, hT⟩ : TwoV d1 v v41 W := hF 41 (by decide)
          clear hF
          unfold RelG.relAt; go_simp; show Calls _ _ _ _ _
          exact const_call (HCX.out g W hT)
        simp only [Act.put, List.setIfInBounds_toArray, List.set_cons_zero, List.set_cons_succ]
        refine RelG.tree_rel rfl (NewB w1.drew.heap.size) NewB.grow rfl (fun W hW _ => rel_new rfl (Below.size hW)) (fun v6 => ?_)
        simp only [Act.put, List.setIfInBounds_toArray, List.set_cons_zero, List.set_cons_succ]
        intro W hW hF
        obtain ⟨gO, rfl, hgO, KO⟩ : NewB w1.drew.heap.size v6 W := hF 6
        have HSW := wall (HS1.out.old hW.undrew)
        have HKO := wall KO
        have hgO : gR < gO := by have : gR < w1.heap.size := HS1.out.kr.lt; have h2 : w1.heap.size ≤ gO := hgO; omega
        clear hW HS1 HKV HCE HCX hF KO
        go_upto_region 7 with (refine wpList_set_row rfl 90 (.tmp 6) (.tmp 42) rfl gO (b8 b2) rfl rfl 90 (b8 z16) HKO.out (HSB.out _ HB2.out) (by rw [b8_size, b8_size, HB2.out]; rfl) (b8_one _) ?_; intro w4 K4 F4)
        have HS4 := wall (HSW.out.far F4.out (fun x hx => by simp at hx; omega))
        replace K4 := wall K4.out
        have q2 := HS4.out.o2
        have q3 := HS4.out.o3
        have q4 := HS4.out.o4
        clear HSW F4 HKO
        refine wp_two_rows5 (by kernel_rfl) (by kernel_rfl) rfl rfl rfl rfl rfl rfl rfl 90 90 _ _ _ 43 44 45 (by decide) (by decide) rfl rfl rfl rfl rfl rfl rfl gB gO gM 515 gB (b8 b) (b8 b2) 90 90 96 90 ML (b8 b) _ _ rfl rfl rfl rfl rfl (fun W => by go_simp) (fun W => by go_simp) rfl rfl rfl rfl rfl rfl HS4.out.kb K4.out HS4.out.km HS4.out.kb (by omega) (by omega) Tryd.underlying90 rfl (HSB.out _ HBL.out) (by rw [b8_size, HBL.out]; exact HML16.out) (b8_one _) Tryd.underlying90 rfl (HSB.out _ HB2.out) (by rw [b8_size, b8_size, HBL.out, HB2.out]) (b8_one _) ?_
        intro w6 KM KB F6
        have HSX := wall (HS4.out.put2 (MV' := ML2.toArray) F6 (by rw [← HSP.out]; exact KM) KB)
        clear HS4 KM KB F6 K4
        simp only [Act.put, List.setIfInBounds_toArray, List.set_cons_zero, List.set_cons_succ]
        go_upto_region 13 with fail
        (have o2 := HSX.out.o2; have o3 := HSX.out.o3; have o4 := HSX.out.o4; refine wp_two_rows (by kernel_rfl) (by kernel_rfl) rfl rfl rfl rfl rfl rfl 96 90 _ _ _ _ 67 68 (by decide) rfl rfl rfl rfl rfl rfl gM gB gS gR ML2.toArray (b8 b2) 96 90 96 90 ZM (b8 z16) _ _ rfl rfl rfl rfl rfl rfl rfl rfl rfl rfl HSX.out.km HSX.out.kb HSX.out.ks HSX.out.kr (by omega) (by omega) Tryd.underlying96 rfl (H2F.out).1 (H2F.out).2.1 (H2F.out).2.2 Tryd.underlying90 rfl (HSB.out _ HB2.out) (by rw [b8_size, b8_size, HB2.out]; rfl) (b8_one _) ?_; intro wz KS KR FZ; replace KS := wall KS; replace KR := wall KR; have HBZ := wall (show Below w.heap.size w wz by have o1 := HSX.out.o1; exact Below.frm HSX.out.bel FZ (Nat.le_refl _) (fun x hx => by simp at hx; omega)); clear FZ; go_wp2_with fail; go_light; exact bodyPost_ret (v := .tuple #[.agg ML2.toArray, .agg (b8 b2)]) (results_two Tryd.results63 _ _ gS gR 96 90 ML2.toArray (b8 b2) _ _ rfl rfl KS.out KR.out Tryd.underlying96 rfl (H2F.out).1 Tryd.underlying90 rfl (HSB.out _ HB2.out)) rfl ⟨by rw [HRES.out, ← HML2.out], HBZ.out⟩)
    · have hk2 : k = 0 := by omega
      subst hk2
      clear hk hkd
      cases back
      · obtain ⟨b2, hb2⟩ : ∃ x, encB key b = x := ⟨_, rfl⟩
        have HB2 := wall (show b2.length = 16 by rw [← hb2]; exact (HKD.out b).1)
        have HCE := wall (fun W (h : KeyV W W.heap.size key A L c) => encrypt_any key b A L c W h HBL.out HBB.out)
        rw [hb2, HKL.out] at HCE
        obtain ⟨ML2, hML2⟩ : ∃ x, x = ML := ⟨_, rfl⟩
        have HML2 := wall (show mV A L c ⟨key, 0, false, v⟩ = ML2 by rw [hML2]; exact HML.out)
        have H2F := wall (show M2F ZM ML2 by rw [hML2]; exact H2F0.out)
        have HRES := wall (show stepM ⟨key, 0, false, v⟩ b = (⟨key, 0, false, v⟩, b2) by rw [← hb2]; rfl)
        have HMX := wall hML2
        clear hb2 HKD HKDD HNB HM2 HST hML2
        (go_enter Tryd.func63, Tryd.ntmps63; go_upto_region 2 with fail; rw [HZM.out]; change Code.wp _ _ _ _ ((((w.alloc (.cells ML.toArray 96)).alloc (.cells (b8 b) 90)).alloc (.cells ZM 96)).alloc (.cells (b8 z16) 90)); rw [← HW.out, ← HGG.out.1, ← HGG.out.2.1, ← HGG.out.2.2.1, ← HGG.out.2.2.2]; clear HW HGG HZM)
        go_wp2_with (first | refine wpList_load_arr rfl 94 _ rfl gM 0 rfl KL _ (HRK.out _ _ HS1.out.km) Tryd.underlying94 rfl HSK.out ?_ | refine wpList_load_row rfl 90 _ rfl gB rfl 90 (b8 b) (0, 0) _ HS1.out.kb Tryd.underlying90 rfl (HSB.out _ HBL.out) ?_)
        (with_reducible refine (HCE.out _ HKV.out).mono ?_); rintro e w5 ⟨rfl, hB5⟩
        have HS5 := wall (HS1.out.old hB5)
        clear hB5 HS1 HCE HKV
        go_upto_region 13 with (refine wpList_set_row rfl 90 (.tmp 3) (.tmp 10) rfl gB (b8 b2) rfl rfl 90 (b8 b) HS5.out.kb (HSB.out _ HB2.out) (by rw [b8_size, b8_size, HBL.out, HB2.out]) (b8_one _) ?_; intro w4 K4 F4)
        have HSX := wall (show Sb w gM gB gS gR ML2.toArray ZM b2 w4 by rw [HMX.out]; exact HS5.out.putB F4.out K4.out)
        clear HS5 K4 F4
        (have o2 := HSX.out.o2; have o3 := HSX.out.o3; have o4 := HSX.out.o4; refine wp_two_rows (by kernel_rfl) (by kernel_rfl) rfl rfl rfl rfl rfl rfl 96 90 _ _ _ _ 67 68 (by decide) rfl rfl rfl rfl rfl rfl gM gB gS gR ML2.toArray (b8 b2) 96 90 96 90 ZM (b8 z16) _ _ rfl rfl rfl rfl rfl rfl rfl rfl rfl rfl HSX.out.km HSX.out.kb HSX.out.ks HSX.out.kr (by omega) (by omega) Tryd.underlying96 rfl (H2F.out).1 (H2F.out).2.1 (H2F.out).2.2 Tryd.underlying90 rfl (HSB.out _ HB2.out) (by rw [b8_size, b8_size, HB2.out]; rfl) (b8_one _) ?_; intro wz KS KR FZ; replace KS := wall KS; replace KR := wall KR; have HBZ := wall (show Below w.heap.size w wz by have o1 := HSX.out.o1; exact Below.frm HSX.out.bel FZ (Nat.le_refl _) (fun x hx => by simp at hx; omega)); clear FZ; go_wp2_with fail; go_light; exact bodyPost_ret (v := .tuple #[.agg ML2.toArray, .agg (b8 b2)]) (results_two Tryd.results63 _ _ gS gR 96 90 ML2.toArray (b8 b2) _ _ rfl rfl KS.out KR.out Tryd.underlying96 rfl (H2F.out).1 Tryd.underlying90 rfl (HSB.out _ HB2.out)) rfl ⟨by rw [HRES.out, ← HML2.out], HBZ.out⟩)
      · obtain ⟨b2, hb2⟩ : ∃ x, decB key b = x := ⟨_, rfl⟩
        have HB2 := wall (show b2.length = 16 by rw [← hb2]; exact (HKDD.out b).1)
        have HCE := wall (fun W (h : KeyV W W.heap.size key A L c) => decrypt_any key b A L c W h HBL.out HBB.out)
        rw [hb2, HKL.out] at HCE
        obtain ⟨ML2, hML2⟩ : ∃ x, x = ML := ⟨_, rfl⟩
        have HML2 := wall (show mV A L c ⟨key, 0, true, v⟩ = ML2 by rw [hML2]; exact HML.out)
        have H2F := wall (show M2F ZM ML2 by rw [hML2]; exact H2F0.out)
        have HRES := wall (show stepM ⟨key, 0, true, v⟩ b = (⟨key, 0, true, v⟩, b2) by rw [← hb2]; rfl)
        have HMX := wall hML2
        clear hb2 HKD HKDD HNB HM2 HST hML2
        (go_enter Tryd.func63, Tryd.ntmps63; go_upto_region 2 with fail; rw [HZM.out]; change Code.wp _ _ _ _ ((((w.alloc (.cells ML.toArray 96)).alloc (.cells (b8 b) 90)).alloc (.cells ZM 96)).alloc (.cells (b8 z16) 90)); rw [← HW.out, ← HGG.out.1, ← HGG.out.2.1, ← HGG.out.2.2.1, ← HGG.out.2.2.2]; clear HW HGG HZM)
        go_wp2_with (first | refine wpList_load_arr rfl 94 _ rfl gM 0 rfl KL _ (HRK.out _ _ HS1.out.km) Tryd.underlying94 rfl HSK.out ?_ | refine wpList_load_row rfl 90 _ rfl gB rfl 90 (b8 b) (0, 0) _ HS1.out.kb Tryd.underlying90 rfl (HSB.out _ HBL.out) ?_)
        (with_reducible refine (HCE.out _ HKV.out).mono ?_); rintro e w5 ⟨rfl, hB5⟩
        have HS5 := wall (HS1.out.old hB5)
        clear hB5 HS1 HCE HKV
        go_upto_region 13 with (refine wpList_set_row rfl 90 (.tmp 3) (.tmp 66) rfl gB (b8 b2) rfl rfl 90 (b8 b) HS5.out.kb (HSB.out _ HB2.out) (by rw [b8_size, b8_size, HBL.out, HB2.out]) (b8_one _) ?_; intro w4 K4 F4)
        have HSX := wall (show Sb w gM gB gS gR ML2.toArray ZM b2 w4 by rw [HMX.out]; exact HS5.out.putB F4.out K4.out)
        clear HS5 K4 F4
        (have o2 := HSX.out.o2; have o3 := HSX.out.o3; have o4 := HSX.out.o4; refine wp_two_rows (by kernel_rfl) (by kernel_rfl) rfl rfl rfl rfl rfl rfl 96 90 _ _ _ _ 67 68 (by decide) rfl rfl rfl rfl rfl rfl gM gB gS gR ML2.toArray (b8 b2) 96 90 96 90 ZM (b8 z16) _ _ rfl rfl rfl rfl rfl rfl rfl rfl rfl rfl HSX.out.km HSX.out.kb HSX.out.ks HSX.out.kr (by omega) (by omega) Tryd.underlying96 rfl (H2F.out).1 (H2F.out).2.1 (H2F.out).2.2 Tryd.underlying90 rfl (HSB.out _ HB2.out) (by rw [b8_size, b8_size, HB2.out]; rfl) (b8_one _) ?_; intro wz KS KR FZ; replace KS := wall KS; replace KR := wall KR; have HBZ := wall (show Below w.heap.size w wz by have o1 := HSX.out.o1; exact Below.frm HSX.out.bel FZ (Nat.le_refl _) (fun x hx => by simp at hx; omega)); clear FZ; go_wp2_with fail; go_light; exact bodyPost_ret (v := .tuple #[.agg ML2.toArray, .agg (b8 b2)]) (results_two Tryd.results63 _ _ gS gR 96 90 ML2.toArray (b8 b2) _ _ rfl rfl KS.out KR.out Tryd.underlying96 rfl (H2F.out).1 Tryd.underlying90 rfl (HSB.out _ HB2.out)) rfl ⟨by rw [HRES.out, ← HML2.out], HBZ.out⟩)
  exact go _ rfl
end Aes
end Go.Proofs.YtpakdcgcgekcfaaDoor

/-
  Rel: a head whose last operation all others lead to, and which whatever follows waits for; then plain values taken first, then what is forced.
-/
set_option linter.unusedSimpArgs false
set_option linter.unusedVariables false
namespace Go.Proofs.YtpakdcgcgekcfaaDoor
open Go Go.RowKit

theorem run_slice_h1 {P : Program} (t e : TypeId) (ht : P.underlying t = some (.slice e)) (hs : ∀ w, (sizeOf e).run P w = .ok 1 w) (A : Option Addr) (len cap hi : Nat) (kh : IntKind) (h : Int) (hh : h = hi) (h1 : 0 < cap) (h2 : hi ≤ cap) (w : World) :
    (Instr.sliceAt t (.slice A len cap) none (some (.int kh h)) none).run P w = .ok (.slice A hi cap) w := by
  have he : P.elem t = e := by simp [Program.elem, ht]
  have ht' : P.underlying t = some (.slice (P.elem t)) := by rw [he]; exact ht
  subst hh
  rw [run_sliceAt_slice w t _ _ _ _ ht', run_slice_h w t A len cap ht' kh hi (by omega) (by omega), he, hs]
  have hne : ¬ cap = 0 := by omega
  cases A <;> simp [Result.andThen, sliced, hne, Go.WideShapes.add_plain, Addr.add]
theorem nats_range {k : IntKind} {M : Nat} {w : World} {B : Nat} {A : Option Addr} {l : List Nat} (h : Nats k M w B A l) (n : Nat) (h0 : 0 < n) (hn : n ≤ l.length) : ∃ b off, A = some ⟨b, off, none⟩ ∧ b < B ∧ w.rangeAt b off ((l.take n).map fun x => Value.int k ((x : Nat) : Int)) := by
  obtain ⟨_, b, off, rfl, hb, _⟩ := h 0 l[0] (List.getElem?_eq_getElem (by omega))
  refine ⟨b, off, rfl, hb, fun j v hv => ?_⟩
  rw [List.getElem?_map, List.getElem?_take] at hv
  split at hv
  · cases hx : l[j]? with
    | none => rw [hx] at hv; cases hv
    | some x =>
      rw [hx] at hv
      obtain ⟨_, b', off', hA, _, hc⟩ := h j x hx
      cases hA
      rw [← Option.some.inj hv]
      exact hc
  · cases hv
namespace Rel
section
variable {P : Program} {ops : Array Oper} {md : Region.Mode}
def pinB (md : Region.Mode) (ops : Array Oper) (m : Nat) : Bool := Region.sinkB md ops m && (List.range ops.size).all fun t => decide (t ≤ m) || Region.waitsFor md ops t m
def pinOk (md : Region.Mode) (ops : Array Oper) (m : Nat) : Bool := Region.noSelect ops && headB md ops (m + 1) && decide (m + 1 < ops.size) && pinB md ops m
theorem sink_open {m : Nat} {listed : Array Bool} (hs : Region.sinkB md ops m = true) (inv : HeadInv md ops (m + 1) listed) (hm : m < ops.size) :
    ∀ (d i : Nat), m - i = d → i ≤ m → listed.getD i true = false → listed.getD m true = false := by
  intro d
  induction d using Nat.strongRecOn with
  | _ d ih =>
    intro i hd hi hun
    by_cases him : i = m
    · rw [him] at hun; exact hun
    have h1 := List.all_eq_true.1 hs i (List.mem_range.2 (by omega))
    obtain ⟨j, hj, hj2⟩ := List.any_eq_true.1 h1
    simp only [Bool.and_eq_true, decide_eq_true_eq] at hj2
    obtain ⟨oj, hoj, e, he, hb, hon⟩ := Region.waitsFor_spec hj2.2
    have hjle : j ≤ m := by have := List.mem_range.1 hj; omega
    have hjs : j < listed.size := by rw [inv.size]; omega
    cases hl : listed.getD j false with
    | true =>
      have h2 := inv.closed j oj hoj hl e he hb
      rw [hon, getD_both hun] at h2
      cases h2
    | false => exact ih (m - j) (by omega) j rfl hjle (getD_in hjs hl)
theorem wp_region_rel_pin {id : Nat} {Q : Exit → Act → World → Prop} {a : Act} {w : World} {l : List Oper} (m : Nat) (ks : List (Tmp × Kind)) (hm : P.follows .mixedOrders = true) (hB : pinOk .any l.toArray m = true)
    (h : tree P l.toArray ks w.drew (fun a' W => wpAny P .any l.toArray Q (l.length - (m + 1)) (canon (m + 1) l.length) a' W) (l.take (m + 1)) bare a) : (Code.region id l.toArray true).wp P Q a w := by
  simp only [pinOk, Bool.and_eq_true, decide_eq_true_eq] at hB
  obtain ⟨⟨⟨hsel, hhead⟩, hlt⟩, hpin⟩ := hB
  have hsz : l.toArray.size = l.length := by simp
  have hnl : m + 1 ≤ l.length := by omega
  simp only [pinB, Bool.and_eq_true] at hpin
  have hT : ∀ s, HeadInv .any l.toArray (m + 1) s → ∀ i, i < m + 1 → s.getD i true = false → ∀ t, t ∈ Region.ready .any l.toArray s → t < m + 1 := fun s inv i hi hun t ht => by
    rcases Nat.lt_or_ge t (m + 1) with h4 | h4
    · exact h4
    · exfalso
      have ho := sink_open hpin.1 inv (by omega) _ i rfl (by omega) hun
      obtain ⟨_, ot, hot, hall⟩ := mem_ready.1 ht
      have htlt : t < l.toArray.size := (Array.getElem?_eq_some_iff.1 hot).1
      have h1 := List.all_eq_true.1 hpin.2 t (List.mem_range.2 htlt)
      simp only [Bool.or_eq_true, decide_eq_true_eq] at h1
      rcases h1 with h1 | h1
      · omega
      · obtain ⟨o', ho', e, he, hb, hon⟩ := Region.waitsFor_spec h1
        have : o' = ot := Option.some.inj (ho'.symm.trans hot)
        subst this
        have h2 := hall e he hb
        rw [hon, getD_both ho] at h2
        cases h2
  have inv0 : Inv P l.toArray .any (m + 1) ks w.drew a (Array.replicate l.toArray.size false) a w.drew (fun _ => undef) :=
    ⟨⟨by simp, fun j oj _ hl => (by rw [getD_replicate_false] at hl; cases hl), fun t _ ht => getD_in (by simpa using ht) (getD_replicate_false _ _)⟩, Grow.refl _, rfl, rfl, fun _ _ => rfl, fun j o d _ _ hl => (by rw [getD_replicate_false] at hl; cases hl), fun j o _ _ hl => (by rw [getD_replicate_false] at hl; cases hl)⟩
  have hc : ∀ m, cnt (Array.replicate l.toArray.size false) m = m := fun m => by
    induction m with
    | zero => rfl
    | succ m ih => rw [cnt, ih, getD_replicate_false]; rfl
  refine wp_region_any hm ?_
  have := tree_any (g := l.length - (m + 1)) (R := Q) hsel hhead (by omega) hT (L := l.take (m + 1)) (fun j hj => by simp [hj]) (by simp; omega) h (fun a' w' hq => by rw [hsz]; exact hq) (m + 1) _ _ _ _ inv0 (hc (m + 1))
  rw [show m + 1 + (l.length - (m + 1)) = l.toArray.size by omega] at this
  exact this
/-- A plain value is taken. -/
theorem take_val {Q : Exit → Act → World → Prop} {a : Act} {w : World} {f : Nat} {s : Array Bool} (j : Nat) {o : Oper} (v : Value) (hj : ops[j]? = some o) (hs : Region.noSelect ops = true) (hf : Region.free md ops s j = true) (hr : (Region.ready md ops s).contains j = true)
    (hQ : ∀ c a w, Q (.panic c) (a.put o.dst v) w → Q (.panic c) a w) (hw : Region.wanted o (yielded ops a.tmps) = true) (hy : ∀ w, (execOp a.eval o).run P w = .ok (.value v) w) (h : wpAny P md ops Q f (s.setIfInBounds j true) (a.put o.dst v) w) : wpAny P md ops Q (f + 1) s a w :=
  wpAny_take hj hs hf hr hQ (.inl ⟨hw, hy⟩) h
theorem take_at {Q : Exit → Act → World → Prop} {ts : Array Value} {df : List Deferred} {w : World} {f : Nat} {s : Array Bool} (j : Nat) (d : Tmp) {o : Oper} (v : Value) (hj : ops[j]? = some o) (hd : o.dst = some d) (hs : Region.noSelect ops = true) (hf : Region.free md ops s j = true) (hr : (Region.ready md ops s).contains j = true)
    (hQ : ∀ c a w, Q (.panic c) (a.put (some d) v) w → Q (.panic c) a w) (hw : Region.wanted o (yielded ops ts) = true) (hy : ∀ w, (execOp (⟨ts, df⟩ : Act).eval o).run P w = .ok (.value v) w) (h : wpAny P md ops Q f (s.setIfInBounds j true) ⟨ts.setIfInBounds d v, df⟩ w) : wpAny P md ops Q (f + 1) s ⟨ts, df⟩ w :=
  take_val j v hj hs hf hr (by rw [hd]; exact hQ) hw hy (by rw [hd]; exact h)
theorem rest_idx {Q' : Exit → Act → World → Prop} {a : Act} {w : World} {f : Nat} {s : Array Bool} (L : List (Nat × Oper)) (hf : f = L.length) (hl : ∀ p ∈ L, ops[p.1]? = some p.2) (hB : seqI md ops (L.map (·.1)) s = true) (h : wpList P ops Q' (L.map (·.2)) a w) : wpAny P md ops Q' f s a w := by
  subst hf
  exact wpAny_of_idx L s a w hl hB h
theorem exec_arr {o : Oper} {a : Act} {W : World} (arr e : TypeId) (x : Operand) (ho : o.op = .sliceToArrayPointer arr x) (n : Nat) (ad : Option Addr) (len cap : Nat) (hx : a.eval x = .slice ad len cap) (hu : P.underlying arr = some (.array n e)) (hn : n ≤ len) : (execOp a.eval o).run P W = .ok (.value (.pointer ad)) W := by
  unfold execOp
  simp only [ho, hx]
  rw [Sem.run_bind, run_arrayAt W arr e n ad len cap hu hn]
  simp [Result.andThen]
theorem exec_slice {o : Oper} {a : Act} {W : World} (t : TypeId) (x : Operand) (lo hi : Option Operand) (ho : o.op = .slice t x lo hi none) (v : Value) (h : (Instr.sliceAt t (a.eval x) (lo.map a.eval) (hi.map a.eval) none).run P W = .ok v W) : (execOp a.eval o).run P W = .ok (.value v) W := by
  unfold execOp
  simp only [ho]
  rw [Sem.run_bind]
  simp only [Option.map_none] at h ⊢
  rw [h]
  simp [Result.andThen]
end
end Rel
end Go.Proofs.YtpakdcgcgekcfaaDoor

/-
  Contracts of the library's functions, laid at this program (the numbers by name).
-/
set_option linter.unusedSimpArgs false
set_option linter.unusedVariables false
set_option linter.unusedVariables false
namespace Go.Proofs.YtpakdcgcgekcfaaDoor
open Go.Shelf Go.Proofs
def Tryd.lays180_ren : Go.Shelf.Ren := ⟨fun | 180 => 90 | 251 => 113 | 252 => 114 | 181 => 129 | 184 => 130 | 290 => 131 | 324 => 136 | n => n, fun | 130 => 187 | 37 => 53 | 3 => 3 | 75 => 157 | 0 => 0 | 93 => 155 | 91 => 153 | 131 => 188 | 4 => 4 | 20 => 20 | 5 => 5 | 80 => 208 | 9 => 9 | n => n, fun | 14 => 1 | n => n⟩
theorem Tryd.lays180 : Go.Proofs.LaysM.n180 Tryd.prog Tryd.lays180_ren := {
  mixed := by kernel_rfl
  f180 := Tryd.func90.trans (congrArg some (by kernel_rfl))
  f181 := Tryd.func129.trans (congrArg some (by kernel_rfl))
  f184 := Tryd.func130.trans (congrArg some (by kernel_rfl))
  f251 := Tryd.func113.trans (congrArg some (by kernel_rfl))
  f252 := Tryd.func114.trans (congrArg some (by kernel_rfl))
  f290 := Tryd.func131.trans (congrArg some (by kernel_rfl))
  f324 := Tryd.func136.trans (congrArg some (by kernel_rfl))
  t0 := Tryd.underlying0
  a0 := Tryd.isAgg0
  z0 := Tryd.sizeOf0
  v0 := Tryd.zeroValue0
  t3 := Tryd.underlying3
  a3 := Tryd.isAgg3
  z3 := Tryd.sizeOf3
  v3 := Tryd.zeroValue3
  t4 := Tryd.underlying4
  a4 := Tryd.isAgg4
  z4 := Tryd.sizeOf4
  v4 := Tryd.zeroValue4
  t20 := Tryd.underlying20
  a20 := Tryd.isAgg20
  z20 := Tryd.sizeOf20
  v20 := Tryd.zeroValue20
  t37 := Tryd.underlying53
  a37 := Tryd.isAgg53
  z37 := Tryd.sizeOf53
  v37 := Tryd.zeroValue53
  t75 := Tryd.underlying157
  a75 := Tryd.isAgg157
  z75 := Tryd.sizeOf157
  v75 := Tryd.zeroValue157
  t91 := Tryd.underlying153
  a91 := Tryd.isAgg153
  z91 := Tryd.sizeOf153
  v91 := Tryd.zeroValue153
  t93 := Tryd.underlying155
  a93 := Tryd.isAgg155
  z93 := Tryd.sizeOf155
  v93 := Tryd.zeroValue155
  t130 := Tryd.underlying187
  a130 := Tryd.isAgg187
  z130 := Tryd.sizeOf187
  v130 := Tryd.zeroValue187
  t131 := Tryd.underlying188
  a131 := Tryd.isAgg188
  z131 := Tryd.sizeOf188
  v131 := Tryd.zeroValue188
  g14 := by kernel_rfl
  t5 := Tryd.underlying5
  a5 := Tryd.isAgg5
  z5 := Tryd.sizeOf5
  v5 := Tryd.zeroValue5
  t9 := Tryd.underlying9
  a9 := Tryd.isAgg9
  z9 := Tryd.sizeOf9
  v9 := Tryd.zeroValue9
  t80 := Tryd.underlying208
  a80 := Tryd.isAgg208
  z80 := Tryd.sizeOf208
  v80 := Tryd.zeroValue208
  i0 := by kernel_rfl
  i3 := by kernel_rfl
  i4 := by kernel_rfl
  i5 := by kernel_rfl
  i9 := by kernel_rfl
  i20 := by kernel_rfl
  i37 := by kernel_rfl
  i75 := by kernel_rfl
  i80 := by kernel_rfl
  i91 := by kernel_rfl
  i93 := by kernel_rfl
  i130 := by kernel_rfl
  i131 := by kernel_rfl
  m14 := by kernel_rfl }
def Tryd.lays183_ren : Go.Shelf.Ren := ⟨fun | 183 => 91 | n => n, fun | 130 => 187 | 37 => 53 | 0 => 0 | 93 => 155 | 3 => 3 | 5 => 5 | 91 => 153 | n => n, fun | n => n⟩
theorem Tryd.lays183 : Go.Proofs.LaysM.n183 Tryd.prog Tryd.lays183_ren := {
  mixed := by kernel_rfl
  f183 := Tryd.func91.trans (congrArg some (by kernel_rfl))
  t0 := Tryd.underlying0
  a0 := Tryd.isAgg0
  z0 := Tryd.sizeOf0
  v0 := Tryd.zeroValue0
  t3 := Tryd.underlying3
  a3 := Tryd.isAgg3
  z3 := Tryd.sizeOf3
  v3 := Tryd.zeroValue3
  t37 := Tryd.underlying53
  a37 := Tryd.isAgg53
  z37 := Tryd.sizeOf53
  v37 := Tryd.zeroValue53
  t93 := Tryd.underlying155
  a93 := Tryd.isAgg155
  z93 := Tryd.sizeOf155
  v93 := Tryd.zeroValue155
  t130 := Tryd.underlying187
  a130 := Tryd.isAgg187
  z130 := Tryd.sizeOf187
  v130 := Tryd.zeroValue187
  t5 := Tryd.underlying5
  a5 := Tryd.isAgg5
  z5 := Tryd.sizeOf5
  v5 := Tryd.zeroValue5
  t91 := Tryd.underlying153
  a91 := Tryd.isAgg153
  z91 := Tryd.sizeOf153
  v91 := Tryd.zeroValue153
  i0 := by kernel_rfl
  i3 := by kernel_rfl
  i5 := by kernel_rfl
  i37 := by kernel_rfl
  i91 := by kernel_rfl
  i93 := by kernel_rfl
  i130 := by kernel_rfl }
end Go.Proofs.YtpakdcgcgekcfaaDoor

/-
  Package slot: a chip's places, plain and in memory; may, Kind, key.
-/
set_option linter.unusedSimpArgs false
set_option linter.unusedVariables false
namespace Go.Proofs.YtpakdcgcgekcfaaDoor
open Go.RowKit

namespace Slot
open Otp R1 Sha
theorem flat_len {n : Nat} : ∀ (L : List (List Value)), (∀ r ∈ L, r.length = n) → L.flatten.length = n * L.length
  | [], _ => by simp
  | r :: L, h => by
    have h1 := flat_len L (fun q hq => h q (List.mem_cons_of_mem _ hq))
    have h2 := h r (by simp)
    simp only [List.flatten_cons, List.length_append, List.length_cons, h1, h2, Nat.mul_succ]
    omega
theorem flat_get {n : Nat} : ∀ (L : List (List Value)), (∀ r ∈ L, r.length = n) → ∀ (h : Nat) (r : List Value), L[h]? = some r → ∀ (j : Nat) (v : Value), r[j]? = some v → L.flatten[n * h + j]? = some v
  | r :: L, hl, 0, q, hq, j, v, hv => by
    simp at hq
    subst hq
    rw [List.flatten_cons, Nat.mul_zero, Nat.zero_add, List.getElem?_append_left (List.getElem?_eq_some_iff.1 hv).1]
    exact hv
  | r :: L, hl, h + 1, q, hq, j, v, hv => by
    have h1 := flat_get L (fun q hq => hl q (List.mem_cons_of_mem _ hq)) h q (by simpa using hq) j v hv
    have h2 := hl r (by simp)
    rw [List.flatten_cons, List.getElem?_append_right (by rw [h2, Nat.mul_succ]; omega), h2, show n * (h + 1) + j - n = n * h + j by rw [Nat.mul_succ]; omega]
    exact h1
theorem flat_splice {n : Nat} (Z : List Value) : ∀ (L : List (List Value)), (∀ r ∈ L, r.length = n) → ∀ (h : Nat) (r : List Value), h < L.length → r.length = n → splice (L.flatten ++ Z) (n * h) r = (L.set h r).flatten ++ Z
  | q :: L, hl, 0, r, _, hr => by
    have h2 := hl q (by simp)
    unfold splice
    rw [Nat.mul_zero, List.take_zero, List.nil_append, Nat.zero_add, List.set_cons_zero, List.flatten_cons, List.flatten_cons, List.append_assoc, List.drop_append, List.drop_of_length_le (by omega), List.nil_append, show r.length - q.length = 0 by omega, List.drop_zero, List.append_assoc]
  | q :: L, hl, h + 1, r, hh, hr => by
    have h1 := flat_splice Z L (fun q hq => hl q (List.mem_cons_of_mem _ hq)) h r (by simpa using hh) hr
    have h2 := hl q (by simp)
    rw [List.set_cons_succ, List.flatten_cons, List.flatten_cons, List.append_assoc, List.append_assoc, ← h1]
    unfold splice
    rw [List.take_append, List.drop_append, List.take_of_length_le (by rw [h2, Nat.mul_succ]; omega), List.drop_of_length_le (by rw [h2, Nat.mul_succ]; omega), h2, List.nil_append, List.append_assoc, show n * (h + 1) - n = n * h by rw [Nat.mul_succ]; omega, show n * (h + 1) + r.length - n = n * h + r.length by rw [Nat.mul_succ]; omega]
/-- A chip's places (kind, key); locked, dead. -/
structure Slt where
  rs : List (Nat × List Nat)
  lk : Bool
  dd : Bool
def row (p : Nat × List Nat) : List Value := .int .i64 (p.1 : Int) :: v8 p.2
def slC (s : Slt) : List Value := (s.rs.map row).flatten ++ [.bool s.lk, .bool s.dd]
structure Slt.Ok (s : Slt) : Prop where
  len : s.rs.length = 8
  key : ∀ p ∈ s.rs, p.2.length = 32
  byte : ∀ p ∈ s.rs, ∀ x ∈ p.2, x < 256
  kind : ∀ p ∈ s.rs, p.1 ≤ 3
theorem Slt.Ok.rows {s : Slt} (h : s.Ok) : ∀ r ∈ s.rs.map row, r.length = 33 := fun r hr => by
  obtain ⟨p, hp, rfl⟩ := List.mem_map.1 hr
  simp [row, v8_length, h.key p hp]
theorem Slt.Ok.size {s : Slt} (h : s.Ok) : (slC s).length = 266 := by
  unfold slC
  rw [List.length_append, flat_len _ h.rows, List.length_map, h.len]
  rfl
theorem Slt.Ok.kindAt {s : Slt} (h : s.Ok) {i : Nat} {p : Nat × List Nat} (hp : s.rs[i]? = some p) : (slC s)[33 * i]? = some (.int .i64 (p.1 : Int)) := by
  have h1 := flat_get _ h.rows i (row p) (by rw [List.getElem?_map, hp]; rfl) 0 (.int .i64 (p.1 : Int)) rfl
  unfold slC
  rw [Nat.add_zero] at h1
  rw [List.getElem?_append_left (List.getElem?_eq_some_iff.1 h1).1]
  exact h1
theorem Slt.Ok.keyAt {s : Slt} (h : s.Ok) {i : Nat} {p : Nat × List Nat} (hp : s.rs[i]? = some p) : ∀ (j : Nat) (v : Value), (v8 p.2)[j]? = some v → (slC s)[33 * i + 1 + j]? = some v := fun j v hv => by
  have h1 := flat_get _ h.rows i (row p) (by rw [List.getElem?_map, hp]; rfl) (j + 1) v (by simpa [row] using hv)
  unfold slC
  rw [show 33 * i + 1 + j = 33 * i + (j + 1) by omega, List.getElem?_append_left (List.getElem?_eq_some_iff.1 h1).1]
  exact h1
theorem Slt.Ok.lockAt {s : Slt} (h : s.Ok) : (slC s)[264]? = some (.bool s.lk) := by
  unfold slC
  rw [List.getElem?_append_right (by rw [flat_len _ h.rows, List.length_map, h.len]; decide), flat_len _ h.rows, List.length_map, h.len]
  rfl
theorem Slt.Ok.deadAt {s : Slt} (h : s.Ok) : (slC s)[265]? = some (.bool s.dd) := by
  unfold slC
  rw [List.getElem?_append_right (by rw [flat_len _ h.rows, List.length_map, h.len]; decide), flat_len _ h.rows, List.length_map, h.len]
  rfl
/-- A place is laid. -/
def Slt.put (s : Slt) (i : Nat) (p : Nat × List Nat) : Slt := { s with rs := s.rs.set i p }
theorem Slt.Ok.splice {s : Slt} (h : s.Ok) {i : Nat} (hi : i < 8) {p : Nat × List Nat} (hp : p.2.length = 32) : Go.splice (slC s) (33 * i) (row p) = slC (s.put i p) := by
  unfold slC Slt.put
  rw [flat_splice _ _ h.rows i (row p) (by rw [List.length_map, h.len]; exact hi) (by simp [row, v8_length, hp]), List.map_set]
theorem Slt.Ok.put {s : Slt} (h : s.Ok) (i : Nat) {p : Nat × List Nat} (hp : p.2.length = 32) (hb : ∀ x ∈ p.2, x < 256) (hk : p.1 ≤ 3) : (s.put i p).Ok := by
  refine ⟨by simp [Slt.put, h.len], fun q hq => ?_, fun q hq => ?_, fun q hq => ?_⟩ <;> rcases List.mem_or_eq_of_mem_set hq with h1 | rfl
  · exact h.key q h1
  · exact hp
  · exact h.byte q h1
  · exact hb
  · exact h.kind q h1
  · exact hk
/-- It lies in memory. -/
structure Sl (w : World) (g : Nat) (s : Slt) : Prop where
  ok : s.Ok
  blk : Blk w g 140 (slC s).toArray
section
variable {w w' : World} {g : Nat} {s : Slt}
theorem Sl.lt (h : Sl w g s) : g < w.heap.size := h.blk.lt
theorem Sl.old (h : Sl w g s) (hb : Below w.heap.size w w') : Sl w' g s := ⟨h.ok, h.blk.next hb rfl⟩
theorem Sl.frm {S : List Nat} (h : Sl w g s) (hf : Frm S w w') (hg : g ∉ S) : Sl w' g s := ⟨h.ok, h.blk.frm hf hg⟩
theorem Sl.cellAt (h : Sl w g s) {i : Nat} {v : Value} (hv : (slC s)[i]? = some v) : w.cell? ⟨g, i, none⟩ = some v := by
  rw [h.blk.cell]
  simpa using hv
end
def inR (h : Int) : Bool := decide (0 ≤ h ∧ h < 8)
theorem inR_t {h : Int} (h1 : 0 ≤ h) (h2 : h < 8) : inR h = true := by simp [inR, h1, h2]
theorem inR_f {h : Int} (h1 : ¬ (0 ≤ h ∧ h < 8)) : inR h = false := by simp only [inR, decide_eq_false_iff_not]; exact h1
/-- Why nothing can be done with some places. -/
def mayE (s : Slt) (l : List Int) : Nat := if s.dd then 17 else if l.all inR then 0 else 1
set_option maxHeartbeats 1000000 in
theorem within_any (A : Option Addr) (n c : Nat) (h : Int) (b : Bool) (w : World) (hb : decide (0 ≤ h ∧ h < (n : Int)) = b) : Calls Tryd.prog 103 #[.slice A n c, .int .i64 h] w (fun e w' => e = .returned (.bool b) ∧ w = w') := by
  by_cases h0 : 0 ≤ h
  · have g0 : (h ≥ 0) = True := by simp [h0]
    by_cases h1 : h < (n : Int)
    · obtain rfl : b = true := by rw [← hb]; simp [h0, h1]
      clear hb
      go_enter Tryd.func103, Tryd.ntmps103
      go_wp2_with fail
      go_light
      go_ret
      exact ⟨rfl, rfl⟩
    · obtain rfl : b = false := by rw [← hb]; simp [h1]
      clear hb
      go_enter Tryd.func103, Tryd.ntmps103
      go_wp2_with fail
      go_light
      go_ret
      exact ⟨rfl, rfl⟩
  · obtain rfl : b = false := by rw [← hb]; simp [h0]
    have g0 : ¬ (h ≥ 0) := h0
    clear hb
    go_enter Tryd.func103, Tryd.ntmps103
    go_wp2_with fail
    go_light
    go_ret
    exact ⟨rfl, rfl⟩
theorem run_slice_arr_all' {P : Program} (t e : TypeId) (N : Nat) (ht : P.underlying t = some (.array N e)) (hs : ∀ w, (sizeOf e).run P w = .ok 1 w) (b o : Nat) (h3 : 0 < N) (w : World) :
    (Instr.sliceAt t (.pointer (some ⟨b, o, none⟩)) none none none).run P w = .ok (.slice (some ⟨b, o, none⟩) N N) w := by
  have hn : P.arrayLen t = N := by simp [Program.arrayLen, ht]
  have he : P.elem t = e := by simp [Program.elem, ht]
  have ht' : P.underlying t = some (.array (P.arrayLen t) (P.elem t)) := by rw [hn, he]; exact ht
  rw [run_sliceAt_array_all w t ⟨b, o, none⟩ ht', he, hs, hn]
  have hne : ¬ N = 0 := by omega
  simp [Result.andThen, slicedAt, hne, Go.WideShapes.add_plain]
theorem run_slice_places (g : Nat) (w : World) : (Instr.sliceAt 138 (.pointer (some ⟨g, 0, none⟩)) none none none).run Tryd.prog w = .ok (.slice (some ⟨g, 0, none⟩) 8 8) w := by
  have hn : Tryd.prog.arrayLen 138 = 8 := by kernel_rfl
  have he : Tryd.prog.elem 138 = 137 := by kernel_rfl
  have ht' : Tryd.prog.underlying 138 = some (.array (Tryd.prog.arrayLen 138) (Tryd.prog.elem 138)) := by kernel_rfl
  have hs : (sizeOf (Tryd.prog.elem 138)).run Tryd.prog w = .ok 33 w := by rw [he]; kernel_rfl
  rw [run_sliceAt_array_all w 138 ⟨g, 0, none⟩ ht', hs, hn]
  simp [Result.andThen, slicedAt, Go.WideShapes.add_plain]
set_option maxRecDepth 100000 in
set_option maxHeartbeats 1000000 in
theorem may_any (g : Nat) (s : Slt) (A : Option Addr) (l : List Int) (n c : Nat) (w : World) (hS : Sl w g s) (hl : l.length = n) (hn : n ≤ 1000000) (hz : Ints .i64 w w.heap.size A l) :
    Calls Tryd.prog 81 #[.pointer (some ⟨g, 0, none⟩), .slice A n c] w (fun e w' => e = .returned (.int .i64 (mayE s l : Int)) ∧ w = w') := by
  subst hl
  obtain ⟨E, hE⟩ : ∃ E, mayE s l = E := ⟨_, rfl⟩
  rw [hE]
  have hcd : w.cell? ⟨g, 265, none⟩ = some (.bool s.dd) := hS.cellAt hS.ok.deadAt
  have HN := Lib.hid hz
  have hsl := run_slice_places g
  cases hdd : s.dd with
  | true =>
    obtain rfl : E = 17 := by rw [← hE]; simp [mayE, hdd]
    rw [hdd] at hcd
    clear hE hdd hz
    go_enter Tryd.func81, Tryd.ntmps81
    go_wp2_with fail
    go_light
    go_ret
    exact ⟨rfl, rfl⟩
  | false =>
    have HE := Lib.hid (show E = if l.all inR then 0 else 1 by rw [← hE]; simp [mayE, hdd])
    rw [hdd] at hcd
    clear hE hdd hz
    go_enter Tryd.func81, Tryd.ntmps81
    go_wp2_with fail
    go_loopg [17] l.length (fun gm s17 wr => ∃ i : Nat, i + gm = l.length ∧ s17 = .int .i64 (i : Int) ∧ Hid ((l.take i).all inR = true) ∧ wr = w)
    case atStart => exact ⟨0, by omega, rfl, Lib.hid rfl, rfl⟩
    case round =>
      obtain ⟨i, hg, rfl, HA, rfl⟩ := hrel
      have HG := Lib.hid hg
      have hi : i ≤ l.length := by omega
      clear hg
      by_cases hlt : i < l.length
      · obtain ⟨z, hx⟩ : ∃ z, l[i]? = some z := ⟨_, List.getElem?_eq_getElem hlt⟩
        obtain ⟨_, b, off, rfl, hb, hcx⟩ := HN.out i z hx
        have HT := Lib.hid (take_snoc hx)
        have HX := Lib.hid hx
        clear hx
        cases hin : inR z with
        | true =>
          have HI := Lib.hid (show decide (0 ≤ z ∧ z < ((8 : Nat) : Int)) = true from hin)
          have HIN := Lib.hid hin
          clear hin
          go_wp2_with fail
          (with_reducible refine (within_any _ _ _ _ true _ HI.out).mono ?_); rintro e w2 ⟨rfl, rfl⟩
          go_wp2_with fail
          go_light
          go_roundg (l.length - (i + 1))
          case measure => have := HG.out; omega
          case rel => exact ⟨i + 1, by omega, by go_num, Lib.hid (by rw [HT.out, List.all_append, HA.out]; simp [HIN.out]), rfl⟩
        | false =>
          have HI := Lib.hid (show decide (0 ≤ z ∧ z < ((8 : Nat) : Int)) = false from hin)
          have HE1 := Lib.hid (show E = 1 by
            rw [HE.out, if_neg]
            intro h
            have := List.all_eq_true.1 h z (List.mem_of_getElem? HX.out)
            rw [hin] at this
            cases this)
          clear hin
          go_wp2_with fail
          (with_reducible refine (within_any _ _ _ _ false _ HI.out).mono ?_); rintro e w2 ⟨rfl, rfl⟩
          go_wp2_with fail
          go_light
          go_ret
          exact ⟨by rw [HE1.out]; rfl, rfl⟩
      · have hil : i = l.length := by omega
        subst hil
        have HE0 := Lib.hid (show E = 0 by
          have := HA.out
          rw [List.take_length] at this
          rw [HE.out, if_pos this])
        go_wp2_with fail
        go_light
        go_ret
        exact ⟨by rw [HE0.out]; rfl, rfl⟩
set_option maxHeartbeats 1000000 in
theorem may_nil (A : Option Addr) (n c : Nat) (w : World) : Calls Tryd.prog 81 #[.pointer none, .slice A n c] w (fun e w' => e = .returned (.int .i64 3) ∧ w = w') := by
  go_enter Tryd.func81, Tryd.ntmps81
  go_wp2_with fail
  go_light
  go_ret
  exact ⟨rfl, rfl⟩
end Slot
end Go.Proofs.YtpakdcgcgekcfaaDoor
