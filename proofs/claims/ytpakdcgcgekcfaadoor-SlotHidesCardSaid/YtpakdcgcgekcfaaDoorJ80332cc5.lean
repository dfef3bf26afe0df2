/-
  Texts of this claim, joined: ModeA, ModeB, TwoRow5, ModeC, ModeD, RelPur, ShelfBuf, ModeE, ModeF, ModeG, ModeZ.
-/
import Derived.Test.YtpakdcgcgekcfaaDoorJ21ca6247
import Derived.Test.YtpakdcgcgekcfaaDoorJ0a4358aa
import Derived.Test.YtpakdcgcgekcfaaDoorJ81216201
import Derived.Test.YtpakdcgcgekcfaaDoorJ756a6ad9
import Derived.Great.BuildSlice
import Derived.Laws.Cover3
import Derived.Test.YtpakdcgcgekcfaaDoorProg
import Derived.Shelf.LaysM
import Derived.Shelf.Bytes.WriteAny
import Derived.Shelf.Bytes.Bytes
import Derived.WalkKit
import Derived.Test.YtpakdcgcgekcfaaDoorJfa020c09
import Derived.Lib.BufferOld
import Derived.Lib.BufferMore
set_option linter.unusedVariables false
/-
  Package mode: New, At, Next.
-/
set_option linter.unusedSimpArgs false
set_option linter.unusedVariables false
namespace Go.Proofs.YtpakdcgcgekcfaaDoor
open Go.RowKit

namespace Aes
open Otp R1 Fuse Sha
/-- A mode's cells. -/
def mT (kind : Int) (back : Bool) (v : List Nat) : List Value := .int .i64 kind :: .bool back :: v8 v
def mC (K : List Value) (kind : Int) (back : Bool) (v : List Nat) : List Value := K ++ mT kind back v
def zM : List Value := mC zK 0 false z16
theorem zM_eq : zM.toArray = Tryd.zeroCells96 := by kernel_rfl
theorem mT_length (k : Int) (b : Bool) {v : List Nat} (h : v.length = 16) : (mT k b v).length = 18 := by simp [mT, v8_length, h]
theorem mC_length {K : List Value} (hK : K.length = 513) (k : Int) (b : Bool) {v : List Nat} (h : v.length = 16) : (mC K k b v).length = 531 := by rw [mC, List.length_append, hK, mT_length k b h]
theorem zM_length : zM.length = 531 := mC_length zK_length _ _ rfl
theorem mode_info : (Tryd.prog.info? 96).map (·.size) = some 531 := by kernel_rfl
theorem mC_one {K : List Value} (hK : ∀ v ∈ K, v.oneCell' = true) (k : Int) (b : Bool) (v : List Nat) : (mC K k b v).toArray.all (·.oneCell') = true := by
  refine all_oneCell_toArray (fun x hx => ?_)
  rcases List.mem_append.1 hx with h | h
  · exact hK x h
  · rcases List.mem_cons.1 h with rfl | h
    · rfl
    rcases List.mem_cons.1 h with rfl | h
    · rfl
    obtain ⟨_, _, rfl⟩ := List.mem_map.1 h
    rfl
theorem kC_ones (A : Option Addr) (n c : Nat) : ∀ v ∈ kC (.slice A n c), v.oneCell' = true := fun v hv => by
  have := kC_one A n c
  rw [Array.all_eq_true_iff_forall_mem] at this
  exact this v (by simpa using hv)
theorem zK_ones : ∀ v ∈ zK, v.oneCell' = true := fun v hv => by
  have := zK_one
  rw [Array.all_eq_true_iff_forall_mem] at this
  exact this v (by simpa using hv)
theorem mode_built (K : List Value) (hK : K.length = 513) (k : Int) (b : Bool) (v : List Nat) (hv : v.length = 16) :
    Tryd.prog.built 96 [(0, .agg K.toArray), (1, .int .i64 k), (2, .bool b), (3, .agg (b8 v))] = some (mC K k b v).toArray := by
  have h : Tryd.prog.built 96 [(0, .agg K.toArray), (1, .int .i64 k), (2, .bool b), (3, .agg (b8 v))] = Instr.fill ((#[(0, 513), (513, 1), (514, 1), (515, 16)] : Array (Nat × Nat))[·]?) zM.toArray [(0, .agg K.toArray), (1, .int .i64 k), (2, .bool b), (3, .agg (b8 v))] := by kernel_rfl
  have e1 : splice zM 0 K = K ++ mT 0 false z16 := by
    unfold splice zM mC
    rw [hK, List.take_zero, List.nil_append, Nat.zero_add, List.drop_left' zK_length]
  have hz : (mT 0 false z16).length = 18 := rfl
  have e2 : (K ++ mT 0 false z16).set 513 (.int .i64 k) = K ++ mT k false z16 := by
    rw [List.set_append_right _ _ (by omega), hK]
    rfl
  have e3 : (K ++ mT k false z16).set 514 (.bool b) = K ++ mT k b z16 := by
    rw [List.set_append_right _ _ (by omega), hK]
    rfl
  have e4 : splice (K ++ mT k b z16) 515 (v8 v) = mC K k b v := by
    unfold splice
    rw [List.take_append, List.drop_append, hK, v8_length, hv, List.take_of_length_le (by omega), List.drop_of_length_le (by omega)]
    rw [List.drop_of_length_le (by rw [mT_length _ _ rfl]; decide), mC]
    simp [mT]
  rw [h, fill_part ((#[(0, 513), (513, 1), (514, 1), (515, 16)] : Array (Nat × Nat))[·]?) zM 0 K _ 0 (by rw [hK]; rfl) (by rw [hK, zM_length]; decide), e1,
    fill_one _ _ 1 (.int .i64 k) _ 513 rfl rfl (by simp [hK, hz]), e2, fill_one _ _ 2 (.bool b) _ 514 rfl rfl (by rw [List.length_append, hK, mT_length _ _ rfl]; decide), e3]
  have := fill_part ((#[(0, 513), (513, 1), (514, 1), (515, 16)] : Array (Nat × Nat))[·]?) (K ++ mT k b z16) 3 (v8 v) [] 515 (by rw [v8_length, hv]; rfl) (by rw [v8_length, hv, List.length_append, hK, mT_length _ _ rfl]; decide)
  rw [e4] at this
  exact this
/-- A mode, plain. -/
structure Md where
  key : List Nat
  kind : Nat
  back : Bool
  v : List Nat
structure Md.Ok (m : Md) : Prop where
  good : KeyG m.key
  kind : m.kind ≤ 2
  len : m.v.length = 16
  byte : ∀ x ∈ m.v, x < 256
def mV (A : Option Addr) (L c : Nat) (m : Md) : List Value := mC (kC (.slice A L c)) m.kind m.back m.v
theorem mV_length (A : Option Addr) (L c : Nat) {m : Md} (h : m.v.length = 16) : (mV A L c m).length = 531 := mC_length (kC_length _) _ _ h
theorem mV_one (A : Option Addr) (L c : Nat) (m : Md) : (mV A L c m).toArray.all (·.oneCell') = true := mC_one (kC_ones A L c) _ _ _
theorem mV_info (A : Option Addr) (L c : Nat) {m : Md} (h : m.v.length = 16) : (Tryd.prog.info? 96).map (·.size) = some (mV A L c m).toArray.size := by
  rw [List.size_toArray, mV_length A L c h]
  exact mode_info
theorem nats_other {k : IntKind} {M : Nat} {w w' : World} {S : List Nat} {B : Nat} {A : Option Addr} {zs : List Nat} (h : Nats k M w B A zs) (hB : B ≤ w.heap.size) (hf : Frm S w w') (hA : ∀ ad : Addr, A = some ad → ad.block ∉ S) : Nats k M w' B A zs := fun i z hz => by
  obtain ⟨h1, b, off, h2, h3, h4⟩ := h i z hz
  refine ⟨h1, b, off, h2, h3, ?_⟩
  rw [← h4]
  exact World.cell?_of_block (hf.block b (Nat.lt_of_lt_of_le h3 hB) (hA _ h2))
theorem KeyV.other {w w' : World} {S : List Nat} {B : Nat} {key : List Nat} {A : Option Addr} {L c : Nat} (h : KeyV w B key A L c) (hB : B ≤ w.heap.size) (hf : Frm S w w') (hA : ∀ ad : Addr, A = some ad → ad.block ∉ S) : KeyV w' B key A L c := ⟨h.good, h.len, h.cap, nats_other h.nats hB hf hA⟩
def MnOut (w : World) (m : Md) (e : Ending) (w' : World) : Prop := ∃ A L c, e = .returned (.tuple #[.agg (mV A L c m).toArray, .int .i64 0]) ∧ KeyV w' w'.heap.size m.key A L c ∧ Below w.heap.size w w'
def MnBad (w : World) (e : Ending) (w' : World) : Prop := e = .returned (.tuple #[.agg zM.toArray, .int .i64 1]) ∧ Below w.heap.size w w'
set_option maxRecDepth 100000 in
set_option maxHeartbeats 4000000 in
theorem mnew_any (A : Option Addr) (len cap : Nat) (kind : Int) (m : Md) (w : World) (hm : m.Ok) (hk : kind = m.kind) (hlen : len = m.key.length) (hz : Nats .u8 256 w w.heap.size A m.key) :
    Calls Tryd.prog 55 #[.int .i64 kind, .bool m.back, .slice A len cap, .agg (b8 m.v)] w (MnOut w m) := by
  obtain ⟨key, kd, back, v⟩ := m
  obtain ⟨hg, hkd, hvl, hvb⟩ := hm
  simp only at hk hlen hz hg hkd hvl hvb
  obtain ⟨n, hn, hl4⟩ : ∃ n, (n = 4 ∨ n = 8) ∧ len = 4 * n := by rcases hg.len with h | h; exact ⟨4, .inl rfl, by omega⟩; exact ⟨8, .inr rfl, by omega⟩
  have HN := wall (fun W (h : Below w.heap.size w W) => new_any A len cap n key W hn hl4 hlen.symm ((hz.below h).more h.size))
  have HG := wall hg
  have k0 : decide (kind < 0) = false := by rw [decide_eq_false_iff_not]; omega
  have k2 : decide (2 < kind) = false := by rw [decide_eq_false_iff_not]; omega
  have HKD := wall hk
  have HSK := wall (fun A n c => show (Tryd.prog.info? 94).map (·.size) = some (kC (.slice A n c)).toArray.size by rw [List.size_toArray, kC_length]; exact key_info)
  have HSB := wall (show (Tryd.prog.info? 90).map (·.size) = some (b8 v).size by rw [b8_size, hvl]; exact blk_info16)
  have HSM := wall (fun A n c => mV_info A n c (m := ⟨key, kd, back, v⟩) hvl)
  have HML := wall (fun A n c => mV_length A n c (m := ⟨key, kd, back, v⟩) hvl)
  have HBU := wall (fun A n c => show Tryd.prog.built 96 [(0, .agg (kC (.slice A n c)).toArray), (1, .int .i64 kind), (2, .bool back), (3, .agg (b8 v))] = some (mV A n c ⟨key, kd, back, v⟩).toArray by rw [hk]; exact mode_built (kC (.slice A n c)) (kC_length _) (kd : Int) back v hvl)
  obtain ⟨w1, hw1⟩ : ∃ W, W = (w.alloc (.cells (b8 v) 90)).alloc (.cells zM.toArray 96) := ⟨_, rfl⟩
  have HW := wall hw1
  have HB1 := wall (show Below w.heap.size w w1 by rw [hw1]; exact ((Below.refl _ w).alloc (Nat.le_refl _) _).alloc (by simp) _)
  have HKB := wall (show Blk w1 w.heap.size 90 (b8 v) by rw [hw1]; exact (Blk.new _ _ _).alloc _)
  have HKR := wall (show Blk w1 (w.heap.size + 1) 96 zM.toArray by rw [hw1]; exact blk_new' (by simp))
  clear hw1 hz hg hvl hvb hlen hl4 hn hk hkd
  go_enter Tryd.func55, Tryd.ntmps55
  go_upto_region 1 with fail
  rw [← zM_eq]
  rw [← HW.out]
  clear HW
  go_wp2_with fail
  (with_reducible refine (HN.out _ HB1.out).mono ?_); rintro e w2 ⟨A2, c2, rfl, hc2, hN2, hA2, hB2⟩
  have HKV := wall (show KeyV w2 w2.heap.size key A2 (kWords key).length c2 from ⟨HG.out, rfl, hc2, hN2⟩)
  have HKB2 := wall (HKB.out.next hB2 rfl)
  have HKR2 := wall (HKR.out.next hB2 rfl)
  have HB2 := wall (below_then HB1.out hB2 (Nat.le_refl _))
  generalize (kWords key).length = L at *
  have HA2 := wall (show ∀ ad : Addr, A2 = some ad → ad.block ∉ [w.heap.size + 1] from fun ad h => by have := hA2 ad h; have := HKR.out.lt; simp; omega)
  clear HKB HKR HB1 hB2 hN2 HN hc2 hA2
  have hlt2 : w.heap.size + 1 < w2.heap.size := HKR2.out.lt
  go_upto_region 2 with (refine wpList_new_row rfl 94 (.tmp 10) (.tmp 15) rfl w2.heap.size (kC (.slice A2 L c2)).toArray rfl rfl 94 zK.toArray (by rw [zK_eq]; exact Blk.new _ _ _) (HSK.out A2 L c2) (by rw [List.size_toArray, List.size_toArray, kC_length, zK_length]) (kC_one _ _ _) w2.heap.size w2 ((Below.refl _ w2).alloc (Nat.le_refl _) _) (Nat.le_refl _) ?_; intro w3 K3 B3)
  replace K3 := wall K3.out
  replace B3 := wall B3.out
  have HKV3 := wall (HKV.out.next B3.out)
  have HKB3 := wall (HKB2.out.next B3.out rfl)
  have HKR3 := wall (HKR2.out.next B3.out rfl)
  have HB3 := wall (below_then HB2.out B3.out (Nat.le_refl _))
  clear HKV HKB2 HKR2 HB2 B3
  generalize w2.heap.size = gK at *
  go_upto_region 4 with fail
  go_wp2_with (first | refine wpList_load_row rfl 94 _ rfl gK rfl 94 (kC (.slice A2 L c2)).toArray (0, 0) _ K3.out Tryd.underlying94 rfl (HSK.out A2 L c2) ?_ | (refine wpList_load_row rfl 90 _ rfl w.heap.size rfl 90 (b8 v) (0, 0) _ HKB3.out Tryd.underlying90 rfl HSB.out ?_; refine Sha.Wall.out (?_ : Wall _)))
  refine ⟨?_⟩
  have hb := HBU.out A2 L c2
  have h3 := HSM.out A2 L c2
  have h4 : zM.toArray.size = (mV A2 L c2 ⟨key, kd, back, v⟩).toArray.size := by rw [List.size_toArray, List.size_toArray, HML.out, zM_length]
  have h5 := mV_one A2 L c2 ⟨key, kd, back, v⟩
  obtain ⟨MV, hMV⟩ : ∃ x, (mV A2 L c2 ⟨key, kd, back, v⟩).toArray = x := ⟨_, rfl⟩
  rw [hMV] at hb h3 h4 h5
  have HMV := wall hMV
  clear hMV
  refine wpList_build_row rfl _ _ rfl _ hb ?_
  have H3 := wall h3
  have H4 := wall h4
  have H5 := wall h5
  clear hb h3 h4 h5 HKD HG HBU
  go_wp2_with (refine wpList_set_row rfl 96 (.tmp 8) (.tmp 32) rfl (w.heap.size + 1) MV rfl rfl 96 zM.toArray HKR3.out H3.out H4.out H5.out ?_; intro w4 K4 F4)
  go_light
  have hB4 := F4.out.size
  exact bodyPost_ret (v := .tuple #[.agg MV, .int .i64 0]) (results_one_slot Tryd.results55 _ _ (w.heap.size + 1) 96 _ _ _ rfl rfl K4.out Tryd.underlying96 rfl H3.out) rfl ⟨A2, L, c2, by rw [HMV.out], (HKV3.out.other (Nat.le_refl _) F4.out HA2.out).more F4.out.size, Below.frm HB3.out F4.out (Nat.le_refl _) (fun x hx => by simp at hx; omega)⟩
set_option maxRecDepth 100000 in
set_option maxHeartbeats 4000000 in
/-- A key that there isn't. -/
theorem mnew_badkey (A : Option Addr) (n cap : Nat) (kind : Int) (back : Bool) (v : List Nat) (w : World) (h1 : n ≠ 16) (h2 : n ≠ 32) (hm : n ≤ maxLen) (hvl : v.length = 16) :
    Calls Tryd.prog 55 #[.int .i64 kind, .bool back, .slice A n cap, .agg (b8 v)] w (MnBad w) := by
  have HN := wall (fun W => new_bad A n cap W h1 h2 hm)
  obtain ⟨ZK, hZK⟩ : ∃ x, zK.toArray = x := ⟨_, rfl⟩
  have HSK := wall (show (Tryd.prog.info? 94).map (·.size) = some ZK.size by rw [← hZK, List.size_toArray, zK_length]; exact key_info)
  have HZK := wall (show ZK = Tryd.zeroCells94 by rw [← hZK, zK_eq])
  have HZ1 := wall (show ZK.all (·.oneCell') = true by rw [← hZK]; exact zK_one)
  rw [hZK] at HN
  obtain ⟨ZM, hZM⟩ : ∃ x, zM.toArray = x := ⟨_, rfl⟩
  have HSM := wall (show (Tryd.prog.info? 96).map (·.size) = some ZM.size by rw [← hZM, List.size_toArray, zM_length]; exact mode_info)
  have HZM := wall (show Tryd.zeroCells96 = ZM by rw [← hZM, zM_eq])
  have HZ2 := wall (show ZM.all (·.oneCell') = true by rw [← hZM]; exact mC_one zK_ones _ _ _)
  have HBU := wall (show Tryd.prog.built 96 [] = some ZM by rw [← HZM.out]; kernel_rfl)
  have HSB := wall (show (Tryd.prog.info? 90).map (·.size) = some (b8 v).size by rw [b8_size, hvl]; exact blk_info16)
  obtain ⟨w1, hw1⟩ : ∃ W, W = (w.alloc (.cells (b8 v) 90)).alloc (.cells ZM 96) := ⟨_, rfl⟩
  have HW := wall hw1
  have HB1 := wall (show Below w.heap.size w w1 by rw [hw1]; exact ((Below.refl _ w).alloc (Nat.le_refl _) _).alloc (by simp) _)
  have HKR := wall (show Blk w1 (w.heap.size + 1) 96 ZM by rw [hw1]; exact blk_new' (by simp))
  unfold MnBad
  rw [hZM]
  clear hw1 hZK hZM
  go_enter Tryd.func55, Tryd.ntmps55
  go_upto_region 1 with fail
  rw [HZM.out]
  rw [← HW.out]
  clear HW
  go_wp2_with fail
  (with_reducible refine (HN.out _).mono ?_); rintro e w2 ⟨rfl, hB2⟩
  have HKR2 := wall (HKR.out.next hB2 rfl)
  have HB2 := wall (below_then HB1.out hB2 (Nat.le_refl _))
  clear HKR HB1 hB2 HN
  go_upto_region 2 with (refine wpList_new_row rfl 94 (.tmp 10) (.tmp 15) rfl w2.heap.size ZK rfl rfl 94 ZK (by rw [HZK.out]; exact Blk.new _ _ _) HSK.out rfl HZ1.out w2.heap.size w2 ((Below.refl _ w2).alloc (Nat.le_refl _) _) (Nat.le_refl _) ?_; intro w3 K3 B3)
  have HKR3 := wall (HKR2.out.next B3.out rfl)
  have HB3 := wall (below_then HB2.out B3.out (Nat.le_refl _))
  clear HKR2 HB2 B3 K3
  go_wp2_with (first | (have hb := HBU.out; refine wpList_build_row rfl 96 [] rfl _ hb ?_; clear hb) | (refine wpList_new_row rfl 96 (.tmp 8) (.tmp 27) rfl (w.heap.size + 1) ZM rfl rfl 96 ZM HKR3.out HSM.out rfl HZ2.out w.heap.size w HB3.out (by omega) ?_; intro w4 K4 B4))
  go_light
  exact bodyPost_ret (v := .tuple #[.agg ZM, .int .i64 1]) (results_one_slot Tryd.results55 _ _ (w.heap.size + 1) 96 _ _ _ rfl rfl K4.out Tryd.underlying96 rfl HSM.out) rfl ⟨rfl, B4.out⟩
end Aes
end Go.Proofs.YtpakdcgcgekcfaaDoor

/-
  Package mode: New of no kind; At, Next.
-/
set_option linter.unusedSimpArgs false
set_option linter.unusedVariables false
namespace Go.Proofs.YtpakdcgcgekcfaaDoor
open Go.RowKit

namespace Aes
open Otp R1 Fuse Sha
set_option maxRecDepth 100000 in
set_option maxHeartbeats 4000000 in
/-- A kind that there isn't. -/
theorem mnew_badkind (A : Option Addr) (n cap : Nat) (key : List Nat) (kind : Int) (back : Bool) (v : List Nat) (w : World) (hg : KeyG key) (hlen : n = key.length) (hz : Nats .u8 256 w w.heap.size A key) (hk : kind < 0 ∨ 2 < kind) (hvl : v.length = 16) :
    Calls Tryd.prog 55 #[.int .i64 kind, .bool back, .slice A n cap, .agg (b8 v)] w (MnBad w) := by
  obtain ⟨q, hq, hl4⟩ : ∃ q, (q = 4 ∨ q = 8) ∧ n = 4 * q := by rcases hg.len with h | h; exact ⟨4, .inl rfl, by omega⟩; exact ⟨8, .inr rfl, by omega⟩
  have HN := wall (fun W (h : Below w.heap.size w W) => new_any A n cap q key W hq hl4 hlen.symm ((hz.below h).more h.size))
  have HSK := wall (fun A n c => show (Tryd.prog.info? 94).map (·.size) = some (kC (.slice A n c)).toArray.size by rw [List.size_toArray, kC_length]; exact key_info)
  have HKS := wall (fun A n c => show (kC (.slice A n c)).toArray.size = zK.toArray.size by rw [List.size_toArray, kC_length, List.size_toArray, zK_length])
  obtain ⟨ZK, hZK⟩ : ∃ x, zK.toArray = x := ⟨_, rfl⟩
  have HZK := wall (show ZK = Tryd.zeroCells94 by rw [← hZK, zK_eq])
  rw [hZK] at HKS
  obtain ⟨ZM, hZM⟩ : ∃ x, zM.toArray = x := ⟨_, rfl⟩
  have HSM := wall (show (Tryd.prog.info? 96).map (·.size) = some ZM.size by rw [← hZM, List.size_toArray, zM_length]; exact mode_info)
  have HZM := wall (show Tryd.zeroCells96 = ZM by rw [← hZM, zM_eq])
  have HZ2 := wall (show ZM.all (·.oneCell') = true by rw [← hZM]; exact mC_one zK_ones _ _ _)
  have HBU := wall (show Tryd.prog.built 96 [] = some ZM by rw [← HZM.out]; kernel_rfl)
  obtain ⟨w1, hw1⟩ : ∃ W, W = (w.alloc (.cells (b8 v) 90)).alloc (.cells ZM 96) := ⟨_, rfl⟩
  have HW := wall hw1
  have HB1 := wall (show Below w.heap.size w w1 by rw [hw1]; exact ((Below.refl _ w).alloc (Nat.le_refl _) _).alloc (by simp) _)
  have HKR := wall (show Blk w1 (w.heap.size + 1) 96 ZM by rw [hw1]; exact blk_new' (by simp))
  unfold MnBad
  rw [hZM]
  clear hw1 hZK hZM hz hg hlen hl4 hq
  rcases hk with hk | hk
  all_goals
    go_enter Tryd.func55, Tryd.ntmps55
    go_upto_region 1 with fail
    rw [HZM.out]
    rw [← HW.out]
    clear HW
    go_wp2_with fail
    (with_reducible refine (HN.out _ HB1.out).mono ?_); rintro e w2 ⟨A2, c2, rfl, -, -, -, hB2⟩
    have HKR2 := wall (HKR.out.next hB2 rfl)
    have HB2 := wall (below_then HB1.out hB2 (Nat.le_refl _))
    have h3 := HSK.out A2 (kWords key).length c2
    have h4 := HKS.out A2 (kWords key).length c2
    have h5 := kC_one A2 (kWords key).length c2
    generalize (kC (.slice A2 (kWords key).length c2)).toArray = KC at *
    have H3 := wall h3
    have H4 := wall h4
    have H5 := wall h5
    clear HKR HB1 hB2 HN h3 h4 h5 HSK HKS
    go_upto_region 2 with (refine wpList_new_row rfl 94 (.tmp 10) (.tmp 15) rfl w2.heap.size KC rfl rfl 94 ZK (by rw [HZK.out]; exact Blk.new _ _ _) H3.out H4.out.symm H5.out w2.heap.size w2 ((Below.refl _ w2).alloc (Nat.le_refl _) _) (Nat.le_refl _) ?_; intro w3 K3 B3)
    have HKR3 := wall (HKR2.out.next B3.out rfl)
    have HB3 := wall (below_then HB2.out B3.out (Nat.le_refl _))
    clear HKR2 HB2 B3 K3 H3 H4 H5
    go_wp2_with (first | (have hb := HBU.out; refine wpList_build_row rfl 96 [] rfl _ hb ?_; clear hb) | (refine wpList_new_row rfl 96 (.tmp 8) (.tmp 27) rfl (w.heap.size + 1) ZM rfl rfl 96 ZM HKR3.out HSM.out rfl HZ2.out w.heap.size w HB3.out (by omega) ?_; intro w4 K4 B4))
    go_light
    exact bodyPost_ret (v := .tuple #[.agg ZM, .int .i64 1]) (results_one_slot Tryd.results55 _ _ (w.heap.size + 1) 96 _ _ _ rfl rfl K4.out Tryd.underlying96 rfl HSM.out) rfl ⟨rfl, B4.out⟩
/-- Where a mode's parts lie. -/
structure MvF (MV : Array Value) (A : Option Addr) (L c : Nat) (m : Md) : Prop where
  size : MV.size = 531
  key : ∀ j v, (kC (.slice A L c))[j]? = some v → MV[0 + j]? = some v
  kind : MV[513]? = some (.int .i64 (m.kind : Int))
  back : MV[514]? = some (.bool m.back)
  v : ∀ j x, (v8 m.v)[j]? = some x → MV[515 + j]? = some x
  one : MV.all (·.oneCell') = true
  eq : MV = (mV A L c m).toArray
theorem mvF (A : Option Addr) (L c : Nat) (m : Md) (h : m.v.length = 16) : MvF (mV A L c m).toArray A L c m := by
  have hl := kC_length (.slice A L c)
  have g : ∀ i, (mV A L c m)[513 + i]? = (mT m.kind m.back m.v)[i]? := fun i => by
    rw [mV, mC, List.getElem?_append_right (by omega), hl, show 513 + i - 513 = i by omega]
  refine ⟨by rw [List.size_toArray, mV_length A L c h], fun j v hv => ?_, by rw [List.getElem?_toArray]; exact g 0, by rw [List.getElem?_toArray]; exact g 1, fun j x hx => ?_, mV_one A L c m, rfl⟩
  · have hj : j < (kC (.slice A L c)).length := (List.getElem?_eq_some_iff.1 hv).1
    rw [List.getElem?_toArray, Nat.zero_add, mV, mC, List.getElem?_append_left hj]
    exact hv
  · rw [List.getElem?_toArray, show 515 + j = 513 + (j + 2) by omega, g (j + 2)]
    exact hx
theorem MvF.info {MV : Array Value} {A : Option Addr} {L c : Nat} {m : Md} (h : MvF MV A L c m) : (Tryd.prog.info? 96).map (·.size) = some MV.size := by rw [h.size]; exact mode_info
theorem MvF.rv {MV : Array Value} {A : Option Addr} {L c : Nat} {m : Md} (h : MvF MV A L c m) {w : World} {g : Nat} (hb : Blk w g 96 MV) : w.rangeAt g 515 (b8 m.v).toList := fun j x hx => by
  rw [hb.cell]
  exact h.v j x (by simpa [b8, v8] using hx)
theorem MvF.rk {MV : Array Value} {A : Option Addr} {L c : Nat} {m : Md} (h : MvF MV A L c m) {w : World} {g : Nat} (hb : Blk w g 96 MV) : w.rangeAt g 0 (kC (.slice A L c)).toArray.toList := fun j x hx => by
  rw [hb.cell]
  exact h.key j x (by simpa using hx)
set_option maxRecDepth 100000 in
set_option maxHeartbeats 4000000 in
theorem mat_any (MV : Array Value) (A : Option Addr) (L c : Nat) (m : Md) (w : World) (hF : MvF MV A L c m) (hvl : m.v.length = 16) : Calls Tryd.prog 61 #[.agg MV] w (BkOut w m.v) := by
  obtain ⟨v, hv⟩ : ∃ v, m.v = v := ⟨_, rfl⟩
  have HF := wall hF
  have HI := wall hF.info
  have HSB := wall (show (Tryd.prog.info? 90).map (·.size) = some (b8 v).size by rw [b8_size, ← hv, hvl]; exact blk_info16)
  obtain ⟨w1, hw1⟩ : ∃ W, W = (w.alloc (.cells MV 96)).alloc (.cells (b8 z16) 90) := ⟨_, rfl⟩
  have HW := wall hw1
  have HB1 := wall (show Below w.heap.size w w1 by rw [hw1]; exact ((Below.refl _ w).alloc (Nat.le_refl _) _).alloc (by simp) _)
  have HKR := wall (show Blk w1 (w.heap.size + 1) 90 (b8 z16) by rw [hw1]; exact blk_new' (by simp))
  have HR := wall (show w1.rangeAt w.heap.size 515 (b8 v).toList by rw [← hv]; exact hF.rv (by rw [hw1]; exact (Blk.new _ _ _).alloc _))
  have HZZ := wall (show (b8 z16).size = (b8 v).size by rw [b8_size, b8_size, ← hv, hvl]; rfl)
  rw [hv]
  clear hw1 hF hv
  go_enter Tryd.func61, Tryd.ntmps61
  go_upto_region 1 with fail
  change Code.wp _ _ _ _ ((w.alloc (.cells MV 96)).alloc (.cells (b8 z16) 90))
  rw [← HW.out]
  clear HW
  go_wp2_with (first | refine wpList_load_arr rfl 90 _ rfl w.heap.size 515 rfl (b8 v) _ HR.out Tryd.underlying90 rfl HSB.out ?_ | (refine wpList_new_row rfl 90 (.tmp 2) (.tmp 4) rfl (w.heap.size + 1) (b8 v) rfl rfl 90 (b8 z16) HKR.out HSB.out HZZ.out (b8_one _) w.heap.size w HB1.out (by omega) ?_; intro w7 KD B7))
  go_light
  exact bodyPost_ret (v := .agg (b8 v)) (results_cell_row Tryd.results61 _ _ (w.heap.size + 1) 90 (b8 v) (0, 0) _ rfl KD.out Tryd.underlying90 rfl HSB.out) rfl ⟨rfl, B7.out⟩
/-- One more: from the last byte on. -/
def nxS (b : List Nat) : Nat → List Nat × Nat
  | 0 => (b, 1)
  | s + 1 => ((nxS b s).1.set (15 - s) (((nxS b s).2 + at0 b (15 - s)) % 256), ((nxS b s).2 + at0 b (15 - s)) / 256)
def nextB (b : List Nat) : List Nat := (nxS b 16).1
theorem nxS_ok {b : List Nat} (hb : b.length = 16) (hbb : ∀ x ∈ b, x < 256) : ∀ s, s ≤ 16 → (nxS b s).1.length = 16 ∧ (nxS b s).2 ≤ 1 ∧ (∀ x ∈ (nxS b s).1, x < 256) ∧ ∀ j, j < 16 - s → (nxS b s).1[j]? = b[j]?
  | 0, _ => ⟨hb, Nat.le_refl _, hbb, fun _ _ => rfl⟩
  | s + 1, h => by
    obtain ⟨h1, h2, h3, h4⟩ := nxS_ok hb hbb s (by omega)
    have hx : at0 b (15 - s) < 256 := by
      have := at0_get (b := b) (i := 15 - s) (by omega)
      exact hbb _ (List.mem_of_getElem? this)
    refine ⟨by rw [nxS, List.length_set]; exact h1, by rw [nxS]; simp only; omega, fun x hx => ?_, fun j hj => ?_⟩
    · rw [nxS] at hx
      rcases List.mem_or_eq_of_mem_set hx with h | h
      · exact h3 x h
      · rw [h]; exact Nat.mod_lt _ (by decide)
    · rw [nxS]
      simp only
      rw [List.getElem?_set_ne (by omega)]
      exact h4 j (by omega)
theorem nextB_ok {b : List Nat} (hb : b.length = 16) (hbb : ∀ x ∈ b, x < 256) : (nextB b).length = 16 ∧ ∀ x ∈ nextB b, x < 256 := ⟨(nxS_ok hb hbb 16 (Nat.le_refl _)).1, (nxS_ok hb hbb 16 (Nat.le_refl _)).2.2.1⟩
set_option maxRecDepth 100000 in
set_option maxHeartbeats 4000000 in
theorem next_any (b : List Nat) (w : World) (hb : b.length = 16) (hbb : ∀ x ∈ b, x < 256) : Calls Tryd.prog 62 #[.agg (b8 b)] w (BkOut w (nextB b)) := by
  obtain ⟨w1, hw1⟩ : ∃ W, W = (w.alloc (.cells (b8 b) 90)).alloc (.cells (b8 z16) 90) := ⟨_, rfl⟩
  have HW := wall hw1
  have HA1 := wall (show Ab w w.heap.size (w.heap.size + 1) b w1 by
    rw [hw1]
    exact ⟨(Blk.new _ _ _).alloc _, blk_new' (by simp), ((Below.refl _ w).alloc (Nat.le_refl _) _).alloc (by simp) _, Nat.le_refl _, by omega, by omega⟩)
  have HOK := wall (fun s (h : s ≤ 16) => nxS_ok hb hbb s h)
  have HBX := wall (fun s (h : s < 16) => show at0 b (15 - s) < 256 ∧ b[15 - s]? = some (at0 b (15 - s)) by
    have := at0_get (b := b) (i := 15 - s) (by omega)
    exact ⟨hbb _ (List.mem_of_getElem? this), this⟩)
  have HNX := wall (fun s => show nxS b (s + 1) = ((nxS b s).1.set (15 - s) (((nxS b s).2 + at0 b (15 - s)) % 256), ((nxS b s).2 + at0 b (15 - s)) / 256) from rfl)
  have HE := wall (show nextB b = (nxS b 16).1 from rfl)
  have H0 := wall (show nxS b 0 = (b, 1) from rfl)
  rw [HE.out]
  generalize nxS b = nx at *
  clear hw1 hb hbb
  go_enter Tryd.func62, Tryd.ntmps62
  go_upto_region 1 with fail
  change Code.wp _ _ _ _ ((w.alloc (.cells (b8 b) 90)).alloc (.cells (b8 z16) 90))
  rw [← HW.out]
  clear HW
  obtain ⟨gR, hgR⟩ : ∃ x, x = w.heap.size + 1 := ⟨_, rfl⟩
  rw [← hgR] at HA1
  rw [← hgR]
  clear hgR
  go_wp2_with fail
  go_loopg [3, 4] 16 (fun gm s3 s4 wr => ∃ s : Nat, s + gm = 16 ∧ s3 = .int .u16 ((nx s).2 : Int) ∧ s4 = .int .i64 (15 - (s : Int)) ∧ Wall (Ab w w.heap.size gR (nx s).1 wr))
  case atStart => exact ⟨0, by omega, by rw [H0.out]; rfl, by go_num, by rw [H0.out]; exact HA1⟩
  case round =>
    clear HA1
    obtain ⟨s, hg, rfl, rfl, HA⟩ := hrel
    have HG := wall hg
    have hs : s ≤ 16 := by omega
    clear hg
    obtain ⟨k1, k2, k3, k4⟩ := HOK.out s hs
    have HNXs := HNX.out s
    obtain ⟨p, hp⟩ : ∃ p, nx s = p := ⟨_, rfl⟩
    rw [hp] at HA k1 k2 k3 k4 HNXs ⊢
    obtain ⟨cur, cy⟩ := p
    simp only at HA k1 k2 k3 k4 HNXs ⊢
    by_cases hlt : s < 16
    · obtain ⟨x8, hbx⟩ := HBX.out s hlt
      have hcx := (k4 (15 - s) (by omega)).trans hbx
      generalize at0 b (15 - s) = x at *
      obtain ⟨j, hj⟩ : ∃ j : Nat, 15 - s = j := ⟨_, rfl⟩
      rw [hj] at hcx HNXs
      have hjs : (15 : Int) - (s : Int) = (j : Int) := by omega
      have hj16 : j < 16 := by omega
      obtain ⟨cc, cf, cs, HA2⟩ := HA.out.put (y := (cy + x) % 256) hcx
      have e1 : IntKind.u16.wrap ((cy : Int) + (x : Int)) = ((cy + x : Nat) : Int) := by rw [IntKind.wrap_u16]; omega
      have e2 : IntKind.u8.wrap ((cy + x : Nat) : Int) = (((cy + x) % 256 : Nat) : Int) := by rw [IntKind.wrap_u8]; omega
      have e3 : (((cy + x : Nat) : Int)) / 256 = (((cy + x) / 256 : Nat) : Int) := by omega
      have HN2 := wall HNXs
      rw [hjs]
      clear k1 k2 k3 k4 hbx hcx HNXs HA hp hj
      go_wp2_with fail
      go_light
      go_roundg (16 - (s + 1))
      case measure => have := HG.out; omega
      case rel => exact ⟨s + 1, by omega, by rw [HN2.out]; exact congrArg (Value.int .u16) (by omega), by go_num, by rw [HN2.out, show ((cy : Int) + (x : Int)) % 256 = (((cy + x) % 256 : Nat) : Int) by omega]; exact wall HA2.out⟩
    · have hs16 : s = 16 := by omega
      subst hs16
      have HP := wall hp
      have HSZ := wall (show (Tryd.prog.info? 90).map (·.size) = some (b8 cur).size by rw [b8_size, k1]; exact blk_info16)
      have HZZ := wall (show (b8 z16).size = (b8 cur).size by rw [b8_size, b8_size, k1]; rfl)
      have o2 := HA.out.o2
      clear k1 k2 k3 k4 HNXs hp
      go_wp2_with (first | refine wpList_load_row rfl 90 _ rfl w.heap.size rfl 90 (b8 cur) (0, 0) _ HA.out.kb Tryd.underlying90 rfl HSZ.out ?_ | (refine wpList_new_row rfl 90 (.tmp 2) (.tmp 21) rfl gR (b8 cur) rfl rfl 90 (b8 z16) HA.out.kr HSZ.out HZZ.out (b8_one _) w.heap.size w HA.out.bel o2 ?_; intro w7 KD B7))
      go_light
      exact bodyPost_ret (v := .agg (b8 cur)) (results_cell_row Tryd.results62 _ _ gR 90 (b8 cur) (0, 0) _ rfl KD.out Tryd.underlying90 rfl HSZ.out) rfl ⟨by rw [HP.out], B7.out⟩
end Aes
end Go.Proofs.YtpakdcgcgekcfaaDoor

/-
  A drawn region of two loads, an address, a store into a block's middle and a store: each order ends the same.
-/
set_option linter.unusedSimpArgs false
set_option linter.unusedVariables false
namespace Go.Proofs.YtpakdcgcgekcfaaDoor
open Go Go.RowKit

section
variable {P : Program}
theorem wp_store_mid_in {o : Oper} {a : Act} {w : World} {K : Act → World → Prop} {Q : Exit → Act → World → Prop} {f : Nat → Option Bool} (hgd : o.guard = none) (ty : TypeId) (x y : Operand) (ho : o.op = .store ty x y) (hdst : o.dst = none)
    (g off : Nat) (cells : Array Value) (hx : a.eval x = .pointer (some ⟨g, off, none⟩)) (hy : a.eval y = .agg cells)
    (t : TypeId) (L : List Value) (hg : Blk w g t L.toArray) (hfit : off + cells.size ≤ L.length) (hi : (P.info? ty).map (·.size) = some cells.size) (h1 : cells.all (·.oneCell') = true)
    (h : ∀ w', Blk w' g t (splice L off cells.toList).toArray → Frm [g] w w' → K a w') : if Region.wanted o f = true then Oper.wp P o a w K Q else K (a.put o.dst undef) w := by
  rw [if_pos (wanted_none hgd)]
  refine wp_store_mid ty x y ho g off cells hx hy (fun j hj => ⟨by rw [hg.cell]; simp; omega, hg.frozen _⟩) hi h1 ?_
  rw [hdst]
  exact h _ (blk_setCells cells.toList off L w hg (by simpa using hfit)) (frm_setCells _ _ _ _ _ (Frm.refl _ _) (.inl (by simp)))
theorem wp_val_in {o : Oper} {a : Act} {w : World} {K : Act → World → Prop} {Q : Exit → Act → World → Prop} {f : Nat → Option Bool} (hgd : o.guard = none) (v : Value) (hy : (execOp a.eval o).run P w = .ok (.value v) w) (h : K (a.put o.dst v) w) :
    if Region.wanted o f = true then Oper.wp P o a w K Q else K (a.put o.dst undef) w := by
  rw [if_pos (wanted_none hgd)]
  unfold Oper.wp
  rw [hy]
  exact h
theorem wp_two_rows5 {id : Nat} {Q : Exit → Act → World → Prop} {a : Act} {w : World} {o0 o1 o2 o3 o4 : Oper} (hm : P.follows .mixedOrders = true)
    (hr : readyB [o0, o1, o2, o3, o4].toArray [([false, false, false, false, false], [0, 1]), ([true, false, false, false, false], [1, 2]), ([false, true, false, false, false], [0]), ([true, true, false, false, false], [2]), ([true, false, true, false, false], [1, 3]), ([true, true, true, false, false], [3]), ([true, false, true, true, false], [1]), ([true, true, true, true, false], [4]), ([true, true, true, true, true], [])] = true)
    (g0 : o0.guard = none) (g1 : o1.guard = none) (g2 : o2.guard = none) (g3 : o3.guard = none) (g4 : o4.guard = none) (n3 : o3.dst = none) (n4 : o4.dst = none)
    (t0 t1 : TypeId) (x y q : Operand) (i j k : Tmp) (hij : i ≠ j) (hjk : j ≠ k) (p0 : o0.op = .load t0 x) (p1 : o1.op = .load t1 y) (p3 : o3.op = .store t0 (.tmp k) (.tmp i)) (p4 : o4.op = .store t1 q (.tmp j)) (d0 : o0.dst = some i) (d1 : o1.dst = some j) (d2 : o2.dst = some k)
    (gx gy gp off gq : Nat) (ca cb : Array Value) (kx ky kp kq : TypeId) (L : List Value) (cq : Array Value) (e0 e1 : TypeDesc)
    (hx : a.eval x = .pointer (some ⟨gx, 0, none⟩)) (hx' : (a.put (some j) (.agg cb)).eval x = .pointer (some ⟨gx, 0, none⟩))
    (hy : a.eval y = .pointer (some ⟨gy, 0, none⟩)) (hy' : (a.put (some i) (.agg ca)).eval y = .pointer (some ⟨gy, 0, none⟩)) (hy2 : ((a.put (some i) (.agg ca)).put (some k) (.pointer (some ⟨gp, off, none⟩))).eval y = .pointer (some ⟨gy, 0, none⟩))
    (v0 : ∀ w, (execOp (a.put (some i) (.agg ca)).eval o2).run P w = .ok (.value (.pointer (some ⟨gp, off, none⟩))) w) (v1 : ∀ w, (execOp ((a.put (some i) (.agg ca)).put (some j) (.agg cb)).eval o2).run P w = .ok (.value (.pointer (some ⟨gp, off, none⟩))) w)
    (hp : ((a.put (some i) (.agg ca)).put (some k) (.pointer (some ⟨gp, off, none⟩))).eval (.tmp k) = .pointer (some ⟨gp, off, none⟩)) (hs : ((a.put (some i) (.agg ca)).put (some k) (.pointer (some ⟨gp, off, none⟩))).eval (.tmp i) = .agg ca)
    (hp' : (((a.put (some i) (.agg ca)).put (some j) (.agg cb)).put (some k) (.pointer (some ⟨gp, off, none⟩))).eval (.tmp k) = .pointer (some ⟨gp, off, none⟩)) (hs' : (((a.put (some i) (.agg ca)).put (some j) (.agg cb)).put (some k) (.pointer (some ⟨gp, off, none⟩))).eval (.tmp i) = .agg ca)
    (hq : (((a.put (some i) (.agg ca)).put (some j) (.agg cb)).put (some k) (.pointer (some ⟨gp, off, none⟩))).eval q = .pointer (some ⟨gq, 0, none⟩)) (ht : (((a.put (some i) (.agg ca)).put (some j) (.agg cb)).put (some k) (.pointer (some ⟨gp, off, none⟩))).eval (.tmp j) = .agg cb)
    (bx : Blk w gx kx ca) (bY : Blk w gy ky cb) (bp : Blk w gp kp L.toArray) (bq : Blk w gq kq cq) (npy : gy ≠ gp) (npq : gq ≠ gp)
    (u0 : P.underlying t0 = some e0) (r0 : rowB e0 = true) (z0 : (P.info? t0).map (·.size) = some ca.size) (s0 : off + ca.size ≤ L.length) (c0 : ca.all (·.oneCell') = true)
    (u1 : P.underlying t1 = some e1) (r1 : rowB e1 = true) (z1 : (P.info? t1).map (·.size) = some cb.size) (s1 : cq.size = cb.size) (c1 : cb.all (·.oneCell') = true)
    (h : ∀ w', Blk w' gp kp (splice L off ca.toList).toArray → Blk w' gq kq cb → Frm [gp, gq] w w' → Q .normal (((a.put (some i) (.agg ca)).put (some j) (.agg cb)).put (some k) (.pointer (some ⟨gp, off, none⟩))) w') :
    (Code.region id [o0, o1, o2, o3, o4].toArray true).wp P Q a w := by
  have R : ∀ s r, (s, r) ∈ _ → _ := fun s r hm => readyB_at hr (s := s) (r := r) hm
  have fin : ∀ w', Blk w' gp kp (splice L off ca.toList).toArray → Blk w' gq kq cb → Frm [gp, gq] w w' → ∀ f, wpAny P .any [o0, o1, o2, o3, o4].toArray Q f #[true, true, true, true, true] (((a.put (some i) (.agg ca)).put (some j) (.agg cb)).put (some k) (.pointer (some ⟨gp, off, none⟩))) w' := fun w' k1 k2 k3 f =>
    wpAny_done (R [true, true, true, true, true] [] (by simp)) (h w' k1 k2 k3) f
  have last : ∀ w', Blk w' gp kp (splice L off ca.toList).toArray → Blk w' gq kq cq → Frm [gp] w w' → wpAny P .any [o0, o1, o2, o3, o4].toArray Q 1 #[true, true, true, true, false] (((a.put (some i) (.agg ca)).put (some j) (.agg cb)).put (some k) (.pointer (some ⟨gp, off, none⟩))) w' := fun w' k1 k2 k3 => by
    refine wpAny_ready (rs := [4]) (R [true, true, true, true, false] [4] (by simp)) (by simp) (AllReady.cons (o := o4) rfl (fun K hK => ?_) AllReady.nil)
    refine wp_store_in g4 t1 q (.tmp j) p4 n4 gq cb hq ht kq cq k2 z1 s1 c1 (fun w2 k4 k5 => hK _ _ ?_)
    refine fin w2 (k1.frm k5 (by simp; exact fun h => npq h.symm)) k4 ?_ 0
    exact (k3.mono (T := [gp, gq]) (fun x hx _ => by simp at hx ⊢; exact .inl hx)).trans (k5.mono (fun x hx _ => by simp at hx ⊢; exact .inr hx))
  have all3 : wpAny P .any [o0, o1, o2, o3, o4].toArray Q 2 #[true, true, true, false, false] (((a.put (some i) (.agg ca)).put (some j) (.agg cb)).put (some k) (.pointer (some ⟨gp, off, none⟩))) w.drew := by
    refine wpAny_ready (rs := [3]) (R [true, true, true, false, false] [3] (by simp)) (by simp) (AllReady.cons (o := o3) rfl (fun K hK => ?_) AllReady.nil)
    refine wp_store_mid_in g3 t0 (.tmp k) (.tmp i) p3 n3 gp off ca hp' hs' kp L bp.drew s0 z0 c0 (fun w2 k4 k5 => hK _ _ ?_)
    exact last w2 k4 (bq.drew.frm k5 (by simp; exact npq)) ((Frm.refl _ _).drew.trans k5)
  have two : wpAny P .any [o0, o1, o2, o3, o4].toArray Q 3 #[true, true, false, false, false] ((a.put (some i) (.agg ca)).put (some j) (.agg cb)) w.drew := by
    refine wpAny_ready (rs := [2]) (R [true, true, false, false, false] [2] (by simp)) (by simp) (AllReady.cons (o := o2) rfl (fun K hK => ?_) AllReady.nil)
    refine wp_val_in g2 _ (v1 _) (hK _ _ ?_)
    rw [d2]
    exact all3
  refine wp_region_any hm ?_
  change wpAny P .any [o0, o1, o2, o3, o4].toArray Q 5 #[false, false, false, false, false] a w.drew
  refine wpAny_ready (rs := [0, 1]) (R [false, false, false, false, false] [0, 1] (by simp)) (by simp) (AllReady.cons (o := o0) rfl (fun K hK => ?_) (AllReady.cons (o := o1) rfl (fun K hK => ?_) AllReady.nil))
  · refine wp_load_in g0 t0 x p0 gx hx kx ca e0 bx.drew u0 r0 z0 (hK _ _ ?_)
    rw [d0]
    refine wpAny_ready (rs := [1, 2]) (R [true, false, false, false, false] [1, 2] (by simp)) (by simp) (AllReady.cons (o := o1) rfl (fun K hK => ?_) (AllReady.cons (o := o2) rfl (fun K hK => ?_) AllReady.nil))
    · refine wp_load_in g1 t1 y p1 gy hy' ky cb e1 bY.drew u1 r1 z1 (hK _ _ ?_)
      rw [d1]
      exact two
    · refine wp_val_in g2 _ (v0 _) (hK _ _ ?_)
      rw [d2]
      refine wpAny_ready (rs := [1, 3]) (R [true, false, true, false, false] [1, 3] (by simp)) (by simp) (AllReady.cons (o := o1) rfl (fun K hK => ?_) (AllReady.cons (o := o3) rfl (fun K hK => ?_) AllReady.nil))
      · refine wp_load_in g1 t1 y p1 gy hy2 ky cb e1 bY.drew u1 r1 z1 (hK _ _ ?_)
        rw [d1, ← put_comm hjk]
        exact all3
      · refine wp_store_mid_in g3 t0 (.tmp k) (.tmp i) p3 n3 gp off ca hp hs kp L bp.drew s0 z0 c0 (fun w2 k4 k5 => hK _ _ ?_)
        refine wpAny_ready (rs := [1]) (R [true, false, true, true, false] [1] (by simp)) (by simp) (AllReady.cons (o := o1) rfl (fun K hK => ?_) AllReady.nil)
        refine wp_load_in g1 t1 y p1 gy hy2 ky cb e1 (bY.drew.frm k5 (by simp; exact npy)) u1 r1 z1 (hK _ _ ?_)
        rw [d1, ← put_comm hjk]
        exact last w2 k4 (bq.drew.frm k5 (by simp; exact npq)) ((Frm.refl _ _).drew.trans k5)
  · refine wp_load_in g1 t1 y p1 gy hy ky cb e1 bY.drew u1 r1 z1 (hK _ _ ?_)
    rw [d1]
    refine wpAny_ready (rs := [0]) (R [false, true, false, false, false] [0] (by simp)) (by simp) (AllReady.cons (o := o0) rfl (fun K hK => ?_) AllReady.nil)
    refine wp_load_in g0 t0 x p0 gx hx' kx ca e0 bx.drew u0 r0 z0 (hK _ _ ?_)
    rw [d0, ← put_comm hij]
    exact two
end
end Go.Proofs.YtpakdcgcgekcfaaDoor

/-
  Package mode: Step (words for its walk).
-/
set_option linter.unusedSimpArgs false
set_option linter.unusedVariables false
namespace Go.Proofs.YtpakdcgcgekcfaaDoor
open Go.RowKit

namespace Aes
open Otp R1 Fuse Sha
/-- A step, plain. -/
def stepM (m : Md) (b : List Nat) : Md × List Nat :=
  if m.kind = 2 then ({ m with v := nextB m.v }, xorL b (encB m.key m.v))
  else if m.kind = 1 then
    if m.back then ({ m with v := b }, xorL (decB m.key b) m.v)
    else ({ m with v := encB m.key (xorL b m.v) }, encB m.key (xorL b m.v))
  else if m.back then (m, decB m.key b) else (m, encB m.key b)
theorem stepM_ok {m : Md} (h : m.Ok) {b : List Nat} (hb : b.length = 16) (hbb : ∀ x ∈ b, x < 256) : (stepM m b).1.Ok ∧ (stepM m b).2.length = 16 ∧ (∀ x ∈ (stepM m b).2, x < 256) ∧ (stepM m b).1.key = m.key ∧ (stepM m b).1.kind = m.kind ∧ (stepM m b).1.back = m.back := by
  obtain ⟨h1, h2, h3, h4⟩ := h
  have ke := fun c => encB_ok h1.ok c
  have kd := fun c => decB_ok h1.ok c
  have kn := nextB_ok h3 h4
  obtain ⟨key, kd2, back, v⟩ := m
  simp only at *
  rw [stepM]
  generalize encB key = E at *
  generalize decB key = D at *
  generalize nextB v = n at *
  by_cases k2 : kd2 = 2
  · rw [if_pos k2]
    exact ⟨⟨h1, h2, kn.1, kn.2⟩, xorL_length hb (ke _).1, xorL_byte hbb (ke _).2, rfl, rfl, rfl⟩
  rw [if_neg k2]
  by_cases k1 : kd2 = 1
  · rw [if_pos k1]
    cases back
    · exact ⟨⟨h1, h2, (ke _).1, (ke _).2⟩, (ke _).1, (ke _).2, rfl, rfl, rfl⟩
    · exact ⟨⟨h1, h2, hb, hbb⟩, xorL_length (kd _).1 h3, xorL_byte (kd _).2 h4, rfl, rfl, rfl⟩
  rw [if_neg k1]
  cases back
  · exact ⟨⟨h1, h2, h3, h4⟩, (ke _).1, (ke _).2, rfl, rfl, rfl⟩
  · exact ⟨⟨h1, h2, h3, h4⟩, (kd _).1, (kd _).2, rfl, rfl, rfl⟩
/-- Two blocks in a row, just made. -/
def TwoV (a b : List Nat) (v : Value) (W : World) : Prop := ∃ g, v = .slice (some ⟨g, 0, none⟩) 2 2 ∧ Two W W.heap.size g a b
theorem TwoV.soft {a b : List Nat} : ∀ v W W', Rel.Soft W W' → TwoV a b v W → TwoV a b v W' := fun _ _ _ h ⟨g, h1, h2, h3, h4⟩ =>
  ⟨g, h1, Nat.lt_of_lt_of_le h2 h.size, fun i x hx => h.cell _ _ (h3 i x hx), fun i x hx => h.cell _ _ (h4 i x hx)⟩
theorem blk_info_zero : ∃ ie z, Tryd.prog.info? 90 = some ie ∧ ie.zero = some z ∧ ie.size = 16 ∧ z.cells = b8 z16 := by
  obtain ⟨ie, h1, h2, h3, h4⟩ := info_row (P := Tryd.prog) (e := 90) (z := .agg (b8 z16)) (size := 16) (bytes := 16) (by kernel_rfl)
  exact ⟨ie, _, h1, h2, h3, rfl⟩
theorem rel_two {o : Oper} {a : Act} {W : World} (x y : Operand) (ho : o.op = .buildSlice 190 2 #[(0, x), (1, y)]) (A B : List Nat) (hx : a.eval x = .agg (b8 A)) (hy : a.eval y = .agg (b8 B)) (hA : A.length = 16) (hB : B.length = 16) :
    Rel.relAt Tryd.prog o a W (TwoV A B) := by
  obtain ⟨ie, z, h1, h2, h3, h4⟩ := blk_info_zero
  have hf : Instr.fill (fun i => some (i * ie.size, ie.size)) ((Array.range (2 * ie.size)).map (z.cells[· % z.cells.size]!)) [(0, .agg (b8 A)), (1, .agg (b8 B))] = some (v8 A ++ v8 B).toArray := by
    rw [h3, h4]
    have hz : ((Array.range (2 * 16)).map ((b8 z16)[· % (b8 z16).size]!)) = (v8 (List.replicate 32 0)).toArray := by kernel_rfl
    rw [hz]
    have f1 := fill_part (fun i => some (i * 16, 16)) (v8 (List.replicate 32 0)) 0 (v8 A) [(1, .agg (b8 B))] 0 (by rw [v8_length, hA]) (by rw [v8_length, v8_length, hA]; decide)
    have f2 := fill_part (fun i => some (i * 16, 16)) (splice (v8 (List.replicate 32 0)) 0 (v8 A)) 1 (v8 B) [] 16 (by rw [v8_length, hB]) (by rw [length_splice _ _ _ (by rw [v8_length, v8_length, hA]; decide), v8_length, v8_length, hB]; decide)
    refine f1.trans (f2.trans ?_)
    have hs := splice_two (v8 (List.replicate 32 0)) (v8 A) (v8 B) (by rw [v8_length, v8_length, v8_length, hA, hB]; rfl)
    rw [v8_length, hA] at hs
    rw [hs]
    rfl
  unfold Rel.relAt execOp
  simp only [ho]
  rw [Sem.run_bind, run_buildSlice (P := Tryd.prog) W 190 90 2 _ _ ie z Tryd.underlying190 h1 h2 (by rw [h3]; decide) (by rw [h3]; decide) (by simp only [List.map_toArray, List.map_cons, List.map_nil, hx, hy]; exact hf)]
  simp only [Result.andThen_ok, Sem.run_pure, Rel.relUpon]
  have hn := Blk.new W 90 (v8 A ++ v8 B).toArray
  refine ⟨Rel.Grow.alloc _ _, W.heap.size, rfl, hn.lt, hn.rangeAt 0 _ (fun j v hv => ?_), hn.rangeAt 16 _ (fun j v hv => ?_)⟩
  · have hv : (v8 A)[j]? = some v := hv
    rw [Nat.zero_add, List.getElem?_append_left ((List.getElem?_eq_some_iff.1 hv).1)]
    exact hv
  · have hv : (v8 B)[j]? = some v := hv
    rw [List.getElem?_append_right (by rw [v8_length, hA]; omega), v8_length, hA, show 16 + j - 16 = j by omega]
    exact hv
/-- A mode, a block, room for the results. -/
structure Sb (W : World) (gM gB gS gR : Nat) (MV ZM : Array Value) (b : List Nat) (w : World) : Prop where
  km : Blk w gM 96 MV
  kb : Blk w gB 90 (b8 b)
  ks : Blk w gS 96 ZM
  kr : Blk w gR 90 (b8 z16)
  bel : Below W.heap.size W w
  o1 : W.heap.size ≤ gM
  o2 : gM < gB
  o3 : gB < gS
  o4 : gS < gR
section
variable {W w w' : World} {gM gB gS gR : Nat} {MV MV' ZM : Array Value} {b b' : List Nat}
theorem Sb.old (h : Sb W gM gB gS gR MV ZM b w) (hb : Below w.heap.size w w') : Sb W gM gB gS gR MV ZM b w' := ⟨h.km.next hb rfl, h.kb.next hb rfl, h.ks.next hb rfl, h.kr.next hb rfl, below_then h.bel hb (Nat.le_refl _), h.o1, h.o2, h.o3, h.o4⟩
theorem Sb.putB (h : Sb W gM gB gS gR MV ZM b w) (hf : Frm [gB] w w') (hk : Blk w' gB 90 (b8 b')) : Sb W gM gB gS gR MV ZM b' w' := by
  have o1 := h.o1
  have o2 := h.o2
  have o3 := h.o3
  have o4 := h.o4
  exact ⟨h.km.frm hf (by simp; omega), hk, h.ks.frm hf (by simp; omega), h.kr.frm hf (by simp; omega), Below.frm h.bel hf (Nat.le_refl _) (fun x hx => by simp at hx; omega), o1, o2, o3, o4⟩
theorem Sb.putM (h : Sb W gM gB gS gR MV ZM b w) (hf : Frm [gM] w w') (hk : Blk w' gM 96 MV') : Sb W gM gB gS gR MV' ZM b w' := by
  have o1 := h.o1
  have o2 := h.o2
  have o3 := h.o3
  have o4 := h.o4
  exact ⟨hk, h.kb.frm hf (by simp; omega), h.ks.frm hf (by simp; omega), h.kr.frm hf (by simp; omega), Below.frm h.bel hf (Nat.le_refl _) (fun x hx => by simp at hx; omega), o1, o2, o3, o4⟩
end
section
variable {W w w' : World} {gM gB gS gR : Nat} {MV MV' ZM : Array Value} {b b' : List Nat}
theorem Sb.far (h : Sb W gM gB gS gR MV ZM b w) {S : List Nat} (hf : Frm S w w') (hS : ∀ x ∈ S, gR < x) : Sb W gM gB gS gR MV ZM b w' := by
  have o1 := h.o1
  have o2 := h.o2
  have o3 := h.o3
  have o4 := h.o4
  exact ⟨h.km.frm hf (fun hx => by have := hS _ hx; omega), h.kb.frm hf (fun hx => by have := hS _ hx; omega), h.ks.frm hf (fun hx => by have := hS _ hx; omega), h.kr.frm hf (fun hx => by have := hS _ hx; omega), Below.frm h.bel hf (Nat.le_refl _) (fun x hx => by have := hS _ hx; omega), o1, o2, o3, o4⟩
theorem Sb.put2 (h : Sb W gM gB gS gR MV ZM b w) (hf : Frm [gM, gB] w w') (hk : Blk w' gM 96 MV') (hb : Blk w' gB 90 (b8 b')) : Sb W gM gB gS gR MV' ZM b' w' := by
  have o1 := h.o1
  have o2 := h.o2
  have o3 := h.o3
  have o4 := h.o4
  exact ⟨hk, hb, h.ks.frm hf (by simp; omega), h.kr.frm hf (by simp; omega), Below.frm h.bel hf (Nat.le_refl _) (fun x hx => by simp at hx; omega), o1, o2, o3, o4⟩
end
/-- A block that was just made. -/
def NewB (B : Nat) (v : Value) (W : World) : Prop := ∃ g, v = .pointer (some ⟨g, 0, none⟩) ∧ B ≤ g ∧ Blk W g 90 (b8 z16)
theorem NewB.grow {B : Nat} : ∀ v W W', Rel.Grow W W' → NewB B v W → NewB B v W' := fun _ _ _ h ⟨g, h1, h2, h3⟩ => ⟨g, h1, h2, h3.next h rfl⟩
theorem TwoV.grow {a b : List Nat} : ∀ v W W', Rel.Grow W W' → TwoV a b v W → TwoV a b v W' := fun v W W' h => TwoV.soft v W W' h.soft
theorem rel_new {o : Oper} {a : Act} {B : Nat} {W : World} (ho : o.op = .alloc 90) (hB : B ≤ W.heap.size) : RelG.relAt Tryd.prog o a W (NewB B) := by
  have hz := Tryd.zeroValue90
  have hs := Tryd.sizeOf90
  unfold RelG.relAt execOp
  simp only [ho]
  go_simp
  exact ⟨Rel.Grow.alloc _ _, W.heap.size, rfl, hB, Blk.new _ _ _⟩
theorem mV_set (A : Option Addr) (L c : Nat) (m : Md) (v : List Nat) (h : m.v.length = 16) (hv : v.length = 16) : splice (mV A L c m) 515 (v8 v) = mV A L c { m with v := v } := by
  have hl := kC_length (.slice A L c)
  unfold splice mV mC
  rw [List.take_append, List.drop_append, hl, v8_length, hv, List.take_of_length_le (by omega), List.drop_of_length_le (by omega), List.drop_of_length_le (by rw [mT_length _ _ h]; decide)]
  simp [mT]
def StepOut (w : World) (A : Option Addr) (L c : Nat) (r : Md × List Nat) (e : Ending) (w' : World) : Prop := e = .returned (.tuple #[.agg (mV A L c r.1).toArray, .agg (b8 r.2)]) ∧ Below w.heap.size w w'
end Aes
end Go.Proofs.YtpakdcgcgekcfaaDoor

/-
  Package mode: Step.
-/
set_option linter.unusedSimpArgs false
set_option linter.unusedVariables false
namespace Go.Proofs.YtpakdcgcgekcfaaDoor
open Go.RowKit

namespace Aes
open Otp R1 Fuse Sha
/-- What is known of a mode's cells. -/
def M2F (ZM : Array Value) (ML : List Value) : Prop := (Tryd.prog.info? 96).map (·.size) = some ML.toArray.size ∧ ZM.size = ML.toArray.size ∧ ML.toArray.all (·.oneCell') = true
theorem m2f (A : Option Addr) (L c : Nat) {m : Md} (h : m.v.length = 16) : M2F zM.toArray (mV A L c m) := ⟨mV_info A L c h, by rw [List.size_toArray, List.size_toArray, zM_length, mV_length A L c h], mV_one A L c m⟩
set_option maxRecDepth 100000 in
set_option maxHeartbeats 4000000 in
theorem step_any (A : Option Addr) (L c : Nat) (m : Md) (b : List Nat) (w : World) (hm : m.Ok) (hk : KeyV w w.heap.size m.key A L c) (hb : b.length = 16) (hbb : ∀ x ∈ b, x < 256) :
    Calls Tryd.prog 63 #[.agg (mV A L c m).toArray, .agg (b8 b)] w (StepOut w A L c (stepM m b)) := by
  obtain ⟨hg, hkd, hvl, hvb⟩ := hm
  have HKD := wall (encB_ok hg.ok (key := m.key))
  have HKDD := wall (decB_ok hg.ok (key := m.key))
  have HNB := wall (nextB_ok hvl hvb)
  have HKV0 := wall hk
  have HF := wall (mvF A L c m hvl)
  have HM2 := wall (fun v (h : v.length = 16) => m2f A L c (m := { m with v := v }) h)
  have HST := wall (fun v (h : v.length = 16) => mV_set A L c m v hvl h)
  have H2F0 := wall (m2f A L c hvl)
  have HSK := wall (show (Tryd.prog.info? 94).map (·.size) = some (kC (.slice A L c)).toArray.size by rw [List.size_toArray, kC_length]; exact key_info)
  have HSB := wall (fun (l : List Nat) (h : l.length = 16) => show (Tryd.prog.info? 90).map (·.size) = some (b8 l).size by rw [b8_size, h]; exact blk_info16)
  have HVL := wall hvl
  have HVB := wall hvb
  have HBL := wall hb
  have HBB := wall hbb
  obtain ⟨ZM, hZM⟩ : ∃ x, zM.toArray = x := ⟨_, rfl⟩
  have HZM := wall (show Tryd.zeroCells96 = ZM by rw [← hZM, zM_eq])
  rw [hZM] at HM2 H2F0
  obtain ⟨ML, hML⟩ : ∃ x, mV A L c m = x := ⟨_, rfl⟩
  have HML := wall hML
  rw [hML] at HF HST H2F0 ⊢
  obtain ⟨KL, hKL⟩ : ∃ x, (kC (.slice A L c)).toArray = x := ⟨_, rfl⟩
  have HKL := wall hKL
  rw [hKL] at HSK
  have HRK := wall (fun (W : World) (g : Nat) (h : Blk W g 96 ML.toArray) => hKL ▸ HF.out.rk h)
  have HRV := wall (fun (W : World) (g : Nat) (h : Blk W g 96 ML.toArray) => HF.out.rv h)
  have HC := wall (show ML.toArray[513]? = some (.int .i64 (m.kind : Int)) ∧ ML.toArray[514]? = some (.bool m.back) from ⟨HF.out.kind, HF.out.back⟩)
  have HML16 := wall (show 515 + 16 ≤ ML.length by rw [← hML, mV_length A L c hvl]; decide)
  obtain ⟨w1, hw1⟩ : ∃ W, W = (((w.alloc (.cells ML.toArray 96)).alloc (.cells (b8 b) 90)).alloc (.cells ZM 96)).alloc (.cells (b8 z16) 90) := ⟨_, rfl⟩
  have HW := wall hw1
  have HS1 := wall (show Sb w w.heap.size (w.heap.size + 1) (w.heap.size + 1 + 1) (w.heap.size + 1 + 1 + 1) ML.toArray ZM b w1 by
    rw [hw1]
    exact ⟨(((Blk.new _ _ _).alloc _).alloc _).alloc _, ((blk_new' (by simp)).alloc _).alloc _, (blk_new' (by simp)).alloc _, blk_new' (by simp), ((((Below.refl _ w).alloc (Nat.le_refl _) _).alloc (by simp) _).alloc (by simp; omega) _).alloc (by simp; omega) _, Nat.le_refl _, by omega, by omega, by omega⟩)
  obtain ⟨gR, hgR⟩ : ∃ x, x = w.heap.size + 1 + 1 + 1 := ⟨_, rfl⟩
  obtain ⟨gS, hgS⟩ : ∃ x, x = w.heap.size + 1 + 1 := ⟨_, rfl⟩
  obtain ⟨gB, hgB⟩ : ∃ x, x = w.heap.size + 1 := ⟨_, rfl⟩
  obtain ⟨gM, hgM⟩ : ∃ x, x = w.heap.size := ⟨_, rfl⟩
  have HGG := wall (show gR = w.heap.size + 1 + 1 + 1 ∧ gS = w.heap.size + 1 + 1 ∧ gB = w.heap.size + 1 ∧ gM = w.heap.size from ⟨hgR, hgS, hgB, hgM⟩)
  rw [← hgR, ← hgS, ← hgB] at HS1
  have HS1 := wall (show Sb w gM gB gS gR ML.toArray ZM b w1 by rw [hgM]; exact HS1.out)
  have HKV := wall (hk.next HS1.out.bel)
  have hkc := HS1.out.km.cell 513
  have hbc := HS1.out.km.cell 514
  rw [HC.out.1] at hkc
  rw [HC.out.2] at hbc
  have hlt := HS1.out.km.lt
  obtain ⟨key, kd2, back, v⟩ := m
  simp only at *
  clear hw1 hg hvl hvb hk hb hbb hZM hML hKL hgR hgS hgB hgM HF HC
  have go : ∀ k : Int, k = (kd2 : Int) → Calls Tryd.prog 63 #[.agg ML.toArray, .agg (b8 b)] w (StepOut w A L c (stepM ⟨key, kd2, back, v⟩ b)) := by
    intro k hk
    rw [← hk] at hkc
    rcases (show kd2 = 2 ∨ kd2 = 1 ∨ kd2 = 0 by omega) with rfl | rfl | rfl
    · have hk2 : k = 2 := by omega
      subst hk2
      clear hk hkd
      obtain ⟨e1, he1⟩ : ∃ x, encB key v = x := ⟨_, rfl⟩
      have HE1 := wall (show e1.length = 16 ∧ ∀ x ∈ e1, x < 256 by rw [← he1]; exact HKD.out v)
      have HCE := wall (fun W (h : KeyV W W.heap.size key A L c) => encrypt_any key v A L c W h HVL.out HVB.out)
      rw [he1, HKL.out] at HCE
      obtain ⟨b2, hb2⟩ : ∃ x, xorL b e1 = x := ⟨_, rfl⟩
      have HB2 := wall (show b2.length = 16 by rw [← hb2]; exact xorL_length HBL.out HE1.out.1)
      have HCX := wall (fun g W (h : Two W W.heap.size g b e1) => xor_any g b e1 W h HBL.out HE1.out.1 HBB.out HE1.out.2)
      rw [hb2] at HCX
      obtain ⟨nv, hnv⟩ : ∃ x, nextB v = x := ⟨_, rfl⟩
      have HNL := wall (show nv.length = 16 by rw [← hnv]; exact HNB.out.1)
      have HCN := wall (fun W => next_any v W HVL.out HVB.out)
      rw [hnv] at HCN
      obtain ⟨ML2, hML2⟩ : ∃ x, mV A L c ⟨key, 2, back, nv⟩ = x := ⟨_, rfl⟩
      have HML2 := wall hML2
      have H2F := wall (show M2F ZM ML2 by rw [← hML2]; exact HM2.out nv HNL.out)
      have HSP := wall (show splice ML 515 (v8 nv) = ML2 by rw [← hML2]; exact HST.out nv HNL.out)
      have HRES := wall (show stepM ⟨key, 2, back, v⟩ b = (⟨key, 2, back, nv⟩, b2) by rw [← hb2, ← he1, ← hnv]; rfl)
      clear he1 hb2 hnv hML2 HKD HKDD HNB HM2 HST
      (go_enter Tryd.func63, Tryd.ntmps63; go_upto_region 2 with fail; rw [HZM.out]; change Code.wp _ _ _ _ ((((w.alloc (.cells ML.toArray 96)).alloc (.cells (b8 b) 90)).alloc (.cells ZM 96)).alloc (.cells (b8 z16) 90)); rw [← HW.out, ← HGG.out.1, ← HGG.out.2.1, ← HGG.out.2.2.1, ← HGG.out.2.2.2]; clear HW HGG HZM; go_wp2_with fail)
      refine Rel.wp_region_rel 8 [(20, .const (.agg (b8 e1))), (21, .any (TwoV b e1) TwoV.soft), (22, .const (.agg (b8 b2)))] (by kernel_rfl) (by kernel_rfl) ?_
      simp only [List.take_succ_cons, List.take_zero, List.drop_succ_cons, List.drop_zero, Act.put, List.setIfInBounds_toArray, List.set_cons_zero, List.set_cons_succ]
      refine Rel.tree_pure rfl rfl rfl (.agg (b8 b)) (fun W hW _ => Rel.exec_load _ _ rfl gB 0 rfl _ _ (Blk.range (hW.blk HS1.out.kb.drew)) Tryd.underlying90 rfl (HSB.out _ HBL.out)) ?_
      simp only [Act.put, List.setIfInBounds_toArray, List.set_cons_zero, List.set_cons_succ]
      (refine Rel.tree_quiet rfl rfl rfl (fun K hK => ?_); go_big_quiet_op; refine hK _ ?_; clear hK K)
      refine Rel.tree_pure rfl rfl rfl (.agg KL) (fun W hW _ => Rel.exec_load _ _ rfl gM 0 rfl _ _ (HRK.out _ _ (hW.blk HS1.out.km.drew)) Tryd.underlying94 rfl HSK.out) ?_
      simp only [Act.put, List.setIfInBounds_toArray, List.set_cons_zero, List.set_cons_succ]
      (refine Rel.tree_quiet rfl rfl rfl (fun K hK => ?_); go_big_quiet_op; refine hK _ ?_; clear hK K)
      refine Rel.tree_pure rfl rfl rfl (.agg (b8 v)) (fun W hW _ => Rel.exec_load _ _ rfl gM 515 rfl _ _ (HRV.out _ _ (hW.blk HS1.out.km.drew)) Tryd.underlying90 rfl (HSB.out _ HVL.out)) ?_
      simp only [Act.put, List.setIfInBounds_toArray, List.set_cons_zero, List.set_cons_succ]
      refine Rel.tree_const rfl (.agg (b8 e1)) rfl (fun W hW _ => ?_) ?_
      · have hV := HKV.out.next hW.undrew
        unfold Rel.relAt; go_simp; show Calls _ _ _ _ _
        exact const_call (HCE.out W hV)
      simp only [Act.put, List.setIfInBounds_toArray, List.set_cons_zero, List.set_cons_succ]
      refine Rel.tree_rel rfl (TwoV b e1) TwoV.soft rfl (fun W hW _ => rel_two _ _ rfl b e1 rfl rfl HBL.out HE1.out.1) (fun v21 => ?_)
      simp only [Act.put, List.setIfInBounds_toArray, List.set_cons_zero, List.set_cons_succ]
      refine Rel.tree_const rfl (.agg (b8 b2)) rfl (fun W hW hF => ?_) ?_
      · obtain ⟨g, rfl, hT⟩ : TwoV b e1 v21 W := hF 21 (by decide)
        clear hF
        unfold Rel.relAt; go_simp; show Calls _ _ _ _ _
        exact const_call (HCX.out g W hT)
      simp only [Act.put, List.setIfInBounds_toArray, List.set_cons_zero, List.set_cons_succ]
      intro W hW _
      have HSW := wall (HS1.out.old hW.undrew)
      clear hW HS1 HKV HCE HCX
      go_upto_region 4 with (refine wpList_set_row rfl 90 (.tmp 3) (.tmp 22) rfl gB (b8 b2) rfl rfl 90 (b8 b) HSW.out.kb (HSB.out _ HB2.out) (by rw [b8_size, b8_size, HBL.out, HB2.out]) (b8_one _) ?_; intro w4 K4 F4)
      have HS4 := wall (HSW.out.putB F4.out K4.out)
      clear HSW K4 F4
      go_wp2_with (refine wpList_load_arr rfl 90 _ rfl gM 515 rfl (b8 v) _ (HRV.out _ _ HS4.out.km) Tryd.underlying90 rfl (HSB.out _ HVL.out) ?_)
      (with_reducible refine (HCN.out _).mono ?_); rintro e w5 ⟨rfl, hB5⟩
      have HS5 := wall (HS4.out.old hB5)
      clear hB5 HS4 HCN
      go_upto_region 13 with (refine wpList_store_frm rfl 90 (.tmp 26) (.tmp 25) rfl gM 515 (b8 nv) rfl rfl 96 ML HS5.out.km (by rw [b8_size, HNL.out]; exact HML16.out) (HSB.out _ HNL.out) (b8_one _) ?_; intro w6 K6 F6)
      have HSX := wall (HS5.out.putM (MV' := ML2.toArray) F6 (by rw [← HSP.out]; exact K6))
      clear HS5 K6 F6
      (have o2 := HSX.out.o2; have o3 := HSX.out.o3; have o4 := HSX.out.o4; refine wp_two_rows (by kernel_rfl) (by kernel_rfl) rfl rfl rfl rfl rfl rfl 96 90 _ _ _ _ 67 68 (by decide) rfl rfl rfl rfl rfl rfl gM gB gS gR ML2.toArray (b8 b2) 96 90 96 90 ZM (b8 z16) _ _ rfl rfl rfl rfl rfl rfl rfl rfl rfl rfl HSX.out.km HSX.out.kb HSX.out.ks HSX.out.kr (by omega) (by omega) Tryd.underlying96 rfl (H2F.out).1 (H2F.out).2.1 (H2F.out).2.2 Tryd.underlying90 rfl (HSB.out _ HB2.out) (by rw [b8_size, b8_size, HB2.out]; rfl) (b8_one _) ?_; intro wz KS KR FZ; replace KS := wall KS; replace KR := wall KR; have HBZ := wall (show Below w.heap.size w wz by have o1 := HSX.out.o1; exact Below.frm HSX.out.bel FZ (Nat.le_refl _) (fun x hx => by simp at hx; omega)); clear FZ; go_wp2_with fail; go_light; exact bodyPost_ret (v := .tuple #[.agg ML2.toArray, .agg (b8 b2)]) (results_two Tryd.results63 _ _ gS gR 96 90 ML2.toArray (b8 b2) _ _ rfl rfl KS.out KR.out Tryd.underlying96 rfl (H2F.out).1 Tryd.underlying90 rfl (HSB.out _ HB2.out)) rfl ⟨by rw [HRES.out, ← HML2.out], HBZ.out⟩)
    · have hk2 : k = 1 := by omega
      subst hk2
      clear hk hkd
      cases back
      · obtain ⟨x1, hx1⟩ : ∃ x, xorL b v = x := ⟨_, rfl⟩
        have HX1 := wall (show x1.length = 16 ∧ ∀ x ∈ x1, x < 256 by rw [← hx1]; exact ⟨xorL_length HBL.out HVL.out, xorL_byte HBB.out HVB.out⟩)
        have HCX := wall (fun g W (h : Two W W.heap.size g b v) => xor_any g b v W h HBL.out HVL.out HBB.out HVB.out)
        rw [hx1] at HCX
        obtain ⟨b2, hb2⟩ : ∃ x, encB key x1 = x := ⟨_, rfl⟩
        have HB2 := wall (show b2.length = 16 by rw [← hb2]; exact (HKD.out x1).1)
        have HCE := wall (fun W (h : KeyV W W.heap.size key A L c) => encrypt_any key x1 A L c W h HX1.out.1 HX1.out.2)
        rw [hb2, HKL.out] at HCE
        obtain ⟨ML2, hML2⟩ : ∃ x, mV A L c ⟨key, 1, false, b2⟩ = x := ⟨_, rfl⟩
        have HML2 := wall hML2
        have H2F := wall (show M2F ZM ML2 by rw [← hML2]; exact HM2.out b2 HB2.out)
        have HSP := wall (show splice ML 515 (v8 b2) = ML2 by rw [← hML2]; exact HST.out b2 HB2.out)
        have HRES := wall (show stepM ⟨key, 1, false, v⟩ b = (⟨key, 1, false, b2⟩, b2) by rw [← hb2, ← hx1]; rfl)
        clear hx1 hb2 hML2 HKD HKDD HNB HM2 HST
        (go_enter Tryd.func63, Tryd.ntmps63; go_upto_region 2 with fail; rw [HZM.out]; change Code.wp _ _ _ _ ((((w.alloc (.cells ML.toArray 96)).alloc (.cells (b8 b) 90)).alloc (.cells ZM 96)).alloc (.cells (b8 z16) 90)); rw [← HW.out, ← HGG.out.1, ← HGG.out.2.1, ← HGG.out.2.2.1, ← HGG.out.2.2.2]; clear HW HGG HZM; go_wp2_with fail)
        refine Rel.wp_region_rel 8 [(55, .any (TwoV b v) TwoV.soft), (56, .const (.agg (b8 x1))), (57, .const (.agg (b8 b2)))] (by kernel_rfl) (by kernel_rfl) ?_
        simp only [List.take_succ_cons, List.take_zero, List.drop_succ_cons, List.drop_zero, Act.put, List.setIfInBounds_toArray, List.set_cons_zero, List.set_cons_succ]
        (refine Rel.tree_quiet rfl rfl rfl (fun K hK => ?_); go_big_quiet_op; refine hK _ ?_; clear hK K)
        refine Rel.tree_pure rfl rfl rfl (.agg KL) (fun W hW _ => Rel.exec_load _ _ rfl gM 0 rfl _ _ (HRK.out _ _ (hW.blk HS1.out.km.drew)) Tryd.underlying94 rfl HSK.out) ?_
        simp only [Act.put, List.setIfInBounds_toArray, List.set_cons_zero, List.set_cons_succ]
        refine Rel.tree_pure rfl rfl rfl (.agg (b8 b)) (fun W hW _ => Rel.exec_load _ _ rfl gB 0 rfl _ _ (Blk.range (hW.blk HS1.out.kb.drew)) Tryd.underlying90 rfl (HSB.out _ HBL.out)) ?_
        simp only [Act.put, List.setIfInBounds_toArray, List.set_cons_zero, List.set_cons_succ]
        (refine Rel.tree_quiet rfl rfl rfl (fun K hK => ?_); go_big_quiet_op; refine hK _ ?_; clear hK K)
        refine Rel.tree_pure rfl rfl rfl (.agg (b8 v)) (fun W hW _ => Rel.exec_load _ _ rfl gM 515 rfl _ _ (HRV.out _ _ (hW.blk HS1.out.km.drew)) Tryd.underlying90 rfl (HSB.out _ HVL.out)) ?_
        simp only [Act.put, List.setIfInBounds_toArray, List.set_cons_zero, List.set_cons_succ]
        refine Rel.tree_rel rfl (TwoV b v) TwoV.soft rfl (fun W hW _ => rel_two _ _ rfl b v rfl rfl HBL.out HVL.out) (fun v55 => ?_)
        simp only [Act.put, List.setIfInBounds_toArray, List.set_cons_zero, List.set_cons_succ]
        refine Rel.tree_const rfl (.agg (b8 x1)) rfl (fun W hW hF => ?_) ?_
        · obtain ⟨g, rfl, hT⟩ : TwoV b v v55 W := hF 55 (by decide)
          clear hF
          unfold Rel.relAt; go_simp; show Calls _ _ _ _ _
          exact const_call (HCX.out g W hT)
        simp only [Act.put, List.setIfInBounds_toArray, List.set_cons_zero, List.set_cons_succ]
        refine Rel.tree_const rfl (.agg (b8 b2)) rfl (fun W hW _ => ?_) ?_
        · have hV := HKV.out.next hW.undrew
          unfold Rel.relAt; go_simp; show Calls _ _ _ _ _
          exact const_call (HCE.out W hV)
        simp only [Act.put, List.setIfInBounds_toArray, List.set_cons_zero, List.set_cons_succ]
        intro W hW _
        have HSW := wall (HS1.out.old hW.undrew)
        clear hW HS1 HKV HCE HCX
        go_upto_region 10 with (refine wpList_set_row rfl 90 (.tmp 3) (.tmp 57) rfl gB (b8 b2) rfl rfl 90 (b8 b) HSW.out.kb (HSB.out _ HB2.out) (by rw [b8_size, b8_size, HBL.out, HB2.out]) (b8_one _) ?_; intro w4 K4 F4)
        have HS4 := wall (HSW.out.putB F4.out K4.out)
        clear HSW K4 F4
        go_upto_region 13 with (first | refine wpList_load_row rfl 90 _ rfl gB rfl 90 (b8 b2) (0, 0) _ HS4.out.kb Tryd.underlying90 rfl (HSB.out _ HB2.out) ?_ | (refine wpList_store_frm rfl 90 (.tmp 59) (.tmp 58) rfl gM 515 (b8 b2) rfl rfl 96 ML HS4.out.km (by rw [b8_size, HB2.out]; exact HML16.out) (HSB.out _ HB2.out) (b8_one _) ?_; intro w6 K6 F6))
        have HSX := wall (HS4.out.putM (MV' := ML2.toArray) F6 (by rw [← HSP.out]; exact K6))
        clear HS4 K6 F6
        (have o2 := HSX.out.o2; have o3 := HSX.out.o3; have o4 := HSX.out.o4; refine wp_two_rows (by kernel_rfl) (by kernel_rfl) rfl rfl rfl rfl rfl rfl 96 90 _ _ _ _ 67 68 (by decide) rfl rfl rfl rfl rfl rfl gM gB gS gR ML2.toArray (b8 b2) 96 90 96 90 ZM (b8 z16) _ _ rfl rfl rfl rfl rfl rfl rfl rfl rfl rfl HSX.out.km HSX.out.kb HSX.out.ks HSX.out.kr (by omega) (by omega) Tryd.underlying96 rfl (H2F.out).1 (H2F.out).2.1 (H2F.out).2.2 Tryd.underlying90 rfl (HSB.out _ HB2.out) (by rw [b8_size, b8_size, HB2.out]; rfl) (b8_one _) ?_; intro wz KS KR FZ; replace KS := wall KS; replace KR := wall KR; have HBZ := wall (show Below w.heap.size w wz by have o1 := HSX.out.o1; exact Below.frm HSX.out.bel FZ (Nat.le_refl _) (fun x hx => by simp at hx; omega)); clear FZ; go_wp2_with fail; go_light; exact bodyPost_ret (v := .tuple #[.agg ML2.toArray, .agg (b8 b2)]) (results_two Tryd.results63 _ _ gS gR 96 90 ML2.toArray (b8 b2) _ _ rfl rfl KS.out KR.out Tryd.underlying96 rfl (H2F.out).1 Tryd.underlying90 rfl (HSB.out _ HB2.out)) rfl ⟨by rw [HRES.out, ← HML2.out], HBZ.out⟩)
      · obtain ⟨d1, hd1⟩ : ∃ x, decB key b = x := ⟨_, rfl⟩
        have HD1 := wall (show d1.length = 16 ∧ ∀ x ∈ d1, x < 256 by rw [← hd1]; exact HKDD.out b)
        have HCE := wall (fun W (h : KeyV W W.heap.size key A L c) => decrypt_any key b A L c W h HBL.out HBB.out)
        rw [hd1, HKL.out] at HCE
        obtain ⟨b2, hb2⟩ : ∃ x, xorL d1 v = x := ⟨_, rfl⟩
        have HB2 := wall (show b2.length = 16 by rw [← hb2]; exact xorL_length HD1.out.1 HVL.out)
        have HCX := wall (fun g W (h : Two W W.heap.size g d1 v) => xor_any g d1 v W h HD1.out.1 HVL.out HD1.out.2 HVB.out)
        rw [hb2] at HCX
        obtain ⟨ML2, hML2⟩ : ∃ x, mV A L c ⟨key, 1, true, b⟩ = x := ⟨_, rfl⟩
        have HML2 := wall hML2
        have H2F := wall (show M2F ZM ML2 by rw [← hML2]; exact HM2.out b HBL.out)
        have HSP := wall (show splice ML 515 (b8 b).toList = ML2 by rw [← hML2]; exact HST.out b HBL.out)
        have HRES := wall (show stepM ⟨key, 1, true, v⟩ b = (⟨key, 1, true, b⟩, b2) by rw [← hb2, ← hd1]; rfl)
        clear hd1 hb2 hML2 HKD HKDD HNB HM2 HST
        (go_enter Tryd.func63, Tryd.ntmps63; go_upto_region 2 with fail; rw [HZM.out]; change Code.wp _ _ _ _ ((((w.alloc (.cells ML.toArray 96)).alloc (.cells (b8 b) 90)).alloc (.cells ZM 96)).alloc (.cells (b8 z16) 90)); rw [← HW.out, ← HGG.out.1, ← HGG.out.2.1, ← HGG.out.2.2.1, ← HGG.out.2.2.2]; clear HW HGG HZM; go_wp2_with fail)
        refine RelG.wp_region_rel 9 [(38, .const (.agg (b8 d1))), (41, .any (TwoV d1 v) TwoV.grow), (42, .const (.agg (b8 b2))), (6, .any (NewB w1.drew.heap.size) NewB.grow)] (by kernel_rfl) (by kernel_rfl) ?_
        simp only [List.take_succ_cons, List.take_zero, List.drop_succ_cons, List.drop_zero, Act.put, List.setIfInBounds_toArray, List.set_cons_zero, List.set_cons_succ]
        (refine RelG.tree_quiet rfl rfl rfl (fun K hK => ?_); go_big_quiet_op; refine hK _ ?_; clear hK K)
        refine RelG.tree_pure rfl rfl rfl (.agg KL) (fun W hW _ => Rel.exec_load _ _ rfl gM 0 rfl _ _ (HRK.out _ _ (hW.blk HS1.out.km.drew)) Tryd.underlying94 rfl HSK.out) ?_
        simp only [Act.put, List.setIfInBounds_toArray, List.set_cons_zero, List.set_cons_succ]
        refine RelG.tree_pure rfl rfl rfl (.agg (b8 b)) (fun W hW _ => Rel.exec_load _ _ rfl gB 0 rfl _ _ (Blk.range (hW.blk HS1.out.kb.drew)) Tryd.underlying90 rfl (HSB.out _ HBL.out)) ?_
        simp only [Act.put, List.setIfInBounds_toArray, List.set_cons_zero, List.set_cons_succ]
        refine RelG.tree_const rfl (.agg (b8 d1)) rfl (fun W hW _ => ?_) ?_
        · have hV := HKV.out.next hW.undrew
          unfold RelG.relAt; go_simp; show Calls _ _ _ _ _
          exact const_call (HCE.out W hV)
        simp only [Act.put, List.setIfInBounds_toArray, List.set_cons_zero, List.set_cons_succ]
        (refine RelG.tree_quiet rfl rfl rfl (fun K hK => ?_); go_big_quiet_op; refine hK _ ?_; clear hK K)
        refine RelG.tree_pure rfl rfl rfl (.agg (b8 v)) (fun W hW _ => Rel.exec_load _ _ rfl gM 515 rfl _ _ (HRV.out _ _ (hW.blk HS1.out.km.drew)) Tryd.underlying90 rfl (HSB.out _ HVL.out)) ?_
        simp only [Act.put, List.setIfInBounds_toArray, List.set_cons_zero, List.set_cons_succ]
        refine RelG.tree_rel rfl (TwoV d1 v) TwoV.grow rfl (fun W hW _ => rel_two _ _ rfl d1 v rfl rfl HD1.out.1 HVL.out) (fun v41 => ?_)
        simp only [Act.put, List.setIfInBounds_toArray, List.set_cons_zero, List.set_cons_succ]
        refine RelG.tree_const rfl (.agg (b8 b2)) rfl (fun W hW hF => ?_) ?_
        · obtain ⟨g, rfl, hT⟩ : TwoV d1 v v41 W := hF 41 (by decide)
          clear hF
          unfold RelG.relAt; go_simp; show Calls _ _ _ _ _
          exact const_call (HCX.out g W hT)
        simp only [Act.put, List.setIfInBounds_toArray, List.set_cons_zero, List.set_cons_succ]
        refine RelG.tree_rel rfl (NewB w1.drew.heap.size) NewB.grow rfl (fun W hW _ => rel_new rfl (Below.size hW)) (fun v6 => ?_)
        simp only [Act.put, List.setIfInBounds_toArray, List.set_cons_zero, List.set_cons_succ]
        intro W hW hF
        obtain ⟨gO, rfl, hgO, KO⟩ : NewB w1.drew.heap.size v6 W := hF 6
        have HSW := wall (HS1.out.old hW.undrew)
        have HKO := wall KO
        have hgO : gR < gO := by have : gR < w1.heap.size := HS1.out.kr.lt; have h2 : w1.heap.size ≤ gO := hgO; omega
        clear hW HS1 HKV HCE HCX hF KO
        go_upto_region 7 with (refine wpList_set_row rfl 90 (.tmp 6) (.tmp 42) rfl gO (b8 b2) rfl rfl 90 (b8 z16) HKO.out (HSB.out _ HB2.out) (by rw [b8_size, b8_size, HB2.out]; rfl) (b8_one _) ?_; intro w4 K4 F4)
        have HS4 := wall (HSW.out.far F4.out (fun x hx => by simp at hx; omega))
        replace K4 := wall K4.out
        have q2 := HS4.out.o2
        have q3 := HS4.out.o3
        have q4 := HS4.out.o4
        clear HSW F4 HKO
        refine wp_two_rows5 (by kernel_rfl) (by kernel_rfl) rfl rfl rfl rfl rfl rfl rfl 90 90 _ _ _ 43 44 45 (by decide) (by decide) rfl rfl rfl rfl rfl rfl rfl gB gO gM 515 gB (b8 b) (b8 b2) 90 90 96 90 ML (b8 b) _ _ rfl rfl rfl rfl rfl (fun W => by go_simp) (fun W => by go_simp) rfl rfl rfl rfl rfl rfl HS4.out.kb K4.out HS4.out.km HS4.out.kb (by omega) (by omega) Tryd.underlying90 rfl (HSB.out _ HBL.out) (by rw [b8_size, HBL.out]; exact HML16.out) (b8_one _) Tryd.underlying90 rfl (HSB.out _ HB2.out) (by rw [b8_size, b8_size, HBL.out, HB2.out]) (b8_one _) ?_
        intro w6 KM KB F6
        have HSX := wall (HS4.out.put2 (MV' := ML2.toArray) F6 (by rw [← HSP.out]; exact KM) KB)
        clear HS4 KM KB F6 K4
        simp only [Act.put, List.setIfInBounds_toArray, List.set_cons_zero, List.set_cons_succ]
        go_upto_region 13 with fail
        (have o2 := HSX.out.o2; have o3 := HSX.out.o3; have o4 := HSX.out.o4; refine wp_two_rows (by kernel_rfl) (by kernel_rfl) rfl rfl rfl rfl rfl rfl 96 90 _ _ _ _ 67 68 (by decide) rfl rfl rfl rfl rfl rfl gM gB gS gR ML2.toArray (b8 b2) 96 90 96 90 ZM (b8 z16) _ _ rfl rfl rfl rfl rfl rfl rfl rfl rfl rfl HSX.out.km HSX.out.kb HSX.out.ks HSX.out.kr (by omega) (by omega) Tryd.underlying96 rfl (H2F.out).1 (H2F.out).2.1 (H2F.out).2.2 Tryd.underlying90 rfl (HSB.out _ HB2.out) (by rw [b8_size, b8_size, HB2.out]; rfl) (b8_one _) ?_; intro wz KS KR FZ; replace KS := wall KS; replace KR := wall KR; have HBZ := wall (show Below w.heap.size w wz by have o1 := HSX.out.o1; exact Below.frm HSX.out.bel FZ (Nat.le_refl _) (fun x hx => by simp at hx; omega)); clear FZ; go_wp2_with fail; go_light; exact bodyPost_ret (v := .tuple #[.agg ML2.toArray, .agg (b8 b2)]) (results_two Tryd.results63 _ _ gS gR 96 90 ML2.toArray (b8 b2) _ _ rfl rfl KS.out KR.out Tryd.underlying96 rfl (H2F.out).1 Tryd.underlying90 rfl (HSB.out _ HB2.out)) rfl ⟨by rw [HRES.out, ← HML2.out], HBZ.out⟩)
    · have hk2 : k = 0 := by omega
      subst hk2
      clear hk hkd
      cases back
      · obtain ⟨b2, hb2⟩ : ∃ x, encB key b = x := ⟨_, rfl⟩
        have HB2 := wall (show b2.length = 16 by rw [← hb2]; exact (HKD.out b).1)
        have HCE := wall (fun W (h : KeyV W W.heap.size key A L c) => encrypt_any key b A L c W h HBL.out HBB.out)
        rw [hb2, HKL.out] at HCE
        obtain ⟨ML2, hML2⟩ : ∃ x, x = ML := ⟨_, rfl⟩
        have HML2 := wall (show mV A L c ⟨key, 0, false, v⟩ = ML2 by rw [hML2]; exact HML.out)
        have H2F := wall (show M2F ZM ML2 by rw [hML2]; exact H2F0.out)
        have HRES := wall (show stepM ⟨key, 0, false, v⟩ b = (⟨key, 0, false, v⟩, b2) by rw [← hb2]; rfl)
        have HMX := wall hML2
        clear hb2 HKD HKDD HNB HM2 HST hML2
        (go_enter Tryd.func63, Tryd.ntmps63; go_upto_region 2 with fail; rw [HZM.out]; change Code.wp _ _ _ _ ((((w.alloc (.cells ML.toArray 96)).alloc (.cells (b8 b) 90)).alloc (.cells ZM 96)).alloc (.cells (b8 z16) 90)); rw [← HW.out, ← HGG.out.1, ← HGG.out.2.1, ← HGG.out.2.2.1, ← HGG.out.2.2.2]; clear HW HGG HZM)
        go_wp2_with (first | refine wpList_load_arr rfl 94 _ rfl gM 0 rfl KL _ (HRK.out _ _ HS1.out.km) Tryd.underlying94 rfl HSK.out ?_ | refine wpList_load_row rfl 90 _ rfl gB rfl 90 (b8 b) (0, 0) _ HS1.out.kb Tryd.underlying90 rfl (HSB.out _ HBL.out) ?_)
        (with_reducible refine (HCE.out _ HKV.out).mono ?_); rintro e w5 ⟨rfl, hB5⟩
        have HS5 := wall (HS1.out.old hB5)
        clear hB5 HS1 HCE HKV
        go_upto_region 13 with (refine wpList_set_row rfl 90 (.tmp 3) (.tmp 10) rfl gB (b8 b2) rfl rfl 90 (b8 b) HS5.out.kb (HSB.out _ HB2.out) (by rw [b8_size, b8_size, HBL.out, HB2.out]) (b8_one _) ?_; intro w4 K4 F4)
        have HSX := wall (show Sb w gM gB gS gR ML2.toArray ZM b2 w4 by rw [HMX.out]; exact HS5.out.putB F4.out K4.out)
        clear HS5 K4 F4
        (have o2 := HSX.out.o2; have o3 := HSX.out.o3; have o4 := HSX.out.o4; refine wp_two_rows (by kernel_rfl) (by kernel_rfl) rfl rfl rfl rfl rfl rfl 96 90 _ _ _ _ 67 68 (by decide) rfl rfl rfl rfl rfl rfl gM gB gS gR ML2.toArray (b8 b2) 96 90 96 90 ZM (b8 z16) _ _ rfl rfl rfl rfl rfl rfl rfl rfl rfl rfl HSX.out.km HSX.out.kb HSX.out.ks HSX.out.kr (by omega) (by omega) Tryd.underlying96 rfl (H2F.out).1 (H2F.out).2.1 (H2F.out).2.2 Tryd.underlying90 rfl (HSB.out _ HB2.out) (by rw [b8_size, b8_size, HB2.out]; rfl) (b8_one _) ?_; intro wz KS KR FZ; replace KS := wall KS; replace KR := wall KR; have HBZ := wall (show Below w.heap.size w wz by have o1 := HSX.out.o1; exact Below.frm HSX.out.bel FZ (Nat.le_refl _) (fun x hx => by simp at hx; omega)); clear FZ; go_wp2_with fail; go_light; exact bodyPost_ret (v := .tuple #[.agg ML2.toArray, .agg (b8 b2)]) (results_two Tryd.results63 _ _ gS gR 96 90 ML2.toArray (b8 b2) _ _ rfl rfl KS.out KR.out Tryd.underlying96 rfl (H2F.out).1 Tryd.underlying90 rfl (HSB.out _ HB2.out)) rfl ⟨by rw [HRES.out, ← HML2.out], HBZ.out⟩)
      · obtain ⟨b2, hb2⟩ : ∃ x, decB key b = x := ⟨_, rfl⟩
        have HB2 := wall (show b2.length = 16 by rw [← hb2]; exact (HKDD.out b).1)
        have HCE := wall (fun W (h : KeyV W W.heap.size key A L c) => decrypt_any key b A L c W h HBL.out HBB.out)
        rw [hb2, HKL.out] at HCE
        obtain ⟨ML2, hML2⟩ : ∃ x, x = ML := ⟨_, rfl⟩
        have HML2 := wall (show mV A L c ⟨key, 0, true, v⟩ = ML2 by rw [hML2]; exact HML.out)
        have H2F := wall (show M2F ZM ML2 by rw [hML2]; exact H2F0.out)
        have HRES := wall (show stepM ⟨key, 0, true, v⟩ b = (⟨key, 0, true, v⟩, b2) by rw [← hb2]; rfl)
        have HMX := wall hML2
        clear hb2 HKD HKDD HNB HM2 HST hML2
        (go_enter Tryd.func63, Tryd.ntmps63; go_upto_region 2 with fail; rw [HZM.out]; change Code.wp _ _ _ _ ((((w.alloc (.cells ML.toArray 96)).alloc (.cells (b8 b) 90)).alloc (.cells ZM 96)).alloc (.cells (b8 z16) 90)); rw [← HW.out, ← HGG.out.1, ← HGG.out.2.1, ← HGG.out.2.2.1, ← HGG.out.2.2.2]; clear HW HGG HZM)
        go_wp2_with (first | refine wpList_load_arr rfl 94 _ rfl gM 0 rfl KL _ (HRK.out _ _ HS1.out.km) Tryd.underlying94 rfl HSK.out ?_ | refine wpList_load_row rfl 90 _ rfl gB rfl 90 (b8 b) (0, 0) _ HS1.out.kb Tryd.underlying90 rfl (HSB.out _ HBL.out) ?_)
        (with_reducible refine (HCE.out _ HKV.out).mono ?_); rintro e w5 ⟨rfl, hB5⟩
        have HS5 := wall (HS1.out.old hB5)
        clear hB5 HS1 HCE HKV
        go_upto_region 13 with (refine wpList_set_row rfl 90 (.tmp 3) (.tmp 66) rfl gB (b8 b2) rfl rfl 90 (b8 b) HS5.out.kb (HSB.out _ HB2.out) (by rw [b8_size, b8_size, HBL.out, HB2.out]) (b8_one _) ?_; intro w4 K4 F4)
        have HSX := wall (show Sb w gM gB gS gR ML2.toArray ZM b2 w4 by rw [HMX.out]; exact HS5.out.putB F4.out K4.out)
        clear HS5 K4 F4
        (have o2 := HSX.out.o2; have o3 := HSX.out.o3; have o4 := HSX.out.o4; refine wp_two_rows (by kernel_rfl) (by kernel_rfl) rfl rfl rfl rfl rfl rfl 96 90 _ _ _ _ 67 68 (by decide) rfl rfl rfl rfl rfl rfl gM gB gS gR ML2.toArray (b8 b2) 96 90 96 90 ZM (b8 z16) _ _ rfl rfl rfl rfl rfl rfl rfl rfl rfl rfl HSX.out.km HSX.out.kb HSX.out.ks HSX.out.kr (by omega) (by omega) Tryd.underlying96 rfl (H2F.out).1 (H2F.out).2.1 (H2F.out).2.2 Tryd.underlying90 rfl (HSB.out _ HB2.out) (by rw [b8_size, b8_size, HB2.out]; rfl) (b8_one _) ?_; intro wz KS KR FZ; replace KS := wall KS; replace KR := wall KR; have HBZ := wall (show Below w.heap.size w wz by have o1 := HSX.out.o1; exact Below.frm HSX.out.bel FZ (Nat.le_refl _) (fun x hx => by simp at hx; omega)); clear FZ; go_wp2_with fail; go_light; exact bodyPost_ret (v := .tuple #[.agg ML2.toArray, .agg (b8 b2)]) (results_two Tryd.results63 _ _ gS gR 96 90 ML2.toArray (b8 b2) _ _ rfl rfl KS.out KR.out Tryd.underlying96 rfl (H2F.out).1 Tryd.underlying90 rfl (HSB.out _ HB2.out)) rfl ⟨by rw [HRES.out, ← HML2.out], HBZ.out⟩)
  exact go _ rfl
end Aes
end Go.Proofs.YtpakdcgcgekcfaaDoor

/-
  Rel: a head whose last operation all others lead to, and which whatever follows waits for; then plain values taken first, then what is forced.
-/
set_option linter.unusedSimpArgs false
set_option linter.unusedVariables false
namespace Go.Proofs.YtpakdcgcgekcfaaDoor
open Go Go.RowKit

theorem run_slice_h1 {P : Program} (t e : TypeId) (ht : P.underlying t = some (.slice e)) (hs : ∀ w, (sizeOf e).run P w = .ok 1 w) (A : Option Addr) (len cap hi : Nat) (kh : IntKind) (h : Int) (hh : h = hi) (h1 : 0 < cap) (h2 : hi ≤ cap) (w : World) :
    (Instr.sliceAt t (.slice A len cap) none (some (.int kh h)) none).run P w = .ok (.slice A hi cap) w := by
  have he : P.elem t = e := by simp [Program.elem, ht]
  have ht' : P.underlying t = some (.slice (P.elem t)) := by rw [he]; exact ht
  subst hh
  rw [run_sliceAt_slice w t _ _ _ _ ht', run_slice_h w t A len cap ht' kh hi (by omega) (by omega), he, hs]
  have hne : ¬ cap = 0 := by omega
  cases A <;> simp [Result.andThen, sliced, hne, Go.WideShapes.add_plain, Addr.add]
theorem nats_range {k : IntKind} {M : Nat} {w : World} {B : Nat} {A : Option Addr} {l : List Nat} (h : Nats k M w B A l) (n : Nat) (h0 : 0 < n) (hn : n ≤ l.length) : ∃ b off, A = some ⟨b, off, none⟩ ∧ b < B ∧ w.rangeAt b off ((l.take n).map fun x => Value.int k ((x : Nat) : Int)) := by
  obtain ⟨_, b, off, rfl, hb, _⟩ := h 0 l[0] (List.getElem?_eq_getElem (by omega))
  refine ⟨b, off, rfl, hb, fun j v hv => ?_⟩
  rw [List.getElem?_map, List.getElem?_take] at hv
  split at hv
  · cases hx : l[j]? with
    | none => rw [hx] at hv; cases hv
    | some x =>
      rw [hx] at hv
      obtain ⟨_, b', off', hA, _, hc⟩ := h j x hx
      cases hA
      rw [← Option.some.inj hv]
      exact hc
  · cases hv
namespace Rel
section
variable {P : Program} {ops : Array Oper} {md : Region.Mode}
def pinB (md : Region.Mode) (ops : Array Oper) (m : Nat) : Bool := Region.sinkB md ops m && (List.range ops.size).all fun t => decide (t ≤ m) || Region.waitsFor md ops t m
def pinOk (md : Region.Mode) (ops : Array Oper) (m : Nat) : Bool := Region.noSelect ops && headB md ops (m + 1) && decide (m + 1 < ops.size) && pinB md ops m
theorem sink_open {m : Nat} {listed : Array Bool} (hs : Region.sinkB md ops m = true) (inv : HeadInv md ops (m + 1) listed) (hm : m < ops.size) :
    ∀ (d i : Nat), m - i = d → i ≤ m → listed.getD i true = false → listed.getD m true = false := by
  intro d
  induction d using Nat.strongRecOn with
  | _ d ih =>
    intro i hd hi hun
    by_cases him : i = m
    · rw [him] at hun; exact hun
    have h1 := List.all_eq_true.1 hs i (List.mem_range.2 (by omega))
    obtain ⟨j, hj, hj2⟩ := List.any_eq_true.1 h1
    simp only [Bool.and_eq_true, decide_eq_true_eq] at hj2
    obtain ⟨oj, hoj, e, he, hb, hon⟩ := Region.waitsFor_spec hj2.2
    have hjle : j ≤ m := by have := List.mem_range.1 hj; omega
    have hjs : j < listed.size := by rw [inv.size]; omega
    cases hl : listed.getD j false with
    | true =>
      have h2 := inv.closed j oj hoj hl e he hb
      rw [hon, getD_both hun] at h2
      cases h2
    | false => exact ih (m - j) (by omega) j rfl hjle (getD_in hjs hl)
theorem wp_region_rel_pin {id : Nat} {Q : Exit → Act → World → Prop} {a : Act} {w : World} {l : List Oper} (m : Nat) (ks : List (Tmp × Kind)) (hm : P.follows .mixedOrders = true) (hB : pinOk .any l.toArray m = true)
    (h : tree P l.toArray ks w.drew (fun a' W => wpAny P .any l.toArray Q (l.length - (m + 1)) (canon (m + 1) l.length) a' W) (l.take (m + 1)) bare a) : (Code.region id l.toArray true).wp P Q a w := by
  simp only [pinOk, Bool.and_eq_true, decide_eq_true_eq] at hB
  obtain ⟨⟨⟨hsel, hhead⟩, hlt⟩, hpin⟩ := hB
  have hsz : l.toArray.size = l.length := by simp
  have hnl : m + 1 ≤ l.length := by omega
  simp only [pinB, Bool.and_eq_true] at hpin
  have hT : ∀ s, HeadInv .any l.toArray (m + 1) s → ∀ i, i < m + 1 → s.getD i true = false → ∀ t, t ∈ Region.ready .any l.toArray s → t < m + 1 := fun s inv i hi hun t ht => by
    rcases Nat.lt_or_ge t (m + 1) with h4 | h4
    · exact h4
    · exfalso
      have ho := sink_open hpin.1 inv (by omega) _ i rfl (by omega) hun
      obtain ⟨_, ot, hot, hall⟩ := mem_ready.1 ht
      have htlt : t < l.toArray.size := (Array.getElem?_eq_some_iff.1 hot).1
      have h1 := List.all_eq_true.1 hpin.2 t (List.mem_range.2 htlt)
      simp only [Bool.or_eq_true, decide_eq_true_eq] at h1
      rcases h1 with h1 | h1
      · omega
      · obtain ⟨o', ho', e, he, hb, hon⟩ := Region.waitsFor_spec h1
        have : o' = ot := Option.some.inj (ho'.symm.trans hot)
        subst this
        have h2 := hall e he hb
        rw [hon, getD_both ho] at h2
        cases h2
  have inv0 : Inv P l.toArray .any (m + 1) ks w.drew a (Array.replicate l.toArray.size false) a w.drew (fun _ => undef) :=
    ⟨⟨by simp, fun j oj _ hl => (by rw [getD_replicate_false] at hl; cases hl), fun t _ ht => getD_in (by simpa using ht) (getD_replicate_false _ _)⟩, Grow.refl _, rfl, rfl, fun _ _ => rfl, fun j o d _ _ hl => (by rw [getD_replicate_false] at hl; cases hl), fun j o _ _ hl => (by rw [getD_replicate_false] at hl; cases hl)⟩
  have hc : ∀ m, cnt (Array.replicate l.toArray.size false) m = m := fun m => by
    induction m with
    | zero => rfl
    | succ m ih => rw [cnt, ih, getD_replicate_false]; rfl
  refine wp_region_any hm ?_
  have := tree_any (g := l.length - (m + 1)) (R := Q) hsel hhead (by omega) hT (L := l.take (m + 1)) (fun j hj => by simp [hj]) (by simp; omega) h (fun a' w' hq => by rw [hsz]; exact hq) (m + 1) _ _ _ _ inv0 (hc (m + 1))
  rw [show m + 1 + (l.length - (m + 1)) = l.toArray.size by omega] at this
  exact this
/-- A plain value is taken. -/
theorem take_val {Q : Exit → Act → World → Prop} {a : Act} {w : World} {f : Nat} {s : Array Bool} (j : Nat) {o : Oper} (v : Value) (hj : ops[j]? = some o) (hs : Region.noSelect ops = true) (hf : Region.free md ops s j = true) (hr : (Region.ready md ops s).contains j = true)
    (hQ : ∀ c a w, Q (.panic c) (a.put o.dst v) w → Q (.panic c) a w) (hw : Region.wanted o (yielded ops a.tmps) = true) (hy : ∀ w, (execOp a.eval o).run P w = .ok (.value v) w) (h : wpAny P md ops Q f (s.setIfInBounds j true) (a.put o.dst v) w) : wpAny P md ops Q (f + 1) s a w :=
  wpAny_take hj hs hf hr hQ (.inl ⟨hw, hy⟩) h
theorem take_at {Q : Exit → Act → World → Prop} {ts : Array Value} {df : List Deferred} {w : World} {f : Nat} {s : Array Bool} (j : Nat) (d : Tmp) {o : Oper} (v : Value) (hj : ops[j]? = some o) (hd : o.dst = some d) (hs : Region.noSelect ops = true) (hf : Region.free md ops s j = true) (hr : (Region.ready md ops s).contains j = true)
    (hQ : ∀ c a w, Q (.panic c) (a.put (some d) v) w → Q (.panic c) a w) (hw : Region.wanted o (yielded ops ts) = true) (hy : ∀ w, (execOp (⟨ts, df⟩ : Act).eval o).run P w = .ok (.value v) w) (h : wpAny P md ops Q f (s.setIfInBounds j true) ⟨ts.setIfInBounds d v, df⟩ w) : wpAny P md ops Q (f + 1) s ⟨ts, df⟩ w :=
  take_val j v hj hs hf hr (by rw [hd]; exact hQ) hw hy (by rw [hd]; exact h)
theorem rest_idx {Q' : Exit → Act → World → Prop} {a : Act} {w : World} {f : Nat} {s : Array Bool} (L : List (Nat × Oper)) (hf : f = L.length) (hl : ∀ p ∈ L, ops[p.1]? = some p.2) (hB : seqI md ops (L.map (·.1)) s = true) (h : wpList P ops Q' (L.map (·.2)) a w) : wpAny P md ops Q' f s a w := by
  subst hf
  exact wpAny_of_idx L s a w hl hB h
theorem exec_arr {o : Oper} {a : Act} {W : World} (arr e : TypeId) (x : Operand) (ho : o.op = .sliceToArrayPointer arr x) (n : Nat) (ad : Option Addr) (len cap : Nat) (hx : a.eval x = .slice ad len cap) (hu : P.underlying arr = some (.array n e)) (hn : n ≤ len) : (execOp a.eval o).run P W = .ok (.value (.pointer ad)) W := by
  unfold execOp
  simp only [ho, hx]
  rw [Sem.run_bind, run_arrayAt W arr e n ad len cap hu hn]
  simp [Result.andThen]
theorem exec_slice {o : Oper} {a : Act} {W : World} (t : TypeId) (x : Operand) (lo hi : Option Operand) (ho : o.op = .slice t x lo hi none) (v : Value) (h : (Instr.sliceAt t (a.eval x) (lo.map a.eval) (hi.map a.eval) none).run P W = .ok v W) : (execOp a.eval o).run P W = .ok (.value v) W := by
  unfold execOp
  simp only [ho]
  rw [Sem.run_bind]
  simp only [Option.map_none] at h ⊢
  rw [h]
  simp [Result.andThen]
end
end Rel
end Go.Proofs.YtpakdcgcgekcfaaDoor

/-
  Contracts of the library's functions, laid at this program (the numbers by name).
-/
set_option linter.unusedSimpArgs false
set_option linter.unusedVariables false
set_option linter.unusedVariables false
namespace Go.Proofs.YtpakdcgcgekcfaaDoor
open Go.Shelf Go.Proofs
def Tryd.lays180_ren : Go.Shelf.Ren := ⟨fun | 180 => 90 | 251 => 113 | 252 => 114 | 181 => 129 | 184 => 130 | 290 => 131 | 324 => 136 | n => n, fun | 130 => 187 | 37 => 53 | 3 => 3 | 75 => 157 | 0 => 0 | 93 => 155 | 91 => 153 | 131 => 188 | 4 => 4 | 20 => 20 | 5 => 5 | 80 => 208 | 9 => 9 | n => n, fun | 14 => 1 | n => n⟩
theorem Tryd.lays180 : Go.Proofs.LaysM.n180 Tryd.prog Tryd.lays180_ren := {
  mixed := by kernel_rfl
  f180 := Tryd.func90.trans (congrArg some (by kernel_rfl))
  f181 := Tryd.func129.trans (congrArg some (by kernel_rfl))
  f184 := Tryd.func130.trans (congrArg some (by kernel_rfl))
  f251 := Tryd.func113.trans (congrArg some (by kernel_rfl))
  f252 := Tryd.func114.trans (congrArg some (by kernel_rfl))
  f290 := Tryd.func131.trans (congrArg some (by kernel_rfl))
  f324 := Tryd.func136.trans (congrArg some (by kernel_rfl))
  t0 := Tryd.underlying0
  a0 := Tryd.isAgg0
  z0 := Tryd.sizeOf0
  v0 := Tryd.zeroValue0
  t3 := Tryd.underlying3
  a3 := Tryd.isAgg3
  z3 := Tryd.sizeOf3
  v3 := Tryd.zeroValue3
  t4 := Tryd.underlying4
  a4 := Tryd.isAgg4
  z4 := Tryd.sizeOf4
  v4 := Tryd.zeroValue4
  t20 := Tryd.underlying20
  a20 := Tryd.isAgg20
  z20 := Tryd.sizeOf20
  v20 := Tryd.zeroValue20
  t37 := Tryd.underlying53
  a37 := Tryd.isAgg53
  z37 := Tryd.sizeOf53
  v37 := Tryd.zeroValue53
  t75 := Tryd.underlying157
  a75 := Tryd.isAgg157
  z75 := Tryd.sizeOf157
  v75 := Tryd.zeroValue157
  t91 := Tryd.underlying153
  a91 := Tryd.isAgg153
  z91 := Tryd.sizeOf153
  v91 := Tryd.zeroValue153
  t93 := Tryd.underlying155
  a93 := Tryd.isAgg155
  z93 := Tryd.sizeOf155
  v93 := Tryd.zeroValue155
  t130 := Tryd.underlying187
  a130 := Tryd.isAgg187
  z130 := Tryd.sizeOf187
  v130 := Tryd.zeroValue187
  t131 := Tryd.underlying188
  a131 := Tryd.isAgg188
  z131 := Tryd.sizeOf188
  v131 := Tryd.zeroValue188
  g14 := by kernel_rfl
  t5 := Tryd.underlying5
  a5 := Tryd.isAgg5
  z5 := Tryd.sizeOf5
  v5 := Tryd.zeroValue5
  t9 := Tryd.underlying9
  a9 := Tryd.isAgg9
  z9 := Tryd.sizeOf9
  v9 := Tryd.zeroValue9
  t80 := Tryd.underlying208
  a80 := Tryd.isAgg208
  z80 := Tryd.sizeOf208
  v80 := Tryd.zeroValue208
  i0 := by kernel_rfl
  i3 := by kernel_rfl
  i4 := by kernel_rfl
  i5 := by kernel_rfl
  i9 := by kernel_rfl
  i20 := by kernel_rfl
  i37 := by kernel_rfl
  i75 := by kernel_rfl
  i80 := by kernel_rfl
  i91 := by kernel_rfl
  i93 := by kernel_rfl
  i130 := by kernel_rfl
  i131 := by kernel_rfl
  m14 := by kernel_rfl }
def Tryd.lays183_ren : Go.Shelf.Ren := ⟨fun | 183 => 91 | n => n, fun | 130 => 187 | 37 => 53 | 0 => 0 | 93 => 155 | 3 => 3 | 5 => 5 | 91 => 153 | n => n, fun | n => n⟩
theorem Tryd.lays183 : Go.Proofs.LaysM.n183 Tryd.prog Tryd.lays183_ren := {
  mixed := by kernel_rfl
  f183 := Tryd.func91.trans (congrArg some (by kernel_rfl))
  t0 := Tryd.underlying0
  a0 := Tryd.isAgg0
  z0 := Tryd.sizeOf0
  v0 := Tryd.zeroValue0
  t3 := Tryd.underlying3
  a3 := Tryd.isAgg3
  z3 := Tryd.sizeOf3
  v3 := Tryd.zeroValue3
  t37 := Tryd.underlying53
  a37 := Tryd.isAgg53
  z37 := Tryd.sizeOf53
  v37 := Tryd.zeroValue53
  t93 := Tryd.underlying155
  a93 := Tryd.isAgg155
  z93 := Tryd.sizeOf155
  v93 := Tryd.zeroValue155
  t130 := Tryd.underlying187
  a130 := Tryd.isAgg187
  z130 := Tryd.sizeOf187
  v130 := Tryd.zeroValue187
  t5 := Tryd.underlying5
  a5 := Tryd.isAgg5
  z5 := Tryd.sizeOf5
  v5 := Tryd.zeroValue5
  t91 := Tryd.underlying153
  a91 := Tryd.isAgg153
  z91 := Tryd.sizeOf153
  v91 := Tryd.zeroValue153
  i0 := by kernel_rfl
  i3 := by kernel_rfl
  i5 := by kernel_rfl
  i37 := by kernel_rfl
  i91 := by kernel_rfl
  i93 := by kernel_rfl
  i130 := by kernel_rfl }
end Go.Proofs.YtpakdcgcgekcfaaDoor

/-
  Package mode: Run.
-/
set_option linter.unusedSimpArgs false
set_option linter.unusedVariables false
namespace Go.Proofs.YtpakdcgcgekcfaaDoor
open Go.RowKit

namespace Aes
open Otp R1 Fuse Sha
def blkAt (p : List Nat) (i : Nat) : List Nat := (p.drop (16 * i)).take 16
def runM (m : Md) (p : List Nat) : Nat → Md × List Nat
  | 0 => (m, [])
  | i + 1 => ((stepM (runM m p i).1 (blkAt p i)).1, (runM m p i).2 ++ (stepM (runM m p i).1 (blkAt p i)).2)
theorem blkAt_ok {p : List Nat} (hb : ∀ x ∈ p, x < 256) {i : Nat} (hi : 16 * i + 16 ≤ p.length) : (blkAt p i).length = 16 ∧ ∀ x ∈ blkAt p i, x < 256 :=
  ⟨by rw [blkAt, List.length_take, List.length_drop]; omega, fun x hx => hb x (List.mem_of_mem_drop (List.mem_of_mem_take hx))⟩
theorem runM_ok {m : Md} (h : m.Ok) {p : List Nat} (hb : ∀ x ∈ p, x < 256) : ∀ i, 16 * i ≤ p.length → (runM m p i).1.Ok ∧ (runM m p i).1.key = m.key ∧ (runM m p i).1.kind = m.kind ∧ (runM m p i).1.back = m.back ∧ (runM m p i).2.length = 16 * i ∧ ∀ x ∈ (runM m p i).2, x < 256
  | 0, _ => ⟨h, rfl, rfl, rfl, rfl, fun x hx => by cases hx⟩
  | i + 1, hi => by
    obtain ⟨h1, h2, h3, h4, h5, h6⟩ := runM_ok h hb i (by omega)
    obtain ⟨k1, k2⟩ := blkAt_ok hb (i := i) (by omega)
    obtain ⟨q1, q2, q3, q4, q5, q6⟩ := stepM_ok h1 k1 k2
    simp only [runM]
    refine ⟨q1, q4.trans h2, q5.trans h3, q6.trans h4, by rw [List.length_append, h5, q2]; omega, fun x hx => ?_⟩
    rcases List.mem_append.1 hx with hx | hx
    · exact h6 x hx
    · exact q3 x hx
/-- Run under way. -/
structure Rb (W : World) (gM gR gU : Nat) (ML : List Value) (ZM : Array Value) (out : List Nat) (w : World) : Prop where
  km : Blk w gM 96 ML.toArray
  kr : Blk w gR 96 ZM
  buf : Lib.IsBuffer 155 5 gU gU (v8 out) w
  bel : Below W.heap.size W w
  o1 : W.heap.size ≤ gM
  o2 : gM < gR
  o3 : gR < gU
section
variable {W w w' : World} {gM gR gU : Nat} {ML ML' : List Value} {ZM : Array Value} {out : List Nat}
theorem Rb.old (h : Rb W gM gR gU ML ZM out w) (hb : Below w.heap.size w w') : Rb W gM gR gU ML ZM out w' := ⟨h.km.next hb rfl, h.kr.next hb rfl, h.buf.old hb, below_then h.bel hb (Nat.le_refl _), h.o1, h.o2, h.o3⟩
theorem isBuffer_frm {T e : TypeId} {B b : Nat} {bs : List Value} {S : List Nat} (h : Lib.IsBuffer T e B b bs w) (hf : Frm S w w') (hS : ∀ x ∈ S, x < B) : Lib.IsBuffer T e B b bs w' := by
  have hlt := h.lt
  obtain ⟨hB, v, lr, hbk, hown, hne⟩ := h
  exact ⟨hB, v, lr, (hf.block b hlt (fun hx => by have := hS b hx; omega)).trans hbk, own_frm hown hf hS, hne⟩
theorem Rb.putM (h : Rb W gM gR gU ML ZM out w) (hf : Frm [gM] w w') (hk : Blk w' gM 96 ML'.toArray) : Rb W gM gR gU ML' ZM out w' := by
  have o1 := h.o1
  have o2 := h.o2
  have o3 := h.o3
  exact ⟨hk, h.kr.frm hf (by simp; omega), isBuffer_frm h.buf hf (fun x hx => by simp at hx; omega), Below.frm h.bel hf (Nat.le_refl _) (fun x hx => by simp at hx; omega), o1, o2, o3⟩
theorem Rb.far (h : Rb W gM gR gU ML ZM out w) {g : Nat} (hf : Frm [g] w w') (hg : gU < g) (ht : ∀ c, ¬ Blk w g 5 c) : Rb W gM gR gU ML ZM out w' := by
  have o1 := h.o1
  have o2 := h.o2
  have o3 := h.o3
  have hlt := h.buf.lt
  obtain ⟨hB, v, lr, hbk, hown, hne⟩ := h.buf
  refine ⟨h.km.frm hf (by simp; omega), h.kr.frm hf (by simp; omega), ⟨hB, v, lr, (hf.block gU hlt (by simp; omega)).trans hbk, ⟨hown.1, ?_⟩, hne⟩, Below.frm h.bel hf (Nat.le_refl _) (fun x hx => by simp at hx; omega), o1, o2, o3⟩
  rcases hown.2 with hn | ⟨q, cap, cur, hv, hbg, hq, rest⟩
  · exact .inl hn
  · refine .inr ⟨q, cap, cur, hv, hbg, (hf.block q (Lib.lt_of_heap hq) (fun hx => ?_)).trans hq, rest⟩
    simp at hx
    subst hx
    exact ht _ hq
theorem Rb.wrote (h : Rb W gM gR gU ML ZM out w) {cs : List Nat} (hb : Below gU w w') (hk : Lib.IsBuffer 155 5 gU gU (v8 out ++ v8 cs) w') : Rb W gM gR gU ML ZM (out ++ cs) w' := by
  have o1 := h.o1
  have o2 := h.o2
  have o3 := h.o3
  refine ⟨h.km.below hb (by omega), h.kr.below hb o3, ?_, h.bel.trans (hb.mono (by omega)), o1, o2, o3⟩
  have : v8 (out ++ cs) = v8 out ++ v8 cs := by simp [v8]
  rw [this]
  exact hk
end
theorem write_any (gU g : Nat) (out cs : List Nat) (n c : Nat) (w : World) (h : Lib.IsBuffer 155 5 gU gU (v8 out) w) (hn : cs.length = n) (hg : g ≠ gU) (hk : Blk w g 90 (b8 cs)) (hlim : out.length + n ≤ 140737488355328) :
    Calls Tryd.prog 90 #[.pointer (some ⟨gU, 0, none⟩), .slice (some ⟨g, 0, none⟩) n c] w (fun e w' => e = .returned (.tuple #[.int .i64 n, .nilIface]) ∧ Lib.IsBuffer 155 5 gU gU (v8 out ++ v8 cs) w' ∧ Below gU w w') := by
  have one : ∀ l : List Nat, ∀ v ∈ v8 l, v.oneCell' = true := fun l v hv => by
    obtain ⟨_, _, rfl⟩ := List.mem_map.1 hv
    rfl
  have hsrc : ∀ (j : Nat) (v : Value), (v8 cs)[j]? = some v → w.cell? ((⟨g, 0, none⟩ : Addr).add j) = some v := fun j v hv => by
    rw [Go.WideShapes.add_plain, hk.cell, Nat.zero_add]
    simpa [b8, v8] using hv
  have H := Any.Buffer_Write_any Tryd.lays180 gU gU (v8 out) (v8 cs) ⟨g, 0, none⟩ n c w h (Nat.le_of_lt h.lt) (one out) (by rw [v8_length]; exact hn) hg hsrc (one cs) (by rw [v8_length]; exact hlim)
  exact Calls.mono H fun e w' ⟨h1, h2, h3, _⟩ => ⟨h1, h2, h3⟩
theorem bytes_any (gU : Nat) (out : List Nat) (w : World) (h : Lib.IsBuffer 155 5 gU gU (v8 out) w) :
    Calls Tryd.prog 91 #[.pointer (some ⟨gU, 0, none⟩)] w (fun e w' => ∃ v, e = .returned v ∧ OwnB w' gU v out ∧ ∃ n, w' = w.drewN n) := by
  have H := Any.Buffer_Bytes Tryd.lays183 gU gU (v8 out) w h
  refine Calls.mono H fun e w' ⟨v, h1, h2, h3⟩ => ⟨v, h1, ?_, h3⟩
  rw [v8_length] at h2
  exact h2
def RunOut (w : World) (A : Option Addr) (L c : Nat) (r : Md × List Nat) (e : Ending) (w' : World) : Prop := ∃ v, e = .returned (.tuple #[.agg (mV A L c r.1).toArray, v, .int .i64 0]) ∧ OwnB w' w.heap.size v r.2 ∧ Below w.heap.size w w'
def RunBad (w : World) (A : Option Addr) (L c : Nat) (m : Md) (e : Ending) (w' : World) : Prop := e = .returned (.tuple #[.agg (mV A L c m).toArray, .slice none 0 0, .int .i64 1]) ∧ Below w.heap.size w w'
def RunBadG (w : World) (ML : List Value) (e : Ending) (w' : World) : Prop := e = .returned (.tuple #[.agg ML.toArray, .slice none 0 0, .int .i64 1]) ∧ Below w.heap.size w w'
set_option maxRecDepth 100000 in
set_option maxHeartbeats 4000000 in
theorem run_badg (ML : List Value) (hM : M2F zM.toArray ML) (PA : Option Addr) (n pc : Nat) (w : World) (hn : n % 16 ≠ 0) (hnm : n ≤ maxLen) :
    Calls Tryd.prog 56 #[.agg ML.toArray, .slice PA n pc] w (RunBadG w ML) := by
  have H2F0 := wall hM
  obtain ⟨ZM, hZM⟩ : ∃ x, zM.toArray = x := ⟨_, rfl⟩
  have HZM := wall (show Tryd.zeroCells96 = ZM by rw [← hZM, zM_eq])
  unfold RunBadG
  rw [hZM] at H2F0
  obtain ⟨w1, hw1⟩ : ∃ W, W = (w.alloc (.cells ML.toArray 96)).alloc (.cells ZM 96) := ⟨_, rfl⟩
  have HW := wall hw1
  have HB1 := wall (show Below w.heap.size w w1 by rw [hw1]; exact ((Below.refl _ w).alloc (Nat.le_refl _) _).alloc (by simp) _)
  have HKM := wall (show Blk w1 w.heap.size 96 ML.toArray by rw [hw1]; exact (Blk.new _ _ _).alloc _)
  have HKR := wall (show Blk w1 (w.heap.size + 1) 96 ZM by rw [hw1]; exact blk_new' (by simp))
  have hr : ((n : Int) % 16 != 0) = true := by rw [bne_iff_ne]; omega
  have hr2 : ((n : Int).tmod 16 != 0) = true := by rw [bne_iff_ne, Int.tmod_eq_emod_of_nonneg (by omega)]; omega
  clear hw1 hZM hn hM
  go_enter Tryd.func56, Tryd.ntmps56
  go_upto_region 1 with fail
  rw [HZM.out]
  rw [← HW.out]
  clear HW
  go_wp2_with (first | refine wpList_load_row rfl 96 _ rfl w.heap.size rfl 96 ML.toArray (0, 0) _ HKM.out Tryd.underlying96 rfl H2F0.out.1 ?_ | (refine wpList_new_row rfl 96 (.tmp 4) (.tmp 13) rfl (w.heap.size + 1) ML.toArray rfl rfl 96 ZM HKR.out H2F0.out.1 H2F0.out.2.1 H2F0.out.2.2 w.heap.size w HB1.out (by omega) ?_; intro w4 K4 B4))
  go_light
  exact bodyPost_ret (v := .tuple #[.agg ML.toArray, .slice none 0 0, .int .i64 1]) (results_two_slots Tryd.results56 _ _ (w.heap.size + 1) 96 ML.toArray _ _ _ rfl rfl rfl K4.out Tryd.underlying96 rfl H2F0.out.1) rfl ⟨rfl, B4.out⟩
theorem run_bad (A : Option Addr) (L c : Nat) (m : Md) (PA : Option Addr) (n pc : Nat) (w : World) (hvl : m.v.length = 16) (hn : n % 16 ≠ 0) (hnm : n ≤ maxLen) :
    Calls Tryd.prog 56 #[.agg (mV A L c m).toArray, .slice PA n pc] w (RunBad w A L c m) := run_badg _ (m2f A L c hvl) PA n pc w hn hnm
end Aes
end Go.Proofs.YtpakdcgcgekcfaaDoor

/-
  Package mode: Run of whole blocks.
-/
set_option linter.unusedSimpArgs false
set_option linter.unusedVariables false
namespace Go.Proofs.YtpakdcgcgekcfaaDoor
open Go.RowKit

namespace Aes
open Otp R1 Fuse Sha
theorem own_less {w : World} {B B' : Nat} {v : Value} {l : List Nat} (h : OwnB w B v l) (hB : B' ≤ B) : OwnB w B' v l := by
  refine ⟨h.1, ?_⟩
  rcases h.2 with hn | ⟨q, cap, cur, hv, hbg, hq, rest⟩
  · exact .inl hn
  · exact .inr ⟨q, cap, cur, hv, Nat.le_trans hB hbg, hq, rest⟩
theorem own_grow {gU : Nat} {out : List Nat} : ∀ v W W', Rel.Grow W W' → (fun v W => OwnB W gU v out) v W → (fun v W => OwnB W gU v out) v W' := fun _ _ _ h k => own_frm k (Frm.of_below (S := []) h) (fun x hx => by simp at hx)
def RunGen (w : World) (ML : List Value) (out : List Nat) (e : Ending) (w' : World) : Prop := ∃ v, e = .returned (.tuple #[.agg ML.toArray, v, .int .i64 0]) ∧ OwnB w' w.heap.size v out ∧ Below w.heap.size w w'
set_option maxRecDepth 100000 in
set_option maxHeartbeats 4000000 in
/-- Run, by what each step does. -/
theorem run_gen (CL : Nat → List Value) (O Bk : Nat → List Nat) (PA : Option Addr) (n nb pc : Nat) (p : List Nat) (w : World) (hM : ∀ i, i ≤ nb → M2F zM.toArray (CL i)) (hO : O 0 = [] ∧ ∀ i, i < nb → O (i + 1) = O i ++ Bk i) (hB : ∀ i, i < nb → (Bk i).length = 16)
    (hS : ∀ i W, i < nb → Below w.heap.size w W → Calls Tryd.prog 63 #[.agg (CL i).toArray, .agg (b8 (blkAt p i))] W (fun e w' => e = .returned (.tuple #[.agg (CL (i + 1)).toArray, .agg (b8 (Bk i))]) ∧ Below W.heap.size W w'))
    (hpl : p.length = n) (hn : n = 16 * nb) (hnm : n ≤ 1000000) (hpc : n ≤ pc) (hz : Nats .u8 256 w w.heap.size PA p) :
    Calls Tryd.prog 56 #[.agg (CL 0).toArray, .slice PA n pc] w (RunGen w (CL nb) (O nb)) := by
  have HPB := wall (show ∀ x ∈ p, x < 256 from fun x hx => by
    obtain ⟨i, hi⟩ := List.mem_iff_getElem?.1 hx
    exact (hz i x hi).1)
  have HBK := wall (fun i (h : i < nb) => blkAt_ok HPB.out (i := i) (by omega))
  have HOL := wall (show ∀ i, i ≤ nb → (O i).length = 16 * i from fun i => by
    induction i with
    | zero => intro _; rw [hO.1]; rfl
    | succ i ih => intro h; rw [hO.2 i (by omega), List.length_append, ih (by omega), hB i (by omega)]; omega)
  have HMV := wall hM
  have HON := wall hO.2
  have H0 := wall hO.1
  have HBL := wall hB
  have HST := wall hS
  have HZ := wall hz
  have HPL := wall hpl
  have HSB := wall (fun (l : List Nat) (h : l.length = 16) => show (Tryd.prog.info? 90).map (·.size) = some (b8 l).size by rw [b8_size, h]; exact blk_info16)
  obtain ⟨ZM, hZM⟩ : ∃ x, zM.toArray = x := ⟨_, rfl⟩
  have HZM := wall (show Tryd.zeroCells96 = ZM by rw [← hZM, zM_eq])
  rw [hZM] at HMV
  unfold RunGen
  obtain ⟨w1, hw1⟩ : ∃ W, W = ((w.alloc (.cells (CL 0).toArray 96)).alloc (.cells ZM 96)).alloc (.cells #[.slice none 0 0, .int .i64 0, .int .i8 0] 155) := ⟨_, rfl⟩
  have HW := wall hw1
  obtain ⟨gU, hgU⟩ : ∃ x, x = w.heap.size + 1 + 1 := ⟨_, rfl⟩
  obtain ⟨gR, hgR⟩ : ∃ x, x = w.heap.size + 1 := ⟨_, rfl⟩
  obtain ⟨gM, hgM⟩ : ∃ x, x = w.heap.size := ⟨_, rfl⟩
  have HGG := wall (show gU = w.heap.size + 1 + 1 ∧ gR = w.heap.size + 1 ∧ gM = w.heap.size from ⟨hgU, hgR, hgM⟩)
  have HR1 := wall (show Rb w gM gR gU (CL 0) ZM (O 0) w1 by
    rw [hw1, hgU, hgR, hgM]
    refine ⟨((Blk.new _ _ _).alloc _).alloc _, (blk_new' (by simp)).alloc _, ?_, (((Below.refl _ w).alloc (Nat.le_refl _) _).alloc (by simp) _).alloc (by simp; omega) _, Nat.le_refl _, by omega, by omega⟩
    have h := Lib.fresh_isBuffer 155 5 ((w.alloc (.cells (CL 0).toArray 96)).alloc (.cells ZM 96))
    rw [H0.out]
    simpa [v8] using h)
  have hr : ((n : Int) % 16 != 0) = false := by rw [bne_eq_false_iff_eq]; omega
  have hr2 : ((n : Int).tmod 16 != 0) = false := by rw [bne_eq_false_iff_eq, Int.tmod_eq_emod_of_nonneg (by omega)]; omega
  have HSA := wall (fun (ad : Option Addr) (k cap : Nat) (h : 16 ≤ k) (hc : k ≤ cap) => And.intro (run_slice_h1 (P := Tryd.prog) 53 5 Tryd.underlying53 (fun _ => by kernel_rfl) ad k cap 16 .i64 16 rfl (by omega) (by omega)) (run_slice_l1 (P := Tryd.prog) 53 5 Tryd.underlying53 (fun _ => by kernel_rfl) ad k cap 16 .i64 16 rfl h))
  have HN := wall hn
  clear hw1 hZM hM hO hB hS hpl hz hgU hgR hgM hn
  go_enter Tryd.func56, Tryd.ntmps56
  go_upto_region 1 with fail
  rw [HZM.out]
  go_upto_region 4 with fail
  change Code.wp _ _ _ _ (((w.alloc (.cells (CL 0).toArray 96)).alloc (.cells ZM 96)).alloc (.cells #[.slice none 0 0, .int .i64 0, .int .i8 0] 155))
  rw [← HW.out, ← HGG.out.1, ← HGG.out.2.1, ← HGG.out.2.2]
  clear HW HGG HZM hr hr2
  go_loopg [1] nb (fun gm s1 wr => ∃ (i : Nat) (ad : Option Addr) (k pc' : Nat), i + gm = nb ∧ s1 = .slice ad k pc' ∧ k = n - 16 * i ∧ k ≤ pc' ∧ Wall (Nats .u8 256 w w.heap.size ad (p.drop (16 * i))) ∧ Wall (Rb w gM gR gU (CL i) ZM (O i) wr))
  case atStart => exact ⟨0, PA, n, pc, by omega, rfl, by omega, hpc, wall (by simpa using HZ.out), HR1⟩
  case round =>
    clear HR1
    obtain ⟨i, ad, k, pc', hg, rfl, hki, hkp, HNA, HR⟩ := hrel
    have HG := wall hg
    have hi : i ≤ nb := by omega
    have hnn := HN.out
    clear hg
    have hol := HOL.out i hi
    by_cases hlt : i < nb
    · have hk16 : 16 ≤ k := by omega
      have hk0 : (0 : Int) < (k : Int) := by omega
      obtain ⟨b, hb⟩ : ∃ b, blkAt p i = b := ⟨_, rfl⟩
      have hbk := HBK.out i hlt
      rw [hb] at hbk
      obtain ⟨sb, so, had, hsb, hrg⟩ := nats_range (HNA.out.below HR.out.bel) 16 (by decide) (by rw [List.length_drop, HPL.out]; omega)
      rw [show (p.drop (16 * i)).take 16 = b from hb] at hrg
      subst had
      have HRG := wall hrg
      have HBB := wall hbk
      have hst := HST.out i
      rw [hb] at hst
      have HSL := wall (HSA.out (some ⟨sb, so, none⟩) k pc' hk16 hkp)
      have HM1 := wall (HMV.out i hi)
      have HM2 := wall (HMV.out (i + 1) (by omega))
      have hnx := HON.out i hlt
      have hb2l := HBL.out i hlt
      obtain ⟨b2, hb2⟩ : ∃ x, Bk i = x := ⟨_, rfl⟩
      obtain ⟨ML2, hML2⟩ : ∃ x, CL (i + 1) = x := ⟨_, rfl⟩
      obtain ⟨ML, hML⟩ : ∃ x, CL i = x := ⟨_, rfl⟩
      obtain ⟨out, hout⟩ : ∃ x, O i = x := ⟨_, rfl⟩
      rw [hML, hML2, hb2] at hst
      rw [hML] at HM1 HR
      rw [hML2] at HM2
      rw [hb2] at hnx hb2l
      rw [hout] at hnx HR hol
      have HSTQ := wall (fun W (h : Below w.heap.size w W) => hst W hlt h)
      have HB2 := wall hb2l
      have HNI := wall hnx
      have HML2 := wall hML2
      have HKI := wall hki
      have hlim : out.length + 16 ≤ 140737488355328 := by omega
      clear hol hb hbk hrg hb2l hML2 hML hnn hki hst hnx hb2 hout
      go_upto_region 6 with fail
      change Code.wp _ _ _ _ (wr.alloc (.cells (b8 z16) 90))
      obtain ⟨w5, hw5⟩ : ∃ W, W = wr.alloc (.cells (b8 z16) 90) := ⟨_, rfl⟩
      have HB5 := wall (show Below wr.heap.size wr w5 by rw [hw5]; exact (Below.refl _ _).alloc (Nat.le_refl _) _)
      have HKB5 := wall (show Blk w5 wr.heap.size 90 (b8 z16) by rw [hw5]; exact Blk.new _ _ _)
      have HR5 := wall (HR.out.old HB5.out)
      have HRG5 := wall (range_below HRG.out (Nat.lt_of_lt_of_le hsb HR.out.bel.size) HB5.out)
      have hgb : gU < wr.heap.size := HR.out.buf.lt
      have hsb5 : sb < w5.heap.size := Nat.lt_of_lt_of_le hsb HR5.out.bel.size
      rw [← hw5]
      clear hw5 HB5 HR HRG
      generalize wr.heap.size = gb at *
      refine Rel.wp_region_rel_pin 6 [(23, .const (.tuple #[.agg ML2.toArray, .agg (b8 b2)]))] (by kernel_rfl) (by kernel_rfl) ?_
      simp only [List.take_succ_cons, List.take_zero, List.drop_succ_cons, List.drop_zero, Act.put, List.setIfInBounds_toArray, List.set_cons_zero, List.set_cons_succ]
      refine Rel.tree_pure rfl rfl rfl (.agg ML.toArray) (fun W hW _ => Rel.exec_load _ _ rfl gM 0 rfl _ _ (Blk.range (hW.blk HR5.out.km.drew)) Tryd.underlying96 rfl HM1.out.1) ?_
      simp only [Act.put, List.setIfInBounds_toArray, List.set_cons_zero, List.set_cons_succ]
      (refine Rel.tree_quiet rfl rfl rfl (fun K hK => ?_); go_big_quiet_op; refine hK _ ?_; clear hK K)
      refine Rel.tree_pure rfl rfl rfl (.slice (some ⟨sb, so, none⟩) 16 pc') (fun W hW _ => Rel.exec_slice _ _ _ _ rfl _ (HSL.out.1 W)) ?_
      simp only [Act.put, List.setIfInBounds_toArray, List.set_cons_zero, List.set_cons_succ]
      refine Rel.tree_pure rfl rfl rfl (.pointer (some ⟨sb, so, none⟩)) (fun W hW _ => Rel.exec_arr _ _ _ rfl 16 _ 16 pc' rfl Tryd.underlying90 (Nat.le_refl _)) ?_
      simp only [Act.put, List.setIfInBounds_toArray, List.set_cons_zero, List.set_cons_succ]
      refine Rel.tree_pure rfl rfl rfl (.agg (b8 b)) (fun W hW _ => Rel.exec_load _ _ rfl sb so rfl _ _ (range_below HRG5.out hsb5 hW.undrew) Tryd.underlying90 rfl (HSB.out _ HBB.out.1)) ?_
      simp only [Act.put, List.setIfInBounds_toArray, List.set_cons_zero, List.set_cons_succ]
      refine Rel.tree_const rfl (.tuple #[.agg ML2.toArray, .agg (b8 b2)]) rfl (fun W hW _ => ?_) ?_
      · have hV := below_then HR5.out.bel hW.undrew (Nat.le_refl _)
        unfold Rel.relAt; go_simp; show Calls _ _ _ _ _
        exact const_call (HSTQ.out W hV)
      simp only [Act.put, List.setIfInBounds_toArray, List.set_cons_zero, List.set_cons_succ]
      (refine Rel.tree_quiet rfl rfl rfl (fun K hK => ?_); go_big_quiet_op; refine hK _ ?_; clear hK K)
      intro W hW _
      have HRW := wall (HR5.out.old hW.undrew)
      have HKB := wall (hW.blk HKB5.out.drew)
      clear hW HR5 HKB5 HRG5 HSTQ
      refine Rel.take_at 7 24 (.agg ML2.toArray) rfl rfl (by kernel_rfl) (by kernel_rfl) (by kernel_rfl) (fun _ _ _ h => h) rfl (fun w => by go_simp) ?_
      simp only [Act.put, List.setIfInBounds_toArray, List.set_cons_zero, List.set_cons_succ]
      refine Rel.take_at 8 25 (.agg (b8 b2)) rfl rfl (by kernel_rfl) (by kernel_rfl) (by kernel_rfl) (fun _ _ _ h => h) rfl (fun w => by go_simp) ?_
      simp only [Act.put, List.setIfInBounds_toArray, List.set_cons_zero, List.set_cons_succ]
      refine Rel.rest_idx [(9, _), (10, _)] rfl (fun p hp => by simp at hp; rcases hp with rfl | rfl <;> rfl) (by kernel_rfl) ?_
      simp only [List.map_cons, List.map_nil]
      have o2 := HRW.out.o2
      have o3 := HRW.out.o3
      go_upto_region 7 with (first | (refine wpList_set_row rfl 90 (.tmp 8) (.tmp 25) rfl gb (b8 b2) rfl rfl 90 (b8 z16) (HKB.out.frm F8.out (by simp; omega)) (HSB.out _ HB2.out) (by rw [b8_size, b8_size, HB2.out]; rfl) (b8_one _) ?_; intro w9 K9 F9) | (refine wpList_set_row rfl 96 (.tmp 2) (.tmp 24) rfl gM ML2.toArray rfl rfl 96 ML.toArray HRW.out.km HM2.out.1 (HM1.out.2.1.symm.trans HM2.out.2.1) HM2.out.2.2 ?_; intro w8 K8 F8))
      have HR8 := wall (HRW.out.putM F8.out K8.out)
      have HR9 := wall (HR8.out.far F9.out hgb (fun c hc => by have := (Blk.eq hc (HKB.out.frm F8.out (by simp; omega))).1; exact absurd this (by decide)))
      replace K9 := wall K9.out
      have hs7 := Slot.run_slice_arr_all' (P := Tryd.prog) 90 5 16 Tryd.underlying90 (fun _ => by kernel_rfl) gb 0 (by decide)
      clear HRW HKB F8 K8 F9 HR8 HM1
      go_wp2_with fail
      (with_reducible refine (write_any gU gb out b2 16 16 w9 HR9.out.buf HB2.out (by omega) K9.out hlim).mono ?_); rintro e w10 ⟨rfl, hU, hB⟩
      have HR10 := wall (HR9.out.wrote hB hU)
      have hs8 := HSL.out.2
      clear hU hB HR9 K9 hs7
      go_wp2_with fail
      go_light
      go_roundg (nb - (i + 1))
      case measure => have := HG.out; omega
      case rel =>
        have hn16 := HN.out
        exact ⟨i + 1, slA (some ⟨sb, so, none⟩) 16 pc', k - 16, pc' - 16, by omega, rfl, by have := HKI.out; omega, by omega, wall (by have h := nats_slA (i := 16) (cap := pc') HNA.out (by rw [List.length_drop, HPL.out]; have := HKI.out; omega); rw [List.drop_drop] at h; rw [show 16 * (i + 1) = 16 * i + 16 by omega]; exact h), by rw [HNI.out, HML2.out]; exact HR10⟩
    · have hinb : i = nb := by omega
      subst hinb
      have hk0 : k = 0 := by omega
      subst hk0
      have HM1 := wall (HMV.out i hi)
      obtain ⟨ML, hML⟩ : ∃ x, CL i = x := ⟨_, rfl⟩
      obtain ⟨out, hout⟩ : ∃ x, O i = x := ⟨_, rfl⟩
      have HML := wall hML
      have HQ := wall hout
      rw [hML] at HM1 HR
      rw [hout] at HR hol
      clear hol hnn hki hML hout
      go_wp2_with fail
      refine RelG.wp_region_rel 2 [(31, .any (fun v W => OwnB W gU v out) own_grow)] (by kernel_rfl) (by kernel_rfl) ?_
      simp only [List.take_succ_cons, List.take_zero, List.drop_succ_cons, List.drop_zero, Act.put, List.setIfInBounds_toArray, List.set_cons_zero, List.set_cons_succ]
      refine RelG.tree_pure rfl rfl rfl (.agg ML.toArray) (fun W hW _ => Rel.exec_load _ _ rfl gM 0 rfl _ _ (Blk.range (hW.blk HR.out.km.drew)) Tryd.underlying96 rfl HM1.out.1) ?_
      simp only [Act.put, List.setIfInBounds_toArray, List.set_cons_zero, List.set_cons_succ]
      refine RelG.tree_rel rfl (fun v W => OwnB W gU v out) own_grow rfl (fun W hW _ => ?_) (fun v31 => ?_)
      · have hb := (HR.out.old hW.undrew).buf
        unfold RelG.relAt; go_simp; show Calls _ _ _ _ _
        exact Calls.mono (bytes_any gU out W hb) fun e w' ⟨v, h1, h2, k, h3⟩ => ⟨v, h1, by rw [h3]; exact below_drewN (Below.refl _ _) k, h2⟩
      simp only [Act.put, List.setIfInBounds_toArray, List.set_cons_zero, List.set_cons_succ]
      intro W hW hF
      have HOW := wall (show OwnB W gU v31 out from hF 31)
      have HRW := wall (HR.out.old hW.undrew)
      clear hF hW HR
      go_wp2_with (refine wpList_set_row rfl 96 (.tmp 4) (.tmp 30) rfl gR ML.toArray rfl rfl 96 ZM HRW.out.kr HM1.out.1 HM1.out.2.1 HM1.out.2.2 ?_; intro w8 K8 F8)
      have o1 := HRW.out.o1
      have o2 := HRW.out.o2
      have o3 := HRW.out.o3
      have HOZ := wall (show OwnB w8 w.heap.size v31 out by
        have h : OwnB w8 gU v31 out := own_frm HOW.out F8.out (fun x hx => by simp at hx; omega)
        exact own_less h (by omega))
      have HBZ := wall (show Below w.heap.size w w8 from Below.frm HRW.out.bel F8.out (Nat.le_refl _) (fun x hx => by simp at hx; omega))
      replace K8 := wall K8.out
      clear F8 HRW HOW
      go_light
      exact bodyPost_ret (v := .tuple #[.agg ML.toArray, v31, .int .i64 0]) (results_two_slots Tryd.results56 _ _ gR 96 ML.toArray _ _ _ rfl rfl rfl K8.out Tryd.underlying96 rfl HM1.out.1) rfl ⟨v31, by rw [HML.out], by rw [HQ.out]; exact HOZ.out, HBZ.out⟩
theorem run_any (A : Option Addr) (L c : Nat) (m : Md) (PA : Option Addr) (n nb pc : Nat) (p : List Nat) (w : World) (hm : m.Ok) (hk : KeyV w w.heap.size m.key A L c) (hpl : p.length = n) (hn : n = 16 * nb) (hnm : n ≤ 1000000) (hpc : n ≤ pc) (hz : Nats .u8 256 w w.heap.size PA p) :
    Calls Tryd.prog 56 #[.agg (mV A L c m).toArray, .slice PA n pc] w (RunOut w A L c (runM m p nb)) := by
  have hb : ∀ x ∈ p, x < 256 := fun x hx => by
    obtain ⟨i, hi⟩ := List.mem_iff_getElem?.1 hx
    exact (hz i x hi).1
  have ok := fun i (h : i ≤ nb) => runM_ok hm hb i (by omega)
  exact run_gen (fun i => mV A L c (runM m p i).1) (fun i => (runM m p i).2) (fun i => (stepM (runM m p i).1 (blkAt p i)).2) PA n nb pc p w (fun i h => m2f A L c (ok i h).1.len) ⟨rfl, fun i _ => rfl⟩
    (fun i h => (stepM_ok (ok i (by omega)).1 (blkAt_ok hb (i := i) (by omega)).1 (blkAt_ok hb (i := i) (by omega)).2).2.1)
    (fun i W h hB => step_any A L c _ _ W (ok i (by omega)).1 (by rw [(ok i (by omega)).2.1]; exact (hk.below hB).more hB.size) (blkAt_ok hb (i := i) (by omega)).1 (blkAt_ok hb (i := i) (by omega)).2) hpl hn hnm hpc hz
end Aes
end Go.Proofs.YtpakdcgcgekcfaaDoor

/-
  bytes.Clone; package mode: All.
-/
set_option linter.unusedSimpArgs false
set_option linter.unusedVariables false
namespace Go.Proofs.YtpakdcgcgekcfaaDoor
open Go.RowKit

namespace Aes
open Otp R1 Fuse Sha
theorem own_zero (w : World) : OwnB (w.alloc (.cells #[] 5)) w.heap.size (.slice (some ⟨w.heap.size, 0, none⟩) 0 0) [] :=
  ⟨rfl, .inr ⟨w.heap.size, 0, #[], rfl, Nat.le_refl _, heap_alloc_new w _, Nat.le_refl _, by decide, rfl, rfl⟩⟩
set_option maxRecDepth 100000 in
set_option maxHeartbeats 1000000 in
theorem clone_any (A : Option Addr) (n c : Nat) (l : List Nat) (w : World) (hl : l.length = n) (hn : n ≤ 1000000) (hc : n ≤ c) (hnil : A = none → c = 0) (hz : Nats .u8 256 w w.heap.size A l) :
    Calls Tryd.prog 98 #[.slice A n c] w (BytesOut w l) := by
  cases A with
  | none =>
    have hc0 := hnil rfl
    subst hc0
    have hn0 : n = 0 := by omega
    subst hn0
    have hl0 : l = [] := List.length_eq_zero_iff.1 hl
    subst hl0
    have hq : ∀ W, (binOp .eql 53 (.slice none 0 0) (.slice none 0 0)).run Tryd.prog W = .ok (.bool true) W := fun W => Lib.run_eql_slice_nil_nil W _ _ Tryd.underlying53
    clear hnil hz hl hn hc
    go_enter Tryd.func98, Tryd.ntmps98
    go_wp2_with fail
    go_light
    go_ret
    exact ⟨_, rfl, World.ownsRow_nil _ _ _ _, Below.refl _ _⟩
  | some ad =>
    have hq : ∀ W, (binOp .eql 53 (.slice (some ad) n c) (.slice none 0 0)).run Tryd.prog W = .ok (.bool false) W := fun W => Lib.run_eql_slice_some_nil W _ _ _ Tryd.underlying53
    have HZ := wall hz
    clear hz hnil
    have HO := wall (show OwnB (w.alloc (.cells #[] 5)) w.heap.size (.slice (some ⟨w.heap.size, 0, none⟩) 0 0) [] from own_zero w)
    have HBZ := wall (show Below w.heap.size w (w.alloc (.cells #[] 5)) from (Below.refl _ _).alloc (Nat.le_refl _) _)
    have HZ2 := wall ((HZ.out.below HBZ.out).more HBZ.out.size)
    go_enter Tryd.func98, Tryd.ntmps98
    go_wp2_with (refine wpList_append_bytes rfl (.tmp 5) (.tmp 6) rfl w.heap.size (.slice (some ⟨w.heap.size, 0, none⟩) 0 0) [] rfl HO.out (some ad) n c l rfl hl ⟨_, HZ2.out⟩ (fun h => nomatch h) (by simp; omega) HBZ.out.size ?_; intro v' w' hO' hB')
    go_light
    go_ret
    exact ⟨v', rfl, by simpa using hO', HBZ.out.trans hB'⟩
/-- Bytes by some modes, one behind the other. -/
def allM (ms : List Md) (p : List Nat) : Nat → List Nat
  | 0 => p
  | i + 1 => match ms[i]? with
    | some m => (runM m (allM ms p i) (p.length / 16)).2
    | none => allM ms p i
/-- A slice of modes. -/
def Modes (w : World) (B g : Nat) (ms : List Md) : Prop := g < B ∧ ∀ i m, ms[i]? = some m → m.Ok ∧ ∃ A L c, KeyV w B m.key A L c ∧ w.rangeAt g (i * 531) (mV A L c m)
theorem allM_ok {ms : List Md} (hm : ∀ m ∈ ms, m.Ok) {p : List Nat} (hb : ∀ x ∈ p, x < 256) (hl : p.length % 16 = 0) : ∀ i, (allM ms p i).length = p.length ∧ ∀ x ∈ allM ms p i, x < 256
  | 0 => ⟨rfl, hb⟩
  | i + 1 => by
    obtain ⟨h1, h2⟩ := allM_ok hm hb hl i
    rw [allM]
    cases h : ms[i]? with
    | none => exact ⟨h1, h2⟩
    | some m =>
      obtain ⟨-, -, -, -, h5, h6⟩ := runM_ok (hm m (List.mem_of_getElem? h)) h2 (p.length / 16) (by omega)
      exact ⟨by simp only; rw [h5]; omega, h6⟩
def AllOut (w : World) (l : List Nat) (e : Ending) (w' : World) : Prop := ∃ v, e = .returned (.tuple #[v, .int .i64 0]) ∧ OwnB w' w.heap.size v l ∧ Below w.heap.size w w'
set_option maxRecDepth 100000 in
set_option maxHeartbeats 4000000 in
theorem all_any (PA : Option Addr) (n pc : Nat) (p : List Nat) (g k mc : Nat) (MA : Option Addr) (ms : List Md) (w : World) (hpl : p.length = n) (hn : k = 0 ∨ n % 16 = 0) (hnm : n ≤ 1000000) (hpc : n ≤ pc) (hnil : PA = none → pc = 0) (hz : Nats .u8 256 w w.heap.size PA p)
    (hk : ms.length = k) (hkm : k ≤ 2) (hM : k = 0 ∨ (MA = some ⟨g, 0, none⟩ ∧ Modes w w.heap.size g ms)) : Calls Tryd.prog 64 #[.slice PA n pc, .slice MA k mc] w (AllOut w (allM ms p k)) := by
  have HPB := wall (show ∀ x ∈ p, x < 256 from fun x hx => by
    obtain ⟨i, hi⟩ := List.mem_iff_getElem?.1 hx
    exact (hz i x hi).1)
  have HAT := wall (show ∀ i, i < k → ∃ m, ms[i]? = some m ∧ m.Ok ∧ MA = some ⟨g, 0, none⟩ ∧ g < w.heap.size ∧ ∃ A L c, KeyV w w.heap.size m.key A L c ∧ w.rangeAt g (i * 531) (mV A L c m) from fun i hi => by
    rcases hM with h | ⟨h1, h2, h3⟩
    · omega
    · obtain ⟨m, hm⟩ : ∃ m, ms[i]? = some m := ⟨_, List.getElem?_eq_getElem (by omega)⟩
      obtain ⟨h4, h5⟩ := h3 i m hm
      exact ⟨m, hm, h4, h1, h2, h5⟩)
  have HOK := wall (fun i (h16 : n % 16 = 0) => allM_ok (ms := ms) (p := p) (fun m hm => by
    obtain ⟨i, hi⟩ := List.mem_iff_getElem?.1 hm
    obtain ⟨m', h1, h2, _⟩ := HAT.out i (by rw [← hk]; exact (List.getElem?_eq_some_iff.1 hi).1)
    rw [hi] at h1
    rw [Option.some.inj h1]
    exact h2) HPB.out (by omega) i)
  have HNX := wall (fun i m (h : ms[i]? = some m) => show allM ms p (i + 1) = (runM m (allM ms p i) (n / 16)).2 by rw [allM, h, hpl])
  have HCL := wall (clone_any PA n pc p w hpl hnm hpc hnil hz)
  have HPL := wall hpl
  have HN := wall hn
  have H0 := wall (show allM ms p 0 = p from rfl)
  have HMI := wall (fun A L c (m : Md) (h : m.v.length = 16) => mV_info A L c h)
  obtain ⟨ZM, hZM⟩ : ∃ x, zM.toArray = x := ⟨_, rfl⟩
  have HZM := wall (show Tryd.zeroCells96 = ZM by rw [← hZM, zM_eq])
  have HMF := wall (fun A L c (m : Md) (h : m.v.length = 16) => m2f A L c h)
  rw [hZM] at HMF
  generalize allM ms p = al at *
  clear hM hZM hpl hz hn hk
  go_enter Tryd.func64, Tryd.ntmps64
  go_wp2_with fail
  (with_reducible refine (HCL.out).mono ?_); rintro e w1 ⟨v1, rfl, hO1, hB1⟩
  have HO1 := wall hO1
  have HB1 := wall hB1
  clear hO1 hB1 HCL
  go_wp2_with fail
  go_loopg [6, 16] k (fun gm s6 s16 wr => ∃ (i : Nat) (v : Value), i + gm = k ∧ s6 = v ∧ s16 = .int .i64 (i : Int) ∧ Wall (OwnB wr w.heap.size v (al i)) ∧ Wall (Below w.heap.size w wr))
  case atStart => exact ⟨0, v1, by omega, rfl, rfl, by rw [H0.out]; exact HO1, HB1⟩
  case round =>
    clear HO1 HB1
    obtain ⟨i, v, hg, rfl, rfl, HO, HB⟩ := hrel
    have HG := wall hg
    have hi : i ≤ k := by omega
    clear hg
    by_cases hlt : i < k
    · obtain ⟨m, hmi, hok, rfl, hgl, A, L, c, hkv, hrg⟩ := HAT.out i hlt
      have h16 : n % 16 = 0 := by rcases HN.out with h | h <;> omega
      obtain ⟨hal, hab⟩ := HOK.out i h16
      have hnx := HNX.out i m hmi
      obtain ⟨X, hX⟩ : ∃ X, al i = X := ⟨_, rfl⟩
      rw [hX] at hal hab hnx HO
      have HX := wall hnx
      obtain ⟨A2, c2, rfl, hc2, hN2, hA2⟩ := own_nats HO.out hab
      have hXn : X.length = n := hal.trans HPL.out
      have hn16 : n = 16 * (n / 16) := by omega
      have HRU := wall (fun W (h : Below wr.heap.size wr W) => run_any A L c m A2 X.length (n / 16) c2 X W hok ((hkv.below (HB.out.trans (h.mono HB.out.size))).more (Nat.le_trans HB.out.size h.size)) rfl (by rw [hXn]; exact hn16) (by rw [hXn]; exact hnm) hc2 ((hN2.below h).more h.size))
      have HRG := wall (range_below hrg hgl HB.out)
      have HM1 := wall (HMF.out A L c m hok.len)
      have hrk := (runM_ok hok hab (n / 16) (by rw [hXn]; omega)).1.len
      obtain ⟨⟨q, out⟩, hqo⟩ : ∃ x, runM m X (n / 16) = x := ⟨_, rfl⟩
      unfold RunOut at HRU
      rw [hqo] at HRU hrk HX
      simp only at HRU hrk HX
      have HM2 := wall (HMF.out A L c q hrk)
      obtain ⟨ML2, hML2⟩ : ∃ x, mV A L c q = x := ⟨_, rfl⟩
      obtain ⟨ML, hML⟩ : ∃ x, mV A L c m = x := ⟨_, rfl⟩
      rw [hML] at HM1 HRG HRU
      rw [hML2] at HM2 HRU
      have HRG := wall (show wr.rangeAt g (i * 531) ML.toArray.toList from HRG.out)
      have hgw : g < wr.heap.size := Nat.lt_of_lt_of_le hgl HB.out.size
      obtain ⟨XL, hXL⟩ : ∃ x, X.length = x := ⟨_, rfl⟩
      rw [hXL] at HRU ⊢
      clear h16 hmi hok hkv hrg hal hab hnx hN2 hA2 hrk hqo hML hML2 hn16 hXn HO hX hXL hc2
      go_upto_region 4 with fail
      go_upto_region 5 with (first | refine wpList_load_arr rfl 96 _ rfl g (i * 531) rfl ML.toArray _ HRG.out Tryd.underlying96 rfl HM1.out.1 ?_ | (refine wpList_new_row rfl 96 (.tmp 8) (.tmp 19) rfl wr.heap.size ML.toArray rfl rfl 96 ZM (by rw [← HZM.out]; exact Blk.new _ _ _) HM1.out.1 HM1.out.2.1 HM1.out.2.2 wr.heap.size wr ((Below.refl _ wr).alloc (Nat.le_refl _) _) (Nat.le_refl _) ?_; intro w5 K5 B5))
      have HK5 := wall K5.out
      have HB5 := wall B5.out
      clear K5 B5 HRG
      go_wp2_with (refine wpList_load_row rfl 96 _ rfl wr.heap.size rfl 96 ML.toArray (0, 0) _ HK5.out Tryd.underlying96 rfl HM1.out.1 ?_)
      (with_reducible refine (HRU.out _ HB5.out).mono ?_); rintro e w6 ⟨v6, rfl, hO6, hB6⟩
      have HO6 := wall (show OwnB w6 w.heap.size v6 out from own_less hO6 (Nat.le_trans HB.out.size HB5.out.size))
      have HB6 := wall (show Below w.heap.size w w6 from HB.out.trans ((HB5.out.trans (hB6.mono HB5.out.size)).mono HB.out.size))
      clear hO6 hB6 HB5 HK5 HRU
      go_upto_region 6 with (refine wpList_new_row rfl 96 (.tmp 9) (.tmp 24) rfl w6.heap.size ML2.toArray rfl rfl 96 ZM (by rw [← HZM.out]; exact Blk.new _ _ _) HM2.out.1 HM2.out.2.1 HM2.out.2.2 w6.heap.size w6 ((Below.refl _ w6).alloc (Nat.le_refl _) _) (Nat.le_refl _) ?_; intro w7 K7 B7)
      have HO7 := wall (show OwnB w7 w.heap.size v6 out from own_frm HO6.out (Frm.of_below (S := []) B7.out) (fun x hx => by simp at hx))
      have HB7 := wall (show Below w.heap.size w w7 from HB6.out.trans (B7.out.mono HB6.out.size))
      clear K7 B7 HO6 HB6
      go_wp2_with fail
      go_light
      go_roundg (k - (i + 1))
      case measure => have := HG.out; omega
      case rel => exact ⟨i + 1, v6, by omega, rfl, by go_num, by rw [HX.out]; exact HO7, HB7⟩
    · have hik : i = k := by omega
      subst hik
      go_wp2_with fail
      go_light
      go_ret2
      exact ⟨_, rfl, HO.out, HB.out⟩
end Aes
end Go.Proofs.YtpakdcgcgekcfaaDoor

/-
  Package mode: a mode that is none leaves blocks as they are.
-/
set_option linter.unusedSimpArgs false
set_option linter.unusedVariables false
namespace Go.Proofs.YtpakdcgcgekcfaaDoor
open Go.RowKit

namespace Aes
open Otp R1 Fuse Sha
set_option maxRecDepth 100000 in
set_option maxHeartbeats 1000000 in
theorem rounds_zero (w : World) : Calls Tryd.prog 116 #[.agg zK.toArray] w (fun e w' => e = .returned (.int .i64 0) ∧ Below w.heap.size w w') := by
  obtain ⟨ZK, hZK⟩ : ∃ x, zK.toArray = x := ⟨_, rfl⟩
  obtain ⟨w1, hw1⟩ : ∃ W, W = w.alloc (.cells ZK 94) := ⟨_, rfl⟩
  have HB := wall (show Below w.heap.size w w1 by rw [hw1]; exact (Below.refl _ w).alloc (Nat.le_refl _) _)
  have hK : Blk w1 w.heap.size 94 ZK := by rw [hw1]; exact Blk.new _ _ _
  have hcv : w1.cell? ⟨w.heap.size, 0, none⟩ = some (.slice none 0 0) := by rw [hK.cell, ← hZK]; rfl
  have hlt := hK.lt
  rw [hZK]
  clear hZK
  go_enter Tryd.func116, Tryd.ntmps116
  go_upto_region 1 with fail
  rw [← hw1]
  clear hw1 hK
  go_wp2_with fail
  go_light
  go_ret
  exact ⟨rfl, HB.out⟩
set_option maxRecDepth 100000 in
set_option maxHeartbeats 2000000 in
theorem encrypt_zero (b : List Nat) (w : World) (hb : b.length = 16) : Calls Tryd.prog 96 #[.agg zK.toArray, .agg (b8 b)] w (BkOut w b) := by
  have HRZ := wall (fun W => rounds_zero W)
  have HSK0 : (Tryd.prog.info? 94).map (·.size) = some zK.toArray.size := by rw [List.size_toArray, zK_length]; exact key_info
  obtain ⟨ZK, hZK⟩ : ∃ x, zK.toArray = x := ⟨_, rfl⟩
  rw [hZK] at HRZ HSK0 ⊢
  have HSK := wall HSK0
  have HSB := wall (show (Tryd.prog.info? 90).map (·.size) = some (b8 b).size by rw [b8_size, hb]; exact blk_info16)
  have HZZ := wall (show (b8 z16).size = (b8 b).size by rw [b8_size, b8_size, hb]; rfl)
  obtain ⟨w1, hw1⟩ : ∃ W, W = ((w.alloc (.cells ZK 94)).alloc (.cells (b8 b) 90)).alloc (.cells (b8 z16) 90) := ⟨_, rfl⟩
  have HW := wall hw1
  have HKK := wall (show Blk w1 w.heap.size 94 ZK by rw [hw1]; exact ((Blk.new _ _ _).alloc _).alloc _)
  have HKB := wall (show Blk w1 (w.heap.size + 1) 90 (b8 b) by rw [hw1]; exact (blk_new' (by simp)).alloc _)
  have HKR := wall (show Blk w1 (w.heap.size + 1 + 1) 90 (b8 z16) by rw [hw1]; exact blk_new' (by simp))
  have HB1 := wall (show Below w.heap.size w w1 by rw [hw1]; exact (((Below.refl _ w).alloc (Nat.le_refl _) _).alloc (by simp) _).alloc (by simp; omega) _)
  clear hw1 hZK HSK0 hb
  go_enter Tryd.func96, Tryd.ntmps96
  go_upto_region 1 with fail
  change Code.wp _ _ _ _ (((w.alloc (.cells ZK 94)).alloc (.cells (b8 b) 90)).alloc (.cells (b8 z16) 90))
  rw [← HW.out]
  clear HW
  go_wp2_with (refine wpList_load_row rfl 94 _ rfl w.heap.size rfl 94 ZK (0, 0) _ HKK.out Tryd.underlying94 rfl HSK.out ?_)
  (with_reducible refine (HRZ.out _).mono ?_); rintro e w2 ⟨rfl, hB2⟩
  have HKB2 := wall (HKB.out.next hB2 rfl)
  have HKR2 := wall (HKR.out.next hB2 rfl)
  have HB2 := wall (below_then HB1.out hB2 (Nat.le_refl _))
  clear hB2 HKB HKR HB1 HKK HRZ
  go_wp2_with (first | refine wpList_load_row rfl 90 _ rfl (w.heap.size + 1) rfl 90 (b8 b) (0, 0) _ HKB2.out Tryd.underlying90 rfl HSB.out ?_ | (refine wpList_new_row rfl 90 (.tmp 4) (.tmp 11) rfl (w.heap.size + 1 + 1) (b8 b) rfl rfl 90 (b8 z16) HKR2.out HSB.out HZZ.out (b8_one _) w.heap.size w HB2.out (by omega) ?_; intro w7 KD B7))
  go_light
  exact bodyPost_ret (v := .agg (b8 b)) (results_cell_row Tryd.results96 _ _ (w.heap.size + 1 + 1) 90 (b8 b) (0, 0) _ rfl KD.out Tryd.underlying90 rfl HSB.out) rfl ⟨rfl, B7.out⟩
theorem zM_key : ∀ j v, zK[j]? = some v → zM.toArray[0 + j]? = some v := fun j v hv => by
  have hj : j < zK.length := (List.getElem?_eq_some_iff.1 hv).1
  rw [List.getElem?_toArray, Nat.zero_add, zM, mC, List.getElem?_append_left hj]
  exact hv
theorem zM_kind : zM.toArray[513]? = some (.int .i64 0) ∧ zM.toArray[514]? = some (.bool false) := by
  have hl := zK_length
  constructor
  · rw [List.getElem?_toArray, zM, mC, List.getElem?_append_right (by omega), hl]
    rfl
  · rw [List.getElem?_toArray, zM, mC, List.getElem?_append_right (by omega), hl]
    rfl
theorem zM_f : M2F zM.toArray zM := ⟨by rw [List.size_toArray, zM_length]; exact mode_info, rfl, mC_one zK_ones _ _ _⟩
set_option maxRecDepth 100000 in
set_option maxHeartbeats 4000000 in
theorem step_zero (b : List Nat) (w : World) (hb : b.length = 16) :
    Calls Tryd.prog 63 #[.agg zM.toArray, .agg (b8 b)] w (fun e w' => e = .returned (.tuple #[.agg zM.toArray, .agg (b8 b)]) ∧ Below w.heap.size w w') := by
  have H2F := wall zM_f
  have HSK0 : (Tryd.prog.info? 94).map (·.size) = some zK.toArray.size := by rw [List.size_toArray, zK_length]; exact key_info
  have HSB := wall (fun (l : List Nat) (h : l.length = 16) => show (Tryd.prog.info? 90).map (·.size) = some (b8 l).size by rw [b8_size, h]; exact blk_info16)
  have HRK := wall (fun (W : World) (g : Nat) (h : Blk W g 96 zM.toArray) => show W.rangeAt g 0 zK.toArray.toList from fun j x hx => by rw [h.cell]; exact zM_key j x (by simpa using hx))
  have HCE := wall (fun W => encrypt_zero b W hb)
  have HC := wall zM_kind
  have HB2 := wall hb
  obtain ⟨KL, hKL⟩ : ∃ x, zK.toArray = x := ⟨_, rfl⟩
  rw [hKL] at HSK0 HRK HCE
  have HSK := wall HSK0
  have HZM := wall zM_eq.symm
  obtain ⟨ML2, hML⟩ : ∃ x, zM = x := ⟨_, rfl⟩
  rw [hML] at H2F HRK HC HZM ⊢
  obtain ⟨w1, hw1⟩ : ∃ W, W = (((w.alloc (.cells ML2.toArray 96)).alloc (.cells (b8 b) 90)).alloc (.cells ML2.toArray 96)).alloc (.cells (b8 z16) 90) := ⟨_, rfl⟩
  have HW := wall hw1
  have HS1 := wall (show Sb w w.heap.size (w.heap.size + 1) (w.heap.size + 1 + 1) (w.heap.size + 1 + 1 + 1) ML2.toArray ML2.toArray b w1 by
    rw [hw1]
    exact ⟨(((Blk.new _ _ _).alloc _).alloc _).alloc _, ((blk_new' (by simp)).alloc _).alloc _, (blk_new' (by simp)).alloc _, blk_new' (by simp), ((((Below.refl _ w).alloc (Nat.le_refl _) _).alloc (by simp) _).alloc (by simp; omega) _).alloc (by simp; omega) _, Nat.le_refl _, by omega, by omega, by omega⟩)
  obtain ⟨gR, hgR⟩ : ∃ x, x = w.heap.size + 1 + 1 + 1 := ⟨_, rfl⟩
  obtain ⟨gS, hgS⟩ : ∃ x, x = w.heap.size + 1 + 1 := ⟨_, rfl⟩
  obtain ⟨gB, hgB⟩ : ∃ x, x = w.heap.size + 1 := ⟨_, rfl⟩
  obtain ⟨gM, hgM⟩ : ∃ x, x = w.heap.size := ⟨_, rfl⟩
  have HGG := wall (show gR = w.heap.size + 1 + 1 + 1 ∧ gS = w.heap.size + 1 + 1 ∧ gB = w.heap.size + 1 ∧ gM = w.heap.size from ⟨hgR, hgS, hgB, hgM⟩)
  rw [← hgR, ← hgS, ← hgB] at HS1
  have HS1 := wall (show Sb w gM gB gS gR ML2.toArray ML2.toArray b w1 by rw [hgM]; exact HS1.out)
  have hkc := HS1.out.km.cell 513
  have hbc := HS1.out.km.cell 514
  rw [HC.out.1] at hkc
  rw [HC.out.2] at hbc
  have hlt := HS1.out.km.lt
  clear hw1 hb hML hKL hgR hgS hgB hgM HC HSK0
  go_enter Tryd.func63, Tryd.ntmps63
  go_upto_region 2 with fail
  rw [HZM.out]
  change Code.wp _ _ _ _ ((((w.alloc (.cells ML2.toArray 96)).alloc (.cells (b8 b) 90)).alloc (.cells ML2.toArray 96)).alloc (.cells (b8 z16) 90))
  rw [← HW.out, ← HGG.out.1, ← HGG.out.2.1, ← HGG.out.2.2.1, ← HGG.out.2.2.2]
  clear HW HGG HZM
  go_wp2_with (first | refine wpList_load_arr rfl 94 _ rfl gM 0 rfl KL _ (HRK.out _ _ HS1.out.km) Tryd.underlying94 rfl HSK.out ?_ | refine wpList_load_row rfl 90 _ rfl gB rfl 90 (b8 b) (0, 0) _ HS1.out.kb Tryd.underlying90 rfl (HSB.out _ HB2.out) ?_)
  (with_reducible refine (HCE.out _).mono ?_); rintro e w5 ⟨rfl, hB5⟩
  have HS5 := wall (HS1.out.old hB5)
  clear hB5 HS1 HCE
  go_upto_region 13 with (refine wpList_set_row rfl 90 (.tmp 3) (.tmp 10) rfl gB (b8 b) rfl rfl 90 (b8 b) HS5.out.kb (HSB.out _ HB2.out) rfl (b8_one _) ?_; intro w4 K4 F4)
  have HSX := wall (HS5.out.putB F4.out K4.out)
  clear HS5 K4 F4
  have o2 := HSX.out.o2
  have o3 := HSX.out.o3
  have o4 := HSX.out.o4
  refine wp_two_rows (by kernel_rfl) (by kernel_rfl) rfl rfl rfl rfl rfl rfl 96 90 _ _ _ _ 67 68 (by decide) rfl rfl rfl rfl rfl rfl gM gB gS gR ML2.toArray (b8 b) 96 90 96 90 ML2.toArray (b8 z16) _ _ rfl rfl rfl rfl rfl rfl rfl rfl rfl rfl HSX.out.km HSX.out.kb HSX.out.ks HSX.out.kr (by omega) (by omega) Tryd.underlying96 rfl (H2F.out).1 rfl (H2F.out).2.2 Tryd.underlying90 rfl (HSB.out _ HB2.out) (by rw [b8_size, b8_size, HB2.out]; rfl) (b8_one _) ?_
  intro wz KS KR FZ
  replace KS := wall KS
  replace KR := wall KR
  have HBZ := wall (show Below w.heap.size w wz by have o1 := HSX.out.o1; exact Below.frm HSX.out.bel FZ (Nat.le_refl _) (fun x hx => by simp at hx; omega))
  clear FZ
  go_wp2_with fail
  go_light
  exact bodyPost_ret (v := .tuple #[.agg ML2.toArray, .agg (b8 b)]) (results_two Tryd.results63 _ _ gS gR 96 90 ML2.toArray (b8 b) _ _ rfl rfl KS.out KR.out Tryd.underlying96 rfl (H2F.out).1 Tryd.underlying90 rfl (HSB.out _ HB2.out)) rfl ⟨rfl, HBZ.out⟩
/-- Run of a mode that is none: it does not fail. -/
theorem run_zero (PA : Option Addr) (n nb pc : Nat) (p : List Nat) (w : World) (hpl : p.length = n) (hn : n = 16 * nb) (hnm : n ≤ 1000000) (hpc : n ≤ pc) (hz : Nats .u8 256 w w.heap.size PA p) :
    Calls Tryd.prog 56 #[.agg zM.toArray, .slice PA n pc] w (RunGen w zM (p.take (16 * nb))) := by
  have hb : ∀ x ∈ p, x < 256 := fun x hx => by
    obtain ⟨i, hi⟩ := List.mem_iff_getElem?.1 hx
    exact (hz i x hi).1
  exact run_gen (fun _ => zM) (fun i => p.take (16 * i)) (fun i => blkAt p i) PA n nb pc p w (fun i h => zM_f) ⟨by simp, fun i _ => by rw [show 16 * (i + 1) = 16 * i + 16 by omega, List.take_add, blkAt]⟩
    (fun i h => (blkAt_ok hb (i := i) (by omega)).1) (fun i W h hB => step_zero _ W (blkAt_ok hb (i := i) (by omega)).1) hpl hn hnm hpc hz
end Aes
end Go.Proofs.YtpakdcgcgekcfaaDoor
