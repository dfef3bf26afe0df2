/-
  The laws of otp: OtpRefuses.
-/
import Derived.Test.YtmcpppgnfmopoaaDoorProg
import Derived.Test.YtmcpppgnfmopoaaDoorMem
import Derived.Test.YtmcpppgnfmopoaaDoorNext
import Derived.Test.YtmcpppgnfmopoaaDoorOtpRow
import Derived.Test.YtmcpppgnfmopoaaDoorOtpLay
import Derived.Test.YtmcpppgnfmopoaaDoorOtpAwake
import Derived.Test.YtmcpppgnfmopoaaDoorOtpRefL
import Derived.Test.YtmcpppgnfmopoaaDoorR1
import Derived.Test.YtmcpppgnfmopoaaDoorR1Cut
import Derived.Deep.LoopGhost
import Derived.Deep.MidRow
import Derived.Deep.QuietTactic
import Derived.BigQuiet
import Derived.Deep.RegionWith
import Derived.Deep.CutRange
import Derived.Deep.CutBlock
import Derived.Deep.DeepCutAuto
namespace Go.Proofs.YtmcpppgnfmopoaaDoor
open Go.RowKit

namespace Otp
open Fuse
/-- The cells of an act. -/
def actC (d n : Int) (ks : List Nat) (m : Int) (tn : Bool) (g : Int) : Array Value := #[.int .u8 d, .int .i64 n] ++ b8 ks ++ #[.int .u8 m, .bool tn, .int .u32 g]
theorem actC_n {d n : Int} {ks : List Nat} {m : Int} {tn : Bool} {g : Int} : (actC d n ks m tn g)[1]? = some (.int .i64 n) := by
  unfold actC
  rw [Array.getElem?_append_left (by simp; omega), Array.getElem?_append_left (by simp)]
  rfl
theorem actC_key {d n : Int} {ks : List Nat} {m : Int} {tn : Bool} {g : Int} (j : Nat) (v : Value) (h : (ks.map fun x => Value.int .u8 ((x : Nat) : Int))[j]? = some v) : (actC d n ks m tn g)[2 + j]? = some v := by
  have hj : j < ks.length := by have := (List.getElem?_eq_some_iff.1 h).1; simpa using this
  unfold actC
  rw [Array.getElem?_append_left (by simp [b8]; omega), Array.getElem?_append_right (by simp)]
  simp only [b8, List.getElem?_toArray]
  rw [show 2 + j - #[Value.int .u8 d, Value.int .i64 n].size = j by simp]
  exact h
theorem zero16 : Value.agg (b8 (List.replicate 16 0)) = .agg #[.int .u8 0, .int .u8 0, .int .u8 0, .int .u8 0, .int .u8 0, .int .u8 0, .int .u8 0, .int .u8 0, .int .u8 0, .int .u8 0, .int .u8 0, .int .u8 0, .int .u8 0, .int .u8 0, .int .u8 0, .int .u8 0] := rfl
def z16 : List Nat := List.replicate 16 0
theorem tokey_zero {w : World} {c p b : Nat} {vs : List Nat} {ls : List Bool} {sd : Bool} (A : Option Addr) (len cap : Nat) (l : List Nat) (h : Cz w c p b vs ls sd) (hl : l.length = len) (hlc : len ≤ cap) (hcm : cap ≤ maxLen) (hz : Nats .u8 256 w w.heap.size A l) :
    Calls Tryd.prog 29 #[.pointer (some ⟨c, 0, none⟩), .slice A len cap, .agg #[.int .u8 0, .int .u8 0, .int .u8 0, .int .u8 0, .int .u8 0, .int .u8 0, .int .u8 0, .int .u8 0, .int .u8 0, .int .u8 0, .int .u8 0, .int .u8 0, .int .u8 0, .int .u8 0, .int .u8 0, .int .u8 0]] w (ToOut w (tkE vs l z16) (tkL vs l z16)) :=
  tokey_any A len cap l (List.replicate 16 0) w h hl hlc hcm hz rfl (by simp)
theorem ownB_form {w : World} {B : Nat} {v : Value} {l : List Nat} (h : R1.OwnB w B v l) (hw : ∀ x ∈ l, x < 256) : ∃ A c, v = .slice A l.length c ∧ l.length ≤ c ∧ c ≤ maxLen ∧ Nats .u8 256 w w.heap.size A l := by
  rcases h.2 with ⟨rfl, hn⟩ | ⟨g, cap, cur, rfl, hg, hh, hc, hm, hs, ht⟩
  · refine ⟨none, 0, by rw [hn], by omega, by simp, fun i z hz => ?_⟩
    have : l = [] := List.eq_nil_of_length_eq_zero hn
    rw [this] at hz; simp at hz
  · refine ⟨some ⟨g, 0, none⟩, cap, rfl, hc, hm, fun i z hz => ⟨hw z (List.mem_of_getElem? hz), g, 0, rfl, ?_, ?_⟩⟩
    · exact Blk.lt (w := w) (t := 5) (cs := cur) hh
    · have hi : i < l.length := (List.getElem?_eq_some_iff.1 hz).1
      have := World.ownsRow.cellAt h i (by omega)
      rw [Nat.zero_add, this, List.getElem?_map, hz]
      rfl
theorem torow_to {c p b : Nat} {vs : List Nat} {ls : List Bool} {sd : Bool} (i : Int) (ds : List Nat) (w : World) (h : Cz w c p b vs ls sd) (hl : ds.length = 32) (hd : ∀ x ∈ ds, x < 256) :
    Calls Tryd.prog 30 #[.pointer (some ⟨c, 0, none⟩), .int .i64 i, .agg (ds.map fun x => Value.int .u8 ((x : Nat) : Int)).toArray] w (ToOut w (trE vs i) (trL vs i ds)) := torow_any i ds w h hl hd
theorem life_q (B : Nat) (zs : List Nat) (w : World) (hZ : Blk w B 55 (c32 zs)) (hl : zs.length = 64) (hw : ∀ (i x : Nat), zs[i]? = some x → x < 4294967296) :
    Calls Tryd.prog 32 #[.slice (some ⟨B, 0, none⟩) 64 64] w fun e w' => e = .returned (.int .i64 ((life zs : Nat) : Int)) ∧ w' = w :=
  (ref_life _ 64 64 zs w _ hl (by decide) (by decide) (nats_blk hZ hw)).mono fun e w' h => ⟨h.1, h.2.symm⟩
theorem count_q (B : Nat) (zs : List Nat) (w : World) (hZ : Blk w B 55 (c32 zs)) (hl : zs.length = 64) (hw : ∀ (i x : Nat), zs[i]? = some x → x < 4294967296) :
    Calls Tryd.prog 33 #[.slice (some ⟨B, 0, none⟩) 64 64] w fun e w' => e = .returned (.int .i64 ((counter zs : Nat) : Int)) ∧ w' = w := by
  have h := ref_counter (some ⟨B, 0, none⟩) 64 64 zs w _ hl (by decide) (by decide) (nats_blk hZ hw)
  rw [refCnt_eq zs (by omega) (fun x hx => by
    obtain ⟨j, hj, rfl⟩ := List.getElem_of_mem hx
    exact hw j _ (List.getElem?_eq_getElem hj))] at h
  exact h.mono fun e w' h => ⟨h.1, h.2.symm⟩
theorem counter_le (zs : List Nat) : counter zs ≤ 255 := Nat.min_le_right _ _
/-- What stands while the law goes on: the table, the words, the act, the chip, the bytes. -/
structure Env (W : World) (zs : List Nat) (ac : Array Value) (c p b : Nat) (A : Option Addr) (q : List Nat) (w : World) : Prop where
  tab : Tab w
  z : Blk w W.heap.size 55 (c32 zs)
  a : Blk w (W.heap.size + 1) 59 ac
  low : Below W.heap.size W w
  ch : Cz w c p b zs f64 false
  by_ : Nats .u8 256 w w.heap.size A q
theorem Env.next {W : World} {zs : List Nat} {ac : Array Value} {c p b : Nat} {A : Option Addr} {q : List Nat} {w w' : World} (h : Env W zs ac c p b A q w) (hB : Below w.heap.size w w') : Env W zs ac c p b A q w' :=
  ⟨h.tab.old hB, h.z.next hB rfl, h.a.next hB rfl, below_then h.low hB (Nat.le_refl _), h.ch.old hB, nats_step h.by_ hB⟩
theorem Env.drewN {W : World} {zs : List Nat} {ac : Array Value} {c p b : Nat} {A : Option Addr} {q : List Nat} {w : World} (h : Env W zs ac c p b A q w) (k : Nat) : Env W zs ac c p b A q (w.drewN k) :=
  ⟨h.tab, h.z, h.a, Below.drewN h.low k, h.ch.drewN k, h.by_⟩
theorem Env.life {W : World} {zs : List Nat} {ac : Array Value} {c p b : Nat} {A : Option Addr} {q : List Nat} {w : World} (h : Env W zs ac c p b A q w) (hw : ∀ (i x : Nat), zs[i]? = some x → x < 4294967296) (k : Nat) :
    Calls Tryd.prog 32 #[.slice (some ⟨W.heap.size, 0, none⟩) 64 64] (w.drewN k) fun e w' => e = .returned (.int .i64 ((Otp.life zs : Nat) : Int)) ∧ w' = w.drewN k := life_q _ zs _ h.z h.ch.len hw
theorem Env.lifeP {W : World} {zs : List Nat} {ac : Array Value} {c p b : Nat} {A : Option Addr} {q : List Nat} {w : World} (h : Env W zs ac c p b A q w) (hw : ∀ (i x : Nat), zs[i]? = some x → x < 4294967296) :
    Calls Tryd.prog 32 #[.slice (some ⟨W.heap.size, 0, none⟩) 64 64] w fun e w' => e = .returned (.int .i64 ((Otp.life zs : Nat) : Int)) ∧ w = w' := ref_life _ 64 64 zs w _ h.ch.len (by decide) (by decide) (nats_blk h.z hw)
theorem nats_sub {w : World} {B g off : Nat} {l : List Nat} {i a b c d : Nat} (h : Nats .u8 256 w B (some ⟨g, off, none⟩) l) (h0 : l[i]? = some a) (h1 : l[i + 1]? = some b) (h2 : l[i + 2]? = some c) (h3 : l[i + 3]? = some d) : Nats .u8 256 w B (some ⟨g, off + i, none⟩) [a, b, c, d] := fun j z hz => by
  have hj : j < 4 := by have := (List.getElem?_eq_some_iff.1 hz).1; simpa using this
  have e : l[i + j]? = some z := by
    have : j = 0 ∨ j = 1 ∨ j = 2 ∨ j = 3 := by omega
    rcases this with rfl | rfl | rfl | rfl
    · rw [← hz]; simpa using h0
    · rw [← hz]; simpa using h1
    · rw [← hz]; simpa using h2
    · rw [← hz]; simpa using h3
  obtain ⟨x1, b', o', x2, x3, x4⟩ := h _ _ e
  cases x2
  exact ⟨x1, _, _, rfl, x3, by rw [← x4]; congr 2; omega⟩
theorem beVal_be4 (a b c d : Nat) : R1.beVal [a, b, c, d] = be4 a b c d := by
  simp only [R1.beVal, List.foldl_cons, List.foldl_nil, be4]
  omega
theorem value_q (A : Option Addr) (len cap : Nat) (a b c d : Nat) (w : World) (B : Nat) (hl : 4 = len) (hz : Nats .u8 256 w B A [a, b, c, d]) :
    Calls Tryd.prog 34 #[.slice A len cap] w fun e w' => e = .returned (.int .u64 ((be4 a b c d : Nat) : Int)) ∧ w = w' := by
  rw [← beVal_be4]
  exact R1.value_any A len cap [a, b, c, d] w B hl (by omega) hz
theorem Env.count {W : World} {zs : List Nat} {ac : Array Value} {c p b : Nat} {A : Option Addr} {q : List Nat} {w : World} (h : Env W zs ac c p b A q w) (hw : ∀ (i x : Nat), zs[i]? = some x → x < 4294967296) (k : Nat) :
    Calls Tryd.prog 33 #[.slice (some ⟨W.heap.size, 0, none⟩) 64 64] (w.drewN k) fun e w' => e = .returned (.int .i64 ((counter zs : Nat) : Int)) ∧ w' = w.drewN k := count_q _ zs _ h.z h.ch.len hw
set_option maxRecDepth 100000 in
set_option maxHeartbeats 8000000 in
theorem refuses_any (zs : List Nat) (d n : Int) (ks : List Nat) (m : Int) (tn : Bool) (g : Int) (A : Option Addr) (len cap : Nat) (l : List Nat) (w : World) (hT : Tab w) (hzl : zs.length = 64) (hzw : ∀ (i x : Nat), zs[i]? = some x → x < 4294967296)
    (hkl : ks.length = 32) (hkw : ∀ x ∈ ks, x < 256) (hn0 : -9223372036854775808 ≤ n) (hn1 : n ≤ 9223372036854775807) (hl : l.length = len) (hlm : len ≤ maxLen) (hN : Nats .u8 256 w w.heap.size A l) :
    Calls Tryd.prog 8 #[.agg (c32 zs), .agg (actC d n ks m tn g), .slice A len cap] w (TrueBelow w) := by
  have HT := Lib.hid (show Tab ((w.alloc (.cells (c32 zs) 55)).alloc (.cells (actC d n ks m tn g) 59)) from hT.old (((Below.refl _ w).alloc (Nat.le_refl _) _).alloc (by simp) _))
  have HZ0 := Lib.hid (show Blk ((w.alloc (.cells (c32 zs) 55)).alloc (.cells (actC d n ks m tn g) 59)) w.heap.size 55 (c32 zs) from (Blk.new w _ _).alloc _)
  have HA0 := Lib.hid (show Blk ((w.alloc (.cells (c32 zs) 55)).alloc (.cells (actC d n ks m tn g) 59)) (w.heap.size + 1) 59 (actC d n ks m tn g) from blk_new' (by simp))
  have HB0 := Lib.hid (show Below w.heap.size w ((w.alloc (.cells (c32 zs) 55)).alloc (.cells (actC d n ks m tn g) 59)) from ((Below.refl _ w).alloc (Nat.le_refl _) _).alloc (by simp) _)
  have HZL := Lib.hid hzl
  have HZW := Lib.hid hzw
  have HKL := Lib.hid hkl
  have HKW := Lib.hid hkw
  have HL := Lib.hid hl
  have HLM := Lib.hid hlm
  have HN := Lib.hid hN
  have HSZ := Lib.hid (show (Tryd.prog.info? 55).map (·.size) = some (c32 zs).size by
    rw [show (c32 zs).size = 64 by simp [c32, hzl]]
    kernel_rfl)
  clear hT hzl hzw hkl hkw hl hlm hN
  go_enter Tryd.func8, Tryd.ntmps8
  go_wp2_with fail
  generalize (w.alloc (.cells (c32 zs) 55)).alloc (.cells (actC d n ks m tn g) 59) = w0 at *
  (with_reducible refine (awake_any _ HT.out).mono ?_); rintro e w1 ⟨rfl, hB⟩
  have HT1 := Lib.hid (HT.out.old hB)
  have HZ1 := Lib.hid (HZ0.out.next hB rfl)
  have HA1 := Lib.hid (HA0.out.next hB rfl)
  have HB1 := Lib.hid (below_then HB0.out hB (Nat.le_refl _))
  clear hB HT HZ0 HA0
  go_wp2_with (refine wpList_load_row rfl 55 _ rfl w.heap.size rfl 55 (c32 zs) (0, 0) _ HZ1.out Tryd.underlying55 rfl HSZ.out ?_)
  (with_reducible refine (lay_any zs _ HZL.out HZW.out).mono ?_); rintro e w2 ⟨c, p, b, rfl, hC, hc, hp, hb, hB⟩
  have HT2 := Lib.hid (HT1.out.old hB)
  have HZ2 := Lib.hid (HZ1.out.next hB rfl)
  have HA2 := Lib.hid (HA1.out.next hB rfl)
  have HB2 := Lib.hid (below_then HB1.out hB (Nat.le_refl _))
  have HC2 := Lib.hid hC
  have HN2 := Lib.hid (HN.out.below HB2.out)
  clear hB hC HT1 HZ1 HA1 hc hp hb
  go_wp2_with fail
  (with_reducible refine (R1.cut_any A len cap l 60 60 _ HL.out HLM.out rfl (by decide) (by exact nats_at HN2.out HB2.out.size rfl)).mono ?_); rintro e w3 ⟨v, rfl, hO, hB⟩
  have hlb : ∀ x ∈ l.take 60, x < 256 := fun x hx => by
    obtain ⟨j, hj, rfl⟩ := List.getElem_of_mem (List.mem_of_mem_take hx)
    exact (HN.out j _ (List.getElem?_eq_getElem hj)).1
  have HLB := Lib.hid hlb
  obtain ⟨A3, c3, rfl, hc3, hm3, hN3⟩ := ownB_form hO hlb
  have HV := Lib.hid (show Env w zs _ c p b A3 (l.take 60) w3 from ⟨HT2.out.old hB, HZ2.out.next hB rfl, HA2.out.next hB rfl, below_then HB2.out hB (Nat.le_refl _), HC2.out.old hB, hN3⟩)
  have hl60 : (l.take 60).length ≤ 60 := List.length_take_le _ _
  have HM3 := Lib.hid hm3
  generalize l.take 60 = q at *
  have hcn : w3.cell? ⟨w.heap.size + 1, 1, none⟩ = some (.int .i64 n) := by rw [HV.out.a.cell, actC_n]
  clear hB hO hlb hN3 hm3 HT2 HZ2 HA2 HC2 HN2 HN HL HLM HB2 HB1 HB0
  go_wp2_with fail
  (with_reducible refine (tolife_any n _ HV.out.ch).mono ?_); rintro e w' ⟨v4, rfl, hO, hB⟩
  replace HV := Lib.hid (HV.out.next hB)
  clear hO hB hcn
  obtain ⟨w3, rfl⟩ : ∃ q : World, q = w' := ⟨_, rfl⟩
  have hcn : w3.cell? ⟨w.heap.size + 1, 1, none⟩ = some (.int .i64 n) := by rw [HV.out.a.cell, actC_n]
  go_wp2_with fail
  (with_reducible refine (tocounter_any n _ HV.out.ch HV.out.tab).mono ?_); rintro e w' ⟨v5, rfl, hO, hB⟩
  replace HV := Lib.hid (HV.out.next hB)
  clear hO hB hcn
  obtain ⟨w3, rfl⟩ : ∃ q : World, q = w' := ⟨_, rfl⟩
  have hcn : w3.cell? ⟨w.heap.size + 1, 1, none⟩ = some (.int .i64 n) := by rw [HV.out.a.cell, actC_n]
  go_wp2_with fail
  (with_reducible refine (tokey_zero A3 _ c3 q HV.out.ch rfl hc3 HM3.out HV.out.by_).mono ?_); rintro e w' ⟨v6, rfl, hO, hB⟩
  replace HV := Lib.hid (HV.out.next hB)
  clear hO hB hcn
  obtain ⟨w3, rfl⟩ : ∃ q : World, q = w' := ⟨_, rfl⟩
  have hcn : w3.cell? ⟨w.heap.size + 1, 1, none⟩ = some (.int .i64 n) := by rw [HV.out.a.cell, actC_n]
  have HKR := Lib.hid (show w3.rangeAt (w.heap.size + 1) 2 (ks.map fun x => Value.int .u8 ((x : Nat) : Int)) from fun j v hv => by rw [HV.out.a.cell]; exact actC_key j v hv)
  have HKZ := Lib.hid (show (Tryd.prog.info? 57).map (·.size) = some (ks.map fun x => Value.int .u8 ((x : Nat) : Int)).length by
    rw [List.length_map, HKL.out]
    kernel_rfl)
  go_wp2_with (refine wpList_load_mid rfl 57 _ rfl (w.heap.size + 1) 2 rfl _ _ HKR.out Tryd.underlying57 rfl HKZ.out ?_)
  (with_reducible refine (torow_to n ks _ HV.out.ch HKL.out HKW.out).mono ?_); rintro e w' ⟨v7, rfl, hO, hB⟩
  replace HV := Lib.hid (HV.out.next hB)
  clear hO hB hcn HKR HKZ
  obtain ⟨w3, rfl⟩ : ∃ q : World, q = w' := ⟨_, rfl⟩
  have hcn : w3.cell? ⟨w.heap.size + 1, 1, none⟩ = some (.int .i64 n) := by rw [HV.out.a.cell, actC_n]
  go_wp2_with fail
  (with_reducible refine (kill_any n _ HV.out.ch).mono ?_); rintro e w' ⟨v8, rfl, hO, hB⟩
  replace HV := Lib.hid (HV.out.next hB)
  clear hO hB hcn
  obtain ⟨w3, rfl⟩ : ∃ q : World, q = w' := ⟨_, rfl⟩
  have hcn : w3.cell? ⟨w.heap.size + 1, 1, none⟩ = some (.int .i64 n) := by rw [HV.out.a.cell, actC_n]
  have hwl := HV.out.a.lt
  have hlf : life zs ≤ 4 := lifeN_le _ _
  have hct := counter_le zs
  obtain ⟨eL, heL⟩ : ∃ e, tlE zs n = e := ⟨_, rfl⟩
  obtain ⟨eC, heC⟩ : ∃ e, tcE zs n = e := ⟨_, rfl⟩
  obtain ⟨eK, heK⟩ : ∃ e, tkE zs q z16 = e := ⟨_, rfl⟩
  obtain ⟨eR, heR⟩ : ∃ e, trE zs n = e := ⟨_, rfl⟩
  obtain ⟨eA, heA⟩ : ∃ e, atE n = e := ⟨_, rfl⟩
  rw [heL, heC, heK, heR, heA]
  have HEL := Lib.hid heL
  have HEC := Lib.hid heC
  have HEK := Lib.hid heK
  have HER := Lib.hid heR
  have HEA := Lib.hid heA
  clear heL heC heK heR heA
  go_upto_block 0 with fail
  go_cut [19] (fun v w' => v = .int .i64 eL ∧ Hid (Env w zs (actC d n ks m tn g) c p b A3 q w'))
  case first =>
    have HLQ := Lib.hid (HV.out.life HZW.out)
    by_cases h1 : n < 1
    · have HE := Lib.hid (show eL = 1 by rw [← HEL.out]; unfold tlE; rw [if_pos (.inl h1)])
      go_wp2_with fail
      go_meet
      exact ⟨by rw [HE.out], HV⟩
    · by_cases h4 : 4 < n
      · have HE := Lib.hid (show eL = 1 by rw [← HEL.out]; unfold tlE; rw [if_pos (.inr h4)])
        clear HEL HEC HEK HER HEA HZL HKL HKW HSZ HM3 HLB
        go_wp2_with fail
        go_meet
        exact ⟨by rw [HE.out], HV⟩
      · by_cases h5 : n ≤ life zs
        · have HE := Lib.hid (show eL = 14 by rw [← HEL.out]; unfold tlE; rw [if_neg (by omega), if_pos h5])
          generalize life zs = lf at *
          clear HEL HEC HEK HER HEA HZL HKL HKW HSZ HM3 HLB
          go_wp2_with fail
          go_quiet ((go_at_call 32; exact Calls.quiet_of_same (HLQ.out _)))
          go_wp2_with fail
          go_meet
          exact ⟨by rw [HE.out], Lib.hid (HV.out.drewN _)⟩
        · have HE := Lib.hid (show eL = 0 by rw [← HEL.out]; unfold tlE; rw [if_neg (by omega), if_neg h5])
          generalize life zs = lf at *
          clear HEL HEC HEK HER HEA HZL HKL HKW HSZ HM3 HLB
          go_wp2_with fail
          go_quiet ((go_at_call 32; exact Calls.quiet_of_same (HLQ.out _)))
          go_wp2_with fail
          go_meet
          exact ⟨by rw [HE.out], Lib.hid (HV.out.drewN _)⟩
  case rest =>
    obtain ⟨rfl, HV2⟩ := hcut
    clear hcn HEL HV
    have HV := HV2
    clear HV2 hwl
    obtain ⟨w4, rfl⟩ : ∃ q : World, q = wc := ⟨_, rfl⟩
    have hcn : w4.cell? ⟨w.heap.size + 1, 1, none⟩ = some (.int .i64 n) := by rw [HV.out.a.cell, actC_n]
    have hwl := HV.out.a.lt
    go_upto_block 1 with fail
    go_cut [20] (fun v w' => v = .int .i64 eC ∧ Hid (Env w zs (actC d n ks m tn g) c p b A3 q w'))
    case first =>
      have HLQ := Lib.hid (HV.out.count HZW.out)
      by_cases h1 : n < 0
      · have HE := Lib.hid (show eC = 1 by rw [← HEC.out]; unfold tcE; rw [if_pos (.inl h1)])
        go_wp2_with fail
        go_meet
        exact ⟨by rw [HE.out], HV⟩
      · by_cases h4 : 255 < n
        · have HE := Lib.hid (show eC = 1 by rw [← HEC.out]; unfold tcE; rw [if_pos (.inr h4)])
          go_wp2_with fail
          go_meet
          exact ⟨by rw [HE.out], HV⟩
        · by_cases h5 : n < counter zs
          · have HE := Lib.hid (show eC = 15 by rw [← HEC.out]; unfold tcE; rw [if_neg (by omega), if_pos h5])
            generalize counter zs = lf at *
            clear HEC HEK HER HEA HZL HKL HKW HSZ HM3 HLB HZW
            go_wp2_with fail
            go_quiet ((go_at_call 33; exact Calls.quiet_of_same (HLQ.out _)))
            go_wp2_with fail
            go_meet
            exact ⟨by rw [HE.out], Lib.hid (HV.out.drewN _)⟩
          · have HE := Lib.hid (show eC = 0 by rw [← HEC.out]; unfold tcE; rw [if_neg (by omega), if_neg h5])
            generalize counter zs = lf at *
            clear HEC HEK HER HEA HZL HKL HKW HSZ HM3 HLB HZW
            go_wp2_with fail
            have hd : decide (n < (lf : Int)) = false := decide_eq_false (by omega)
            clear h5
            go_quiet ((go_at_call 33; exact Calls.quiet_of_same (HLQ.out _)))
            go_wp2_with fail
            go_meet
            exact ⟨by rw [HE.out], Lib.hid (HV.out.drewN _)⟩
    case rest =>
      obtain ⟨rfl, HV2⟩ := hcut
      clear hcn HEC HV
      have HV := HV2
      clear HV2 hwl
      obtain ⟨w5, rfl⟩ : ∃ q : World, q = wc := ⟨_, rfl⟩
      have hwl := HV.out.a.lt
      go_upto_block 2 with fail
      go_cut [21] (fun v w' => v = .int .i64 eK ∧ Hid (Env w zs (actC d n ks m tn g) c p b A3 q w'))
      case first =>
        clear HER HEA
        by_cases h56 : q.length = 56
        · by_cases hl0 : life zs = 0
          · have HE := Lib.hid (show eK = if badF zs 9 (tkW q z16) = true then 11 else 0 by rw [← HEK.out]; unfold tkE; rw [if_neg (by omega), if_neg (by omega)])
            have HLF := Lib.hid (HV.out.lifeP HZW.out)
            rw [hl0] at HLF
            have hq56 := HV.out.by_
            obtain ⟨x00, hx00⟩ : ∃ x, q[0]? = some x := ⟨_, List.getElem?_eq_getElem (by omega)⟩
            obtain ⟨-, gq, oq, rfl, hgq, -⟩ := hq56 0 x00 hx00
            have HQ := Lib.hid hq56
            have H56 := Lib.hid h56
            have hc56 : 56 ≤ c3 := by omega
            have HW := Lib.hid (show (tkW q z16).length = 18 by unfold tkW; rw [List.length_append, words4_length, words4_length, h56]; rfl)
            have HW0 := Lib.hid (show ∀ j, 14 ≤ j → j < 18 → (tkW q z16)[j]? = some 0 from fun j h1 h2 => by
              unfold tkW
              rw [List.getElem?_append_right (by rw [words4_length, h56]; omega), words4_length, h56]
              have : j = 14 ∨ j = 15 ∨ j = 16 ∨ j = 17 := by omega
              rcases this with rfl | rfl | rfl | rfl <;> rfl)
            have HW1 := Lib.hid (show ∀ j a b c d, j < 14 → q[4 * j]? = some a → q[4 * j + 1]? = some b → q[4 * j + 2]? = some c → q[4 * j + 3]? = some d → (tkW q z16)[j]? = some (be4 a b c d) from fun j a b c d h1 e0 e1 e2 e3 => by
              unfold tkW
              rw [List.getElem?_append_left (by rw [words4_length, h56]; omega)]
              exact words4_get q j a b c d e0 e1 e2 e3)
            have hne : (((q.length : Nat) : Int) != 56) = false := by simp [h56]
            have hq1 : 56 ≤ q.length := by omega
            have hsl := run_slice_arr (P := Tryd.prog) 55 36 64 Tryd.underlying55 (fun _ => by kernel_rfl) w.heap.size 9 27 .i64 .i64 9 27 (by omega) (by omega) (by omega) (by omega) (by omega)
            clear hq56 hx00 h56 hl0 HEK
            generalize tkW q z16 = ws at *
            go_wp2_with fail
            (with_reducible refine HLF.out.mono ?_); rintro e w6 ⟨rfl, rfl⟩
            go_wp2_with fail
            have HB0 := Lib.hid (show (0 : Int) = if badF zs 9 (ws.take 0) = true then 11 else 0 from rfl)
            go_loopg [21, 22, 23, 24, 106] 18 (fun g s21 s22 s23 s24 s106 wr => ∃ (i : Nat) (ek : Int), i + g = 18 ∧ s106 = .int .i64 (i : Int) ∧ s21 = .int .i64 ek ∧ Hid (ek = if badF zs 9 (ws.take i) = true then 11 else 0) ∧ wr = w5)
            case atStart => exact ⟨0, 0, by omega, rfl, rfl, HB0, rfl⟩
            case round =>
              obtain ⟨i, ek, hg, rfl, rfl, HEK2, rfl⟩ := hrel
              have HG := Lib.hid hg
              have hi : i ≤ 18 := by omega
              clear hg
              by_cases hlt : i < 18
              · obtain ⟨old, ho⟩ : ∃ old, zs[9 + i]? = some old := ⟨_, List.getElem?_eq_getElem (by have := HZL.out; omega)⟩
                have hoM := HZW.out _ _ ho
                have hco : wr.cell? ⟨w.heap.size, 9 + i, none⟩ = some (.int .u32 (old : Int)) := by rw [HV.out.z.cell, c32_at ho]
                by_cases h14 : i < 14
                · have hx : ∀ j, j < 4 → ∃ x, q[4 * i + j]? = some x := fun j hj => ⟨_, List.getElem?_eq_getElem (by have := H56.out; omega)⟩
                  obtain ⟨x0, h0⟩ := hx 0 (by omega)
                  rw [Nat.add_zero] at h0
                  obtain ⟨x1, h1⟩ := hx 1 (by omega)
                  obtain ⟨x2, h2⟩ := hx 2 (by omega)
                  obtain ⟨x3, h3⟩ := hx 3 (by omega)
                  have hxs := HW1.out i x0 x1 x2 x3 h14 h0 h1 h2 h3
                  have HS := Lib.hid (badF_snoc zs 9 ws hxs ho)
                  have hxM : be4 x0 x1 x2 x3 < 4294967296 := be4_lt (HLB.out x0 (List.mem_of_getElem? h0)) (HLB.out x1 (List.mem_of_getElem? h1)) (HLB.out x2 (List.mem_of_getElem? h2)) (HLB.out x3 (List.mem_of_getElem? h3))
                  have HSUB := Lib.hid (nats_sub HQ.out h0 h1 h2 h3)
                  obtain ⟨x, hxe⟩ : ∃ x, be4 x0 x1 x2 x3 = x := ⟨_, rfl⟩
                  have HBE := Lib.hid hxe
                  rw [hxe] at hxM HS
                  clear hx h0 h1 h2 h3 hxs ho hxe
                  have hb1 := u32_andNot_nat old x hoM hxM
                  by_cases hz : old &&& (4294967295 - x) = 0
                  · rw [hz] at hb1
                    have HS2 := Lib.hid (show ek = if badF zs 9 (ws.take (i + 1)) = true then 11 else 0 by rw [HS.out, hz, HEK2.out]; simp)
                    clear hz
                    clear HE HW HW0 HW1 HQ H56 HZL HZW HKL HKW HSZ HM3 HLB HV hlf hct HEK2 HS HB0
                    go_wp2_with fail
                    (with_reducible refine (value_q _ 4 _ x0 x1 x2 x3 _ _ rfl HSUB.out).mono ?_); rintro e w7 ⟨rfl, rfl⟩
                    rw [HBE.out]
                    go_wp2_with fail
                    go_light
                    go_roundg (18 - (i + 1))
                    case measure => have := HG.out; omega
                    case rel => exact ⟨i + 1, ek, by omega, by go_num, rfl, HS2, rfl⟩
                  · have HS2 := Lib.hid (show (11 : Int) = if badF zs 9 (ws.take (i + 1)) = true then 11 else 0 by rw [HS.out]; simp [hz])
                    have hne2 : (((old &&& (4294967295 - x) : Nat) : Int) != 0) = true := by rw [bne_iff_ne]; omega
                    clear hz
                    clear HE HW HW0 HW1 HQ H56 HZL HZW HKL HKW HSZ HM3 HLB HV hlf hct HEK2 HS HB0
                    generalize old &&& (4294967295 - x) = y at *
                    go_wp2_with fail
                    (with_reducible refine (value_q _ 4 _ x0 x1 x2 x3 _ _ rfl HSUB.out).mono ?_); rintro e w7 ⟨rfl, rfl⟩
                    rw [HBE.out]
                    go_wp2_with fail
                    go_light
                    go_roundg (18 - (i + 1))
                    case measure => have := HG.out; omega
                    case rel => exact ⟨i + 1, 11, by omega, by go_num, rfl, HS2, rfl⟩
                · have hxs := HW0.out i (by omega) hlt
                  have HS := Lib.hid (badF_snoc zs 9 ws hxs ho)
                  have hand : old &&& (4294967295 - 0) = old := by
                    have := Nat.and_two_pow_sub_one_eq_mod old 32
                    rw [show 4294967295 - 0 = 2 ^ 32 - 1 by decide, this]
                    exact Nat.mod_eq_of_lt hoM
                  have hb1 : bits .andNot .u32 (old : Int) 0 = ((old : Nat) : Int) := by
                    have := u32_andNot_nat old 0 hoM (by decide)
                    rw [hand] at this
                    simpa using this
                  rw [hand] at HS
                  clear hxs ho hand
                  by_cases hz : old = 0
                  · subst hz
                    have HS2 := Lib.hid (show ek = if badF zs 9 (ws.take (i + 1)) = true then 11 else 0 by rw [HS.out, HEK2.out]; simp)
                    clear HE HW HW0 HW1 HQ H56 HZL HZW HKL HKW HSZ HM3 HLB HV hlf hct HEK2 HS HB0
                    go_wp2_with fail
                    go_light
                    go_roundg (18 - (i + 1))
                    case measure => have := HG.out; omega
                    case rel => exact ⟨i + 1, ek, by omega, by go_num, rfl, HS2, rfl⟩
                  · have HS2 := Lib.hid (show (11 : Int) = if badF zs 9 (ws.take (i + 1)) = true then 11 else 0 by rw [HS.out]; simp [hz])
                    have hne2 : (((old : Nat) : Int) != 0) = true := by rw [bne_iff_ne]; omega
                    clear hz
                    clear HE HW HW0 HW1 HQ H56 HZL HZW HKL HKW HSZ HM3 HLB HV hlf hct HEK2 HS HB0
                    go_wp2_with fail
                    go_light
                    go_roundg (18 - (i + 1))
                    case measure => have := HG.out; omega
                    case rel => exact ⟨i + 1, 11, by omega, by go_num, rfl, HS2, rfl⟩
              · have : i = 18 := by omega
                subst this
                have hek := HEK2.out
                rw [List.take_of_length_le (by have := HW.out; omega), ← HE.out] at hek
                subst hek
                clear HE HW HW0 HW1 HQ H56 HZL HZW HKL HKW HSZ HM3 HLB hlf hct HEK2 HB0
                go_wp2_with fail
                go_meet
                exact ⟨rfl, HV⟩
          · have HE := Lib.hid (show eK = 14 by rw [← HEK.out]; unfold tkE; rw [if_neg (by omega), if_pos hl0])
            have HLF := Lib.hid (HV.out.lifeP HZW.out)
            have hne : (((life zs : Nat) : Int) != 0) = true := by rw [bne_iff_ne]; omega
            clear hl0
            generalize life zs = lf at *
            have hne2 : (((q.length : Nat) : Int) != 56) = false := by simp [h56]
            clear h56
            go_wp2_with fail
            (with_reducible refine HLF.out.mono ?_); rintro e w6 ⟨rfl, rfl⟩
            go_wp2_with fail
            go_meet
            exact ⟨by rw [HE.out], HV⟩
        · have HE := Lib.hid (show eK = 1 by rw [← HEK.out]; unfold tkE; rw [if_pos h56])
          have hne : (((q.length : Nat) : Int) != 56) = true := by rw [bne_iff_ne]; omega
          clear h56
          go_wp2_with fail
          go_meet
          exact ⟨by rw [HE.out], HV⟩
      case rest =>
        obtain ⟨rfl, HV2⟩ := hcut
        clear HEK HV
        have HV := HV2
        clear HV2 hwl
        obtain ⟨w6, rfl⟩ : ∃ q : World, q = wc := ⟨_, rfl⟩
        have hcn : w6.cell? ⟨w.heap.size + 1, 1, none⟩ = some (.int .i64 n) := by rw [HV.out.a.cell, actC_n]
        have HB := Lib.hid HV.out.low
        by_cases h0 : n < 0
        · have HE := Lib.hid (show eR = 1 by rw [← HER.out]; unfold trE; rw [if_neg (by omega)])
          have HA := Lib.hid (show eA = 1 by rw [← HEA.out]; unfold atE; rw [if_neg (by omega)])
          clear HER HEA HZL HZW HKL HKW HSZ HM3 HLB hlf hct HV
          rw [HE.out, HA.out]
          go_wp2_with fail
          go_light
          go_ret
          exact ⟨rfl, HB.out⟩
        · by_cases h3 : 3 < n
          · have HE := Lib.hid (show eR = 1 by rw [← HER.out]; unfold trE; rw [if_neg (by omega)])
            have HA := Lib.hid (show eA = 1 by rw [← HEA.out]; unfold atE; rw [if_neg (by omega)])
            clear HER HEA HZL HZW HKL HKW HSZ HM3 HLB hlf hct HV
            rw [HE.out, HA.out]
            go_wp2_with fail
            go_light
            go_ret
            exact ⟨rfl, HB.out⟩
          · obtain ⟨k, rfl⟩ := Int.eq_ofNat_of_zero_le (show 0 ≤ n by omega)
            have HE := Lib.hid (show eR = if rowZ zs k = true then 0 else 14 by rw [← HER.out]; unfold trE; rw [if_pos (by omega)]; simp)
            have HA := Lib.hid (show eA = 0 by rw [← HEA.out]; unfold atE; rw [if_pos (by omega)])
            have hsl := run_slice_arr (P := Tryd.prog) 55 36 64 Tryd.underlying55 (fun _ => by kernel_rfl) w.heap.size (27 + 9 * k) (36 + 9 * k) .i64 .i64 (27 + 9 * (k : Int)) (36 + 9 * (k : Int)) (by omega) (by omega) (by omega) (by omega) (by omega)
            rw [show 36 + 9 * k - (27 + 9 * k) = 9 by omega] at hsl
            have HRW := Lib.hid (show (rowW zs k).length = 9 by unfold rowW; rw [List.length_take, List.length_drop]; have := HZL.out; omega)
            have HRG := Lib.hid (show ∀ j, j < 9 → (rowW zs k)[j]? = zs[27 + 9 * k + j]? from fun j hj => by unfold rowW; rw [List.getElem?_take, if_pos hj, List.getElem?_drop])
            have HZZ := Lib.hid HV.out.z
            rw [HA.out]
            clear HER HEA HZL HKL HKW HSZ HM3 HLB hlf hct HV HA
            have hk3 : k ≤ 3 := by omega
            go_wp2_with fail
            have HX0 := Lib.hid (show (0 : Int) = if ((rowW zs k).take 0).all (fun x => decide (x = 0)) = true then 0 else 14 from rfl)
            go_loopg [25, 28, 153] 9 (fun g s25 s28 s153 wr => ∃ (j : Nat) (e : Int), j + g = 9 ∧ s153 = .int .i64 (j : Int) ∧ s25 = .int .i64 e ∧ Hid (e = if ((rowW zs k).take j).all (fun x => decide (x = 0)) = true then 0 else 14) ∧ wr = w6)
            case atStart => exact ⟨0, 0, by omega, rfl, rfl, HX0, rfl⟩
            case round =>
              obtain ⟨j, e, hg, rfl, rfl, HX, rfl⟩ := hrel
              have HG := Lib.hid hg
              have hj : j ≤ 9 := by omega
              clear hg HX0
              by_cases hlt : j < 9
              · obtain ⟨x, hx⟩ : ∃ x, (rowW zs k)[j]? = some x := ⟨_, List.getElem?_eq_getElem (by have := HRW.out; omega)⟩
                have hxz := hx
                rw [HRG.out j hlt] at hxz
                have hxM := HZW.out _ _ hxz
                have hcx : wr.cell? ⟨w.heap.size, 27 + 9 * k + j, none⟩ = some (.int .u32 (x : Int)) := by rw [HZZ.out.cell, c32_at hxz]
                have HS := Lib.hid (rowZ_snoc zs k hx)
                clear hx hxz
                by_cases hz : x = 0
                · subst hz
                  have HS2 := Lib.hid (show e = if ((rowW zs k).take (j + 1)).all (fun x => decide (x = 0)) = true then 0 else 14 by rw [HS.out, HX.out]; simp)
                  clear HS HX HRW HRG HZZ HZW HE
                  go_wp2_with fail
                  go_light
                  go_roundg (9 - (j + 1))
                  case measure => have := HG.out; omega
                  case rel => exact ⟨j + 1, e, by omega, by go_num, rfl, HS2, rfl⟩
                · have hne : (((x : Nat) : Int) != 0) = true := by rw [bne_iff_ne]; omega
                  have HS2 := Lib.hid (show (14 : Int) = if ((rowW zs k).take (j + 1)).all (fun x => decide (x = 0)) = true then 0 else 14 by rw [HS.out]; simp [hz])
                  clear hz HS HX HRW HRG HZZ HZW HE
                  go_wp2_with fail
                  go_light
                  go_roundg (9 - (j + 1))
                  case measure => have := HG.out; omega
                  case rel => exact ⟨j + 1, 14, by omega, by go_num, rfl, HS2, rfl⟩
              · have : j = 9 := by omega
                subst this
                have he : e = eR := by
                  rw [HX.out, HE.out, List.take_of_length_le (by have := HRW.out; omega)]
                  rfl
                subst he
                clear HX HRW HRG HZZ HZW HE
                go_wp2_with fail
                go_light
                go_ret
                exact ⟨rfl, HB.out⟩
end Otp
end Go.Proofs.YtmcpppgnfmopoaaDoor
