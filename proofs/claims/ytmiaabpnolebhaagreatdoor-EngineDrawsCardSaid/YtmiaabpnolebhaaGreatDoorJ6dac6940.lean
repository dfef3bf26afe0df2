/-
  Texts of this claim, joined: Rep, Fla.
-/
import Derived.Test.YtmiaabpnolebhaaGreatDoorJ34d7c24d
import Derived.Lib.MakeNoZero
import Derived.Deep.DeepCutAuto
set_option linter.unusedSimpArgs false
set_option linter.unusedVariables false
/-
  bytes.Repeat of one byte; flash.New.
-/
namespace Go.Proofs.YtmiaabpnolebhaaGreatDoor
open Go.RowKit

namespace Rep
open Otp Sha R1
set_option maxRecDepth 100000 in
set_option maxHeartbeats 2000000 in
theorem mul64_any (w : World) : Calls Tryz.prog 259 #[.int .u64 1, .int .u64 10240] w fun e w' => e = .returned (.tuple #[.int .u64 0, .int .u64 10240]) ∧ w = w' := by
  have h1 : bits .and .u64 10240 4294967295 = 10240 := by decide +kernel
  have h2 : bits .and .u64 1 4294967295 = 1 := by decide +kernel
  have h3 : bits .and .u64 0 4294967295 = 0 := by decide +kernel
  go_enter Tryz.func259, Tryz.ntmps259
  go_wp2_with fail
  go_light
  go_ret2
  exact ⟨rfl, rfl⟩
set_option maxRecDepth 100000 in
set_option maxHeartbeats 2000000 in
theorem mul_any (w : World) : Calls Tryz.prog 211 #[.int .u64 1, .int .u64 10240] w fun e w' => e = .returned (.tuple #[.int .u64 0, .int .u64 10240]) ∧ w = w' := by
  go_enter Tryz.func211, Tryz.ntmps211
  go_wp2_with fail
  (with_reducible refine (mul64_any _).mono ?_); rintro e w1 ⟨rfl, rfl⟩
  go_wp2_with fail
  go_light
  go_ret2
  exact ⟨rfl, rfl⟩
/-- A row of like bytes ahead of a block's rest. -/
theorem splice_rep (x a k : Nat) (T : List Value) (hk : k ≤ T.length) : splice (v8 (List.replicate a x) ++ T) a (v8 (List.replicate k x)) = v8 (List.replicate (a + k) x) ++ T.drop k := by
  unfold splice
  have e1 : (v8 (List.replicate a x)).length = a := by rw [v8_length, List.length_replicate]
  have e2 : (v8 (List.replicate k x)).length = k := by rw [v8_length, List.length_replicate]
  rw [e2, List.take_append_of_le_length (by omega), List.take_of_length_le (by omega)]
  have e3 : (v8 (List.replicate a x) ++ T).drop (a + k) = T.drop k := by
    have := List.drop_length_add_append (l₁ := v8 (List.replicate a x)) (l₂ := T) (i := k)
    rwa [e1] at this
  rw [e3, ← List.append_assoc]
  congr 1
  simp [v8, List.replicate_append_replicate]
def RepOut (x n : Nat) (w : World) (e : Ending) (w' : World) : Prop := ∃ g T, e = .returned (.slice (some ⟨g, 0, none⟩) n n) ∧ w.heap.size ≤ g ∧ Blk w' g 5 (v8 (List.replicate n x) ++ T).toArray ∧ Below w.heap.size w w'
theorem v8_one' (l : List Nat) : ∀ v ∈ v8 l, v.oneCell' = true := fun v hv => by
  obtain ⟨y, _, rfl⟩ := List.mem_map.1 hv
  rfl
theorem nats_src {w : World} {B : Nat} {A : Option Addr} {l : List Nat} (h : Nats .u8 256 w B A l) (h0 : 0 < l.length) : ∃ ad, A = some ad ∧ ∀ (j : Nat) (v : Value), (v8 l)[j]? = some v → w.cell? (ad.add j) = some v := by
  obtain ⟨_, b, off, rfl, _, _⟩ := h 0 _ (List.getElem?_eq_getElem h0)
  refine ⟨_, rfl, fun j v hv => ?_⟩
  unfold v8 at hv
  rw [List.getElem?_map] at hv
  obtain ⟨x, hx, rfl⟩ := Option.map_eq_some_iff.1 hv
  obtain ⟨_, b', off', e, _, hc⟩ := h j x hx
  cases e
  rw [Go.WideShapes.add_plain]
  exact hc
set_option maxRecDepth 100000 in
set_option maxHeartbeats 4000000 in
theorem repeat_any (x : Nat) (A : Option Addr) (c : Nat) (w : World) (hz : Nats .u8 256 w w.heap.size A [x]) :
    Calls Tryz.prog 129 #[.slice A 1 c, .int .i64 10240] w (RepOut x 10240 w) := by
  have HZ := wall hz
  clear hz
  go_enter Tryz.func129, Tryz.ntmps129
  go_wp2_with fail
  (with_reducible refine (mul_any _).mono ?_); rintro e w1 ⟨rfl, rfl⟩
  go_wp2_with fail
  obtain ⟨cs, hrun, hle, -⟩ := Lib.run_makeNoZero (P := Tryz.prog) w #[3] 24 5 Tryz.underlying24 10240 (by decide)
  have hrun' : (Extern.BytealgMakeNoZero.makeNoZero #[3] #[24] #[.int .i64 10240]).run Tryz.prog w = .ok (.slice (some ⟨w.heap.size, 0, none⟩) 10240 cs.size) (w.drew.drew.alloc (.cells cs 5)) := hrun
  rw [run_callFunc_extern Tryz.func212 (by kernel_rfl) (by kernel_rfl) (by kernel_rfl) (e := Extern.BytealgMakeNoZero.makeNoZero #[3] #[24]) (by kernel_rfl), hrun']
  simp only [Result.andThen]
  rw [Oper.upon_value]
  have HB0 := wall (show Below w.heap.size w (w.drew.drew.alloc (.cells cs 5)) from ((Below.refl _ w).drew.drew).alloc (Nat.le_refl _) _)
  have HK0 := wall (show Blk (w.drew.drew.alloc (.cells cs 5)) w.heap.size 5 cs from Blk.new w.drew.drew _ _)
  clear hrun hrun'
  generalize w.drew.drew.alloc (.cells cs 5) = w1 at *
  have HZ1 := wall (HZ.out.below HB0.out)
  obtain ⟨L0, rfl⟩ : ∃ L : List Value, cs = L.toArray := ⟨cs.toList, by simp⟩
  obtain ⟨M, hM⟩ : ∃ M, L0.length = M := ⟨_, rfl⟩
  have HLN := wall (show L0.length = M ∧ 10240 ≤ M from ⟨hM, by rw [← hM]; simpa using hle⟩)
  have hcap : (10240 : Int) ≤ ((L0.toArray.size : Nat) : Int) := by have := hle; omega
  clear HZ hM
  obtain ⟨g, hg⟩ : ∃ g, w.heap.size = g := ⟨_, rfl⟩
  have HG := wall hg
  rw [hg] at HK0 ⊢
  clear hg
  have HSR := wall (show ∃ ad, A = some ad ∧ ∀ (j : Nat) (v : Value), (v8 [x])[j]? = some v → w1.cell? (ad.add j) = some v from nats_src HZ1.out (Nat.succ_pos _))
  go_wp2_with (refine wpList_copy_frm rfl (.tmp 58) (.tmp 59) 24 24 rfl 5 Tryz.underlying24 (by kernel_rfl) (some ⟨g, 0, none⟩) A 10240 10240 1 c rfl rfl g 0 5 L0 HK0.out (v8 [x]) 1 rfl (by decide) (fun _ => ⟨rfl, HSR.out⟩) (by have := HLN.out; omega) (v8_one' _) ?_; intro w2 K2 F2)
  have HK2 := wall (show Blk w2 g 5 (v8 (List.replicate 1 x) ++ L0.drop 1).toArray from by
    have h := splice_rep x 0 1 L0 (by have := HLN.out; omega)
    rw [show v8 (List.replicate 0 x) ++ L0 = L0 from rfl, Nat.zero_add] at h
    rw [← h]
    exact K2)
  have HB2 := wall (show Below w.heap.size w w2 from Below.frm HB0.out F2 (Nat.le_refl _) (fun k hk => by rw [List.mem_singleton] at hk; rw [hk, HG.out]; exact Nat.le_refl _))
  have HTL := wall (show 1 + (L0.drop 1).length = M by have := HLN.out; rw [List.length_drop]; omega)
  clear K2 F2 HK0 HB0 HZ1 HSR hcap hle
  generalize L0.drop 1 = T0 at *
  go_loopg [10] 10239 (fun gg s10 wr => ∃ bp : Nat, bp + gg = 10240 ∧ 1 ≤ bp ∧ s10 = .int .i64 (bp : Int) ∧ ∃ T : List Value, bp + T.length = M ∧ Wall (Blk wr g 5 (v8 (List.replicate bp x) ++ T).toArray) ∧ Wall (Below w.heap.size w wr))
  case atStart => exact ⟨1, by omega, Nat.le_refl _, rfl, T0, HTL.out, HK2, HB2⟩
  case round =>
    clear HK2 HB2 HTL
    obtain ⟨bp, hg, h1, rfl, T, hT, HK, HB⟩ := hrel
    have HGK := wall hg
    have hle : bp ≤ 10240 := by omega
    clear hg
    by_cases hlt : bp < 10240
    · obtain ⟨k, hk⟩ : ∃ k, min bp 8192 = k := ⟨_, rfl⟩
      have hmi : min ((bp : Nat) : Int) 8192 = ((k : Nat) : Int) := by omega
      have hlt' : (bp : Int) < 10240 := by omega
      have hk1 : 1 ≤ k ∧ k ≤ bp ∧ k ≤ 10240 := by omega
      obtain ⟨m, hm⟩ : ∃ m, Nat.min k (10240 - bp) = m := ⟨_, rfl⟩
      have hm' : min k (10240 - bp) = m := hm
      have hm1 : 1 ≤ m ∧ m ≤ k ∧ m ≤ 10240 - bp := by omega
      have HM := wall hm
      have HM1 := wall hm1
      have HT := wall (show T.length = M - bp ∧ 10240 ≤ M by have := HLN.out; omega)
      have s1 : ∀ W, (Instr.sliceAt 24 (.slice (some ⟨g, 0, none⟩) 10240 10240) (some (.int .i64 (bp : Int))) none none).run Tryz.prog W = .ok (.slice (some ⟨g, bp, none⟩) (10240 - bp) (10240 - bp)) W := fun W => by
        have h := run_slice_l1 (P := Tryz.prog) 24 5 Tryz.underlying24 (fun _ => by kernel_rfl) (some ⟨g, 0, none⟩) 10240 10240 bp .i64 (bp : Int) rfl hle W
        rw [h]
        have hne : ¬ 10240 = bp := by omega
        simp [slA, hne, Go.WideShapes.add_plain]
      have s2 : ∀ W, (Instr.sliceAt 24 (.slice (some ⟨g, 0, none⟩) 10240 10240) none (some (.int .i64 (k : Int))) none).run Tryz.prog W = .ok (.slice (some ⟨g, 0, none⟩) k 10240) W := fun W => run_slice_h1 (P := Tryz.prog) 24 5 Tryz.underlying24 (fun _ => by kernel_rfl) (some ⟨g, 0, none⟩) 10240 10240 k .i64 (k : Int) rfl (by decide) hk1.2.2 W
      have S1 := wall s1
      have S2 := wall s2
      have HMI := wall (show k = if 8192 < bp then 8192 else bp by rw [← hk]; split <;> omega)
      clear hk hm hm' hm1 s1 s2 hmi
      go_upto_region 19 with fail
      go_cut [11] (fun v w' => v = .int .i64 (k : Int) ∧ wr = w')
      case first =>
        go_wp2_with fail
        all_goals go_meet
        all_goals refine ⟨congrArg (Value.int .i64) ?_, rfl⟩
        all_goals rw [HMI.out]; split <;> omega
      case rest =>
        obtain ⟨rfl, rfl⟩ := hcut
        have HSR := wall (show ∃ ad, (some (⟨g, 0, none⟩ : Addr)) = some ad ∧ ∀ (j : Nat) (v : Value), (v8 (List.replicate m x))[j]? = some v → wr.cell? (ad.add j) = some v from ⟨_, rfl, fun j v hv => by
          have hj : j < m := by
            have := (List.getElem?_eq_some_iff.1 hv).1
            simpa [v8_length] using this
          have hv' : v = .int .u8 (x : Int) := by
            simp only [v8, List.map_replicate, List.getElem?_replicate, hj, if_true] at hv
            exact (Option.some.inj hv).symm
          rw [Go.WideShapes.add_plain, Nat.zero_add, HK.out.cell, List.getElem?_toArray, List.getElem?_append_left (by rw [v8_length, List.length_replicate]; have := HM1.out; omega), hv']
          simp only [v8, List.map_replicate, List.getElem?_replicate]
          rw [if_pos (by have := HM1.out; omega)]⟩)
        go_wp2_with fail
        refine RelG.wp_region_fl 7 [0] [] (by kernel_rfl) (by kernel_rfl) rfl (fun _ _ _ _ _ h => h) ?_
        simp only [List.take_succ_cons, List.take_zero, List.drop_succ_cons, List.drop_zero, Act.put, List.setIfInBounds_toArray, List.set_cons_zero, List.set_cons_succ]
        repeat (first | (refine RelG.tree_quiet rfl rfl rfl (fun K hK => ?_); go_big_quiet_op; refine hK _ ?_; clear hK K) | (refine RelG.tree_pure rfl rfl rfl (.slice (some ⟨g, bp, none⟩) (10240 - bp) (10240 - bp)) (fun W hW _ => Rel.exec_slice _ _ _ _ rfl _ (S1.out W)) ?_; simp only [Act.put, List.setIfInBounds_toArray, List.set_cons_zero, List.set_cons_succ]) | (refine RelG.tree_pure rfl rfl rfl (.slice (some ⟨g, 0, none⟩) k 10240) (fun W hW _ => Rel.exec_slice _ _ _ _ rfl _ (S2.out W)) ?_; simp only [Act.put, List.setIfInBounds_toArray, List.set_cons_zero, List.set_cons_succ]))
        intro W hW _
        have HKW := wall (hW.blk HK.out.drew)
        have HBW := wall (below_then HB.out hW.undrew (Nat.le_refl _))
        have HSRW := wall (show ∃ ad, (some (⟨g, 0, none⟩ : Addr)) = some ad ∧ ∀ (j : Nat) (v : Value), (v8 (List.replicate m x))[j]? = some v → W.cell? (ad.add j) = some v from ⟨_, rfl, fun j v hv => by
          obtain ⟨ad, e, h⟩ := HSR.out
          cases e
          have hgl : g < wr.heap.size := HK.out.lt
          have h2 := h j v hv
          rw [Go.WideShapes.add_plain] at h2 ⊢
          exact (hW.undrew.cell (p := ⟨g, 0 + j, none⟩) hgl).trans h2⟩)
        clear hW HK HB S1 S2 HSR
        go_wp2_with (refine wpList_copy_frm rfl (.tmp 70) (.tmp 73) 24 24 rfl 5 Tryz.underlying24 (by kernel_rfl) (some ⟨g, bp, none⟩) (some ⟨g, 0, none⟩) (10240 - bp) (10240 - bp) k 10240 rfl rfl g bp 5 (v8 (List.replicate bp x) ++ T) HKW.out (v8 (List.replicate m x)) m (by rw [v8_length, List.length_replicate]) HM.out.symm (fun _ => ⟨rfl, HSRW.out⟩) (by rw [List.length_append, v8_length, List.length_replicate]; have := HM1.out; have := HT.out; omega) (v8_one' _) ?_; intro w5 K5 F5)
        have HK5 := wall (show Blk w5 g 5 (v8 (List.replicate (bp + m) x) ++ T.drop m).toArray from by
          rw [← splice_rep x bp m T (by have := HM1.out; have := HT.out; omega)]
          exact K5)
        have HB5 := wall (show Below w.heap.size w w5 from Below.frm HBW.out F5 (Nat.le_refl _) (fun k hk => by rw [List.mem_singleton] at hk; rw [hk, HG.out]; exact Nat.le_refl _))
        clear K5 F5 HKW HBW HSRW
        go_wp2_with fail
        go_light
        go_roundg (10240 - (bp + m))
        case measure => have := HGK.out; have := HM1.out; omega
        case rel => exact ⟨bp + m, by have := HM1.out; omega, by have := HM1.out; omega, congrArg (Value.int .i64) (by have := HM1.out; unfold wrap64; omega), T.drop m, by rw [List.length_drop]; have := HT.out; have := HM1.out; omega, HK5, HB5⟩
    · obtain rfl : bp = 10240 := by omega
      go_wp2_with fail
      go_light
      go_ret
      exact ⟨g, T, rfl, by rw [HG.out]; exact Nat.le_refl _, HK.out, HB.out⟩
end Rep
end Go.Proofs.YtmiaabpnolebhaaGreatDoor

/-
  Package flash: New, of all its pages.
-/
namespace Go.Proofs.YtmiaabpnolebhaaGreatDoor
open Go.RowKit

namespace Fla
open Otp Sha R1
/-- A flash's bytes. -/
def Fl (w : World) (f p : Nat) (l : List Nat) : Prop := ∃ T : List Value, Blk w f 164 #[.slice (some ⟨p, 0, none⟩) l.length l.length] ∧ Blk w p 5 (v8 l ++ T).toArray
theorem Fl.below {B : Nat} {w w' : World} {f p : Nat} {l : List Nat} (h : Fl w f p l) (hb : Below B w w') (hf : f < B) (hp : p < B) : Fl w' f p l := by
  obtain ⟨T, h1, h2⟩ := h
  exact ⟨T, h1.below hb hf, h2.below hb hp⟩
theorem Fl.lt {w : World} {f p : Nat} {l : List Nat} (h : Fl w f p l) : f < w.heap.size ∧ p < w.heap.size := by
  obtain ⟨T, h1, h2⟩ := h
  exact ⟨h1.lt, h2.lt⟩
theorem Fl.old {w w' : World} {f p : Nat} {l : List Nat} (h : Fl w f p l) (hb : Below w.heap.size w w') : Fl w' f p l := h.below hb h.lt.1 h.lt.2
def erased : List Nat := List.replicate 10240 255
theorem erased_len : erased.length = 10240 := List.length_replicate
def FlOut (w : World) (e : Ending) (w' : World) : Prop := ∃ f p, e = .returned (.tuple #[.pointer (some ⟨f, 0, none⟩), .int .i64 0]) ∧ w.heap.size ≤ f ∧ w.heap.size ≤ p ∧ Fl w' f p erased ∧ Below w.heap.size w w'
theorem new_ff (w : World) : Nats .u8 256 (w.alloc (.cells #[.int .u8 255] 5)) (w.alloc (.cells #[.int .u8 255] 5)).heap.size (some ⟨w.heap.size, 0, none⟩) [255] := nats_b8 (l := [255]) (Blk.new _ _ _) (by simp)
set_option maxRecDepth 100000 in
set_option maxHeartbeats 2000000 in
theorem flash_new (w : World) : Calls Tryz.prog 59 #[.int .i64 40] w (FlOut w) := by
  have HN := wall (new_ff w)
  have HB0 := wall ((Below.refl _ w).alloc (Nat.le_refl _) (.cells #[.int .u8 255] 5))
  have HR := wall (fun W A c (h : Nats .u8 256 W W.heap.size A [255]) => Rep.repeat_any 255 A c W h)
  unfold Rep.RepOut at HR
  obtain ⟨E, hE⟩ : ∃ E, List.replicate 10240 255 = E := ⟨_, rfl⟩
  have HE := wall hE
  rw [hE] at HR
  clear hE
  go_enter Tryz.func59, Tryz.ntmps59
  go_wp2_with fail
  generalize w.alloc (.cells #[.int .u8 255] 5) = w1 at *
  (with_reducible refine (HR.out _ _ _ HN.out).mono ?_); rintro e w2 ⟨g, T, rfl, hg, hK, hB2⟩
  have HK := wall hK
  have HG := wall hg
  have HB2 := wall (below_then HB0.out hB2 (Nat.le_refl _))
  have HS := wall (HB0.out.size)
  clear hK hg hB2 HN HR HB0
  go_wp2_with fail
  go_light
  go_ret2
  refine ⟨w2.heap.size, g, rfl, HB2.out.size, Nat.le_trans HS.out HG.out, ⟨T, ?_, ?_⟩, HB2.out.alloc HB2.out.size _⟩
  · rw [erased_len]
    exact Blk.new _ _ _
  · show Blk _ g _ (v8 (List.replicate 10240 255) ++ T).toArray
    rw [HE.out]
    exact HK.out.alloc _
end Fla
end Go.Proofs.YtmiaabpnolebhaaGreatDoor
