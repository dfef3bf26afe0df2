/-
  The law's 'do' (fuse): an act on both arrays; they stay alike, and no bit is lost.
-/
import Derived.Test.YtmcpppgnfmopoaaProg
import Derived.Test.YtmcpppgnfmopoaaMem
import Derived.Test.YtmcpppgnfmopoaaRefDo2
import Derived.Test.YtmcpppgnfmopoaaFuseAwake
namespace Go.Proofs.Ytmcpppgnfmopoaa
open Go.RowKit

namespace Fuse
variable {p b x c d : Nat} {vs : List Nat} {ls : List Bool}
/-- No bit is lost. -/
def More (vs vs' : List Nat) : Prop := vs'.length = vs.length ∧ ∀ (i y y' : Nat), vs[i]? = some y → vs'[i]? = some y' → ∀ t, y.testBit t = true → y'.testBit t = true
theorem More.refl (vs : List Nat) : More vs vs := ⟨rfl, fun i y y' h h' t hb => by rw [h] at h'; cases h'; exact hb⟩
theorem More.trans {a b c : List Nat} (h : More a b) (k : More b c) : More a c := ⟨k.1.trans h.1, fun i y y' hy hy' t hb => by
  have hi : i < b.length := by have := (List.getElem?_eq_some_iff.1 hy).1; have := h.1; omega
  exact k.2 i _ y' (List.getElem?_eq_getElem hi) hy' t (h.2 i y _ hy (List.getElem?_eq_getElem hi) t hb)⟩
theorem More.set {vs : List Nat} {j z : Nat} (h : ∀ y, vs[j]? = some y → ∀ t, y.testBit t = true → z.testBit t = true) : More vs (vs.set j z) := ⟨by simp, fun i y y' hy hy' t hb => by
  rw [List.getElem?_set] at hy'
  split at hy'
  · rename_i hj
    subst hj
    split at hy'
    · cases hy'; exact h y hy t hb
    · cases hy'
  · rw [hy] at hy'; cases hy'; exact hb⟩
theorem More.setBit (vs : List Nat) (z : Int) : More vs (setBit vs z) := More.set fun y hy t hb => by
  rw [hy]
  simp [Nat.testBit_or, hb]
theorem More.setBits : ∀ (zs : List Int) (vs : List Nat), More vs (setBits vs zs)
  | [], vs => More.refl vs
  | z :: zs, vs => (More.setBit vs z).trans (More.setBits zs (Fuse.setBit vs z))
theorem More.setV (vs : List Nat) (zs : List Int) : More vs (setV vs zs) := by
  unfold Fuse.setV
  split
  · exact More.refl vs
  · exact More.setBits zs vs
theorem More.cutV (vs : List Nat) (i : Int) (v g : Nat) : More vs (cutV vs i v g) := by
  unfold Fuse.cutV
  split
  · exact More.set fun y hy t hb => by rw [hy]; simp [Nat.testBit_or, hb]
  · exact More.refl vs

theorem cut_out {i : Int} (hi : i < 0 ∨ (vs.length : Int) ≤ i) (v g : Nat) : cutE vs i v = 9 ∧ cutV vs i v g = vs := by
  have hr : inR vs i = false := by unfold inR; exact decide_eq_false (by omega)
  simp [cutE, cutV, hr]
theorem lock_out {i : Int} (hi : i < 0 ∨ (vs.length : Int) ≤ i) : thr vs i = 9 ∧ lockL vs ls i = ls := by
  have hr : inR vs i = false := by unfold inR; exact decide_eq_false (by omega)
  simp [thr, lockL, hr]

theorem rdo_read (k i j v g : Int) (w : World) (h : Rz w x c d vs ls) (hk : (k % 5 == 4) = false) (hk1 : (k % 5 == 0) = true) (hk0 : 0 ≤ k) :
    Calls Try.prog 34 #[.pointer (some ⟨x, 0, none⟩), .agg #[.int .u8 k, .int .i64 i, .int .i64 j, .int .u32 v, .int .u32 g]] w (RDo w x c d (rdV vs ls i) (rdE vs ls i) vs ls) := by
  by_cases hi : 0 ≤ i ∧ i < vs.length
  · obtain ⟨n, rfl⟩ := Int.eq_ofNat_of_zero_le hi.1
    exact rdo_read_in k j v g n w h hk hk1 hk0 (by omega)
  · have ho : i < 0 ∨ (vs.length : Int) ≤ i := by omega
    rw [(rd_out (ls := ls) ho).1, (rd_out (ls := ls) ho).2]
    exact rdo_out k i j v g w h hk hk0 ho
theorem rdo_lock (k i j v g : Int) (w : World) (h : Rz w x c d vs ls) (hk : (k % 5 == 4) = false) (hk1 : (k % 5 == 0) = false) (hk2 : (k % 5 == 3) = true) (hk0 : 0 ≤ k) :
    Calls Try.prog 34 #[.pointer (some ⟨x, 0, none⟩), .agg #[.int .u8 k, .int .i64 i, .int .i64 j, .int .u32 v, .int .u32 g]] w (RDo w x c d 0 (thr vs i) vs (lockL vs ls i)) := by
  by_cases hi : 0 ≤ i ∧ i < vs.length
  · obtain ⟨n, rfl⟩ := Int.eq_ofNat_of_zero_le hi.1
    exact rdo_lock_in k j v g n w h hk hk1 hk2 hk0 (by omega)
  · have ho : i < 0 ∨ (vs.length : Int) ≤ i := by omega
    rw [(lock_out (ls := ls) ho).1, (lock_out (ls := ls) ho).2]
    exact rdo_out k i j v g w h hk hk0 ho
theorem rdo_cut (k i j v g : Int) (m : Nat) (w : World) (h : Rz w x c d vs ls) (hk : (k % 5 == 4) = false) (hk1 : (k % 5 == 0) = false) (hk2 : (k % 5 == 3) = false) (hk0 : 0 ≤ k) (hv0 : 0 ≤ v) (hv1 : v < 4294967296)
    (hg : (if (k % 5 == 1) = true then 4294967295 else g) = (m : Int)) :
    Calls Try.prog 34 #[.pointer (some ⟨x, 0, none⟩), .agg #[.int .u8 k, .int .i64 i, .int .i64 j, .int .u32 v, .int .u32 g]] w (RDo w x c d 0 (cutE vs i v.toNat) (cutV vs i v.toNat m) ls) := by
  by_cases hi : 0 ≤ i ∧ i < vs.length
  · obtain ⟨n, rfl⟩ := Int.eq_ofNat_of_zero_le hi.1
    exact rdo_cut_in k j v g n v.toNat m w h hk hk1 hk2 hk0 (by omega) (Int.toNat_of_nonneg hv0).symm (by omega) hg
  · have ho : i < 0 ∨ (vs.length : Int) ≤ i := by omega
    rw [(cut_out ho v.toNat m).1, (cut_out ho v.toNat m).2]
    exact rdo_out k i j v g w h hk hk0 ho

def DoOut (w : World) (p b x c d : Nat) (vs : List Nat) (e : Ending) (w' : World) : Prop :=
  e = .returned (.bool true) ∧ ∃ vs' ls', Fz w' p b vs' ls' ∧ Rz w' x c d vs' ls' ∧ More vs vs' ∧ Frm [b, c, d] w w'

set_option maxRecDepth 100000 in
set_option maxHeartbeats 1000000 in
theorem do_any (k i j v g : Int) (w : World) (hF : Fz w p b vs ls) (hR : Rz w x c d vs ls) (hk0 : 0 ≤ k) (hv0 : 0 ≤ v) (hv1 : v < 4294967296) (hg0 : 0 ≤ g) (hg1 : g < 4294967296) (hi9 : i ≤ 9223372036854775807) (hj9 : j ≤ 9223372036854775807)
    (hi8 : (Lit.int .i64 i).wf = true) (hj8 : (Lit.int .i64 j).wf = true) :
    Calls Try.prog 20 #[.pointer (some ⟨p, 0, none⟩), .pointer (some ⟨x, 0, none⟩), .agg #[.int .u8 k, .int .i64 i, .int .i64 j, .int .u32 v, .int .u32 g]] w (DoOut w p b x c d vs) := by
  have HF := Lib.hid (hF.frm ((Frm.refl [] w).alloc (.cells #[.int .u8 k, .int .i64 i, .int .i64 j, .int .u32 v, .int .u32 g] 54)) (by simp) (by simp))
  have HR := Lib.hid (hR.alloc (.cells #[.int .u8 k, .int .i64 i, .int .i64 j, .int .u32 v, .int .u32 g] 54))
  have hne := hR.fz hF
  have hltr := hR.lts
  have HI8 := Lib.hid hi8
  have HJ8 := Lib.hid hj8
  have HI9 := Lib.hid hi9
  have HJ9 := Lib.hid hj9
  have hB0 : Blk (w.alloc (.cells #[.int .u8 k, .int .i64 i, .int .i64 j, .int .u32 v, .int .u32 g] 54)) w.heap.size 54 #[.int .u8 k, .int .i64 i, .int .i64 j, .int .u32 v, .int .u32 g] := Blk.new w _ _
  have hF0 : Frm [b, c, d] w (w.alloc (.cells #[.int .u8 k, .int .i64 i, .int .i64 j, .int .u32 v, .int .u32 g] 54)) := (Frm.refl _ _).alloc _
  clear hF hR hi8 hj8 hi9 hj9
  have h5 : k % 5 = 0 ∨ k % 5 = 1 ∨ k % 5 = 2 ∨ k % 5 = 3 ∨ k % 5 = 4 := by omega
  have HB0 := Lib.hid hB0
  have HF0 := Lib.hid hF0
  clear hB0 hF0
  rcases h5 with h5 | h5 | h5 | h5 | h5
  · have k0 : (k % 5 == 0) = true := by simp [h5]
    have k4 : (k % 5 == 4) = false := by simp [h5]
    clear h5
    go_enter Try.func20, Try.ntmps20
    go_wp2_with fail
    (with_reducible refine (rdo_read k i j v g _ HR.out k4 k0 hk0).mono ?_); rintro e w2 ⟨rfl, hr2, hf2⟩
    have hF2 := HF.out.frm hf2 (by simp; omega) (by simp; omega)
    have hb2 := (HB0.out.frm hf2 (by simp; omega)).cell
    have HF2 := Lib.hid hF2
    have HR2 := Lib.hid hr2
    have Hf2 := Lib.hid hf2
    clear hF2 hr2 hf2
    go_wp2_with fail
    (with_reducible refine (read_any i _ HF2.out).mono ?_); rintro e w3 ⟨rfl, rfl⟩
    go_wp2_with fail
    go_light
    go_ret
    refine ⟨by simp, vs, ls, HF2.out, HR2.out, More.refl vs, HF0.out.trans (Hf2.out.mono (by simp))⟩
  · have k0 : (k % 5 == 0) = false := by simp [h5]
    have k1 : (k % 5 == 1) = true := by simp [h5]
    have k3 : (k % 5 == 3) = false := by simp [h5]
    have k4 : (k % 5 == 4) = false := by simp [h5]
    have hgm : (if (k % 5 == 1) = true then (4294967295 : Int) else g) = ((4294967295 : Nat) : Int) := by rw [k1]; rfl
    have HGM := Lib.hid hgm
    clear h5 hgm
    go_enter Try.func20, Try.ntmps20
    go_wp2_with fail
    (with_reducible refine (rdo_cut k i j v g 4294967295 _ HR.out k4 k0 k3 hk0 hv0 hv1 HGM.out).mono ?_); rintro e w2 ⟨rfl, hr2, hf2⟩
    have hF2 := HF.out.frm hf2 (by simp; omega) (by simp; omega)
    have hb2 := (HB0.out.frm hf2 (by simp; omega)).cell
    have HF2 := Lib.hid hF2
    have HR2 := Lib.hid hr2
    have Hf2 := Lib.hid hf2
    clear hF2 hr2 hf2
    go_wp2_with fail
    (with_reducible refine (program_any i v _ HF2.out hv0 hv1).mono ?_); rintro e w3 ⟨rfl, hF3, hf3⟩
    have hR3 := HR2.out.frm hf3 (by simp; omega) (by simp; omega) (by simp; omega)
    have HF3 := Lib.hid hF3
    have HR3 := Lib.hid hR3
    have Hf3 := Lib.hid hf3
    clear hF3 hR3 hf3
    go_wp2_with fail
    go_light
    go_ret
    refine ⟨by simp, _, _, HF3.out, HR3.out, More.cutV vs i v.toNat _, (HF0.out.trans (Hf2.out.mono (by simp))).trans (Hf3.out.mono (by simp))⟩
  · have k0 : (k % 5 == 0) = false := by simp [h5]
    have k1 : (k % 5 == 1) = false := by simp [h5]
    have k2 : (k % 5 == 2) = true := by simp [h5]
    have k3 : (k % 5 == 3) = false := by simp [h5]
    have k4 : (k % 5 == 4) = false := by simp [h5]
    have hgm : (if (k % 5 == 1) = true then (4294967295 : Int) else g) = ((g.toNat : Nat) : Int) := by rw [k1, if_neg (by decide)]; omega
    have HGM := Lib.hid hgm
    clear h5 hgm
    go_enter Try.func20, Try.ntmps20
    go_wp2_with fail
    (with_reducible refine (rdo_cut k i j v g g.toNat _ HR.out k4 k0 k3 hk0 hv0 hv1 HGM.out).mono ?_); rintro e w2 ⟨rfl, hr2, hf2⟩
    have hF2 := HF.out.frm hf2 (by simp; omega) (by simp; omega)
    have hb2 := (HB0.out.frm hf2 (by simp; omega)).cell
    have HF2 := Lib.hid hF2
    have HR2 := Lib.hid hr2
    have Hf2 := Lib.hid hf2
    clear hF2 hr2 hf2
    go_wp2_with fail
    (with_reducible refine (cut_any i v g _ HF2.out hv0 hv1 hg0 hg1).mono ?_); rintro e w3 ⟨rfl, hF3, hf3⟩
    have hR3 := HR2.out.frm hf3 (by simp; omega) (by simp; omega) (by simp; omega)
    have HF3 := Lib.hid hF3
    have HR3 := Lib.hid hR3
    have Hf3 := Lib.hid hf3
    clear hF3 hR3 hf3
    go_wp2_with fail
    go_light
    go_ret
    refine ⟨by simp, _, _, HF3.out, HR3.out, More.cutV vs i v.toNat _, (HF0.out.trans (Hf2.out.mono (by simp))).trans (Hf3.out.mono (by simp))⟩
  · have k0 : (k % 5 == 0) = false := by simp [h5]
    have k1 : (k % 5 == 1) = false := by simp [h5]
    have k2 : (k % 5 == 2) = false := by simp [h5]
    have k3 : (k % 5 == 3) = true := by simp [h5]
    have k4 : (k % 5 == 4) = false := by simp [h5]
    clear h5
    go_enter Try.func20, Try.ntmps20
    go_wp2_with fail
    (with_reducible refine (rdo_lock k i j v g _ HR.out k4 k0 k3 hk0).mono ?_); rintro e w2 ⟨rfl, hr2, hf2⟩
    have hF2 := HF.out.frm hf2 (by simp; omega) (by simp; omega)
    have hb2 := (HB0.out.frm hf2 (by simp; omega)).cell
    have HF2 := Lib.hid hF2
    have HR2 := Lib.hid hr2
    have Hf2 := Lib.hid hf2
    clear hF2 hr2 hf2
    go_wp2_with fail
    (with_reducible refine (lock_any i _ HF2.out).mono ?_); rintro e w3 ⟨rfl, hF3, hf3⟩
    have hR3 := HR2.out.frm hf3 (by simp; omega) (by simp; omega) (by simp; omega)
    have HF3 := Lib.hid hF3
    have HR3 := Lib.hid hR3
    have Hf3 := Lib.hid hf3
    clear hF3 hR3 hf3
    go_wp2_with fail
    go_light
    go_ret
    refine ⟨by simp, _, _, HF3.out, HR3.out, More.refl vs, (HF0.out.trans (Hf2.out.mono (by simp))).trans (Hf3.out.mono (by simp))⟩
  · have k0 : (k % 5 == 0) = false := by simp [h5]
    have k1 : (k % 5 == 1) = false := by simp [h5]
    have k2 : (k % 5 == 2) = false := by simp [h5]
    have k3 : (k % 5 == 3) = false := by simp [h5]
    have k4 : (k % 5 == 4) = true := by simp [h5]
    clear h5
    go_enter Try.func20, Try.ntmps20
    go_wp2_with fail
    (with_reducible refine (rdo_set k i j v g _ HR.out k4 hk0 HI9.out HJ9.out).mono ?_); rintro e w2 ⟨rfl, hr2, hf2⟩
    have hF2 := HF.out.frm hf2 (by simp; omega) (by simp; omega)
    have hb2 := (HB0.out.frm hf2 (by simp; omega)).cell
    have HF2 := Lib.hid (hF2.frm ((Frm.refl [] w2).alloc (.cells #[.int .i64 i, .int .i64 j] 3)) (by simp) (by simp))
    have HIN : Hid (Ints .i64 (w2.alloc (.cells #[.int .i64 i, .int .i64 j] 3)) (w2.heap.size + 1) (some ⟨w2.heap.size, 0, none⟩) [i, j]) := ints_new w2 [i, j] _ rfl (by intro z hz; simp at hz; rcases hz with rfl | rfl; exact HI8.out; exact HJ8.out)
    have hbw2 := hF2.ltb
    have HR2 := Lib.hid (hr2.alloc (.cells #[.int .i64 i, .int .i64 j] 3))
    have Hf2 := Lib.hid hf2
    clear hF2 hr2 hf2
    go_wp2_with fail
    (with_reducible refine (set_any (some ⟨w2.heap.size, 0, none⟩) 2 2 [i, j] (w2.heap.size + 1) _ HF2.out HIN.out (by simp) (by decide) (fun ad h => by cases h; simp; omega)).mono ?_); rintro e w3 ⟨rfl, hF3, hf3⟩
    have hR3 := HR2.out.frm hf3 (by simp; omega) (by simp; omega) (by simp; omega)
    have HF3 := Lib.hid hF3
    have HR3 := Lib.hid hR3
    have Hf3 := Lib.hid hf3
    clear hF3 hR3 hf3
    go_wp2_with fail
    go_light
    go_ret
    refine ⟨by simp, _, _, HF3.out, HR3.out, More.setV vs [i, j], ((HF0.out.trans (Hf2.out.mono (by simp))).alloc _).trans (Hf3.out.mono (by simp))⟩
end Fuse
end Go.Proofs.Ytmcpppgnfmopoaa
