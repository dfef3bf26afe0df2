/-
  A space (package engine): Fetch, where it is let.
-/
import Derived.Test.YtfiojpdkbckopaaDoorJ94a58755
import Derived.Test.YtfiojpdkbckopaaDoorRvD
import Derived.Test.YtfiojpdkbckopaaDoorJ35905c37
import Derived.Test.YtfiojpdkbckopaaDoorJc45c21b5
import Derived.WalkKit
set_option linter.unusedSimpArgs false
set_option linter.unusedVariables false
namespace Go.Proofs.YtfiojpdkbckopaaDoor
open Go.RowKit

namespace Spc
open Otp Sha Grant Rv
def le32 (x0 x1 x2 x3 : Nat) : Nat := x3 * 16777216 + x2 * 65536 + x1 * 256 + x0
theorem le32_sum {x0 x1 x2 x3 s1 s2 s3 : Nat} (h1 : x3 * 16777216 + x2 * 65536 = s1) (h2 : s1 + x1 * 256 = s2) (h3 : s2 + x0 = s3) : le32 x0 x1 x2 x3 = s3 := by
  subst h1; subst h2; subst h3; rfl
set_option maxRecDepth 100000 in
set_option maxHeartbeats 4000000 in
theorem fetch_ok (g : Nat) (v : SpV) (a o : Nat) (at_ : Int) (x0 x1 x2 x3 : Nat) (w : World) (hv : v.Ok) (hg : Sp w g v) (ha : at_ = a) (hm : at_ < 4294967296) (hs : (Lit.int .i64 v.st).wf = true) (hS : Spans w) (hk : chk 1 v.st a 4 false true = (1, o, 0)) (ho : o + 4 ≤ 4096)
    (h0 : v.ram[o]? = some x0) (h1 : v.ram[o + 1]? = some x1) (h2 : v.ram[o + 2]? = some x2) (h3 : v.ram[o + 3]? = some x3) :
    Calls Tryd.prog 28 #[.pointer (some ⟨g, 0, none⟩), .int .u32 at_] w fun e w' => e = .returned (.tuple #[.int .u32 ((le32 x0 x1 x2 x3 : Nat) : Int), .int .i64 0]) ∧ Below w.heap.size w w' := by
  have HG := wall hg
  have HCK := wall (check_any 1 v.st 4 at_ a false true w ha hm (by decide) hs hS)
  have HBA := wall (fac_built v.st at_)
  rw [hk] at HCK
  unfold ChkOut at HCK
  simp only at HCK
  have HX := wall (show x0 < 256 ∧ x1 < 256 ∧ x2 < 256 ∧ x3 < 256 from ⟨hv.rb _ (List.mem_of_getElem? h0), hv.rb _ (List.mem_of_getElem? h1), hv.rb _ (List.mem_of_getElem? h2), hv.rb _ (List.mem_of_getElem? h3)⟩)
  have HRM := wall (fun (W : World) (h : Sp W g v) => show W.cell? ⟨g, 1 + o, none⟩ = some (.int .u8 (x0 : Int)) ∧ W.cell? ⟨g, 1 + o + 1, none⟩ = some (.int .u8 (x1 : Int)) ∧ W.cell? ⟨g, 1 + o + 2, none⟩ = some (.int .u8 (x2 : Int)) ∧ W.cell? ⟨g, 1 + o + 3, none⟩ = some (.int .u8 (x3 : Int)) from ⟨h.ram h0, by have := h.ram h1; rwa [← Nat.add_assoc] at this, by have := h.ram h2; rwa [← Nat.add_assoc] at this, by have := h.ram h3; rwa [← Nat.add_assoc] at this⟩)
  have hc : w.cell? ⟨g, 0, none⟩ = some (.int .i64 v.st) := hg.st
  have HO := wall ho
  obtain ⟨AC, hAC⟩ : ∃ y : Array Value, #[.int .i64 1, .int .i64 v.st, .int .u32 at_, .int .i64 4, .bool false, .bool true] = y := ⟨_, rfl⟩
  rw [hAC] at HCK HBA
  clear hv hg ha hm hs hS hk h0 h1 h2 h3 hAC ho
  go_enter Tryd.func28, Tryd.ntmps28
  go_wp2_with (refine wpList_build_row rfl 107 [(0, .const (.int .i64 1)), (1, .tmp 16), (2, .tmp 17), (3, .const (.int .i64 4)), (5, .const (.bool true))] rfl AC ?_ (Sha.Wall.out (?_ : Wall _)))
  · have h := HBA.out
    simp only [List.map_cons, List.map_nil]
    rw [show ∀ (A : Act), A.eval (.const (.int .i64 1)) = .int .i64 1 from fun _ => rfl, show ∀ (A : Act), A.eval (.const (.int .i64 4)) = .int .i64 4 from fun _ => rfl, show ∀ (A : Act), A.eval (.const (.bool true)) = .bool true from fun _ => rfl]
    exact h
  refine ⟨?_⟩
  clear HBA hc
  go_wp2_with fail
  (with_reducible refine (HCK.out).mono ?_); rintro ee w1 ⟨rfl, hB1⟩
  have HB1 := wall hB1
  obtain ⟨c0, c1, c2, c3⟩ := HRM.out w1 (HG.out.old hB1)
  have hgl : g < w1.heap.size := Blk.lt (HG.out.old hB1)
  have sl : ∀ W, (Instr.sliceAt 52 (.pointer (some ⟨g, 1, none⟩)) (some (.int .i64 (o : Int))) (some (.int .i64 ((o : Int) + 4))) none).run Tryd.prog W = .ok (.slice (some ⟨g, 1 + o, none⟩) 4 (8192 - o)) W := fun W => by
    have h := Big.run_arr_lh (P := Tryd.prog) 52 5 8192 Tryd.underlying52 (fun _ => by kernel_rfl) g 1 o (o + 4) .i64 .i64 (o : Int) ((o : Int) + 4) rfl (by simp) (by omega) (by have := HO.out; omega) (by have := HO.out; omega) W
    rw [h, show o + 4 - o = 4 by omega]
  have ho8 : (o : Int) ≤ 4092 := by have := HO.out; omega
  have hx0 := HX.out.1
  have hx1 := HX.out.2.1
  have hx2 := HX.out.2.2.1
  have hx3 := HX.out.2.2.2
  obtain ⟨s1, hs1⟩ : ∃ y, x3 * 16777216 + x2 * 65536 = y := ⟨_, rfl⟩
  obtain ⟨s2, hs2⟩ : ∃ y, s1 + x1 * 256 = y := ⟨_, rfl⟩
  obtain ⟨s3, hs3⟩ : ∃ y, s2 + x0 = y := ⟨_, rfl⟩
  have o1 : bits .or .u32 ((x3 : Int) * 16777216) ((x2 : Int) * 65536) = (s1 : Int) := or_sum (x3 * 16777216) (x2 * 65536) s1 24 (by simp) (by simp) (by omega) (by omega) hs1 (by omega)
  have o2 : bits .or .u32 (s1 : Int) ((x1 : Int) * 256) = (s2 : Int) := or_sum s1 (x1 * 256) s2 16 rfl (by simp) (by omega) (by omega) hs2 (by omega)
  have o3 : bits .or .u32 (s2 : Int) (x0 : Int) = (s3 : Int) := or_sum s2 x0 s3 8 rfl rfl (by omega) (by omega) hs3 (by omega)
  have HLE := wall (show le32 x0 x1 x2 x3 = s3 from le32_sum hs1 hs2 hs3)
  clear hB1 HCK HRM HG hs1 hs2 hs3
  try simp only [Act.put, List.setIfInBounds_toArray, List.set_cons_zero, List.set_cons_succ]
  go_wp2_with fail
  refine RelG.wp_region_rel 22 [] (by kernel_rfl) (by kernel_rfl) ?_
  simp only [List.take_succ_cons, List.take_zero, List.drop_succ_cons, List.drop_zero, Act.put, List.setIfInBounds_toArray, List.set_cons_zero, List.set_cons_succ]
  repeat (first | (refine RelG.tree_quiet rfl rfl rfl (fun K hK => ?_); go_big_quiet_op; refine hK _ ?_; clear hK K) | (refine RelG.tree_pure rfl rfl rfl (.int .u8 (x3 : Int)) (fun W hW _ => Rel.exec_load1 _ _ rfl g (1 + o + 3) rfl _ (fun _ => by kernel_rfl) ((hW.undrew.cell (p := ⟨g, 1 + o + 3, none⟩) hgl).trans c3)) ?_; simp only [Act.put, List.setIfInBounds_toArray, List.set_cons_zero, List.set_cons_succ]) | (refine RelG.tree_pure rfl rfl rfl (.int .u8 (x2 : Int)) (fun W hW _ => Rel.exec_load1 _ _ rfl g (1 + o + 2) rfl _ (fun _ => by kernel_rfl) ((hW.undrew.cell (p := ⟨g, 1 + o + 2, none⟩) hgl).trans c2)) ?_; simp only [Act.put, List.setIfInBounds_toArray, List.set_cons_zero, List.set_cons_succ]) | (refine RelG.tree_pure rfl rfl rfl (.int .u8 (x1 : Int)) (fun W hW _ => Rel.exec_load1 _ _ rfl g (1 + o + 1) rfl _ (fun _ => by kernel_rfl) ((hW.undrew.cell (p := ⟨g, 1 + o + 1, none⟩) hgl).trans c1)) ?_; simp only [Act.put, List.setIfInBounds_toArray, List.set_cons_zero, List.set_cons_succ]) | (refine RelG.tree_pure rfl rfl rfl (.int .u8 (x0 : Int)) (fun W hW _ => Rel.exec_load1 _ _ rfl g (1 + o) rfl _ (fun _ => by kernel_rfl) ((hW.undrew.cell (p := ⟨g, 1 + o, none⟩) hgl).trans c0)) ?_; simp only [Act.put, List.setIfInBounds_toArray, List.set_cons_zero, List.set_cons_succ]))
  intro W hW _
  have HBW := wall (below_then HB1.out hW.undrew (Nat.le_refl _))
  clear hW c0 c1 c2 c3 sl o1 o2 o3
  go_wp2_with fail
  go_light
  go_ret2
  rw [HLE.out]
  exact ⟨rfl, HBW.out⟩
end Spc
end Go.Proofs.YtfiojpdkbckopaaDoor
