/-
  Texts of this claim, joined: SpcC, SpcF, SpcG.
-/
import Derived.Test.YtmiaabpnolebhaaGreatDoorJfa71ce2b
import Derived.Test.YtmiaabpnolebhaaGreatDoorJcff9faaa
import Derived.Test.YtmiaabpnolebhaaGreatDoorJ7e99c1b8
set_option maxHeartbeats 4000000
set_option maxRecDepth 100000
set_option linter.unusedSimpArgs false
set_option linter.unusedVariables false
namespace Go.Proofs.YtmiaabpnolebhaaGreatDoor
open Go.RowKit

namespace Spc
open Otp Sha Grant
def wth (who st : Int) (at_ n : Nat) (wr : Bool) : Nat × Nat × Nat :=
 let c := chk who st at_ 1 wr false
 if c.2.2 ≠ 0 then (0, 0, c.2.2)
 else if (sp.getD c.1 (0, 0)).2 < n + c.2.1 then (0, 0, 9)
 else (c.1, c.2.1, 0)
theorem acc_built (who st : Int) (at_ : Int) (wr : Bool) : Tryz.prog.built 304 [(0, .int .i64 who), (1, .int .i64 st), (2, .int .u32 at_), (3, .int .i64 1), (4, .bool wr)] = some #[.int .i64 who, .int .i64 st, .int .u32 at_, .int .i64 1, .bool wr, .bool false] := by kernel_rfl
theorem where_cases (a : Nat) : (∃ o, whereN a = (1, o) ∧ o < 4096) ∨ (∃ o, whereN a = (2, o) ∧ o < 4096) ∨ (∃ o, whereN a = (3, o) ∧ o < 10240) ∨ (∃ o, whereN a = (4, o) ∧ o < 64) ∨ (∃ o, whereN a = (5, o) ∧ o < 256) ∨ whereN a = (0, 0) := by
 unfold whereN
 by_cases c1 : 536870912 ≤ a ∧ a < 536875008
 ·rw [if_pos c1]; exact .inl ⟨_, rfl, by omega⟩
 ·rw [if_neg c1]
  by_cases c2 : 536875008 ≤ a ∧ a < 536879104
  ·rw [if_pos c2]; exact .inr (.inl ⟨_, rfl, by omega⟩)
  ·rw [if_neg c2]
   by_cases c3 : 268435456 ≤ a ∧ a < 268445696
   ·rw [if_pos c3]; exact .inr (.inr (.inl ⟨_, rfl, by omega⟩))
   ·rw [if_neg c3]
    by_cases c4 : 1073741824 ≤ a ∧ a < 1073741888
    ·rw [if_pos c4]; exact .inr (.inr (.inr (.inl ⟨_, rfl, by omega⟩)))
    ·rw [if_neg c4]
     by_cases c5 : 1610612736 ≤ a ∧ a < 1610612992
     ·rw [if_pos c5]; exact .inr (.inr (.inr (.inr (.inl ⟨_, rfl, by omega⟩))))
     ·rw [if_neg c5]; exact .inr (.inr (.inr (.inr (.inr rfl))))
def Good (r : Nat × Nat) : Prop := ∃ f s, 1 ≤ r.1 ∧ sp[r.1]? = some (f, s) ∧ r.2 < s ∧ s ≤ 10240
theorem good_at {k o f s : Nat} (h1 : 1 ≤ k) (h2 : sp[k]? = some (f, s)) (h3 : o < s) (h4 : s ≤ 10240) : Good (k, o) := ⟨f, s, h1, h2, h3, h4⟩
theorem where_good (a : Nat) (h : (whereN a).1 ≠ 0) : Good (whereN a) := by
 rcases where_cases a with ⟨o, e, h1⟩ | ⟨o, e, h1⟩ | ⟨o, e, h1⟩ | ⟨o, e, h1⟩ | ⟨o, e, h1⟩ | e
 ·rw [e]; exact good_at (by decide) rfl h1 (by decide)
 ·rw [e]; exact good_at (by decide) rfl h1 (by decide)
 ·rw [e]; exact good_at (by decide) rfl h1 (by decide)
 ·rw [e]; exact good_at (by decide) rfl h1 (by decide)
 ·rw [e]; exact good_at (by decide) rfl h1 (by decide)
 ·rw [e] at h; exact absurd rfl h
theorem chk_good {who st : Int} {a : Nat} {size : Int} {wr fe : Bool} (h : (chk who st a size wr fe).2.2 = 0) : Good ((chk who st a size wr fe).1, (chk who st a size wr fe).2.1) := by
 unfold chk at h ⊢
 by_cases h1 : formB who st size wr fe = false
 ·rw [if_pos h1] at h; cases h
 ·rw [if_neg h1] at h ⊢
  by_cases h2 : a % size.toNat ≠ 0
  ·rw [if_pos h2] at h; cases h
  ·rw [if_neg h2] at h ⊢
   by_cases h3 : (whereN a).1 = 0
   ·rw [if_pos h3] at h; cases h
   ·rw [if_neg h3] at h ⊢
    by_cases h4 : hasB (mayW who st (whereN a).1) (letB wr fe) = false
    ·rw [if_pos h4] at h; cases h
    ·rw [if_neg h4]
     exact where_good a h3
def W3 (r : Nat × Nat × Nat) (w : World) (e : Ending) (w' : World) : Prop := e = .returned (.tuple #[.int .i64 r.1, .int .i64 r.2.1, .int .i64 r.2.2]) ∧ Below w.heap.size w w'
theorem within_any (g : Nat) (st who : Int) (a n : Nat) (at_ : Int) (wr : Bool) (w : World) (ha : at_ = a) (hm : at_ < 4294967296) (hw : (Lit.int .i64 who).wf = true) (hs : (Lit.int .i64 st).wf = true) (hn : n ≤ 1000000) (hS : Spans w) (hc : w.cell? ⟨g, 0, none⟩ = some (.int .i64 st)) :
  Calls Tryz.prog 90 #[.pointer (some ⟨g, 0, none⟩), .int .i64 who, .int .u32 at_, .int .i64 (n : Int), .bool wr] w (W3 (wth who st a n wr) w) := by
 have HS := wall hS
 have HCK := wall (check_any who st 1 at_ a wr false w ha hm hw hs hS)
 have HBA := wall (acc_built who st at_ wr)
 have HG := wall (fun h => chk_good (who := who) (st := st) (a := a) (size := 1) (wr := wr) (fe := false) h)
 have HNN := wall hn
 have HW := wall (show wth who st a n wr = (if (chk who st a 1 wr false).2.2 ≠ 0 then (0, 0, (chk who st a 1 wr false).2.2) else if (sp.getD (chk who st a 1 wr false).1 (0, 0)).2 < n + (chk who st a 1 wr false).2.1 then (0, 0, 9) else ((chk who st a 1 wr false).1, (chk who st a 1 wr false).2.1, 0)) from rfl)
 obtain ⟨R, hR⟩ : ∃ y, wth who st a n wr = y := ⟨_, rfl⟩
 rw [hR] at HW ⊢
 clear hR
 obtain ⟨⟨r, o, e⟩, hr⟩ : ∃ y, chk who st a 1 wr false = y := ⟨_, rfl⟩
 rw [hr] at HCK HG HW
 unfold ChkOut at HCK
 simp only at HCK HG HW
 obtain ⟨AC, hAC⟩ : ∃ y : Array Value, #[.int .i64 who, .int .i64 st, .int .u32 at_, .int .i64 1, .bool wr, .bool false] = y := ⟨_, rfl⟩
 rw [hAC] at HCK HBA
 clear hr ha hm hw hs hS hn hAC
 go_enter Tryz.func90, Tryz.ntmps90
 go_wp2_with (refine wpList_build_row rfl 304 [(0, .tmp 19), (1, .tmp 23), (2, .tmp 24), (3, .const (.int .i64 1)), (4, .tmp 25)] rfl AC ?_ (Sha.Wall.out (?_ : Wall _)))
 ·have h := HBA.out
  simp only [List.map_cons, List.map_nil]
  rw [show ∀ (A : Act), A.eval (.const (.int .i64 1)) = .int .i64 1 from fun _ => rfl]
  exact h
 refine ⟨?_⟩
 clear HBA hc
 go_wp2_with fail
 (with_reducible refine (HCK.out).mono ?_); rintro ee w1 ⟨rfl, hB1⟩
 have HB1 := wall hB1
 have HS1 := wall (HS.out.old hB1)
 clear hB1 HCK HS
 try simp only [Act.put, rpA, rpB, rpC]
 by_cases he : e = 0
 ·obtain ⟨f, s, g1, g2, g3, g4⟩ := HG.out he
  have HBS := wall (fun W (h : Spans W) => base_any (r : Int) r f s W rfl g1 g2 h)
  have he' : (((e : Nat) : Int) != 0) = false := by rw [he]; rfl
  have HW2 := wall (show R = if s < n + o then (0, 0, 9) else (r, o, 0) by
   rw [HW.out, if_neg (by simpa using he), List.getD_eq_getElem?_getD, g2]
   rfl)
  clear he HG HW g1 g2
  go_wp2_with fail
  (with_reducible refine (HBS.out _ HS1.out).mono ?_); rintro ee w2 ⟨rfl, k, rfl⟩
  have HB2 := wall (show Below w.heap.size w (w1.drewN k) from Below.drewN HB1.out k)
  clear HB1 HS1 HBS
  try simp only [Act.put, rpA, rpB, rpC]
  by_cases hlt : s < n + o
  ·have HR := wall (show R = (0, 0, 9) by rw [HW2.out, if_pos hlt])
   have i1 : (s : Int) - (o : Int) < (n : Int) := by omega
   have hnn : (n : Int) ≤ 1000000 := by have := HNN.out; omega
   clear hlt HW2
   go_wp2_with fail
   go_light
   go_ret3
   rw [HR.out]
   exact ⟨rfl, HB2.out⟩
  ·have HR := wall (show R = (r, o, 0) by rw [HW2.out, if_neg hlt])
   have i1 : ¬ (s : Int) - (o : Int) < (n : Int) := by omega
   clear hlt HW2
   go_wp2_with fail
   go_light
   go_ret3
   rw [HR.out]
   exact ⟨rfl, HB2.out⟩
 ·have HR := wall (show R = (0, 0, e) by rw [HW.out, if_pos (by simpa using he)])
  have he' : (((e : Nat) : Int) != 0) = true := by rw [bne_iff_ne]; omega
  clear he HG HW
  go_wp2_with fail
  go_light
  go_ret3
  rw [HR.out]
  exact ⟨rfl, HB1.out⟩
theorem fac_built (st : Int) (at_ : Int) : Tryz.prog.built 304 [(0, .int .i64 1), (1, .int .i64 st), (2, .int .u32 at_), (3, .int .i64 4), (5, .bool true)] = some #[.int .i64 1, .int .i64 st, .int .u32 at_, .int .i64 4, .bool false, .bool true] := by kernel_rfl
theorem fetch_bad (g : Nat) (st : Int) (a : Nat) (at_ : Int) (w : World) (ha : at_ = a) (hm : at_ < 4294967296) (hs : (Lit.int .i64 st).wf = true) (hS : Spans w) (hc : w.cell? ⟨g, 0, none⟩ = some (.int .i64 st)) (he : (chk 1 st a 4 false true).2.2 ≠ 0) :
  Calls Tryz.prog 98 #[.pointer (some ⟨g, 0, none⟩), .int .u32 at_] w fun e w' => e = .returned (.tuple #[.int .u32 0, .int .i64 ((chk 1 st a 4 false true).2.2 : Int)]) ∧ Below w.heap.size w w' := by
 have HS := wall hS
 have HCK := wall (check_any 1 st 4 at_ a false true w ha hm (by decide) hs hS)
 have HBA := wall (fac_built st at_)
 obtain ⟨⟨r, o, e⟩, hr⟩ : ∃ y, chk 1 st a 4 false true = y := ⟨_, rfl⟩
 rw [hr] at HCK he ⊢
 unfold ChkOut at HCK
 simp only at HCK he ⊢
 have he' : (((e : Nat) : Int) != 0) = true := by rw [bne_iff_ne]; omega
 obtain ⟨AC, hAC⟩ : ∃ y : Array Value, #[.int .i64 1, .int .i64 st, .int .u32 at_, .int .i64 4, .bool false, .bool true] = y := ⟨_, rfl⟩
 rw [hAC] at HCK HBA
 clear hr ha hm hs hS hAC he
 go_enter Tryz.func98, Tryz.ntmps98
 go_wp2_with (refine wpList_build_row rfl 304 [(0, .const (.int .i64 1)), (1, .tmp 16), (2, .tmp 17), (3, .const (.int .i64 4)), (5, .const (.bool true))] rfl AC ?_ (Sha.Wall.out (?_ : Wall _)))
 ·have h := HBA.out
  simp only [List.map_cons, List.map_nil]
  rw [show ∀ (A : Act), A.eval (.const (.int .i64 1)) = .int .i64 1 from fun _ => rfl, show ∀ (A : Act), A.eval (.const (.int .i64 4)) = .int .i64 4 from fun _ => rfl, show ∀ (A : Act), A.eval (.const (.bool true)) = .bool true from fun _ => rfl]
  exact h
 refine ⟨?_⟩
 clear HBA hc HS
 go_wp2_with fail
 (with_reducible refine (HCK.out).mono ?_); rintro ee w1 ⟨rfl, hB1⟩
 have HB1 := wall hB1
 clear hB1 HCK
 try simp only [Act.put, rpA, rpB, rpC]
 go_wp2_with fail
 go_light
 go_ret2
 exact ⟨rfl, HB1.out⟩
theorem held (a : Nat) : (chk 1 0 a 4 false true).2.2 ≠ 0 := by
 unfold chk
 split
 ·decide
 ·split
  ·decide
  ·split
   ·decide
   ·rename_i h3
    rw [if_pos]
    ·decide
    ·rcases where_cases a with ⟨o, e, h1⟩ | ⟨o, e, h1⟩ | ⟨o, e, h1⟩ | ⟨o, e, h1⟩ | ⟨o, e, h1⟩ | e
     ·rw [e]; simp only; decide +kernel
     ·rw [e]; simp only; decide +kernel
     ·rw [e]; simp only; decide +kernel
     ·rw [e]; simp only; decide +kernel
     ·rw [e]; simp only; decide +kernel
     ·rw [e] at h3; exact absurd rfl h3
end Spc
end Go.Proofs.YtmiaabpnolebhaaGreatDoor
namespace Go.Proofs.YtmiaabpnolebhaaGreatDoor
open Go.RowKit

namespace Spc
open Otp Sha Grant Rv
def le32 (x0 x1 x2 x3 : Nat) : Nat := x3 * 16777216 + x2 * 65536 + x1 * 256 + x0
theorem le32_sum {x0 x1 x2 x3 s1 s2 s3 : Nat} (h1 : x3 * 16777216 + x2 * 65536 = s1) (h2 : s1 + x1 * 256 = s2) (h3 : s2 + x0 = s3) : le32 x0 x1 x2 x3 = s3 := by
 subst h1; subst h2; subst h3; rfl
theorem fetch_ok (g : Nat) (v : SpV) (a o : Nat) (at_ : Int) (x0 x1 x2 x3 : Nat) (w : World) (hv : v.Ok) (hg : Sp w g v) (ha : at_ = a) (hm : at_ < 4294967296) (hs : (Lit.int .i64 v.st).wf = true) (hS : Spans w) (hk : chk 1 v.st a 4 false true = (1, o, 0)) (ho : o + 4 ≤ 4096)
  (h0 : v.ram[o]? = some x0) (h1 : v.ram[o + 1]? = some x1) (h2 : v.ram[o + 2]? = some x2) (h3 : v.ram[o + 3]? = some x3) :
  Calls Tryz.prog 98 #[.pointer (some ⟨g, 0, none⟩), .int .u32 at_] w fun e w' => e = .returned (.tuple #[.int .u32 ((le32 x0 x1 x2 x3 : Nat) : Int), .int .i64 0]) ∧ Below w.heap.size w w' := by
 have HG := wall hg
 have HCK := wall (check_any 1 v.st 4 at_ a false true w ha hm (by decide) hs hS)
 have HBA := wall (fac_built v.st at_)
 rw [hk] at HCK
 unfold ChkOut at HCK
 simp only at HCK
 have HX := wall (show x0 < 256 ∧ x1 < 256 ∧ x2 < 256 ∧ x3 < 256 from ⟨hv.rb _ (List.mem_of_getElem? h0), hv.rb _ (List.mem_of_getElem? h1), hv.rb _ (List.mem_of_getElem? h2), hv.rb _ (List.mem_of_getElem? h3)⟩)
 have HRM := wall (fun (W : World) (h : Sp W g v) => show W.cell? ⟨g, 1 + o, none⟩ = some (.int .u8 (x0 : Int)) ∧ W.cell? ⟨g, 1 + o + 1, none⟩ = some (.int .u8 (x1 : Int)) ∧ W.cell? ⟨g, 1 + o + 2, none⟩ = some (.int .u8 (x2 : Int)) ∧ W.cell? ⟨g, 1 + o + 3, none⟩ = some (.int .u8 (x3 : Int)) from ⟨h.ram h0, by have := h.ram h1; rwa [← Nat.add_assoc] at this, by have := h.ram h2; rwa [← Nat.add_assoc] at this, by have := h.ram h3; rwa [← Nat.add_assoc] at this⟩)
 have hc : w.cell? ⟨g, 0, none⟩ = some (.int .i64 v.st) := hg.st
 have HO := wall ho
 obtain ⟨AC, hAC⟩ : ∃ y : Array Value, #[.int .i64 1, .int .i64 v.st, .int .u32 at_, .int .i64 4, .bool false, .bool true] = y := ⟨_, rfl⟩
 rw [hAC] at HCK HBA
 clear hv hg ha hm hs hS hk h0 h1 h2 h3 hAC ho
 go_enter Tryz.func98, Tryz.ntmps98
 go_wp2_with (refine wpList_build_row rfl 304 [(0, .const (.int .i64 1)), (1, .tmp 16), (2, .tmp 17), (3, .const (.int .i64 4)), (5, .const (.bool true))] rfl AC ?_ (Sha.Wall.out (?_ : Wall _)))
 ·have h := HBA.out
  simp only [List.map_cons, List.map_nil]
  rw [show ∀ (A : Act), A.eval (.const (.int .i64 1)) = .int .i64 1 from fun _ => rfl, show ∀ (A : Act), A.eval (.const (.int .i64 4)) = .int .i64 4 from fun _ => rfl, show ∀ (A : Act), A.eval (.const (.bool true)) = .bool true from fun _ => rfl]
  exact h
 refine ⟨?_⟩
 clear HBA hc
 go_wp2_with fail
 (with_reducible refine (HCK.out).mono ?_); rintro ee w1 ⟨rfl, hB1⟩
 have HB1 := wall hB1
 obtain ⟨c0, c1, c2, c3⟩ := HRM.out w1 (HG.out.old hB1)
 have hgl : g < w1.heap.size := Blk.lt (HG.out.old hB1)
 have sl : ∀ W, (Instr.sliceAt 192 (.pointer (some ⟨g, 1, none⟩)) (some (.int .i64 (o : Int))) (some (.int .i64 ((o : Int) + 4))) none).run Tryz.prog W = .ok (.slice (some ⟨g, 1 + o, none⟩) 4 (8192 - o)) W := fun W => by
  have h := Big.run_arr_lh (P := Tryz.prog) 192 5 8192 Tryz.underlying192 (fun _ => by kernel_rfl) g 1 o (o + 4) .i64 .i64 (o : Int) ((o : Int) + 4) rfl (by simp) (by omega) (by have := HO.out; omega) (by have := HO.out; omega) W
  rw [h, show o + 4 - o = 4 by omega]
 have ho8 : (o : Int) ≤ 4092 := by have := HO.out; omega
 have hx0 := HX.out.1
 have hx1 := HX.out.2.1
 have hx2 := HX.out.2.2.1
 have hx3 := HX.out.2.2.2
 obtain ⟨s1, hs1⟩ : ∃ y, x3 * 16777216 + x2 * 65536 = y := ⟨_, rfl⟩
 obtain ⟨s2, hs2⟩ : ∃ y, s1 + x1 * 256 = y := ⟨_, rfl⟩
 obtain ⟨s3, hs3⟩ : ∃ y, s2 + x0 = y := ⟨_, rfl⟩
 have o1 : bits .or .u32 ((x3 : Int) * 16777216) ((x2 : Int) * 65536) = (s1 : Int) := or_sum (x3 * 16777216) (x2 * 65536) s1 24 (by simp) (by simp) (by omega) (by omega) hs1 (by omega)
 have o2 : bits .or .u32 (s1 : Int) ((x1 : Int) * 256) = (s2 : Int) := or_sum s1 (x1 * 256) s2 16 rfl (by simp) (by omega) (by omega) hs2 (by omega)
 have o3 : bits .or .u32 (s2 : Int) (x0 : Int) = (s3 : Int) := or_sum s2 x0 s3 8 rfl rfl (by omega) (by omega) hs3 (by omega)
 have HLE := wall (show le32 x0 x1 x2 x3 = s3 from le32_sum hs1 hs2 hs3)
 clear hB1 HCK HRM HG hs1 hs2 hs3
 try simp only [Act.put, rpA, rpB, rpC]
 go_wp2_with fail
 refine RelG.wp_region_rel 22 [] (by kernel_rfl) (by kernel_rfl) ?_
 simp only [List.take_succ_cons, List.take_zero, List.drop_succ_cons, List.drop_zero, Act.put, rpA, rpB, rpC]
 repeat (first | (refine RelG.tree_quiet rfl rfl rfl (fun K hK => ?_); go_big_quiet_op; refine hK _ ?_; clear hK K) | ((first | refine RelG.tree_pure rfl rfl rfl (.int .u8 (x3 : Int)) (fun W hW _ => Rel.exec_load1 _ _ rfl g (1 + o + 3) rfl _ (fun _ => by kernel_rfl) ((hW.undrew.cell (p := ⟨g, 1 + o + 3, none⟩) hgl).trans c3)) ?_ | refine RelG.tree_pure rfl rfl rfl (.int .u8 (x2 : Int)) (fun W hW _ => Rel.exec_load1 _ _ rfl g (1 + o + 2) rfl _ (fun _ => by kernel_rfl) ((hW.undrew.cell (p := ⟨g, 1 + o + 2, none⟩) hgl).trans c2)) ?_ | refine RelG.tree_pure rfl rfl rfl (.int .u8 (x1 : Int)) (fun W hW _ => Rel.exec_load1 _ _ rfl g (1 + o + 1) rfl _ (fun _ => by kernel_rfl) ((hW.undrew.cell (p := ⟨g, 1 + o + 1, none⟩) hgl).trans c1)) ?_ | refine RelG.tree_pure rfl rfl rfl (.int .u8 (x0 : Int)) (fun W hW _ => Rel.exec_load1 _ _ rfl g (1 + o) rfl _ (fun _ => by kernel_rfl) ((hW.undrew.cell (p := ⟨g, 1 + o, none⟩) hgl).trans c0)) ?_); simp only [Act.put, rpA, rpB, rpC]))
 intro W hW _
 have HBW := wall (below_then HB1.out hW.undrew (Nat.le_refl _))
 clear hW c0 c1 c2 c3 sl o1 o2 o3
 go_wp2_with fail
 go_light
 go_ret2
 rw [HLE.out]
 exact ⟨rfl, HBW.out⟩
end Spc
end Go.Proofs.YtmiaabpnolebhaaGreatDoor
