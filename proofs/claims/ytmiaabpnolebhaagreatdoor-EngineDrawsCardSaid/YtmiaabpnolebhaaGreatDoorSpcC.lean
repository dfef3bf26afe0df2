/-
  A space (package engine): within, kept.
-/
import Derived.Test.YtmiaabpnolebhaaGreatDoorJ5fba34b9
import Derived.Test.YtmiaabpnolebhaaGreatDoorJ1071cdc1
set_option linter.unusedSimpArgs false
set_option linter.unusedVariables false
namespace Go.Proofs.YtmiaabpnolebhaaGreatDoor
open Go.RowKit

namespace Spc
open Otp Sha Grant
/-- Where some bytes lie, and why they don't. -/
def wth (who st : Int) (at_ n : Nat) (wr : Bool) : Nat × Nat × Nat :=
  let c := chk who st at_ 1 wr false
  if c.2.2 ≠ 0 then (0, 0, c.2.2)
  else if (sp.getD c.1 (0, 0)).2 < n + c.2.1 then (0, 0, 9)
  else (c.1, c.2.1, 0)
theorem acc_built (who st : Int) (at_ : Int) (wr : Bool) : Tryz.prog.built 304 [(0, .int .i64 who), (1, .int .i64 st), (2, .int .u32 at_), (3, .int .i64 1), (4, .bool wr)] = some #[.int .i64 who, .int .i64 st, .int .u32 at_, .int .i64 1, .bool wr, .bool false] := by kernel_rfl
theorem where_cases (a : Nat) : (∃ o, whereN a = (1, o) ∧ o < 4096) ∨ (∃ o, whereN a = (2, o) ∧ o < 4096) ∨ (∃ o, whereN a = (3, o) ∧ o < 10240) ∨ (∃ o, whereN a = (4, o) ∧ o < 64) ∨ (∃ o, whereN a = (5, o) ∧ o < 256) ∨ whereN a = (0, 0) := by
  unfold whereN
  by_cases c1 : 536870912 ≤ a ∧ a < 536875008
  · rw [if_pos c1]; exact .inl ⟨_, rfl, by omega⟩
  · rw [if_neg c1]
    by_cases c2 : 536875008 ≤ a ∧ a < 536879104
    · rw [if_pos c2]; exact .inr (.inl ⟨_, rfl, by omega⟩)
    · rw [if_neg c2]
      by_cases c3 : 268435456 ≤ a ∧ a < 268445696
      · rw [if_pos c3]; exact .inr (.inr (.inl ⟨_, rfl, by omega⟩))
      · rw [if_neg c3]
        by_cases c4 : 1073741824 ≤ a ∧ a < 1073741888
        · rw [if_pos c4]; exact .inr (.inr (.inr (.inl ⟨_, rfl, by omega⟩)))
        · rw [if_neg c4]
          by_cases c5 : 1610612736 ≤ a ∧ a < 1610612992
          · rw [if_pos c5]; exact .inr (.inr (.inr (.inr (.inl ⟨_, rfl, by omega⟩))))
          · rw [if_neg c5]; exact .inr (.inr (.inr (.inr (.inr rfl))))
def Good (r : Nat × Nat) : Prop := ∃ f s, 1 ≤ r.1 ∧ sp[r.1]? = some (f, s) ∧ r.2 < s ∧ s ≤ 10240
theorem good_at {k o f s : Nat} (h1 : 1 ≤ k) (h2 : sp[k]? = some (f, s)) (h3 : o < s) (h4 : s ≤ 10240) : Good (k, o) := ⟨f, s, h1, h2, h3, h4⟩
theorem where_good (a : Nat) (h : (whereN a).1 ≠ 0) : Good (whereN a) := by
  rcases where_cases a with ⟨o, e, h1⟩ | ⟨o, e, h1⟩ | ⟨o, e, h1⟩ | ⟨o, e, h1⟩ | ⟨o, e, h1⟩ | e
  · rw [e]; exact good_at (by decide) rfl h1 (by decide)
  · rw [e]; exact good_at (by decide) rfl h1 (by decide)
  · rw [e]; exact good_at (by decide) rfl h1 (by decide)
  · rw [e]; exact good_at (by decide) rfl h1 (by decide)
  · rw [e]; exact good_at (by decide) rfl h1 (by decide)
  · rw [e] at h; exact absurd rfl h
theorem chk_good {who st : Int} {a : Nat} {size : Int} {wr fe : Bool} (h : (chk who st a size wr fe).2.2 = 0) : Good ((chk who st a size wr fe).1, (chk who st a size wr fe).2.1) := by
  unfold chk at h ⊢
  by_cases h1 : formB who st size wr fe = false
  · rw [if_pos h1] at h; cases h
  · rw [if_neg h1] at h ⊢
    by_cases h2 : a % size.toNat ≠ 0
    · rw [if_pos h2] at h; cases h
    · rw [if_neg h2] at h ⊢
      by_cases h3 : (whereN a).1 = 0
      · rw [if_pos h3] at h; cases h
      · rw [if_neg h3] at h ⊢
        by_cases h4 : hasB (mayW who st (whereN a).1) (letB wr fe) = false
        · rw [if_pos h4] at h; cases h
        · rw [if_neg h4]
          exact where_good a h3
def W3 (r : Nat × Nat × Nat) (w : World) (e : Ending) (w' : World) : Prop := e = .returned (.tuple #[.int .i64 r.1, .int .i64 r.2.1, .int .i64 r.2.2]) ∧ Below w.heap.size w w'
set_option maxRecDepth 100000 in
set_option maxHeartbeats 4000000 in
theorem within_any (g : Nat) (st who : Int) (a n : Nat) (at_ : Int) (wr : Bool) (w : World) (ha : at_ = a) (hm : at_ < 4294967296) (hw : (Lit.int .i64 who).wf = true) (hs : (Lit.int .i64 st).wf = true) (hn : n ≤ 1000000) (hS : Spans w) (hc : w.cell? ⟨g, 0, none⟩ = some (.int .i64 st)) :
    Calls Tryz.prog 90 #[.pointer (some ⟨g, 0, none⟩), .int .i64 who, .int .u32 at_, .int .i64 (n : Int), .bool wr] w (W3 (wth who st a n wr) w) := by
  have HS := wall hS
  have HCK := wall (check_any who st 1 at_ a wr false w ha hm hw hs hS)
  have HBA := wall (acc_built who st at_ wr)
  have HG := wall (fun h => chk_good (who := who) (st := st) (a := a) (size := 1) (wr := wr) (fe := false) h)
  have HNN := wall hn
  have HW := wall (show wth who st a n wr = (if (chk who st a 1 wr false).2.2 ≠ 0 then (0, 0, (chk who st a 1 wr false).2.2) else if (sp.getD (chk who st a 1 wr false).1 (0, 0)).2 < n + (chk who st a 1 wr false).2.1 then (0, 0, 9) else ((chk who st a 1 wr false).1, (chk who st a 1 wr false).2.1, 0)) from rfl)
  obtain ⟨R, hR⟩ : ∃ y, wth who st a n wr = y := ⟨_, rfl⟩
  rw [hR] at HW ⊢
  clear hR
  obtain ⟨⟨r, o, e⟩, hr⟩ : ∃ y, chk who st a 1 wr false = y := ⟨_, rfl⟩
  rw [hr] at HCK HG HW
  unfold ChkOut at HCK
  simp only at HCK HG HW
  obtain ⟨AC, hAC⟩ : ∃ y : Array Value, #[.int .i64 who, .int .i64 st, .int .u32 at_, .int .i64 1, .bool wr, .bool false] = y := ⟨_, rfl⟩
  rw [hAC] at HCK HBA
  clear hr ha hm hw hs hS hn hAC
  go_enter Tryz.func90, Tryz.ntmps90
  go_wp2_with (refine wpList_build_row rfl 304 [(0, .tmp 19), (1, .tmp 23), (2, .tmp 24), (3, .const (.int .i64 1)), (4, .tmp 25)] rfl AC ?_ (Sha.Wall.out (?_ : Wall _)))
  · have h := HBA.out
    simp only [List.map_cons, List.map_nil]
    rw [show ∀ (A : Act), A.eval (.const (.int .i64 1)) = .int .i64 1 from fun _ => rfl]
    exact h
  refine ⟨?_⟩
  clear HBA hc
  go_wp2_with fail
  (with_reducible refine (HCK.out).mono ?_); rintro ee w1 ⟨rfl, hB1⟩
  have HB1 := wall hB1
  have HS1 := wall (HS.out.old hB1)
  clear hB1 HCK HS
  try simp only [Act.put, List.setIfInBounds_toArray, List.set_cons_zero, List.set_cons_succ]
  by_cases he : e = 0
  · obtain ⟨f, s, g1, g2, g3, g4⟩ := HG.out he
    have HBS := wall (fun W (h : Spans W) => base_any (r : Int) r f s W rfl g1 g2 h)
    have he' : (((e : Nat) : Int) != 0) = false := by rw [he]; rfl
    have HW2 := wall (show R = if s < n + o then (0, 0, 9) else (r, o, 0) by
      rw [HW.out, if_neg (by simpa using he), List.getD_eq_getElem?_getD, g2]
      rfl)
    clear he HG HW g1 g2
    go_wp2_with fail
    (with_reducible refine (HBS.out _ HS1.out).mono ?_); rintro ee w2 ⟨rfl, k, rfl⟩
    have HB2 := wall (show Below w.heap.size w (w1.drewN k) from Below.drewN HB1.out k)
    clear HB1 HS1 HBS
    try simp only [Act.put, List.setIfInBounds_toArray, List.set_cons_zero, List.set_cons_succ]
    by_cases hlt : s < n + o
    · have HR := wall (show R = (0, 0, 9) by rw [HW2.out, if_pos hlt])
      have i1 : (s : Int) - (o : Int) < (n : Int) := by omega
      have hnn : (n : Int) ≤ 1000000 := by have := HNN.out; omega
      clear hlt HW2
      go_wp2_with fail
      go_light
      go_ret3
      rw [HR.out]
      exact ⟨rfl, HB2.out⟩
    · have HR := wall (show R = (r, o, 0) by rw [HW2.out, if_neg hlt])
      have i1 : ¬ (s : Int) - (o : Int) < (n : Int) := by omega
      clear hlt HW2
      go_wp2_with fail
      go_light
      go_ret3
      rw [HR.out]
      exact ⟨rfl, HB2.out⟩
  · have HR := wall (show R = (0, 0, e) by rw [HW.out, if_pos (by simpa using he)])
    have he' : (((e : Nat) : Int) != 0) = true := by rw [bne_iff_ne]; omega
    clear he HG HW
    go_wp2_with fail
    go_light
    go_ret3
    rw [HR.out]
    exact ⟨rfl, HB1.out⟩
end Spc
end Go.Proofs.YtmiaabpnolebhaaGreatDoor
