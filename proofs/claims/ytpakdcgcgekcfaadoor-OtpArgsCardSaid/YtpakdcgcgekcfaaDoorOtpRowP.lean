/-
  Package otp: Row.
-/
import Derived.Test.YtpakdcgcgekcfaaDoorProg
import Derived.Test.YtpakdcgcgekcfaaDoorMem
import Derived.Test.YtpakdcgcgekcfaaDoorNext
import Derived.Test.YtpakdcgcgekcfaaDoorOtpOps
import Derived.Test.YtpakdcgcgekcfaaDoorOtpRow
import Derived.Test.YtpakdcgcgekcfaaDoorRowD
import Derived.Test.YtpakdcgcgekcfaaDoorShaDig
import Derived.Deep.LoopGhost
import Derived.Deep.MidRow
import Derived.Laws.Rows
import Derived.Laws.CopyOwn
import Derived.Laws.ResultCell
namespace Go.Proofs.YtpakdcgcgekcfaaDoor
open Go.RowKit

namespace Otp
open Fuse R1
variable {w w' : World} {c p b : Nat} {vs : List Nat} {ls : List Bool} {sd : Bool}
theorem rowp_end {tmps : Array Value} {w : World} (g : Nat) (E : Int) (D : List Nat) (h1 : tmps.getD 4 undef = .pointer (some ⟨g, 0, none⟩)) (h2 : tmps.getD 5 undef = .int .i64 E) (hb : Blk w g 23 (b8 D)) (hl : D.length = 32) :
    (results Tryd.f19 tmps).run Tryd.prog w = .ok (.tuple #[.agg (b8 D), .int .i64 E]) w := by
  rw [results_cell_tmp Tryd.results19, h1, h2]
  have := run_loadVar_row (P := Tryd.prog) w g 23 23 (b8 D) (0, 0) _ hb Tryd.underlying23 rfl (by rw [b8_size, hl]; kernel_rfl)
  simp only [asAddr, Sem.run_pure, Result.andThen_ok, this]
def z32 : List Nat := List.replicate 32 0
set_option maxHeartbeats 1000000 in
theorem rowp_out (i : Int) (w : World) (hi : i < 0 ∨ 4 ≤ i) :
    Calls Tryd.prog 19 #[.pointer (some ⟨c, 0, none⟩), .int .i64 i] w (RowOut w z32 1) := by
  have HI := Lib.hid hi
  clear hi
  go_enter Tryd.func19, Tryd.ntmps19
  go_wp2_with fail
  (with_reducible refine (at_out _ _ HI.out).mono ?_); rintro e w1 ⟨rfl, rfl⟩
  have HK := Lib.hid (show Blk (w.alloc (.cells (b8 (List.replicate 32 0)) 23)) w.heap.size 23 (b8 (List.replicate 32 0)) from Blk.new w _ _)
  have HB := Lib.hid ((Below.refl _ w).alloc (Nat.le_refl _) (.cells (b8 (List.replicate 32 0)) 23))
  have HA := Lib.hid (show (b8 (List.replicate 32 0)).all (·.oneCell') = true from b8_one _)
  go_wp2_with (refine wpList_store_row rfl 23 (.tmp 4) _ rfl w.heap.size (b8 (List.replicate 32 0)) rfl rfl 23 (b8 (List.replicate 32 0)) HK.out (by kernel_rfl) rfl HA.out ?_)
  have hb := setRow_heap _ _ _ (b8 (List.replicate 32 0)) _ _ HK.out
  have hB := below_setRow HB.out (Nat.le_refl _) (b8 (List.replicate 32 0))
  go_light
  exact bodyPost_ret (v := .tuple #[.agg (b8 (List.replicate 32 0)), .int .i64 1]) (rowp_end w.heap.size 1 (List.replicate 32 0) rfl rfl hb rfl) rfl ⟨rfl, hB⟩
set_option maxHeartbeats 1000000 in
theorem rowp_sealed (k : Nat) (w : World) (h : Cz w c p b vs ls true) (hk : k < 4) :
    Calls Tryd.prog 19 #[.pointer (some ⟨c, 0, none⟩), .int .i64 (k : Int)] w (RowOut w z32 12) := by
  have H := Lib.hid h
  have hc1 := (h.alloc (.cells (b8 (List.replicate 32 0)) 23)).cell.2
  clear h
  go_enter Tryd.func19, Tryd.ntmps19
  go_wp2_with fail
  have HK := Lib.hid (show Blk (w.alloc (.cells (b8 (List.replicate 32 0)) 23)) w.heap.size 23 (b8 (List.replicate 32 0)) from Blk.new w _ _)
  have HB := Lib.hid ((Below.refl _ w).alloc (Nat.le_refl _) (.cells (b8 (List.replicate 32 0)) 23))
  have HA := Lib.hid (show (b8 (List.replicate 32 0)).all (·.oneCell') = true from b8_one _)
  change Calls _ _ _ (w.alloc (.cells (b8 (List.replicate 32 0)) 23)) _
  generalize w.alloc (.cells (b8 (List.replicate 32 0)) 23) = w1 at *
  (with_reducible refine (at_in _ _ (by omega) (by omega)).mono ?_); rintro e w2 ⟨rfl, rfl⟩
  go_wp2_with (refine wpList_store_row rfl 23 (.tmp 4) _ rfl w.heap.size (b8 (List.replicate 32 0)) rfl rfl 23 (b8 (List.replicate 32 0)) HK.out (by kernel_rfl) rfl HA.out ?_)
  have hb := setRow_heap _ _ _ (b8 (List.replicate 32 0)) _ _ HK.out
  have hB := below_setRow HB.out (Nat.le_refl _) (b8 (List.replicate 32 0))
  go_light
  exact bodyPost_ret (v := .tuple #[.agg (b8 (List.replicate 32 0)), .int .i64 12]) (rowp_end w.heap.size 12 (List.replicate 32 0) rfl rfl hb rfl) rfl ⟨rfl, hB⟩
set_option maxRecDepth 100000 in
set_option maxHeartbeats 1000000 in
theorem rowp_in (k : Nat) (w : World) (h : Cz w c p b vs ls false) (hk : k < 4) :
    Calls Tryd.prog 19 #[.pointer (some ⟨c, 0, none⟩), .int .i64 (k : Int)] w (RowOut w (rowD vs k) (rowE vs k)) := by
  obtain ⟨x, hx⟩ : ∃ x, vs[35 + 9 * k]? = some x := ⟨_, List.getElem?_eq_getElem (by have := h.len; omega)⟩
  have hxM := h.fz.word _ _ hx
  have HWV := Lib.hid h.fz.word
  have HE0 : Hid (rowE vs k = if onB x 1 = true then 17 else if onB x 0 = true then 0 else 3) := Lib.hid (by unfold rowE; rw [hx]; rfl)
  have HD0 : Hid (rowD vs k = if rowE vs k = 0 then wordsB (rowKey vs k) else List.replicate 32 0) := Lib.hid rfl
  have H := Lib.hid (h.alloc (.cells (b8 (List.replicate 32 0)) 23))
  have hc1 := H.out.cell.2
  have HX := Lib.hid hx
  clear h hx
  go_enter Tryd.func19, Tryd.ntmps19
  go_wp2_with fail
  have HK := Lib.hid (show Blk (w.alloc (.cells (b8 (List.replicate 32 0)) 23)) w.heap.size 23 (b8 (List.replicate 32 0)) from Blk.new w _ _)
  have HB := Lib.hid ((Below.refl _ w).alloc (Nat.le_refl _) (.cells (b8 (List.replicate 32 0)) 23))
  have HA := Lib.hid (show (b8 (List.replicate 32 0)).all (·.oneCell') = true from b8_one _)
  have hs1 : w.heap.size < (w.alloc (.cells (b8 (List.replicate 32 0)) 23)).heap.size := by simp
  change Calls _ _ _ (w.alloc (.cells (b8 (List.replicate 32 0)) 23)) _
  generalize w.alloc (.cells (b8 (List.replicate 32 0)) 23) = w1 at *
  (with_reducible refine (at_in _ _ (by omega) (by omega)).mono ?_); rintro e w2 ⟨rfl, rfl⟩
  go_wp2_with fail
  (with_reducible refine (all_any _ H.out).mono ?_); rintro e w2 ⟨v, rfl, hO, hB⟩
  obtain ⟨g1, c1, rfl, hc1', hm1⟩ := own32_some hO (by have := H.out.len; omega)
  have hvl : vs.length = 64 := H.out.len
  rw [hvl] at hc1' hO ⊢
  have HO := Lib.hid hO
  have HK2 := Lib.hid (HK.out.below hB hs1)
  have HB2 := Lib.hid (below_then HB.out hB (Nat.le_refl _))
  have HVL := Lib.hid hvl
  obtain ⟨g', hg', -, hgl, hcx, -⟩ := HO.out.at_ HX.out
  cases hg'
  rw [show 35 + 9 * k = 27 + 9 * k + 8 by omega] at hcx
  clear hO hB hvl HK HB hm1 hc1 H
  have hrl : (rowKey vs k).length = 8 := by unfold rowKey; rw [List.length_take, List.length_drop, HVL.out]; omega
  have HR : Hid (w2.rangeAt g1 (27 + 9 * k) (c32 (rowKey vs k)).toList) := Lib.hid (fun j u hu => by
    simp only [c32, List.getElem?_map] at hu
    cases hz : (rowKey vs k)[j]? with
    | none => rw [hz] at hu; cases hu
    | some z =>
      rw [hz] at hu
      obtain rfl := Option.some.inj hu
      unfold rowKey at hz
      rw [List.getElem?_take] at hz
      split at hz
      · rw [List.getElem?_drop] at hz
        obtain ⟨g', hg', _, _, hc, _⟩ := HO.out.at_ hz
        cases hg'
        exact hc
      · cases hz)
  have HWM : Hid (∀ y ∈ rowKey vs k, y < 4294967296) := Lib.hid (fun y hy => by
    obtain ⟨j, hj⟩ := List.mem_iff_getElem?.1 (List.mem_of_mem_drop (List.mem_of_mem_take hy))
    exact HWV.out j y hj)
  have HRL := Lib.hid hrl
  have hc9 : 27 + 9 * k + 9 ≤ c1 := by omega
  clear hrl HO HVL HX HWV
  go_wp2_with fail
  rw [show 27 + 9 * k + 9 - (27 + 9 * k) = 9 by omega]
  (with_reducible refine (on_any _ 1 x 1 _ rfl rfl hxM (by omega)).mono ?_); rintro e w3 ⟨rfl, rfl⟩
  cases h1 : onB x 1 with
  | true =>
    have hE := HE0.out
    have hD := HD0.out
    rw [h1, if_pos rfl] at hE
    rw [hE] at hD
    rw [if_neg (by decide)] at hD
    have HD := Lib.hid hD
    have HE := Lib.hid hE
    clear hD hE HE0 HD0 hcx HR
    go_wp2_with (refine wpList_store_row rfl 23 (.tmp 4) _ rfl w.heap.size (b8 (List.replicate 32 0)) rfl rfl 23 (b8 (List.replicate 32 0)) HK2.out (by kernel_rfl) rfl HA.out ?_)
    have hb := setRow_heap _ _ _ (b8 (List.replicate 32 0)) _ _ HK2.out
    have hB := below_setRow HB2.out (Nat.le_refl _) (b8 (List.replicate 32 0))
    go_light
    exact bodyPost_ret (v := .tuple #[.agg (b8 (List.replicate 32 0)), .int .i64 17]) (rowp_end w.heap.size 17 (List.replicate 32 0) rfl rfl hb rfl) rfl ⟨by rw [HD.out, HE.out], hB⟩
  | false =>
    go_wp2_with fail
    (with_reducible refine (on_any _ 0 x 0 _ rfl rfl hxM (by omega)).mono ?_); rintro e w3 ⟨rfl, rfl⟩
    cases h0 : onB x 0 with
    | false =>
      have hE := HE0.out
      have hD := HD0.out
      rw [h1, if_neg (by decide), h0, if_neg (by decide)] at hE
      rw [hE] at hD
      rw [if_neg (by decide)] at hD
      have HD := Lib.hid hD
      have HE := Lib.hid hE
      clear hD hE HE0 HD0 hcx HR
      go_wp2_with (refine wpList_store_row rfl 23 (.tmp 4) _ rfl w.heap.size (b8 (List.replicate 32 0)) rfl rfl 23 (b8 (List.replicate 32 0)) HK2.out (by kernel_rfl) rfl HA.out ?_)
      have hb := setRow_heap _ _ _ (b8 (List.replicate 32 0)) _ _ HK2.out
      have hB := below_setRow HB2.out (Nat.le_refl _) (b8 (List.replicate 32 0))
      go_light
      exact bodyPost_ret (v := .tuple #[.agg (b8 (List.replicate 32 0)), .int .i64 3]) (rowp_end w.heap.size 3 (List.replicate 32 0) rfl rfl hb rfl) rfl ⟨by rw [HD.out, HE.out], hB⟩
    | true =>
      have hE := HE0.out
      have hD := HD0.out
      rw [h1, if_neg (by decide), h0, if_pos rfl] at hE
      rw [hE] at hD
      rw [if_pos rfl] at hD
      have HD := Lib.hid hD
      have HE := Lib.hid hE
      have HSZ := Lib.hid (show (Tryd.prog.info? 118).map (·.size) = some (c32 (rowKey vs k)).toList.length by
        rw [show (c32 (rowKey vs k)).toList.length = 8 by simp [c32, HRL.out]]
        kernel_rfl)
      have hwl : (wordsB (rowKey vs k)).length = 32 := by rw [wordsB_length, HRL.out]
      have HWL := Lib.hid hwl
      have hsa := fun W => run_arrayAt (P := Tryd.prog) (w := W) 118 43 8 (some ⟨g1, 27 + 9 * k, none⟩) 8 (c1 - (27 + 9 * k)) Tryd.underlying118 (Nat.le_refl _)
      have HDG := Lib.hid (fun W => digest_any (rowKey vs k) W HRL.out HWM.out)
      clear hD hE HE0 HD0 hcx HRL HWM hwl
      go_wp2_with (refine wpList_load_mid rfl 118 _ rfl g1 (27 + 9 * k) rfl _ _ HR.out Tryd.underlying118 rfl HSZ.out ?_)
      (with_reducible refine (HDG.out _).mono ?_); rintro e w3 ⟨rfl, hB⟩
      have HK3 := Lib.hid (HK2.out.next hB rfl)
      have HB3 := Lib.hid (below_then HB2.out hB (Nat.le_refl _))
      have HS2 := Lib.hid (show (Tryd.prog.info? 23).map (·.size) = some (b8 (wordsB (rowKey vs k))).size by rw [b8_size, HWL.out]; exact dig_info)
      have HZ2 := Lib.hid (show (b8 (List.replicate 32 0)).size = (b8 (wordsB (rowKey vs k))).size by rw [b8_size, b8_size, HWL.out]; rfl)
      have HO2 := Lib.hid (b8_one (wordsB (rowKey vs k)))
      clear hB HK2 HB2 HR
      go_wp2_with (refine wpList_store_row rfl 23 (.tmp 4) _ rfl w.heap.size (b8 (wordsB (rowKey vs k))) rfl rfl 23 (b8 (List.replicate 32 0)) HK3.out HS2.out HZ2.out HO2.out ?_)
      have hb := setRow_heap _ _ _ (b8 (wordsB (rowKey vs k))) _ _ HK3.out
      have hB := below_setRow HB3.out (Nat.le_refl _) (b8 (wordsB (rowKey vs k)))
      go_light
      exact bodyPost_ret (v := .tuple #[.agg (b8 (wordsB (rowKey vs k))), .int .i64 0]) (rowp_end w.heap.size 0 (wordsB (rowKey vs k)) rfl rfl hb HWL.out) rfl ⟨by rw [HD.out, HE.out], hB⟩
/-- What Row answers. -/
def prE (vs : List Nat) (sd : Bool) (i : Int) : Int := if 0 ≤ i ∧ i < 4 then (if sd = true then 12 else rowE vs i.toNat) else 1
def prD (vs : List Nat) (sd : Bool) (i : Int) : List Nat := if prE vs sd i = 0 then wordsB (rowKey vs i.toNat) else z32
theorem rowp_any (i : Int) (w : World) (h : Cz w c p b vs ls sd) : Calls Tryd.prog 19 #[.pointer (some ⟨c, 0, none⟩), .int .i64 i] w (RowOut w (prD vs sd i) (prE vs sd i)) := by
  by_cases hi : 0 ≤ i ∧ i < 4
  · obtain ⟨k, rfl⟩ := Int.eq_ofNat_of_zero_le hi.1
    cases sd with
    | true =>
      have e : prE vs true (k : Int) = 12 := by unfold prE; rw [if_pos hi, if_pos rfl]
      have e2 : prD vs true (k : Int) = z32 := by unfold prD; rw [e]; rfl
      rw [e, e2]
      exact rowp_sealed k w h (by omega)
    | false =>
      have e : prE vs false (k : Int) = rowE vs k := by unfold prE; rw [if_pos hi]; simp
      have e2 : prD vs false (k : Int) = rowD vs k := by unfold prD rowD; rw [e]; rfl
      rw [e, e2]
      exact rowp_in k w h (by omega)
  · have e : prE vs sd i = 1 := by unfold prE; rw [if_neg hi]
    have e2 : prD vs sd i = z32 := by unfold prD; rw [e]; rfl
    rw [e, e2]
    exact rowp_out i w (by omega)
end Otp
end Go.Proofs.YtpakdcgcgekcfaaDoor
