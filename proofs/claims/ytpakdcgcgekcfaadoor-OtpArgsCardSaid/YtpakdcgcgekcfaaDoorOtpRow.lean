/-
  Package otp: ToRow.
-/
import Derived.Test.YtpakdcgcgekcfaaDoorProg
import Derived.Test.YtpakdcgcgekcfaaDoorMem
import Derived.Test.YtpakdcgcgekcfaaDoorNext
import Derived.Test.YtpakdcgcgekcfaaDoorIdx
import Derived.Test.YtpakdcgcgekcfaaDoorOtpKey
import Derived.Deep.LoopGhost
import Derived.Laws.Rows
namespace Go.Proofs.YtpakdcgcgekcfaaDoor
open Go.RowKit

namespace Otp
open Fuse
variable {w w' : World} {c p b : Nat} {vs : List Nat} {ls : List Bool} {sd : Bool}
/-- The words of a row. -/
def rowW (vs : List Nat) (k : Nat) : List Nat := (vs.drop (27 + 9 * k)).take 9
def rowZ (vs : List Nat) (k : Nat) : Bool := (rowW vs k).all fun x => decide (x = 0)
def trE (vs : List Nat) (i : Int) : Int := if 0 ≤ i ∧ i < 4 then (if rowZ vs i.toNat = true then 0 else 14) else 1
def numb : Nat → List Nat → List (Nat × Nat)
  | _, [] => []
  | f, x :: r => (f, x) :: numb (f + 1) r
theorem numb_append : ∀ (f : Nat) (l r : List Nat), numb f (l ++ r) = numb f l ++ numb (f + l.length) r
  | f, [], r => by simp [numb]
  | f, x :: l, r => by
    simp only [List.cons_append, numb, numb_append (f + 1) l r, List.length_cons]
    rw [show f + 1 + l.length = f + (l.length + 1) by omega]
theorem numb_length : ∀ (f : Nat) (l : List Nat), (numb f l).length = l.length
  | _, [] => rfl
  | f, x :: l => by simp [numb, numb_length (f + 1) l]
theorem numb_snoc (f : Nat) (l : List Nat) {i x : Nat} (hx : l[i]? = some x) : numb f (l.take (i + 1)) = numb f (l.take i) ++ [(f + i, x)] := by
  have hi : i < l.length := (List.getElem?_eq_some_iff.1 hx).1
  rw [take_snoc hx, numb_append, List.length_take, Nat.min_eq_left (by omega)]
  rfl
def rowL (k : Nat) (ws : List Nat) : List (Nat × Nat) := (35 + 9 * k, 16711680) :: numb (27 + 9 * k) ws ++ [(35 + 9 * k, 16711935)]
def trL (vs : List Nat) (i : Int) (ds : List Nat) : List (Nat × Nat) := if trE vs i = 0 then rowL i.toNat (words4 ds) else []
theorem rowZ_snoc (vs : List Nat) (k : Nat) {j x : Nat} (hx : (rowW vs k)[j]? = some x) : ((rowW vs k).take (j + 1)).all (fun x => decide (x = 0)) = (((rowW vs k).take j).all (fun x => decide (x = 0)) && decide (x = 0)) := by
  rw [take_snoc hx, List.all_append]
  simp
theorem rowZ_hit (vs : List Nat) (k : Nat) {j x : Nat} (hx : (rowW vs k)[j]? = some x) (h : x ≠ 0) : rowZ vs k = false := by
  unfold rowZ
  rw [List.all_eq_false]
  exact ⟨x, List.mem_of_getElem? hx, by simpa using h⟩
/-- A literal list of one Write. -/
theorem ownW_one (w : World) (z u : Int) (x y : Nat) (B : Nat) (hB : B ≤ w.heap.size) (hz : z = x) (hu : u = y) : OwnW (w.alloc (.cells #[.int .i64 z, .int .u32 u] 58)) B (.slice (some ⟨w.heap.size, 0, none⟩) 1 1) [(x, y)] := by
  subst hz; subst hu
  refine ⟨rfl, .inr ⟨w.heap.size, 1, #[.int .i64 (x : Int), .int .u32 (y : Int)], rfl, hB, Blk.new w _ _, Nat.le_refl _, by simp [maxLen], rfl, rfl⟩⟩
set_option maxHeartbeats 2000000 in
theorem torow_out (i : Int) (ds : List Nat) (w : World) (h : Cz w c p b vs ls sd) (hi : i < 0 ∨ 4 ≤ i) :
    Calls Tryd.prog 17 #[.pointer (some ⟨c, 0, none⟩), .int .i64 i, .agg (b8 ds)] w (ToOut w 1 []) := by
  have H := Lib.hid h
  have HI := Lib.hid hi
  clear h hi
  go_enter Tryd.func17, Tryd.ntmps17
  go_wp2_with fail
  (with_reducible refine (at_out _ _ HI.out).mono ?_); rintro e w1 ⟨rfl, rfl⟩
  go_wp2_with fail
  go_light
  go_ret2
  exact ⟨_, rfl, World.ownsRow_nil _ _ _ _, (Below.refl _ w).alloc (Nat.le_refl _) _⟩
set_option maxRecDepth 100000 in
set_option maxHeartbeats 1000000 in
theorem torow_in (k : Nat) (ds : List Nat) (w : World) (h : Cz w c p b vs ls sd) (hk : k < 4) (hl : ds.length = 32) (hd : ∀ x ∈ ds, x < 256) :
    Calls Tryd.prog 17 #[.pointer (some ⟨c, 0, none⟩), .int .i64 (k : Int), .agg (b8 ds)] w (ToOut w (if rowZ vs k = true then 0 else 14) (if rowZ vs k = true then rowL k (words4 ds) else [])) := by
  have H := Lib.hid h
  have HL := Lib.hid hl
  have HD := Lib.hid hd
  clear h hl hd
  obtain ⟨er, her⟩ : ∃ er : Int, (if rowZ vs k = true then 0 else 14) = er := ⟨_, rfl⟩
  obtain ⟨rl, hrl⟩ : ∃ rl, (if rowZ vs k = true then rowL k (words4 ds) else []) = rl := ⟨_, rfl⟩
  rw [her, hrl]
  have HE := Lib.hid her
  have HR := Lib.hid hrl
  clear her hrl
  go_enter Tryd.func17, Tryd.ntmps17
  go_wp2_with fail
  (with_reducible refine (at_in _ _ (by omega) (by omega)).mono ?_); rintro e w1 ⟨rfl, rfl⟩
  have HK := Lib.hid (Blk.new w 23 (b8 ds))
  go_wp2_with fail
  (with_reducible refine (all_any _ (H.out.alloc _)).mono ?_); rintro e w1 ⟨v, rfl, hO, hB⟩
  obtain ⟨g1, c1, rfl, hc1, hm1⟩ := own32_some hO (by have := H.out.len; omega)
  have HO := Lib.hid (own32_le hO (show w.heap.size ≤ _ by simp))
  have HK1 := Lib.hid (HK.out.below hB (by simp))
  have HC1 := Lib.hid ((H.out.alloc _).old hB)
  have HB := Lib.hid (((Below.refl _ w).alloc (Nat.le_refl _) _).trans (hB.mono (by simp)))
  have hvl : vs.length = 64 := H.out.len
  rw [hvl] at hc1 HO ⊢
  have HVL := Lib.hid hvl
  clear hO hB hvl HK hm1
  go_wp2_with fail
  rw [show 27 + 9 * k + 9 - (27 + 9 * k) = 9 by omega]
  have hrw : (rowW vs k).length = 9 := by unfold rowW; rw [List.length_take, List.length_drop]; have := HVL.out; omega
  have hrg : ∀ j, j < 9 → (rowW vs k)[j]? = vs[27 + 9 * k + j]? := fun j hj => by unfold rowW; rw [List.getElem?_take, if_pos hj, List.getElem?_drop]
  have HRW := Lib.hid hrw
  have HRG := Lib.hid hrg
  clear hrw hrg
  go_loopg [11, 34] 9 (fun g s11 s34 wr => ∃ j : Nat, j + g = 9 ∧ s34 = .int .i64 (j : Int) ∧ Hid (((rowW vs k).take j).all (fun x => decide (x = 0)) = true) ∧ wr = w1)
  case atStart => exact ⟨0, by omega, rfl, Lib.hid rfl, rfl⟩
  case round =>
    obtain ⟨j, hg, rfl, HZ, rfl⟩ := hrel
    have HG := Lib.hid hg
    have hj : j ≤ 9 := by omega
    clear hg
    by_cases hlt : j < 9
    · obtain ⟨x, hx⟩ : ∃ x, (rowW vs k)[j]? = some x := ⟨_, List.getElem?_eq_getElem (by have := HRW.out; omega)⟩
      obtain ⟨g', hg', -, hgl, hcx, -⟩ := HO.out.at_ (HRG.out j hlt ▸ hx)
      cases hg'
      have HS := Lib.hid (rowZ_snoc vs k hx)
      have HT := Lib.hid (rowZ_hit vs k hx)
      have hxM : x < 4294967296 := H.out.fz.word _ _ (HRG.out j hlt ▸ hx)
      clear hx
      by_cases hz : x = 0
      · subst hz
        have HS2 := Lib.hid (show ((rowW vs k).take (j + 1)).all (fun x => decide (x = 0)) = true by rw [HS.out, HZ.out]; rfl)
        go_wp2_with fail
        go_light
        go_roundg (9 - (j + 1))
        case measure => have := HG.out; omega
        case rel => exact ⟨j + 1, by omega, by go_num, HS2, rfl⟩
      · have hne : (((x : Nat) : Int) != 0) = true := by rw [bne_iff_ne]; omega
        have HF := Lib.hid (HT.out hz)
        clear hz
        have HE2 := Lib.hid (show er = 14 by rw [← HE.out, HF.out]; rfl)
        have HR2 := Lib.hid (show rl = [] by rw [← HR.out, HF.out]; rfl)
        go_wp2_with fail
        go_light
        go_ret2
        rw [HE2.out, HR2.out]
        exact ⟨_, rfl, World.ownsRow_nil _ _ _ _, HB.out⟩
    · have : j = 9 := by omega
      subst this
      have hZ : rowZ vs k = true := by
        have := HZ.out
        rw [List.take_of_length_le (by have := HRW.out; omega)] at this
        exact this
      have HE2 := Lib.hid (show er = 0 by rw [← HE.out, hZ]; rfl)
      have HR2 := Lib.hid (show rl = rowL k (words4 ds) by rw [← HR.out, hZ]; rfl)
      have hwl := HB.out.size
      have HSZ := Lib.hid (show (Tryd.prog.info? 23).map (·.size) = some (b8 ds).size by
        rw [show (b8 ds).size = 32 by simp [b8, HL.out]]
        kernel_rfl)
      have HO1 := Lib.hid (ownW_one wr (27 + 9 * (k : Int) + 8) 16711680 (35 + 9 * k) 16711680 w.heap.size hwl (by omega) rfl)
      have HWL := Lib.hid (show (words4 ds).length = 8 by rw [words4_length, HL.out])
      have HWM := Lib.hid (fun x hx => words4_lt ds HD.out x hx)
      have HWA := Lib.hid (fun w' => words_arr ds w' HL.out HD.out)
      generalize words4 ds = ws at *
      clear hZ HZ
      go_wp2_with (refine wpList_load_row rfl 23 _ rfl w.heap.size rfl 23 (b8 ds) (0, 0) _ (HK1.out.alloc _) Tryd.underlying23 rfl HSZ.out ?_)
      (with_reducible refine (HWA.out _).mono ?_); rintro e w2 ⟨rfl, hB⟩
      have HO2 := Lib.hid (own_frm (S := []) HO1.out (Frm.of_below hB) (fun y hy => by simp at hy))
      have HB2 := Lib.hid (below_nxt (HB.out.alloc HB.out.size (.cells #[.int .i64 (27 + 9 * (k : Int) + 8), .int .u32 16711680] 58)) hB (Nat.le_refl _) rfl rfl rfl rfl)
      clear hB
      go_wp2_with fail
      have HR3 := Lib.hid (show rl = (35 + 9 * k, 16711680) :: numb (27 + 9 * k) ws ++ [(35 + 9 * k, 16711935)] from HR2.out)
      obtain ⟨i0, hi0, hz0, hz1, hz2⟩ := info_row write_info
      have HI := Lib.hid hi0
      have HI1 := Lib.hid hz0
      have HI2 := Lib.hid hz1
      have HI3 := Lib.hid hz2
      have HO3 := Lib.hid (show OwnW w2 w.heap.size (.slice (some ⟨wr.heap.size, 0, none⟩) 1 1) ((35 + 9 * k, 16711680) :: numb (27 + 9 * k) (ws.take 0)) from HO2.out)
      clear hi0 hz0 hz1 hz2 HO1 HO2 HO HK1 HE HR HR2 HSZ HWA HC1 HVL HRW HRG HL HD H HG
      generalize Value.slice (some ⟨wr.heap.size, 0, none⟩) 1 1 = v0 at *
      obtain ⟨gO, rfl⟩ : ∃ q, q = gk := ⟨_, rfl⟩
      obtain ⟨wO, rfl⟩ : ∃ q, q = wr := ⟨_, rfl⟩
      go_loopg [12, 13, 14, 47] 8 (fun g s12 s13 s14 s47 wr => ∃ j : Nat, j + g = 8 ∧ s47 = .int .i64 (j : Int) ∧ Hid (OwnW wr w.heap.size s12 ((35 + 9 * k, 16711680) :: numb (27 + 9 * k) (ws.take j))) ∧ Hid (Below w.heap.size w wr))
      case atStart => exact ⟨0, by omega, rfl, HO3, HB2⟩
      case round =>
        clear HO3
        obtain ⟨j, hg, rfl, HO, HB⟩ := hrel
        have HG := Lib.hid hg
        have hj : j ≤ 8 := by omega
        have hwl := HB.out.size
        clear hg
        by_cases hlt : j < 8
        · obtain ⟨x, hx⟩ : ∃ x, ws[j]? = some x := ⟨_, List.getElem?_eq_getElem (by have := HWL.out; omega)⟩
          have hxM := HWM.out x (List.mem_of_getElem? hx)
          have hix := run_index_arr (P := Tryd.prog) 118 43 8 Tryd.underlying118 (fun _ => by kernel_rfl) (fun _ => by kernel_rfl) (c32 ws) .i64 (j : Int) j rfl hlt _ (c32_at hx)
          have HS := Lib.hid (numb_snoc (27 + 9 * k) ws hx)
          have hlen : (numb (27 + 9 * k) (ws.take j)).length = j := by rw [numb_length, List.length_take]; have := HWL.out; omega
          have HLN := Lib.hid hlen
          have E27 := Lib.hid (show (27 : Int) + 9 * (k : Int) + (j : Int) = ((27 + 9 * k + j : Nat) : Int) by omega)
          clear hx hlen
          go_wp2_with (at_builtin; refine wpList_append_own _ rfl (.tmp 51) (.tmp 57) 27 rfl w.heap.size 58 i0 (.agg #[.int .i64 0, .int .u32 0]) 2 16 Tryd.underlying27 HI.out HI1.out HI2.out HI3.out rfl (by decide) _ _ _ rfl (HO.out.alloc _) ⟨wr.heap.size, 0, none⟩ 1 1 [.int .i64 (27 + 9 * (k : Int) + (j : Int)), .int .u32 (x : Int)] rfl rfl ?c1 ?c2 ?c3 ?c4 ?c5 ?_)
          case c1 => exact cells_new _ _ _ rfl _
          case c2 => intro u hu; simp at hu; rcases hu with rfl | rfl <;> rfl
          case c3 => rw [List.length_cons, HLN.out]; simp only [maxLen]; omega
          case c4 => rw [List.length_cons, HLN.out]; omega
          case c5 => simp; omega
          · intro v1 w3 hO1 hg1 _
            have hB1 := (HB.out.alloc hwl (.cells #[.int .i64 (27 + 9 * (k : Int) + (j : Int)), .int .u32 (x : Int)] 58)).grown hg1 (by simp; omega) (fun k hk => (World.ownsRow.lt HO.out k hk).1)
            have HO2 := Lib.hid hO1
            have HB3 := Lib.hid hB1
            clear hO1 hB1 hg1
            go_wp2_with fail
            go_light
            go_roundg (8 - (j + 1))
            case measure => have := HG.out; omega
            case rel =>
              refine ⟨j + 1, by omega, by go_num, Lib.hid ?_, HB3⟩
              have h2 := HO2.out
              rw [E27.out] at h2
              unfold OwnW
              rw [HS.out, ← List.cons_append, wcells_append, List.length_append]
              exact h2
        · have : j = 8 := by omega
          subst this
          have HO4 := Lib.hid (show OwnW wr w.heap.size _ ((35 + 9 * k, 16711680) :: numb (27 + 9 * k) ws) by
            have h2 := HO.out
            rw [List.take_of_length_le (by have := HWL.out; omega)] at h2
            exact h2)
          have hlen : ((35 + 9 * k, 16711680) :: numb (27 + 9 * k) ws).length = 9 := by rw [List.length_cons, numb_length, HWL.out]
          have HLN := Lib.hid hlen
          have E35 := Lib.hid (show (27 : Int) + 9 * (k : Int) + 8 = ((35 + 9 * k : Nat) : Int) by omega)
          clear hlen HO
          generalize (35 + 9 * k, 16711680) :: numb (27 + 9 * k) ws = L9 at *
          go_wp2_with (at_builtin; refine wpList_append_own _ rfl (.tmp 60) (.tmp 64) 27 rfl w.heap.size 58 i0 (.agg #[.int .i64 0, .int .u32 0]) 2 16 Tryd.underlying27 HI.out HI1.out HI2.out HI3.out rfl (by decide) _ _ _ rfl (HO4.out.alloc _) ⟨wr.heap.size, 0, none⟩ 1 1 [.int .i64 (27 + 9 * (k : Int) + 8), .int .u32 16711935] rfl rfl ?d1 ?d2 ?d3 ?d4 ?d5 ?_)
          case d1 => exact cells_new _ _ _ rfl _
          case d2 => intro u hu; simp at hu; rcases hu with rfl | rfl <;> rfl
          case d3 => rw [HLN.out]; simp only [maxLen]; omega
          case d4 => rw [HLN.out]; omega
          case d5 => simp; omega
          · intro v1 w3 hO1 hg1 _
            have hB1 := (HB.out.alloc hwl (.cells #[.int .i64 (27 + 9 * (k : Int) + 8), .int .u32 16711935] 58)).grown hg1 (by simp; omega) (fun k hk => (World.ownsRow.lt HO4.out k hk).1)
            have HO5 := Lib.hid hO1
            have HB3 := Lib.hid hB1
            clear hO1 hB1 hg1
            go_wp2_with fail
            go_light
            go_ret2
            rw [HE2.out, HR3.out]
            refine ⟨_, rfl, ?_, HB3.out⟩
            have h2 := HO5.out
            rw [E35.out] at h2
            unfold OwnW
            rw [wcells_append, List.length_append]
            exact h2
theorem torow_any (i : Int) (ds : List Nat) (w : World) (h : Cz w c p b vs ls sd) (hl : ds.length = 32) (hd : ∀ x ∈ ds, x < 256) :
    Calls Tryd.prog 17 #[.pointer (some ⟨c, 0, none⟩), .int .i64 i, .agg (b8 ds)] w (ToOut w (trE vs i) (trL vs i ds)) := by
  by_cases h0 : 0 ≤ i ∧ i < 4
  · obtain ⟨k, rfl⟩ := Int.eq_ofNat_of_zero_le h0.1
    have := torow_in k ds w h (by omega) hl hd
    have e1 : trE vs (k : Int) = if rowZ vs k = true then 0 else 14 := by unfold trE; rw [if_pos h0]; simp
    have e2 : trL vs (k : Int) ds = if rowZ vs k = true then rowL k (words4 ds) else [] := by
      unfold trL
      rw [e1]
      cases rowZ vs k <;> simp
    rw [e1, e2]
    exact this
  · have e1 : trE vs i = 1 := by unfold trE; rw [if_neg h0]
    have e2 : trL vs i ds = [] := by unfold trL; rw [e1]; rfl
    rw [e1, e2]
    exact torow_out i ds w h (by omega)
end Otp
end Go.Proofs.YtpakdcgcgekcfaaDoor
