/-
  Package sha: spread.
-/
import Derived.Test.YtmiaabpnolebhaaGreatDoorJd919b9e9
import Derived.StillTailTactics
set_option linter.unusedSimpArgs false
set_option linter.unusedVariables false
namespace Go.Proofs.YtmiaabpnolebhaaGreatDoor
open Go.RowKit

namespace Sha
open Otp R1
theorem sched_info : (Tryz.prog.info? 295).map (·.size) = some 64 := by kernel_rfl
theorem c32_one (l : List Nat) : (c32 l).all (·.oneCell') = true := all_oneCell_toArray (fun v hv => by
  obtain ⟨a, _, rfl⟩ := List.mem_map.1 hv
  rfl)
theorem c32_size (l : List Nat) : (c32 l).size = l.length := by simp [c32]
theorem rot_to (k x : Int) (n y r : Nat) (w : World) (hk : k = -(n : Int)) (hx : x = y) (hy : y < 4294967296) (h0 : 0 < n) (h1 : n < 32) (hr : rotr y n = r) :
    Calls Tryz.prog 263 #[.int .u32 x, .int .i64 k] w fun e w' => e = .returned (.int .u32 (r : Int)) ∧ w = w' := by
  subst hr
  exact rot_any k x n y w hk hx hy h0 h1
set_option maxRecDepth 100000 in
set_option maxHeartbeats 4000000 in
theorem spread_any (bs : List Nat) (w : World) (hl : bs.length = 64) (hb : ∀ x ∈ bs, x < 256) :
    Calls Tryz.prog 262 #[.agg (b8 bs)] w (fun e w' => e = .returned (.agg (c32 (sched bs))) ∧ Below w.heap.size w w') := by
  have HL := Lib.hid hl
  have HBB := Lib.hid hb
  have HWL := Lib.hid (show (words4 bs).length = 16 by rw [words4_length, hl])
  obtain ⟨res, hres⟩ : ∃ r, sched bs = r := ⟨_, rfl⟩
  rw [hres]
  have HE0 := wall hres
  clear hl hb hres
  go_enter Tryz.func262, Tryz.ntmps262
  go_wp2_with fail
  go_loopg [4, 10] 16 (fun g s4 s10 wr => ∃ i : Nat, i + g = 16 ∧ s10 = .int .i64 (i : Int) ∧ Hid (Blk wr w.heap.size 193 (b8 bs)) ∧ Hid (Blk wr (w.heap.size + 1) 295 (c32 (List.replicate 64 0))) ∧ Hid (Blk wr (w.heap.size + 1 + 1) 295 (c32 ((words4 bs).take i ++ List.replicate (64 - i) 0))) ∧ Hid (Below w.heap.size w wr))
  case atStart =>
    refine ⟨0, by omega, rfl, Lib.hid ?_, Lib.hid ?_, Lib.hid ?_, Lib.hid ?_⟩
    · exact ((Blk.new w _ _).alloc _).alloc _
    · exact Blk.alloc (blk_new' (by simp)) _
    · exact blk_new' (by simp)
    · exact (((Below.refl _ w).alloc (Nat.le_refl _) _).alloc (by simp) _).alloc (by simp; omega) _
  case round =>
    obtain ⟨i, hg, rfl, HK, HZ, HW, HB⟩ := hrel
    have HG := Lib.hid hg
    have hi : i ≤ 16 := by omega
    clear hg
    by_cases hlt : i < 16
    · have hx : ∀ j, j < 4 → ∃ x, bs[4 * i + j]? = some x := fun j hj => ⟨_, List.getElem?_eq_getElem (by have := HL.out; omega)⟩
      obtain ⟨x0, h0⟩ := hx 0 (by omega)
      obtain ⟨x1, h1⟩ := hx 1 (by omega)
      obtain ⟨x2, h2⟩ := hx 2 (by omega)
      obtain ⟨x3, h3⟩ := hx 3 (by omega)
      have G0 := Lib.hid (show wr.cell? ⟨w.heap.size, 4 * i, none⟩ = some (.int .u8 (x0 : Int)) by rw [HK.out.cell]; exact b8_at h0)
      have G1 := Lib.hid (show wr.cell? ⟨w.heap.size, 4 * i + 1, none⟩ = some (.int .u8 (x1 : Int)) by rw [HK.out.cell]; exact b8_at h1)
      have G2 := Lib.hid (show wr.cell? ⟨w.heap.size, 4 * i + 2, none⟩ = some (.int .u8 (x2 : Int)) by rw [HK.out.cell]; exact b8_at h2)
      have G3 := Lib.hid (show wr.cell? ⟨w.heap.size, 4 * i + 3, none⟩ = some (.int .u8 (x3 : Int)) by rw [HK.out.cell]; exact b8_at h3)
      have b0 := HBB.out x0 (List.mem_of_getElem? h0)
      have b1 := HBB.out x1 (List.mem_of_getElem? h1)
      have b2 := HBB.out x2 (List.mem_of_getElem? h2)
      have b3 := HBB.out x3 (List.mem_of_getElem? h3)
      have hwx := words4_get bs i x0 x1 x2 x3 h0 h1 h2 h3
      have HX := Lib.hid (show ((words4 bs).take i ++ List.replicate (64 - i) 0).set i (be4 x0 x1 x2 x3) = (words4 bs).take (i + 1) ++ List.replicate (64 - (i + 1)) 0 by
        rw [take_snoc hwx, List.set_append_right _ _ (by rw [List.length_take]; omega), List.length_take, Nat.min_eq_left (by have := HWL.out; omega), show i - i = 0 by omega, show 64 - i = 64 - (i + 1) + 1 by omega, List.replicate_succ, List.set_cons_zero, List.append_assoc]
        rfl)
      have hfr : wr.frozen? ⟨w.heap.size + 1 + 1, i, none⟩ = false := HW.out.frozen i
      have hold : ∃ v, wr.cell? ⟨w.heap.size + 1 + 1, i, none⟩ = some v := by
        rw [HW.out.cell]
        refine ⟨_, Array.getElem?_eq_getElem (i := i) ?_⟩
        rw [c32_size, List.length_append, List.length_replicate, List.length_take]
        have := HWL.out
        omega
      obtain ⟨old, hold⟩ := hold
      have hsz := HW.out.lt
      have hsl := run_slice_arr (P := Tryz.prog) 193 5 64 Tryz.underlying193 (fun _ => by kernel_rfl) w.heap.size (4 * i) (4 * i + 4) .i64 .i64 (4 * (i : Int)) (4 * (i : Int) + 4) (by omega) (by omega) (by omega) (by omega) (by omega)
      rw [show 4 * i + 4 - 4 * i = 4 by omega] at hsl
      clear hx h0 h1 h2 h3 hwx
      go_wp2_with fail
      (with_reducible refine (word_any _ _ _ x0 x1 x2 x3 _ b0 b1 b2 b3 G0.out G1.out G2.out G3.out).mono ?_); rintro e w2 ⟨rfl, n, rfl⟩
      generalize be4 x0 x1 x2 x3 = y at *
      go_wp2_with fail
      go_light
      go_roundg (16 - (i + 1))
      case measure => have := HG.out; omega
      case rel =>
        refine ⟨i + 1, by have := HG.out; omega, by go_num, Lib.hid ?_, Lib.hid ?_, Lib.hid ?_, Lib.hid ?_⟩
        · exact (HK.out.far' _ _ (by omega) _)
        · exact (HZ.out.far' _ _ (by omega) _)
        · have := HW.out.set i (.int .u32 (y : Int))
          rw [c32_set, HX.out] at this
          exact this
        · exact Below.drewN (HB.out.setCell (p := ⟨w.heap.size + 1 + 1, i, none⟩) (by show w.heap.size ≤ w.heap.size + 1 + 1; omega) _) n
    · have : i = 16 := by omega
      subst this
      have HW0 : Hid (Blk wr (w.heap.size + 1 + 1) 295 (c32 (sc (words4 bs) 0 ++ List.replicate (48 - 0) 0))) := by
        have := HW.out
        rw [List.take_of_length_le (by have := HWL.out; omega)] at this
        exact Lib.hid this
      have HWB := Lib.hid (words4_lt bs HBB.out)
      clear HW HL HBB
      have HE := wall (HE0.out.symm.trans (sched_eq bs))
      clear HE0
      generalize words4 bs = ws at *
      obtain ⟨gO, rfl⟩ : ∃ q : Nat, q = gk := ⟨_, rfl⟩
      obtain ⟨wO, rfl⟩ : ∃ q : World, q = wr := ⟨_, rfl⟩
      go_wp2_with fail
      go_loopg [5, 6, 7, 8, 9] 48 (fun g s5 s6 s7 s8 s9 wr => ∃ k : Nat, k + g = 48 ∧ s5 = .int .i64 ((16 + k : Nat) : Int) ∧ Hid (Blk wr (w.heap.size + 1) 295 (c32 (List.replicate 64 0))) ∧ Hid (Blk wr (w.heap.size + 1 + 1) 295 (c32 (sc ws k ++ List.replicate (48 - k) 0))) ∧ Hid (Below w.heap.size w wr))
      case atStart => exact ⟨0, by omega, rfl, HZ, HW0, HB⟩
      case round =>
        clear HZ HW0 HB HK
        obtain ⟨k, hg, rfl, HZ, HW, HB⟩ := hrel
        have HG := Lib.hid hg
        have hk : k ≤ 48 := by omega
        clear hg
        have hln : (sc ws k).length = 16 + k := by rw [sc_length, HWL.out]
        by_cases hlt : k < 48
        · have hx : ∀ j, j < 16 → ∃ x, (sc ws k)[k + j]? = some x ∧ x < 4294967296 ∧ wr.cell? ⟨w.heap.size + 1 + 1, k + j, none⟩ = some (.int .u32 (x : Int)) := fun j hj => by
            obtain ⟨x, hx⟩ : ∃ x, (sc ws k)[k + j]? = some x := ⟨_, List.getElem?_eq_getElem (by omega)⟩
            refine ⟨x, hx, sc_word ws HWB.out k x (List.mem_of_getElem? hx), ?_⟩
            rw [HW.out.cell]
            exact c32_at (by rw [List.getElem?_append_left (by omega)]; exact hx)
          obtain ⟨a, ha, haM, hca⟩ := hx 0 (by omega)
          obtain ⟨b, hb, hbM, hcb⟩ := hx 1 (by omega)
          obtain ⟨c, hc, hcM, hcc⟩ := hx 9 (by omega)
          obtain ⟨d, hd, hdM, hcd⟩ := hx 14 (by omega)
          have ha' : (sc ws k)[k]? = some a := ha
          have hca' : wr.cell? ⟨w.heap.size + 1 + 1, k, none⟩ = some (.int .u32 (a : Int)) := hca
          have HN := Lib.hid (sc_next ha' hb hc hd)
          have hset : (sc ws k ++ List.replicate (48 - k) 0).set (16 + k) (nxt a b c d) = sc ws (k + 1) ++ List.replicate (48 - (k + 1)) 0 := by
            rw [HN.out, List.set_append_right _ _ (by omega), hln, show 16 + k - (16 + k) = 0 by omega, show 48 - k = 48 - (k + 1) + 1 by omega, List.replicate_succ, List.set_cons_zero, List.append_assoc]
            rfl
          have HSET := Lib.hid hset
          obtain ⟨old, hold⟩ : ∃ v, wr.cell? ⟨w.heap.size + 1 + 1, 16 + k, none⟩ = some v := by
            rw [HW.out.cell]
            refine ⟨_, Array.getElem?_eq_getElem (i := 16 + k) ?_⟩
            rw [c32_size, List.length_append, List.length_replicate, hln]
            omega
          have hfr : wr.frozen? ⟨w.heap.size + 1 + 1, 16 + k, none⟩ = false := HW.out.frozen _
          have hsz := HW.out.lt
          clear hx ha ha' hca hb hc hd hset hln
          obtain ⟨r7, h7⟩ : ∃ r, rotr b 7 = r := ⟨_, rfl⟩
          obtain ⟨r18, h18⟩ : ∃ r, rotr b 18 = r := ⟨_, rfl⟩
          obtain ⟨r17, h17⟩ : ∃ r, rotr d 17 = r := ⟨_, rfl⟩
          obtain ⟨r19, h19⟩ : ∃ r, rotr d 19 = r := ⟨_, rfl⟩
          have l7 : r7 < 4294967296 := by rw [← h7]; exact rotr_lt hbM (by decide)
          have l18 : r18 < 4294967296 := by rw [← h18]; exact rotr_lt hbM (by decide)
          have l17 : r17 < 4294967296 := by rw [← h17]; exact rotr_lt hdM (by decide)
          have l19 : r19 < 4294967296 := by rw [← h19]; exact rotr_lt hdM (by decide)
          obtain ⟨q0, hq0⟩ : ∃ q, r7 ^^^ r18 = q := ⟨_, rfl⟩
          obtain ⟨q1, hq1⟩ : ∃ q, r17 ^^^ r19 = q := ⟨_, rfl⟩
          have lq0 : q0 < 4294967296 := by rw [← hq0]; exact xor_lt l7 l18
          have lq1 : q1 < 4294967296 := by rw [← hq1]; exact xor_lt l17 l19
          obtain ⟨u0, hu0⟩ : ∃ q, s0 b = q := ⟨_, rfl⟩
          obtain ⟨u1, hu1⟩ : ∃ q, s1 d = q := ⟨_, rfl⟩
          have lu0 : u0 < 4294967296 := by rw [← hu0]; unfold s0; exact xor_lt (xor_lt (rotr_lt hbM (by decide)) (rotr_lt hbM (by decide))) (Nat.lt_of_le_of_lt (Nat.div_le_self _ _) hbM)
          have lu1 : u1 < 4294967296 := by rw [← hu1]; unfold s1; exact xor_lt (xor_lt (rotr_lt hdM (by decide)) (rotr_lt hdM (by decide))) (Nat.lt_of_le_of_lt (Nat.div_le_self _ _) hdM)
          have x0 : bits .xor .u32 (r7 : Int) (r18 : Int) = (q0 : Int) := by rw [u32_xor_nat _ _ l7 l18, hq0]
          have x1 : bits .xor .u32 (r17 : Int) (r19 : Int) = (q1 : Int) := by rw [u32_xor_nat _ _ l17 l19, hq1]
          have y0 : bits .xor .u32 (q0 : Int) ((b : Int) / 8) = (u0 : Int) := by
            rw [show (b : Int) / 8 = ((b / 2 ^ 3 : Nat) : Int) by simp, u32_xor_nat _ _ lq0 (Nat.lt_of_le_of_lt (Nat.div_le_self _ _) hbM), ← hq0, ← h7, ← h18, ← hu0]
            rfl
          have y1 : bits .xor .u32 (q1 : Int) ((d : Int) / 1024) = (u1 : Int) := by
            rw [show (d : Int) / 1024 = ((d / 2 ^ 10 : Nat) : Int) by simp, u32_xor_nat _ _ lq1 (Nat.lt_of_le_of_lt (Nat.div_le_self _ _) hdM), ← hq1, ← h17, ← h19, ← hu1]
            rfl
          obtain ⟨y, hy⟩ : ∃ q, nxt a b c d = q := ⟨_, rfl⟩
          have z0 : ((a : Int) + (u0 : Int) + (c : Int) + (u1 : Int)) % 4294967296 = (y : Int) := by
            rw [← hy, ← hu0, ← hu1]
            unfold nxt
            simp
          rw [hy] at HSET
          have H7 := Lib.hid h7
          have H18 := Lib.hid h18
          have H17 := Lib.hid h17
          have H19 := Lib.hid h19
          clear h7 h18 h17 h19 hq0 hq1 hu0 hu1 hy HN
          have i15 : IntKind.i64.wrap (16 + (k : Int) - 15) = (k : Int) + 1 := by rw [IntWalk.i64_in _ (by omega)]; omega
          have i2 : IntKind.i64.wrap (16 + (k : Int) - 2) = (k : Int) + 14 := by rw [IntWalk.i64_in _ (by omega)]; omega
          have i16 : IntKind.i64.wrap (16 + (k : Int) - 16) = (k : Int) := by rw [IntWalk.i64_in _ (by omega)]; omega
          have i7 : IntKind.i64.wrap (16 + (k : Int) - 7) = (k : Int) + 9 := by rw [IntWalk.i64_in _ (by omega)]; omega
          go_wp2_with fail
          go_quiet (fail)
          have qa : (wr.drewN nq).cell? ⟨w.heap.size + 1 + 1, k, none⟩ = some (.int .u32 (a : Int)) := hca'
          have qc : (wr.drewN nq).cell? ⟨w.heap.size + 1 + 1, k + 9, none⟩ = some (.int .u32 (c : Int)) := hcc
          have qo : (wr.drewN nq).cell? ⟨w.heap.size + 1 + 1, 16 + k, none⟩ = some old := hold
          have qf : (wr.drewN nq).frozen? ⟨w.heap.size + 1 + 1, 16 + k, none⟩ = false := hfr
          have QZ := Lib.hid (HZ.out.drewN nq)
          have QW := Lib.hid (HW.out.drewN nq)
          have QB := Lib.hid (Below.drewN HB.out nq)
          generalize wr.drewN nq = wq at *
          clear hca' hcb hcc hcd hold hfr HZ HW HB hsz
          go_wp2_with fail
          (with_reducible refine (rot_to (-7) _ 7 b r7 _ (by decide) rfl hbM (by omega) (by omega) H7.out).mono ?_); rintro e w2 ⟨rfl, rfl⟩
          go_wp2_with fail
          (with_reducible refine (rot_to (-18) _ 18 b r18 _ (by decide) rfl hbM (by omega) (by omega) H18.out).mono ?_); rintro e w2 ⟨rfl, rfl⟩
          go_wp2_with fail
          (with_reducible refine (rot_to (-17) _ 17 d r17 _ (by decide) rfl hdM (by omega) (by omega) H17.out).mono ?_); rintro e w2 ⟨rfl, rfl⟩
          go_wp2_with fail
          (with_reducible refine (rot_to (-19) _ 19 d r19 _ (by decide) rfl hdM (by omega) (by omega) H19.out).mono ?_); rintro e w2 ⟨rfl, rfl⟩
          go_wp2_with fail
          have b64 : (k : Int) < 64 := by omega
          have b9 : (k : Int) + 9 < 64 := by omega
          have b16 : (16 : Int) + (k : Int) < 64 := by omega
          have hk64 : k < 64 := by omega
          have n9 : (0 : Int) ≤ (k : Int) + 9 := by omega
          have t9 : ((k : Int) + 9).toNat = k + 9 := by omega
          have n16 : (0 : Int) ≤ 16 + (k : Int) := by omega
          have t16 : (16 + (k : Int)).toNat = 16 + k := by omega
          go_still_tail 15, (by kernel_rfl)
          change wpList _ _ _ _ _ wq.drew
          go_wp2_with fail
          go_light
          go_roundg (48 - (k + 1))
          case measure => have := HG.out; omega
          case rel =>
            refine ⟨k + 1, by have := HG.out; omega, by go_num, Lib.hid ?_, Lib.hid ?_, Lib.hid ?_⟩
            · exact (QZ.out.far' _ _ (by omega) _)
            · have := QW.out.set (16 + k) (.int .u32 (y : Int))
              rw [c32_set, HSET.out] at this
              exact this
            · exact Below.drewN (QB.out.setCell (p := ⟨w.heap.size + 1 + 1, 16 + k, none⟩) (by show w.heap.size ≤ w.heap.size + 1 + 1; omega) _) 1
        · have hk48 : k = 48 := by omega
          have hln2 : res.length = 64 := by rw [HE.out, ← hk48, hln, hk48]
          have hnl : ¬ (16 + (k : Int) < 64) := by omega
          have HW8 : Hid (Blk wr (w.heap.size + 1 + 1) 295 (c32 res)) := by
            have := HW.out
            rw [hk48, show 48 - 48 = 0 from rfl, List.replicate_zero, List.append_nil, ← HE.out] at this
            exact Lib.hid this
          have HS := Lib.hid (show (Tryz.prog.info? 295).map (·.size) = some (c32 res).size by rw [c32_size, hln2]; exact sched_info)
          have HZS := Lib.hid (show (c32 (List.replicate 64 0)).size = (c32 res).size by rw [c32_size, c32_size, hln2]; rfl)
          have HO := Lib.hid (c32_one res)
          clear HW hln hln2 hk48
          go_upto_region 14 with fail
          go_wp2_with (first | refine wpList_load_row rfl 295 _ rfl (w.heap.size + 1 + 1) rfl 295 (c32 res) (0, 0) _ HW8.out Tryz.underlying295 rfl HS.out ?_ | refine wpList_store_row rfl 295 (.tmp 2) _ rfl (w.heap.size + 1) (c32 res) rfl rfl 295 (c32 (List.replicate 64 0)) HZ.out HS.out HZS.out HO.out ?_)
          have hb := setRow_heap _ _ _ (c32 res) _ _ HZ.out
          have hB := below_setRow HB.out (show w.heap.size ≤ w.heap.size + 1 by omega) (c32 res)
          go_light
          exact bodyPost_ret (v := .agg (c32 res)) (results_cell_row Tryz.results262 _ _ (w.heap.size + 1) 295 (c32 res) (0, 0) _ rfl hb Tryz.underlying295 rfl HS.out) rfl ⟨rfl, hB⟩
end Sha
end Go.Proofs.YtmiaabpnolebhaaGreatDoor
