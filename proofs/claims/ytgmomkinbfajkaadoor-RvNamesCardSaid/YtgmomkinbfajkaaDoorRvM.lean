/-
  The law RvNames.
-/
import Derived.Test.YtgmomkinbfajkaaDoorRvW
set_option linter.unusedSimpArgs false
set_option linter.unusedVariables false
namespace Go.Proofs.YtgmomkinbfajkaaDoor
open Go.RowKit

namespace Rv
open Otp Sha R1
theorem name_table : ∀ n : Fin 57, (nameOf n.val).toList.isEmpty = decide (n.val = 0) := by decide +kernel
theorem name_in {op : Nat} (h1 : 1 ≤ op) (h2 : op ≤ 56) : (nameOf op).toList.isEmpty = false := by
  rw [name_table ⟨op, by omega⟩, decide_eq_false (by show ¬ op = 0; omega)]
theorem name_out {op : Nat} (h : ¬ (1 ≤ op ∧ op ≤ 56)) : (nameOf op).toList.isEmpty = true := by
  unfold nameOf
  rw [if_neg h]
  decide +kernel
def be4L (z : Nat) : List Nat := [z / 16777216 % 256, z / 65536 % 256, z / 256 % 256, z % 256]
theorem value_call (z : Nat) (hz : z < 4294967296) (A : Option Addr) (c : Nat) (W : World) (h : Nats .u8 256 W W.heap.size A (be4L z)) :
    Calls Tryd.prog 12 #[.slice A 4 c] W fun e w'' => ∃ v, e = .returned v ∧ Rel.Grow W w'' ∧ v = .int .u64 (z : Int) := by
  refine (value_any A 4 c (be4L z) W W.heap.size rfl (by decide) h).mono ?_
  rintro e w' ⟨rfl, rfl⟩
  exact ⟨_, rfl, Rel.Grow.refl _, by rw [show beVal (be4L z) = z from be_le z hz]⟩
set_option maxRecDepth 100000 in
set_option maxHeartbeats 4000000 in
theorem names_any (op : Nat) (h8 : op < 256) (A : Option Addr) (len cap : Nat) (qs : List In) (w : World) (hl : qs.length = len) (hlc : len ≤ cap) (hcm : cap ≤ maxLen) (hq : InsIn w w.heap.size A qs) (hT : STb w) :
    Calls Tryd.prog 4 #[.int .u8 (op : Int), .slice A len cap] w (TrueBelow w) := by
  have HT := wall hT
  have HQ := wall hq
  have HL := wall hl
  have H8 := wall h8
  have HCM := wall (And.intro hlc hcm)
  obtain ⟨n, hn⟩ : ∃ n, min len 20 = n := ⟨_, rfl⟩
  have hmi : min ((len : Nat) : Int) 20 = ((n : Nat) : Int) := by omega
  have HN := wall (show n ≤ len ∧ n ≤ 20 by omega)
  simp only [maxLen] at hcm
  clear hT hq hl hn h8
  go_enter Tryd.func4, Tryd.ntmps4
  go_wp2_with fail
  (with_reducible refine (awake_any _ HT.out).mono ?_); rintro e w1 ⟨rfl, hB1⟩
  have HB1 := wall hB1
  have HT1 := wall (HT.out.old hB1)
  clear hB1 HT
  go_upto_region 4 with fail
  clear hmi
  go_wp2_with fail
  have HI := wall (show InsIn w1 w1.heap.size A (qs.take n) from fun i q h => by
    obtain ⟨a1, b, off, a2, a3, a4⟩ := ins_below (ins_take HQ.out n) HB1.out i q h
    exact ⟨a1, b, off, a2, Nat.lt_of_lt_of_le a3 HB1.out.size, a4⟩)
  have HTL := wall (show (qs.take n).length = n by rw [List.length_take, HL.out]; exact Nat.min_eq_left HN.out.1)
  (with_reducible refine (code_any A n cap (qs.take n) w1 HTL.out (Nat.le_trans HN.out.2 (by decide)) HI.out).mono ?_)
  rintro e w2 ⟨v, rfl, hO, hB2⟩
  obtain ⟨P, c, rfl, hc1, hPN, -⟩ := own_nats hO (codeL_lt _)
  rw [codeL_length, List.length_take, HL.out, Nat.min_eq_left HN.out.1] at hc1 ⊢
  have HP := wall hPN
  have HB2 := wall (below_then HB1.out hB2 (Nat.le_refl _))
  have HT2 := wall (HT1.out.old hB2)
  clear hO hB2 hPN HB1 HT1
  try simp only [Act.put, List.setIfInBounds_toArray, List.set_cons_zero, List.set_cons_succ]
  go_upto_region 5 with fail
  have HNM := wall (fun W (h : STb W) => name_any op op W rfl H8.out h)
  have HNI := wall (fun (h1 : 1 ≤ op) (h2 : op ≤ 56) => name_in h1 h2)
  have HNX := wall (fun (h : ¬ (1 ≤ op ∧ op ≤ 56)) => name_out h)
  obtain ⟨s, hs⟩ : ∃ s, nameOf op = s := ⟨_, rfl⟩
  rw [hs] at HNM HNI HNX
  clear hs
  unfold StrOut at HNM
  go_cut [37] (fun v w' => v = .bool false ∧ Wall (Below w2.heap.size w2 w'))
  case first =>
    have hn20 : (n : Int) ≤ 20 := by have := HN.out.2; omega
    go_wp2_with fail
    (with_reducible refine (HNM.out _ HT2.out).mono ?_); rintro e w3 ⟨rfl, hB3⟩
    have HB3 := wall hB3
    clear hB3 HNM HT2
    try simp only [Act.put, List.setIfInBounds_toArray, List.set_cons_zero, List.set_cons_succ]
    by_cases h1 : 1 ≤ op
    · by_cases h2 : op ≤ 56
      · have hse := HNI.out h1 h2
        have k1 : (1 : Int) ≤ (op : Int) := by omega
        have k2 : (op : Int) ≤ 56 := by omega
        go_wp2_with fail
        go_meet
        exact ⟨rfl, HB3⟩
      · have hse := HNX.out (fun h => h2 h.2)
        have k1 : (1 : Int) ≤ (op : Int) := by omega
        have k2 : ¬ (op : Int) ≤ 56 := by omega
        go_wp2_with fail
        go_meet
        exact ⟨rfl, HB3⟩
    · have hse := HNX.out (fun h => h1 h.1)
      have k1 : ¬ (1 : Int) ≤ (op : Int) := by omega
      go_wp2_with fail
      go_meet
      exact ⟨rfl, HB3⟩
  case rest =>
    clear HT2 HNM HNI HNX
    obtain ⟨rfl, HB0⟩ := hcut
    obtain ⟨w0, rfl⟩ : ∃ wo : World, wo = wc := ⟨_, rfl⟩
    go_wp2_with fail
    go_loopg [40] n (fun g s40 wr => ∃ i : Nat, i + g = n ∧ s40 = .int .i64 (i : Int) ∧ Wall (Below w2.heap.size w2 wr))
    case atStart => exact ⟨0, by omega, rfl, HB0⟩
    case round =>
      obtain ⟨i, hg, rfl, HB⟩ := hrel
      clear HB0
      have HG := wall hg
      have hi : i ≤ n := by omega
      clear hg
      by_cases hlt : i < n
      · have hlt' : (i : Int) < (n : Int) := by omega
        obtain ⟨q, hqi⟩ : ∃ q, (qs.take n)[i]? = some q := ⟨_, List.getElem?_eq_getElem (by rw [List.length_take, HL.out]; have := HN.out; omega)⟩
        have hh := ins_below (ins_take HQ.out n) (below_then HB2.out HB.out (Nat.le_refl _))
        obtain ⟨hok, b, off, rfl, hbl, hrg⟩ := hh i q hqi
        have HEN := wall (fun W => encode_any q hok W)
        have HRG := wall hrg
        have HX1 := wall (inC_one q)
        have HX2 := wall (show (Tryd.prog.info? 25).map (·.size) = some (inC q).size from in_info)
        have HX3 := wall (show (inC zIn).size = (inC q).size from rfl)
        have HZL := wall (enc_lt hok)
        obtain ⟨X, hX⟩ : ∃ y, inC q = y := ⟨_, rfl⟩
        obtain ⟨⟨z, ok⟩, hz⟩ : ∃ y, enc q = y := ⟨_, rfl⟩
        have hz1 : (enc q).1 = z := by rw [hz]
        rw [hz] at HEN HZL
        unfold EncOut at HEN
        simp only at HEN HZL
        rw [hX] at HX1 HX2 HX3 HEN HRG
        clear hX hz hh hrg
        go_upto_region 10 with (first | refine wpList_load_arr rfl 25 _ rfl b (off + i * 6) rfl X _ HRG.out Tryd.underlying25 rfl HX2.out ?_ | (refine wpList_new_row rfl 25 (.tmp 7) (.tmp 44) rfl wr.heap.size X rfl rfl 25 (inC zIn) (Blk.new _ _ _) HX2.out HX3.out HX1.out wr.heap.size wr ((Below.refl _ wr).alloc (Nat.le_refl _) _) (Nat.le_refl _) ?_; intro w3 K3 B3))
        have HK3 := wall K3.out
        have HB3 := wall (below_then HB.out B3.out (Nat.le_refl _))
        clear K3 B3 HB HRG
        try simp only [Act.put, List.setIfInBounds_toArray, List.set_cons_zero, List.set_cons_succ]
        go_wp2_with (refine wpList_load_row rfl 25 _ rfl wr.heap.size rfl 25 X (0, 0) _ HK3.out Tryd.underlying25 rfl HX2.out ?_)
        (with_reducible refine (HEN.out _).mono ?_); rintro e w4 ⟨rfl, hB4⟩
        have HB4 := wall (below_then HB3.out hB4 (Nat.le_refl _))
        clear hB4 HB3 HK3 HEN
        try simp only [Act.put, List.setIfInBounds_toArray, List.set_cons_zero, List.set_cons_succ]
        obtain ⟨pb, po, rfl, hpb, c0, c1, c2, c3⟩ := code_cells (HP.out.below HB4.out) hqi hz1
        have hpb' : pb < w4.heap.size := Nat.lt_of_lt_of_le hpb HB4.out.size
        have hi20 : (i : Int) < 20 := by have := HN.out.2; omega
        clear hqi hz1 hpb
        have e4 : 4 * i + 4 - 4 * i = 4 := by omega
        rw [← Nat.add_assoc] at c1 c2 c3
        go_upto_region 12 with fail
        have HV := wall (fun (W' : World) (A' : Option Addr) (c' : Nat) (h : Nats .u8 256 W' W'.heap.size A' (be4L z)) => value_call z HZL.out A' c' W' h)
        refine RelG.wp_region_rel 16 [(69, .any (Bytes (be4L z)) (fun v W W' h => Bytes.grow v W W' h.soft)), (70, .const (.int .u64 (z : Int)))] (by kernel_rfl) (by kernel_rfl) ?_
        simp only [List.take_succ_cons, List.take_zero, List.drop_succ_cons, List.drop_zero, Act.put, List.setIfInBounds_toArray, List.set_cons_zero, List.set_cons_succ]
        repeat (first | (refine RelG.tree_quiet rfl rfl rfl (fun K hK => ?_); go_big_quiet_op; refine hK _ ?_; clear hK K) | (refine RelG.tree_pure rfl rfl rfl (.int .u8 ((z / 16777216 % 256 : Nat) : Int)) (fun W hW _ => Rel.exec_load1 _ _ rfl pb (po + 4 * i + 3) rfl _ (fun _ => by kernel_rfl) ((hW.undrew.cell (p := ⟨pb, po + 4 * i + 3, none⟩) hpb').trans c3)) ?_; simp only [Act.put, List.setIfInBounds_toArray, List.set_cons_zero, List.set_cons_succ]) | (refine RelG.tree_pure rfl rfl rfl (.int .u8 ((z / 65536 % 256 : Nat) : Int)) (fun W hW _ => Rel.exec_load1 _ _ rfl pb (po + 4 * i + 2) rfl _ (fun _ => by kernel_rfl) ((hW.undrew.cell (p := ⟨pb, po + 4 * i + 2, none⟩) hpb').trans c2)) ?_; simp only [Act.put, List.setIfInBounds_toArray, List.set_cons_zero, List.set_cons_succ]) | (refine RelG.tree_pure rfl rfl rfl (.int .u8 ((z / 256 % 256 : Nat) : Int)) (fun W hW _ => Rel.exec_load1 _ _ rfl pb (po + 4 * i + 1) rfl _ (fun _ => by kernel_rfl) ((hW.undrew.cell (p := ⟨pb, po + 4 * i + 1, none⟩) hpb').trans c1)) ?_; simp only [Act.put, List.setIfInBounds_toArray, List.set_cons_zero, List.set_cons_succ]) | (refine RelG.tree_pure rfl rfl rfl (.int .u8 ((z % 256 : Nat) : Int)) (fun W hW _ => Rel.exec_load1 _ _ rfl pb (po + 4 * i) rfl _ (fun _ => by kernel_rfl) ((hW.undrew.cell (p := ⟨pb, po + 4 * i, none⟩) hpb').trans c0)) ?_; simp only [Act.put, List.setIfInBounds_toArray, List.set_cons_zero, List.set_cons_succ]))
        refine RelG.tree_rel rfl (Bytes (be4L z)) _ rfl (fun W hW _ => ?_) (fun v69 => ?_)
        · unfold RelG.relAt
          go_simp
          exact ⟨Rel.Grow.alloc _ _, some ⟨W.heap.size, 0, none⟩, 4, rfl, Nat.le_refl _, be4_new z W⟩
        simp only [Act.put, List.setIfInBounds_toArray, List.set_cons_zero, List.set_cons_succ]
        refine RelG.tree_const rfl (.int .u64 (z : Int)) rfl (fun W hW hF => ?_) ?_
        · obtain ⟨A', c', rfl, _, hN⟩ := (show Bytes (be4L z) v69 W from hF 69 (by decide))
          unfold RelG.relAt; go_simp; show Calls _ _ _ _ _
          exact HV.out W A' c' hN
        simp only [Act.put, List.setIfInBounds_toArray, List.set_cons_zero, List.set_cons_succ]
        (refine RelG.tree_quiet rfl rfl rfl (fun K hK => ?_); go_big_quiet_op; refine hK _ ?_; clear hK K)
        have ez : ((z : Nat) : Int) % 18446744073709551616 = (z : Int) := by have := HZL.out; omega
        (refine RelG.tree_quiet rfl rfl rfl (fun K hK => ?_); go_big_quiet_op; refine hK _ ?_; clear hK K)
        intro W hW _
        have HB6 := wall (below_then HB4.out hW.undrew (Nat.le_refl _))
        clear hW c0 c1 c2 c3 hpb' HB4 HV
        go_wp2_with fail
        go_light
        go_roundg (n - (i + 1))
        case measure => have := HG.out; omega
        case rel => exact ⟨i + 1, by have := HG.out; omega, by go_num, HB6⟩
      · obtain rfl : i = n := by omega
        go_wp2_with fail
        go_light
        go_ret
        exact ⟨rfl, below_then HB2.out HB.out (Nat.le_refl _)⟩
theorem names_frame (op : Int) (A : Option Addr) (len cap : Nat) (rows : List (List Value)) (w : World) (hT : STb w) (ho : (Lit.int .u8 op).wf = true) (hr : RowsOf w 6 inK A len cap rows) :
    Calls Tryd.prog 4 #[.int .u8 op, .slice A len cap] w (TrueBelow w) := by
  obtain ⟨l, h1, h2, h3, h4⟩ := rows_in hr
  have hb := bounds_u8 ho
  have h := names_any op.toNat (by omega) A len cap l w h1 h2 h3 h4 hT
  rw [Int.toNat_of_nonneg hb.1] at h
  exact h
end Rv
end Go.Proofs.YtgmomkinbfajkaaDoor
