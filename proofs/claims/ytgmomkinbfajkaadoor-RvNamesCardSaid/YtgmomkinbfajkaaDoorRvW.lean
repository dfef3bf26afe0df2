/-
  The law RvWords.
-/
import Derived.Test.YtgmomkinbfajkaaDoorRvL
import Derived.Test.YtgmomkinbfajkaaDoorRvAw
import Derived.Test.YtgmomkinbfajkaaDoorRvU
import Derived.Test.YtgmomkinbfajkaaDoorR1
import Derived.Test.YtgmomkinbfajkaaDoorRelG
import Derived.Test.YtgmomkinbfajkaaDoorRelUse
import Derived.Test.YtgmomkinbfajkaaDoorLoad1
import Derived.WalkKit
import Derived.Deep.DeepCutAuto
set_option linter.unusedSimpArgs false
set_option linter.unusedVariables false
namespace Go.Proofs.YtgmomkinbfajkaaDoor
open Go.RowKit

namespace Rv
open Otp Sha R1
theorem codeL_at : ∀ (qs : List In) (i : Nat) (q : In), qs[i]? = some q → ∀ j, j < 4 → (codeL qs)[4 * i + j]? = (le4 (enc q).1)[j]?
  | q0 :: qs, 0, q, h, j, hj => by
    obtain rfl : q0 = q := by simpa using h
    show (le4 (enc q0).1 ++ codeL qs)[4 * 0 + j]? = _
    rw [Nat.mul_zero, Nat.zero_add, List.getElem?_append_left (by show j < 4; exact hj)]
  | q0 :: qs, i + 1, q, h, j, hj => by
    show (le4 (enc q0).1 ++ codeL qs)[4 * (i + 1) + j]? = _
    rw [List.getElem?_append_right (by show 4 ≤ _; omega), show 4 * (i + 1) + j - (le4 (enc q0).1).length = 4 * i + j from (by show 4 * (i + 1) + j - 4 = _; omega)]
    exact codeL_at qs i q (by simpa using h) j hj
theorem be_le (z : Nat) (h : z < 4294967296) : beVal [z / 16777216 % 256, z / 65536 % 256, z / 256 % 256, z % 256] = z := by
  simp only [beVal, List.foldl_cons, List.foldl_nil]
  omega
/-- A word's four bytes, in a program's bytes. -/
theorem code_cells {w : World} {P : Option Addr} {B : Nat} {qs : List In} (h : Nats .u8 256 w B P (codeL qs)) {i : Nat} {q : In} (hq : qs[i]? = some q) {z : Nat} (hz : (enc q).1 = z) :
    ∃ b off, P = some ⟨b, off, none⟩ ∧ b < B ∧ w.cell? ⟨b, off + (4 * i), none⟩ = some (.int .u8 ((z % 256 : Nat) : Int)) ∧ w.cell? ⟨b, off + (4 * i + 1), none⟩ = some (.int .u8 ((z / 256 % 256 : Nat) : Int)) ∧ w.cell? ⟨b, off + (4 * i + 2), none⟩ = some (.int .u8 ((z / 65536 % 256 : Nat) : Int)) ∧ w.cell? ⟨b, off + (4 * i + 3), none⟩ = some (.int .u8 ((z / 16777216 % 256 : Nat) : Int)) := by
  subst hz
  obtain ⟨_, b, off, rfl, hb, h0⟩ := h (4 * i + 0) _ (codeL_at qs i q hq 0 (by decide))
  obtain ⟨_, b1, off1, e1, _, h1⟩ := h (4 * i + 1) _ (codeL_at qs i q hq 1 (by decide))
  obtain ⟨_, b2, off2, e2, _, h2⟩ := h (4 * i + 2) _ (codeL_at qs i q hq 2 (by decide))
  obtain ⟨_, b3, off3, e3, _, h3⟩ := h (4 * i + 3) _ (codeL_at qs i q hq 3 (by decide))
  cases e1; cases e2; cases e3
  exact ⟨b, off, rfl, hb, h0, h1, h2, h3⟩
theorem be4_cells (z : Nat) : b8 [z / 16777216 % 256, z / 65536 % 256, z / 256 % 256, z % 256] = #[.int .u8 ((z : Int) / 16777216 % 256), .int .u8 ((z : Int) / 65536 % 256), .int .u8 ((z : Int) / 256 % 256), .int .u8 ((z : Int) % 256)] := by simp [b8]
theorem be4_new (z : Nat) (w : World) : Nats .u8 256 (w.alloc (.cells #[.int .u8 ((z : Int) / 16777216 % 256), .int .u8 ((z : Int) / 65536 % 256), .int .u8 ((z : Int) / 256 % 256), .int .u8 ((z : Int) % 256)] 5)) (w.alloc (.cells #[.int .u8 ((z : Int) / 16777216 % 256), .int .u8 ((z : Int) / 65536 % 256), .int .u8 ((z : Int) / 256 % 256), .int .u8 ((z : Int) % 256)] 5)).heap.size (some ⟨w.heap.size, 0, none⟩) [z / 16777216 % 256, z / 65536 % 256, z / 256 % 256, z % 256] := by
  refine nats_b8 (by rw [be4_cells]; exact Blk.new _ _ _) (fun y hy => ?_)
  simp only [List.mem_cons, List.not_mem_nil, or_false] at hy
  rcases hy with rfl | rfl | rfl | rfl <;> omega
set_option maxRecDepth 100000 in
set_option maxHeartbeats 4000000 in
theorem words_any (A : Option Addr) (len cap : Nat) (qs : List In) (w : World) (hl : qs.length = len) (hlc : len ≤ cap) (hcm : cap ≤ maxLen) (hq : InsIn w w.heap.size A qs) (hT : STb w) :
    Calls Tryd.prog 5 #[.slice A len cap] w (TrueBelow w) := by
  have HT := wall hT
  have HQ := wall hq
  have HL := wall hl
  have HCM := wall (And.intro hlc hcm)
  obtain ⟨n, hn⟩ : ∃ n, min len 30 = n := ⟨_, rfl⟩
  have hmi : min ((len : Nat) : Int) 30 = ((n : Nat) : Int) := by omega
  have HN := wall (show n ≤ len ∧ n ≤ 30 by omega)
  simp only [maxLen] at hcm
  clear hT hq hl hn
  go_enter Tryd.func5, Tryd.ntmps5
  go_wp2_with fail
  (with_reducible refine (awake_any _ HT.out).mono ?_); rintro e w1 ⟨rfl, hB1⟩
  have HB1 := wall hB1
  clear hB1 HT
  go_upto_region 4 with fail
  clear hmi
  go_wp2_with fail
  have HI := wall (show InsIn w1 w1.heap.size A (qs.take n) from fun i q h => by
    obtain ⟨a1, b, off, a2, a3, a4⟩ := ins_below (ins_take HQ.out n) HB1.out i q h
    exact ⟨a1, b, off, a2, Nat.lt_of_lt_of_le a3 HB1.out.size, a4⟩)
  have HTL := wall (show (qs.take n).length = n by rw [List.length_take, HL.out]; exact Nat.min_eq_left HN.out.1)
  (with_reducible refine (code_any A n cap (qs.take n) w1 HTL.out (Nat.le_trans HN.out.2 (by decide)) HI.out).mono ?_)
  rintro e w2 ⟨v, rfl, hO, hB2⟩
  obtain ⟨P, c, rfl, hc1, hPN, -⟩ := own_nats hO (codeL_lt _)
  rw [codeL_length, List.length_take, HL.out, Nat.min_eq_left HN.out.1] at hc1 ⊢
  have HP := wall hPN
  have HB2 := wall (below_then HB1.out hB2 (Nat.le_refl _))
  clear hO hB2 hPN HB1
  try simp only [Act.put, List.setIfInBounds_toArray, List.set_cons_zero, List.set_cons_succ]
  go_wp2_with fail
  go_loopg [22] n (fun g s22 wr => ∃ i : Nat, i + g = n ∧ s22 = .int .i64 (i : Int) ∧ Wall (Below w2.heap.size w2 wr))
  case atStart => exact ⟨0, by omega, rfl, wall (Below.refl _ _)⟩
  case round =>
    obtain ⟨i, hg, rfl, HB⟩ := hrel
    have HG := wall hg
    have hi : i ≤ n := by omega
    clear hg
    by_cases hlt : i < n
    · have hlt' : (i : Int) < (n : Int) := by omega
      obtain ⟨q, hqi⟩ : ∃ q, (qs.take n)[i]? = some q := ⟨_, List.getElem?_eq_getElem (by rw [List.length_take, HL.out]; have := HN.out; omega)⟩
      have hh := ins_below (ins_take HQ.out n) (below_then HB2.out HB.out (Nat.le_refl _))
      obtain ⟨hok, b, off, rfl, hbl, hrg⟩ := hh i q hqi
      have HEN := wall (fun W => encode_any q hok W)
      have HRG := wall hrg
      have HX1 := wall (inC_one q)
      have HX2 := wall (show (Tryd.prog.info? 25).map (·.size) = some (inC q).size from in_info)
      have HX3 := wall (show (inC zIn).size = (inC q).size from rfl)
      have HNO := wall (enc_no q)
      have HOK := wall (enc_ok q)
      have HZL := wall (enc_lt hok)
      obtain ⟨X, hX⟩ : ∃ y, inC q = y := ⟨_, rfl⟩
      obtain ⟨⟨z, ok⟩, hz⟩ : ∃ y, enc q = y := ⟨_, rfl⟩
      have hz1 : (enc q).1 = z := by rw [hz]
      rw [hz] at HEN HNO HOK HZL
      go_upto_region 8 with (first | refine wpList_load_arr rfl 25 _ rfl b (off + i * 6) rfl X _ (by rw [← hX]; exact HRG.out) Tryd.underlying25 rfl (by rw [← hX]; exact HX2.out) ?_ | (refine wpList_new_row rfl 25 (.tmp 5) (.tmp 26) rfl wr.heap.size X rfl rfl 25 (inC zIn) (Blk.new _ _ _) (by rw [← hX]; exact HX2.out) (by rw [← hX]; exact HX3.out) (by rw [← hX]; exact HX1.out) wr.heap.size wr ((Below.refl _ wr).alloc (Nat.le_refl _) _) (Nat.le_refl _) ?_; intro w3 K3 B3))
      have HK3 := wall K3.out
      have HB3 := wall (below_then HB.out B3.out (Nat.le_refl _))
      clear K3 B3 HB HRG hh hrg
      obtain ⟨pb, po, rfl, hpb, c0, c1, c2, c3⟩ := code_cells (HP.out.below HB3.out) hqi hz1
      have hpb' : pb < w3.heap.size := Nat.lt_of_lt_of_le hpb HB3.out.size
      clear hqi hz1 hz hpb
      have hi30 : (i : Int) < 30 := by have := HN.out.2; omega
      go_wp2_with fail
      refine RelG.wp_region_rel 23 [] (by kernel_rfl) (by kernel_rfl) ?_
      simp only [List.take_succ_cons, List.take_zero, List.drop_succ_cons, List.drop_zero, Act.put, List.setIfInBounds_toArray, List.set_cons_zero, List.set_cons_succ]
      repeat (first | (refine RelG.tree_quiet rfl rfl rfl (fun K hK => ?_); go_big_quiet_op; refine hK _ ?_; clear hK K) | (refine RelG.tree_pure rfl rfl rfl (.int .u8 ((z / 16777216 % 256 : Nat) : Int)) (fun W hW _ => Rel.exec_load1 _ _ rfl pb (po + (4 * i + 3)) rfl _ (fun _ => by kernel_rfl) ((hW.undrew.cell (p := ⟨pb, po + (4 * i + 3), none⟩) hpb').trans c3)) ?_; simp only [Act.put, List.setIfInBounds_toArray, List.set_cons_zero, List.set_cons_succ]) | (refine RelG.tree_pure rfl rfl rfl (.int .u8 ((z / 65536 % 256 : Nat) : Int)) (fun W hW _ => Rel.exec_load1 _ _ rfl pb (po + (4 * i + 2)) rfl _ (fun _ => by kernel_rfl) ((hW.undrew.cell (p := ⟨pb, po + (4 * i + 2), none⟩) hpb').trans c2)) ?_; simp only [Act.put, List.setIfInBounds_toArray, List.set_cons_zero, List.set_cons_succ]) | (refine RelG.tree_pure rfl rfl rfl (.int .u8 ((z / 256 % 256 : Nat) : Int)) (fun W hW _ => Rel.exec_load1 _ _ rfl pb (po + (4 * i + 1)) rfl _ (fun _ => by kernel_rfl) ((hW.undrew.cell (p := ⟨pb, po + (4 * i + 1), none⟩) hpb').trans c1)) ?_; simp only [Act.put, List.setIfInBounds_toArray, List.set_cons_zero, List.set_cons_succ]) | (refine RelG.tree_pure rfl rfl rfl (.int .u8 ((z % 256 : Nat) : Int)) (fun W hW _ => Rel.exec_load1 _ _ rfl pb (po + 4 * i) rfl _ (fun _ => by kernel_rfl) ((hW.undrew.cell (p := ⟨pb, po + 4 * i, none⟩) hpb').trans c0)) ?_; simp only [Act.put, List.setIfInBounds_toArray, List.set_cons_zero, List.set_cons_succ]))
      intro W hW _
      have HK4 := wall (hW.blk HK3.out.drew)
      have HB4 := wall (below_then HB3.out hW.undrew (Nat.le_refl _))
      have HV := wall (fun (W' : World) (ad : Addr) (h : Nats .u8 256 W' W'.heap.size (some ad) [z / 16777216 % 256, z / 65536 % 256, z / 256 % 256, z % 256]) => value_any (some ad) 4 4 [z / 16777216 % 256, z / 65536 % 256, z / 256 % 256, z % 256] W' W'.heap.size rfl (by decide) h)
      rw [be_le z HZL.out] at HV
      clear hW c0 c1 c2 c3 hpb' HK3 HB3
      go_wp2_with fail
      have HB5 := wall (HB4.out.alloc HB4.out.size (.cells #[.int .u8 ((z : Int) / 16777216 % 256), .int .u8 ((z : Int) / 65536 % 256), .int .u8 ((z : Int) / 256 % 256), .int .u8 ((z : Int) % 256)] 5))
      have HK5 := wall (HK4.out.alloc (.cells #[.int .u8 ((z : Int) / 16777216 % 256), .int .u8 ((z : Int) / 65536 % 256), .int .u8 ((z : Int) / 256 % 256), .int .u8 ((z : Int) % 256)] 5))
      have HNW := wall (be4_new z W)
      clear HK4 HB4
      generalize W.alloc (.cells #[.int .u8 ((z : Int) / 16777216 % 256), .int .u8 ((z : Int) / 65536 % 256), .int .u8 ((z : Int) / 256 % 256), .int .u8 ((z : Int) % 256)] 5) = w5 at *
      (with_reducible refine (HV.out _ _ HNW.out).mono ?_); rintro e w6 ⟨rfl, rfl⟩
      have ez : ((z : Nat) : Int) % 4294967296 = (z : Int) := by have := HZL.out; omega
      clear HV HNW
      try simp only [Act.put, List.setIfInBounds_toArray, List.set_cons_zero, List.set_cons_succ]
      obtain ⟨⟨y, okd⟩, hy⟩ : ∃ p, dec z = p := ⟨_, rfl⟩
      have HD := wall (fun W => decode_any z z W rfl HZL.out)
      have HCT := wall (show ok = true → okd = true ∧ y = q from fun h => by
        have h1 := HOK.out h
        rw [hy] at h1
        cases h1
        exact ⟨rfl, rfl⟩)
      have HCF := wall (show ok = false → okd = false ∧ z = 0 from fun h => by
        have h0 := HNO.out h
        rw [h0, dec_zero] at hy
        cases hy
        exact ⟨rfl, h0⟩)
      have HEQ := wall (fun (h : y = q) (W : World) => show (Op.equalIn 10000 25 (.agg (inC y)) (.agg (inC q))).run Tryd.prog W = .ok true W by rw [in_eq, decide_eq_true h])
      rw [hy] at HD
      have HY1 := wall (inC_one y)
      have HY2 := wall (show (Tryd.prog.info? 25).map (·.size) = some (inC y).size from in_info)
      have HY3 := wall (show (inC zIn).size = (inC y).size from rfl)
      unfold InOut at HD
      unfold EncOut at HEN
      simp only at HD HEN
      obtain ⟨Y, hY⟩ : ∃ a, inC y = a := ⟨_, rfl⟩
      rw [hX] at HX1 HX2 HX3 HEN HEQ
      rw [hY] at HY1 HY2 HY3 HD HEQ
      clear hY hX hy HOK HNO
      go_wp2_with fail
      (with_reducible refine (HD.out _).mono ?_); rintro e w6 ⟨rfl, hB6⟩
      clear ez
      have HK6 := wall (HK5.out.next hB6 rfl)
      have HB6 := wall (below_then HB5.out hB6 (Nat.le_refl _))
      have hgX := HK6.out.lt
      clear hB6 HK5 HB5 HD
      try simp only [Act.put, List.setIfInBounds_toArray, List.set_cons_zero, List.set_cons_succ]
      go_upto_region 10 with (refine wpList_new_row rfl 25 (.tmp 7) (.tmp 56) rfl w6.heap.size Y rfl rfl 25 (inC zIn) (Blk.new _ _ _) HY2.out HY3.out HY1.out w6.heap.size w6 ((Below.refl _ w6).alloc (Nat.le_refl _) _) (Nat.le_refl _) ?_; intro w7 K7 B7)
      have HY7 := wall K7.out
      have HK7 := wall (HK6.out.next B7.out rfl)
      have HB7 := wall (below_then HB6.out B7.out (Nat.le_refl _))
      clear K7 B7 HK6 HB6 hgX
      try simp only [Act.put, List.setIfInBounds_toArray, List.set_cons_zero, List.set_cons_succ]
      go_wp2_with (refine wpList_load_row rfl 25 _ rfl wr.heap.size rfl 25 X (0, 0) _ HK7.out Tryd.underlying25 rfl HX2.out ?_)
      (with_reducible refine (HEN.out _).mono ?_); rintro e w8 ⟨rfl, hB8⟩
      have HY8 := wall (HY7.out.next hB8 rfl)
      have HK8 := wall (HK7.out.next hB8 rfl)
      have HB8 := wall (below_then HB7.out hB8 (Nat.le_refl _))
      clear hB8 HY7 HK7 HB7 HEN
      try simp only [Act.put, List.setIfInBounds_toArray, List.set_cons_zero, List.set_cons_succ]
      cases ok with
      | true =>
        obtain ⟨rfl, hyq⟩ := HCT.out rfl
        have heq := HEQ.out hyq
        clear hyq HCT HCF HEQ
        go_wp2_with (first | refine load_row_g (by rfl) 25 _ rfl w6.heap.size rfl 25 Y _ HY8.out Tryd.underlying25 rfl HY2.out ?_ | refine load_row_g (by rfl) 25 _ rfl wr.heap.size rfl 25 X _ HK8.out Tryd.underlying25 rfl HX2.out ?_)
        go_light
        go_roundg (n - (i + 1))
        case measure => have := HG.out; omega
        case rel => exact ⟨i + 1, by have := HG.out; omega, by go_num, HB8⟩
      | false =>
        obtain ⟨rfl, hz0⟩ := HCF.out rfl
        have hz1 : (((z : Nat) : Int) != 0) = false := by rw [hz0]; rfl
        clear hz0 HCT HCF HEQ
        go_wp2_with fail
        go_light
        go_roundg (n - (i + 1))
        case measure => have := HG.out; omega
        case rel => exact ⟨i + 1, by have := HG.out; omega, by go_num, HB8⟩
    · obtain rfl : i = n := by omega
      go_wp2_with fail
      go_light
      go_ret
      exact ⟨rfl, below_then HB2.out HB.out (Nat.le_refl _)⟩
theorem words_frame (A : Option Addr) (len cap : Nat) (rows : List (List Value)) (w : World) (hT : STb w) (hr : RowsOf w 6 inK A len cap rows) :
    Calls Tryd.prog 5 #[.slice A len cap] w (TrueBelow w) := by
  obtain ⟨l, h1, h2, h3, h4⟩ := rows_in hr
  exact words_any A len cap l w h1 h2 h3 h4 hT
end Rv
end Go.Proofs.YtgmomkinbfajkaaDoor
