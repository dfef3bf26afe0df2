/-
  Texts of this claim, joined: AesNw, AesRd, AesMv, AesXr, AesEn, AesDe, BuildRow.
-/
import Derived.Test.YtpakdcgcgekcfaaDoorJ0a4358aa
import Derived.Deep.DeepCutAuto
import Derived.Test.YtpakdcgcgekcfaaDoorJ788900e0
import Derived.Test.YtpakdcgcgekcfaaDoorJfa020c09
set_option linter.unusedVariables false
/-
  Package aes: New, walked.
-/
set_option linter.unusedSimpArgs false
set_option linter.unusedVariables false
namespace Go.Proofs.YtpakdcgcgekcfaaDoor
open Go.RowKit

namespace Aes
open Otp R1 Fuse
theorem four_at {l : List Nat} {i a b c d : Nat} (ha : l[i]? = some a) (hb : l[i + 1]? = some b) (hc : l[i + 2]? = some c) (hd : l[i + 3]? = some d) : (l.drop i).take 4 = [a, b, c, d] := by
  apply List.ext_getElem?
  intro j
  rw [List.getElem?_take, List.getElem?_drop]
  match j with
  | 0 => simp [ha]
  | 1 => simp [hb]
  | 2 => simp [hc]
  | 3 => simp [hd]
  | j + 4 => rw [if_neg (by omega)]; rfl
theorem be4_parts {a b c d : Nat} (ha : a < 256) (hb : b < 256) (hc : c < 256) (hd : d < 256) : ∃ p q x : Nat, bits .or .u32 ((a : Int) * 16777216) ((b : Int) * 65536) = (p : Int) ∧ bits .or .u32 (p : Int) ((c : Int) * 256) = (q : Int) ∧ bits .or .u32 (q : Int) (d : Int) = (x : Int) ∧ x = be4 a b c d ∧ x < 4294967296 := by
  have h := u32_be4 ha hb hc hd
  have e1 : bits .or .u32 ((a : Int) * 16777216) ((b : Int) * 65536) = (((a * 16777216 ||| b * 65536) : Nat) : Int) := by
    have := u32_or_nat (a * 16777216) (b * 65536) (by omega) (by omega)
    simpa using this
  have h1 : (a * 16777216 ||| b * 65536) < 4294967296 := Nat.or_lt_two_pow (n := 32) (by omega) (by omega)
  have e2 : bits .or .u32 (((a * 16777216 ||| b * 65536) : Nat) : Int) ((c : Int) * 256) = ((((a * 16777216 ||| b * 65536) ||| c * 256) : Nat) : Int) := by
    have := u32_or_nat (a * 16777216 ||| b * 65536) (c * 256) h1 (by omega)
    simpa using this
  rw [e1, e2] at h
  exact ⟨_, _, _, e1, e2, h, rfl, be4_lt ha hb hc hd⟩
def NewK (w : World) (key : List Nat) (e : Ending) (w' : World) : Prop := ∃ A c, e = .returned (.tuple #[.agg (kC (.slice A (kWords key).length c)).toArray, .int .i64 0]) ∧ (kWords key).length ≤ c ∧ Nats .u32 4294967296 w' w'.heap.size A ((kWords key).map wd) ∧ (∀ ad : Addr, A = some ad → w.heap.size ≤ ad.block) ∧ Below w.heap.size w w'
theorem zK_one : zK.toArray.all (·.oneCell') = true := by
  refine all_oneCell_toArray (fun v hv => ?_)
  rcases List.mem_append.1 hv with h | h
  · rcases List.mem_cons.1 h with rfl | h
    · rfl
    · obtain ⟨_, _, rfl⟩ := List.mem_map.1 h
      rfl
  · obtain ⟨_, _, rfl⟩ := List.mem_map.1 h
    rfl
theorem kC_one (A : Option Addr) (n c : Nat) : (kC (.slice A n c)).toArray.all (·.oneCell') = true := by
  refine all_oneCell_toArray (fun v hv => ?_)
  rcases List.mem_cons.1 hv with rfl | h
  · rfl
  · rcases List.mem_append.1 h with h | h
    · obtain ⟨_, _, rfl⟩ := List.mem_map.1 h
      rfl
    · obtain ⟨_, _, rfl⟩ := List.mem_map.1 h
      rfl
set_option maxRecDepth 100000 in
set_option maxHeartbeats 1000000 in
theorem new_bad (A : Option Addr) (n c : Nat) (w : World) (h1 : n ≠ 16) (h2 : n ≠ 32) (hm : n ≤ maxLen) : Calls Tryd.prog 89 #[.slice A n c] w (fun e w' => e = .returned (.tuple #[.agg zK.toArray, .int .i64 1]) ∧ Below w.heap.size w w') := by
  simp only [maxLen] at hm
  have hn1 : ((n : Int) != 16) = true := by rw [bne_iff_ne]; omega
  have hn2 : ((n : Int) != 32) = true := by rw [bne_iff_ne]; omega
  have HI := Lib.hid (show (Tryd.prog.info? 94).map (·.size) = some zK.toArray.size by rw [List.size_toArray, zK_length]; exact key_info)
  go_enter Tryd.func89, Tryd.ntmps89
  go_upto_region 1 with fail
  rw [← zK_eq]
  go_wp2_with (refine wpList_new_row rfl 94 (.tmp 2) (.tmp 21) rfl w.heap.size zK.toArray rfl (by kernel_rfl) 94 zK.toArray (Blk.new _ _ _) HI.out rfl zK_one w.heap.size w ((Below.refl _ w).alloc (Nat.le_refl _) _) (Nat.le_refl _) ?_; intro w7 KD B7)
  go_light
  exact bodyPost_ret (v := .tuple #[.agg zK.toArray, .int .i64 1]) (results_one_slot Tryd.results89 _ _ w.heap.size 94 zK.toArray _ _ rfl rfl KD.out Tryd.underlying94 rfl HI.out) rfl ⟨rfl, B7.out⟩
theorem splice_box (a b c : List Value) (v : Value) (ha : a.length = 256) (hb : b.length = 256) : splice (v :: (a ++ c)) 1 b = v :: (b ++ c) := by
  unfold splice
  rw [List.take_succ_cons, List.take_zero, hb, List.drop_succ_cons, List.drop_append, List.drop_of_length_le (by omega), ha, List.nil_append, Nat.sub_self, List.drop_zero]
  rfl
theorem splice_back (a b c : List Value) (v : Value) (ha : a.length = 256) (hb : b.length = 256) (hc : c.length = 256) : splice (v :: (a ++ c)) 257 b = v :: (a ++ b) := by
  unfold splice
  rw [show (257 : Nat) = 256 + 1 from rfl, List.take_succ_cons, List.take_append, List.take_of_length_le (by omega), ha, Nat.sub_self, List.take_zero, List.append_nil, hb, List.drop_of_length_le (by simp [ha, hc])]
  simp
set_option maxRecDepth 100000 in
set_option maxHeartbeats 8000000 in
theorem new_any (A : Option Addr) (len cap n : Nat) (key : List Nat) (w : World) (hn : n = 4 ∨ n = 8) (hlen : len = 4 * n) (hl : key.length = len) (hz : Nats .u8 256 w w.heap.size A key) :
    Calls Tryd.prog 89 #[.slice A len cap] w (NewK w key) := by
  have HN := Lib.hid hz
  have HL := Lib.hid hl
  have HQ := Lib.hid (show key.length / 4 = n by omega)
  obtain ⟨w1, hw1⟩ : ∃ W, W = (w.alloc (.cells zK.toArray 94)).alloc (.cells zK.toArray 94) := ⟨_, rfl⟩
  have HW := Lib.hid hw1
  have hkz : zK.toArray = (kC (.slice none 0 0)).toArray → True := fun _ => trivial
  have HK0 := Lib.hid (show Blk w1 w.heap.size 94 zK.toArray by rw [hw1]; exact (Blk.new _ _ _).alloc _)
  have HK1 := Lib.hid (show Blk w1 (w.heap.size + 1) 94 zK.toArray by rw [hw1]; exact blk_new' (by simp))
  have HB1 := Lib.hid (show Below w.heap.size w w1 by rw [hw1]; exact ((Below.refl _ w).alloc (Nat.le_refl _) _).alloc (by simp) _)
  clear hw1 hz hl hkz
  obtain ⟨i0, hi0, hz0, hz1, hz2⟩ := info_row u32_info
  have HI := Lib.hid hi0
  have HI1 := Lib.hid hz0
  have HI2 := Lib.hid hz1
  have HI3 := Lib.hid hz2
  have HSB := Lib.hid (fun l (h : l.length = 256) => show (Tryd.prog.info? 92).map (·.size) = some (b8 l).size by rw [b8_size, h]; exact box_info)
  clear hi0 hz0 hz1 hz2
  rcases hn with rfl | rfl
  · subst hlen
    go_enter Tryd.func89, Tryd.ntmps89
    go_upto_region 1 with fail
    rw [← zK_eq]
    go_upto_region 5 with fail
    rw [← zK_eq]
    change Code.wp _ _ _ _ ((w.alloc (.cells zK.toArray 94)).alloc (.cells zK.toArray 94))
    rw [← HW.out]
    clear HW
    go_wp2_with fail
    (with_reducible refine (boxes_any _).mono ?_); rintro e w2 ⟨rfl, hB2⟩
    have HK02 := Lib.hid (HK0.out.next hB2 rfl)
    have HK12 := Lib.hid (HK1.out.next hB2 rfl)
    have HB2 := Lib.hid (below_then HB1.out hB2 (Nat.le_refl _))
    clear hB2 HK0 HK1 HB1
    go_upto_region 6 with (first | (refine wpList_store_frm rfl 92 (.tmp 26) (.tmp 24) rfl (w.heap.size + 1) 1 (b8 sbox) rfl rfl 94 zK HK12.out (by rw [b8_size, sbox_len, zK_length]; decide) (HSB.out _ sbox_len) (b8_one _) ?_; intro w3 K3 F3) | (refine wpList_store_frm rfl 92 (.tmp 27) (.tmp 25) rfl (w.heap.size + 1) 257 (b8 ibox) rfl rfl 94 (splice zK 1 (b8 sbox).toList) K3 (by rw [b8_size, ibox_len]; simp [splice, zK_length, sbox_len, b8]) (HSB.out _ ibox_len) (b8_one _) ?_; intro w4 K4 F4))
    have hs2 : splice (splice zK 1 (b8 sbox).toList) 257 (b8 ibox).toList = kC (.slice none 0 0) := by
      have e1 : (b8 sbox).toList = sbox.map fun x => Value.int .u8 ((x : Nat) : Int) := rfl
      have e2 : (b8 ibox).toList = ibox.map fun x => Value.int .u8 ((x : Nat) : Int) := rfl
      rw [e1, e2]
      unfold zK kC
      rw [List.cons_append, splice_box _ _ _ _ (by rw [List.length_map, List.length_replicate]) (by rw [List.length_map, sbox_len]), splice_back _ _ _ _ (by rw [List.length_map, sbox_len]) (by rw [List.length_map, ibox_len]) (by rw [List.length_map, List.length_replicate])]
    rw [hs2] at K4
    have HS := Lib.hid (show Ks w w.heap.size (w.heap.size + 1) (.slice none 0 0) (.slice none 0 0) [] w4 from
      ⟨(HK02.out.frm F3 (by simp)).frm F4 (by simp), K4, World.ownsRow_nil _ _ _ _,
        (HB2.out.trans (Frm.below F3 HB2.out.size (fun x hx => by simp at hx; omega))).trans (Frm.below F4 (by have := F3.size; have := HB2.out.size; omega) (fun x hx => by simp at hx; omega)), Nat.le_refl _, by omega⟩)
    clear hs2 K3 F3 K4 F4 HK02 HK12 HB2 HSB
    generalize w.heap.size + 1 = gY at *
    go_wp2_with fail
    go_loopg [29] 4 (fun g s29 wr => ∃ (i : Nat) (v : Value), i + g = 4 ∧ s29 = .int .i64 (i : Int) ∧ Hid (Ks w w.heap.size gY v v ((kw0 key i).map wd) wr))
    case atStart => exact ⟨0, _, by omega, rfl, HS⟩
    case round =>
      obtain ⟨i, v, hg, rfl, HK⟩ := hrel
      have HG := Lib.hid hg
      have hi : i ≤ 4 := by omega
      clear hg HS
      by_cases hlt : i < 4
      · obtain ⟨a, ha⟩ : ∃ a, key[4 * i]? = some a := ⟨_, List.getElem?_eq_getElem (by have := HL.out; omega)⟩
        obtain ⟨b, hb⟩ : ∃ a, key[4 * i + 1]? = some a := ⟨_, List.getElem?_eq_getElem (by have := HL.out; omega)⟩
        obtain ⟨c, hc⟩ : ∃ a, key[4 * i + 2]? = some a := ⟨_, List.getElem?_eq_getElem (by have := HL.out; omega)⟩
        obtain ⟨d, hd⟩ : ∃ a, key[4 * i + 3]? = some a := ⟨_, List.getElem?_eq_getElem (by have := HL.out; omega)⟩
        have HNB := HN.out.below HK.out.bel
        obtain ⟨hal, kb, off, hA, hkb, ca⟩ := HNB _ _ ha
        subst hA
        obtain ⟨hbl, _, _, hA, _, cb⟩ := HNB _ _ hb
        cases hA
        obtain ⟨hcl, _, _, hA, _, cc⟩ := HNB _ _ hc
        cases hA
        obtain ⟨hdl, _, _, hA, _, cd⟩ := HNB _ _ hd
        cases hA
        have HKW := Lib.hid (show (kw0 key (i + 1)).map wd = (kw0 key i).map wd ++ [be4 a b c d] by
          rw [kw0, List.range_succ, List.map_append, List.map_append]
          have : (key.drop (4 * i)).take 4 = [a, b, c, d] := four_at ha hb hc hd
          simp only [List.map_cons, List.map_nil, this]
          rfl)
        obtain ⟨p, q, x, e1, e2, e3, hx, hxl⟩ := be4_parts hal hbl hcl hdl
        rw [← hx] at HKW
        have HOL := Lib.hid (show ((kw0 key i).map wd).length = i by rw [List.length_map, kw0, List.length_map, List.length_range])
        generalize (kw0 key i).map wd = ws at HK HKW HOL
        have cv : wr.cell? ⟨gY, 0, none⟩ = some v := by rw [HK.out.kk.cell]; rfl
        have r0 := fun d os => Go.cell_regrown (show wr.drew.cell? ⟨kb, off + 4 * i, none⟩ = some (.int .u8 (a : Int)) from ca) d os
        have r1 := fun d os => Go.cell_regrown (show wr.drew.cell? ⟨kb, off + (4 * i + 1), none⟩ = some (.int .u8 (b : Int)) from cb) d os
        have r2 := fun d os => Go.cell_regrown (show wr.drew.cell? ⟨kb, off + (4 * i + 2), none⟩ = some (.int .u8 (c : Int)) from cc) d os
        have r3 := fun dd os => Go.cell_regrown (show wr.drew.cell? ⟨kb, off + (4 * i + 3), none⟩ = some (.int .u8 (d : Int)) from cd) dd os
        have rv := fun d os => Go.cell_regrown (show wr.drew.cell? ⟨gY, 0, none⟩ = some v from cv) d os
        clear ha hb hc hd HNB hx
        go_wp2_with fail
        refine Rel.wp_region_rel 36 [(67, .any (Rel.Lit8 wr.drew.heap.size 43 [.int .u32 (x : Int)]) Rel.Lit8.soft)] (by kernel_rfl) (by kernel_rfl) ?_
        simp only [List.take_succ_cons, List.take_zero, List.drop_succ_cons, List.drop_zero, Act.put, List.setIfInBounds_toArray, List.set_cons_zero, List.set_cons_succ]
        repeat (refine Rel.tree_quiet rfl rfl rfl (fun K hK => ?_); go_big_quiet_op; refine hK _ ?_; clear hK K)
        refine Rel.tree_rel rfl (Rel.Lit8 wr.drew.heap.size 43 [.int .u32 (x : Int)]) Rel.Lit8.soft rfl (fun W hW _ => ?_) (fun v67 => ?_)
        · unfold Rel.relAt
          go_simp
          exact ⟨Rel.Grow.alloc _ _, Rel.lit8_new [.int .u32 (x : Int)] hW.size⟩
        simp only [Act.put, List.setIfInBounds_toArray, List.set_cons_zero, List.set_cons_succ]
        intro W hW hF
        obtain ⟨g7, rfl, hg7, hg7l, _, hc7⟩ := hF 67
        have HKW2 := Lib.hid (HK.out.old hW.undrew)
        have HC7 := Lib.hid hc7
        have HGY := Lib.hid (show gY + 1 ≤ W.heap.size from HKW2.out.lt)
        clear hF hW r0 r1 r2 r3 rv ca cb cc cd cv e1 e2 e3 hc7
        go_wp2_with (at_builtin; refine wpList_append_own _ rfl (.tmp 33) (.tmp 67) 37 rfl (gY + 1) 43 i0 (.int .u32 0) 1 4 Tryd.underlying37 HI.out HI1.out HI2.out HI3.out rfl (by decide) v _ _ rfl HKW2.out.own ⟨g7, 0, none⟩ 1 1 [.int .u32 (x : Int)] rfl rfl ?c1 ?c2 ?c3 ?c4 HGY.out ?_)
        case c1 =>
          intro j u hu
          rw [Go.WideShapes.add_plain, Nat.zero_add]
          exact HC7.out j u hu
        case c2 => intro u hu; simp at hu; subst hu; rfl
        case c3 => rw [HOL.out]; simp only [maxLen]; omega
        case c4 => rw [HOL.out]; omega
        intro v1 w1 hO1 hg1 _
        have hO2 : Own32 w1 (gY + 1) v1 (ws ++ [x]) := by
          unfold Own32
          rw [List.length_append, List.map_append]
          exact hO1
        have HK1 := Lib.hid (HKW2.out.grown hg1 hO2)
        obtain ⟨g1, c1, hv1, _, _⟩ := own32_some hO2 (by simp)
        obtain ⟨m1, hm1⟩ : ∃ m, (ws ++ [x]).length = m := ⟨_, rfl⟩
        rw [hm1] at hv1
        subst hv1
        clear hm1
        have HK2 := Lib.hid (HK1.out.put)
        rw [← HKW.out] at HK2
        have hcc : w1.cell? ⟨gY, 0, none⟩ = some v := by rw [HK1.out.kk.cell]; rfl
        have hcf : w1.frozen? ⟨gY, 0, none⟩ = false := HK1.out.kk.frozen _
        have hcs : gY < w1.heap.size := HK1.out.kk.lt
        clear hO1 hg1 hO2 HKW2 HK1 HC7 HGY HK
        go_wp2_with fail
        go_light
        go_roundg (4 - (i + 1))
        case measure => have := HG.out; omega
        case rel => exact ⟨i + 1, _, by omega, by go_num, HK2⟩
      · have hin : i = 4 := by omega
        subst hin
        rw [show kw0 key 4 = kGo 4 (kw0 key 4) (4 - 4) from rfl] at HK
        have HKB := Lib.hid (fun k => kGo_ok (n := 4) (by decide) (kw0_length key 4) (kw0_ok (by have := HL.out; omega) (fun x hx => by
          obtain ⟨j, hj⟩ := List.mem_iff_getElem?.1 hx
          exact (HN.out j x hj).1)) k)
        clear HN hlt hi HG
        go_wp2_with fail
        go_loopg [7, 8] 40 (fun g s7 s8 wr => ∃ (j : Nat) (v : Value), j + 1 + g = 44 ∧ 4 ≤ j + 1 ∧ s8 = .int .i64 ((j + 1 : Nat) : Int) ∧ s7 = .int .u8 (conA (j / 4) : Int) ∧ Hid (Ks w w.heap.size gY v v ((kGo 4 (kw0 key 4) (j + 1 - 4)).map wd) wr))
        case atStart => exact ⟨3, _, by omega, by omega, rfl, rfl, HK⟩
        case round =>
          obtain ⟨j, v, hg, hjn, rfl, rfl, HK⟩ := hrel
          have HG := Lib.hid hg
          have hjt : j + 1 ≤ 44 := by omega
          clear hg
          have hlen : (kGo 4 (kw0 key 4) (j + 1 - 4)).length = j + 1 := by rw [kGo_length, kw0_length]; omega
          have HLN := Lib.hid hlen
          have HWL := Lib.hid (show ((kGo 4 (kw0 key 4) (j + 1 - 4)).map wd).length = j + 1 by rw [List.length_map, hlen])
          obtain ⟨gv, cap2, hv, hvc, hvm⟩ := own32_some HK.out.own (by rw [HWL.out]; omega)
          rw [HWL.out] at hv hvc
          subst hv
          by_cases hlt : j + 1 < 44
          · obtain ⟨t, ht⟩ : ∃ t, (kGo 4 (kw0 key 4) (j + 1 - 4))[j]? = some t := ⟨_, List.getElem?_eq_getElem (by omega)⟩
            obtain ⟨m, hm⟩ : ∃ m, j + 1 - 4 = m := ⟨_, rfl⟩
            obtain ⟨o, ho⟩ : ∃ o, (kGo 4 (kw0 key 4) (j + 1 - 4))[m]? = some o := ⟨_, List.getElem?_eq_getElem (by omega)⟩
            obtain ⟨t0, t1, t2, t3, rfl, b0, b1, b2, b3⟩ := (HKB.out _ _ (List.mem_of_getElem? ht)).four
            obtain ⟨o0, o1, o2, o3, rfl, d0, d1, d2, d3⟩ := (HKB.out _ _ (List.mem_of_getElem? ho)).four
            obtain ⟨gv', hA, _, _, ct, _⟩ := HK.out.own.at_ (i := j) (x := be4 t0 t1 t2 t3) (by rw [List.getElem?_map, ht]; rfl)
            cases hA
            obtain ⟨gv', hA, _, _, co, _⟩ := HK.out.own.at_ (i := m) (x := be4 o0 o1 o2 o3) (by rw [List.getElem?_map, ho]; rfl)
            cases hA
            obtain ⟨y0, y1, y2, y3, hy, f0, f1, f2, f3⟩ := (kTurn_ok (n := 4) (i := j + 1) (w4_of b0 b1 b2 b3)).four
            have HNX := Lib.hid (show kGo 4 (kw0 key 4) (j + 1 + 1 - 4) = kGo 4 (kw0 key 4) (j + 1 - 4) ++ [xorL [y0, y1, y2, y3] [o0, o1, o2, o3]] by
              have := kGo_next 4 (kw0 key 4) (j + 1 - 4) (t := [t0, t1, t2, t3]) (o := [o0, o1, o2, o3]) (by rw [kw0_length, show 4 + (j + 1 - 4) - 1 = j by omega]; exact ht) (by rw [kw0_length, show 4 + (j + 1 - 4) - 4 = m by omega]; exact ho)
              rw [kw0_length, show 4 + (j + 1 - 4) = j + 1 by omega, hy] at this
              rw [show j + 1 + 1 - 4 = j + 1 - 4 + 1 by omega]
              exact this)
            have HY := Lib.hid hy
            have cv : wr.cell? ⟨gY, 0, none⟩ = some (.slice (some ⟨gv, 0, none⟩) (j + 1) cap2) := by rw [HK.out.kk.cell]; rfl
            obtain ⟨c, hc⟩ : ∃ c, conA (j / 4) = c := ⟨_, rfl⟩
            have hcl : c < 256 := by rw [← hc]; exact conA_lt _
            have HC := Lib.hid hc
            rw [hc]
            have hmI : (j : Int) + 1 - 4 = (m : Int) := by omega
            have hgv : gv < wr.heap.size := cell_lt ct
            have HO := Lib.hid (show ((kGo 4 (kw0 key 4) (j + 1 - 4)).map wd)[m]? = some (be4 o0 o1 o2 o3) by rw [List.getElem?_map, ho]; rfl)
            clear ht ho hy hc hlen
            go_upto_block 4 with fail
            go_cut [7, 9] (fun s7 s9 w' => s7 = .int .u8 (conA ((j + 1) / 4) : Int) ∧ s9 = .int .u32 ((be4 y0 y1 y2 y3 : Nat) : Int) ∧ Hid (Ks w w.heap.size gY (.slice (some ⟨gv, 0, none⟩) (j + 1) cap2) (.slice (some ⟨gv, 0, none⟩) (j + 1) cap2) ((kGo 4 (kw0 key 4) (j + 1 - 4)).map wd) w'))
            case first =>
              obtain ⟨r, hr⟩ : ∃ r, (j + 1) % 4 = r := ⟨_, rfl⟩
              have hrI : ((j : Int) + 1) % 4 = (r : Int) := by omega
              have hrT : Int.tmod ((j : Int) + 1) 4 = (r : Int) := by rw [Int.tmod_eq_emod_of_nonneg (by omega)]; exact hrI
              by_cases hr0 : r = 0
              · subst hr0
                have hcon : c = conA ((j + 1) / 4 - 1) := by
                  have := con_less (n := 4) (i := j + 1) (by decide) hjn hr
                  rw [← HC.out, ← this]
                  rfl
                have hyy := HY.out
                rw [kTurn, if_pos hr] at hyy
                simp only [List.cons.injEq, and_true] at hyy
                obtain ⟨q0, q1, q2, q3⟩ := hyy
                have hc1 : xt c = conA ((j + 1) / 4) := by
                  obtain ⟨z, hz⟩ : ∃ z, (j + 1) / 4 = z + 1 := ⟨(j + 1) / 4 - 1, by omega⟩
                  rw [hcon, hz]
                  rfl
                have ex : bits .xor .u32 ((be4 (sb t1) (sb t2) (sb t3) (sb t0) : Nat) : Int) ((c : Int) * 16777216) = ((be4 y0 y1 y2 y3 : Nat) : Int) := by
                  have hbe : (c : Int) * 16777216 = ((be4 c 0 0 0 : Nat) : Int) := by unfold be4; omega
                  rw [hbe, u32_xor_nat _ _ (be4_lt (sb_lt _) (sb_lt _) (sb_lt _) (sb_lt _)) (be4_lt hcl (by decide) (by decide) (by decide)), be4_xor (sb_lt _) (sb_lt _) (sb_lt _) (sb_lt _) hcl (by decide) (by decide) (by decide), Nat.xor_zero, Nat.xor_zero, Nat.xor_zero, ← q0, ← q1, ← q2, ← q3, hcon]
                  rfl
                have HTU := Lib.hid (fun W => turn8_any t0 t1 t2 t3 W b0 b1 b2 b3)
                have HSU := Lib.hid (fun W (h : Blk W gY 94 (kC (.slice (some ⟨gv, 0, none⟩) (j + 1) cap2)).toArray) => sub_any gY _ t1 t2 t3 t0 W h b1 b2 b3 b0)
                clear hr hcon HY q0 q1 q2 q3
                go_wp2_with fail
                (with_reducible refine (HTU.out _).mono ?_); rintro e w5 ⟨rfl, rfl⟩
                go_wp2_with fail
                (with_reducible refine (HSU.out _ HK.out.kk).mono ?_); rintro e w6 ⟨rfl, nd, rfl⟩
                have HK6 := Lib.hid (HK.out.drewN nd)
                go_wp2_with fail
                (with_reducible refine (twice_any _ c _ rfl hcl).mono ?_); rintro e w7 ⟨rfl, rfl⟩
                go_wp2_with fail
                go_meet
                exact ⟨by rw [← hc1], rfl, HK6⟩
              · have hc1 : c = conA ((j + 1) / 4) := by
                  have := con_same (n := 4) (i := j + 1) (by decide) (by omega) (by omega)
                  rw [← HC.out, ← this]
                  rfl
                have hrb : ((r : Int) == 0) = false := by rw [beq_eq_false_iff_ne]; omega
                have hyy := HY.out
                rw [kTurn, if_neg (by omega), if_neg (by omega)] at hyy
                simp only [List.cons.injEq, and_true] at hyy
                obtain ⟨rfl, rfl, rfl, rfl⟩ := hyy
                clear hr HY
                go_wp2_with fail
                go_meet
                exact ⟨by first | rfl | rw [hc1], rfl, HK⟩
            case rest =>
              obtain ⟨rfl, rfl, HK⟩ := hcut
              clear cv ct co
              obtain ⟨wr, rfl⟩ : ∃ wo : World, wo = wc := ⟨_, rfl⟩
              have hws : ((kGo 4 (kw0 key 4) (j + 1 - 4)).map wd)[m]? = some (be4 o0 o1 o2 o3) := HO.out
              obtain ⟨gv', hA, _, hgv2, co, _⟩ := HK.out.own.at_ (i := m) (x := be4 o0 o1 o2 o3) hws
              cases hA
              have cv : wr.cell? ⟨gY, 0, none⟩ = some (.slice (some ⟨gv, 0, none⟩) (j + 1) cap2) := by rw [HK.out.kk.cell]; rfl
              have rv := fun d os => Go.cell_regrown (show wr.drew.cell? ⟨gY, 0, none⟩ = some (.slice (some ⟨gv, 0, none⟩) (j + 1) cap2) from cv) d os
              have ro := fun d os => Go.cell_regrown (show wr.drew.cell? ⟨gv, m, none⟩ = some (.int .u32 ((be4 o0 o1 o2 o3 : Nat) : Int)) from co) d os
              have hmj : m < j + 1 := by omega
              obtain ⟨x, hx⟩ : ∃ x, be4 (y0 ^^^ o0) (y1 ^^^ o1) (y2 ^^^ o2) (y3 ^^^ o3) = x := ⟨_, rfl⟩
              have ex : bits .xor .u32 ((be4 y0 y1 y2 y3 : Nat) : Int) ((be4 o0 o1 o2 o3 : Nat) : Int) = (x : Int) := by
                rw [u32_xor_nat _ _ (be4_lt f0 f1 f2 f3) (be4_lt d0 d1 d2 d3), be4_xor f0 f1 f2 f3 d0 d1 d2 d3, hx]
              have HKW := Lib.hid (show (kGo 4 (kw0 key 4) (j + 1 + 1 - 4)).map wd = (kGo 4 (kw0 key 4) (j + 1 - 4)).map wd ++ [x] by
                rw [HNX.out, List.map_append, ← hx]
                rfl)
              generalize (kGo 4 (kw0 key 4) (j + 1 - 4)).map wd = ws at HK HKW HWL
              clear hx hws HO HNX HY HC hgv2 cv co
              go_wp2_with fail
              refine Rel.wp_region_rel 12 [(121, .any (Rel.Lit8 wr.drew.heap.size 43 [.int .u32 (x : Int)]) Rel.Lit8.soft)] (by kernel_rfl) (by kernel_rfl) ?_
              simp only [List.take_succ_cons, List.take_zero, List.drop_succ_cons, List.drop_zero, Act.put, List.setIfInBounds_toArray, List.set_cons_zero, List.set_cons_succ]
              repeat (refine Rel.tree_quiet rfl rfl rfl (fun K hK => ?_); go_big_quiet_op; refine hK _ ?_; clear hK K)
              refine Rel.tree_rel rfl (Rel.Lit8 wr.drew.heap.size 43 [.int .u32 (x : Int)]) Rel.Lit8.soft rfl (fun W hW _ => ?_) (fun v67 => ?_)
              · unfold Rel.relAt
                go_simp
                exact ⟨Rel.Grow.alloc _ _, Rel.lit8_new [.int .u32 (x : Int)] hW.size⟩
              simp only [Act.put, List.setIfInBounds_toArray, List.set_cons_zero, List.set_cons_succ]
              intro W hW hF
              obtain ⟨g7, rfl, hg7, hg7l, _, hc7⟩ := hF 121
              have HKW2 := Lib.hid (HK.out.old hW.undrew)
              have HC7 := Lib.hid hc7
              have HGY := Lib.hid (show gY + 1 ≤ W.heap.size from HKW2.out.lt)
              clear hF hW rv ro ex hc7
              go_wp2_with (at_builtin; refine wpList_append_own _ rfl (.tmp 111) (.tmp 121) 37 rfl (gY + 1) 43 i0 (.int .u32 0) 1 4 Tryd.underlying37 HI.out HI1.out HI2.out HI3.out rfl (by decide) (.slice (some ⟨gv, 0, none⟩) (j + 1) cap2) _ _ rfl HKW2.out.own ⟨g7, 0, none⟩ 1 1 [.int .u32 (x : Int)] rfl rfl ?c1 ?c2 ?c3 ?c4 HGY.out ?_)
              case c1 =>
                intro j u hu
                rw [Go.WideShapes.add_plain, Nat.zero_add]
                exact HC7.out j u hu
              case c2 => intro u hu; simp at hu; subst hu; rfl
              case c3 => rw [HWL.out]; simp only [maxLen]; omega
              case c4 => rw [HWL.out]; omega
              intro v1 w1 hO1 hg1 _
              have hO2 : Own32 w1 (gY + 1) v1 (ws ++ [x]) := by
                unfold Own32
                rw [List.length_append, List.map_append]
                exact hO1
              have HK1 := Lib.hid (HKW2.out.grown hg1 hO2)
              obtain ⟨g1, c1, hv1, _, _⟩ := own32_some hO2 (by simp)
              obtain ⟨m1, hm1⟩ : ∃ m, (ws ++ [x]).length = m := ⟨_, rfl⟩
              rw [hm1] at hv1
              subst hv1
              clear hm1
              have HK2 := Lib.hid (HK1.out.put)
              rw [← HKW.out] at HK2
              have hcc : w1.cell? ⟨gY, 0, none⟩ = some (.slice (some ⟨gv, 0, none⟩) (j + 1) cap2) := by rw [HK1.out.kk.cell]; rfl
              have hcf : w1.frozen? ⟨gY, 0, none⟩ = false := HK1.out.kk.frozen _
              have hcs : gY < w1.heap.size := HK1.out.kk.lt
              clear hO1 hg1 hO2 HKW2 HK1 HC7 HGY HK
              go_wp2_with fail
              go_light
              go_roundg (40 - (j + 1 + 1 - 4))
              case measure => have := HG.out; omega
              case rel => exact ⟨j + 1, _, by omega, by omega, by go_num, rfl, HK2⟩
          · have hjt2 : j + 1 = 44 := by omega
            obtain rfl : j = 43 := by omega
            have HBX := Lib.hid (fun (i x : Nat) (hx : ((kGo 4 (kw0 key 4) (43 + 1 - 4)).map wd)[i]? = some x) => show x < 4294967296 by
              rw [List.getElem?_map] at hx
              cases hq : (kGo 4 (kw0 key 4) (43 + 1 - 4))[i]? with
              | none => rw [hq] at hx; cases hx
              | some t =>
                rw [hq] at hx
                cases hx
                obtain ⟨q0, q1, q2, q3, rfl, l0, l1, l2, l3⟩ := (HKB.out _ _ (List.mem_of_getElem? hq)).four
                exact be4_lt l0 l1 l2 l3)
            have HSK := Lib.hid (show (Tryd.prog.info? 94).map (·.size) = some (kC (.slice (some ⟨gv, 0, none⟩) (43 + 1) cap2)).toArray.size by rw [List.size_toArray, kC_length]; exact key_info)
            have HZK := Lib.hid (show zK.toArray.size = (kC (.slice (some ⟨gv, 0, none⟩) (43 + 1) cap2)).toArray.size by rw [List.size_toArray, List.size_toArray, kC_length, zK_length])
            have HWD := Lib.hid (show kWords key = kGo 4 (kw0 key 4) (43 + 1 - 4) by rw [kWords, HQ.out])
            clear hlt hjt hjn HG HKB
            go_wp2_with (first | refine wpList_load_row rfl 94 _ rfl gY rfl 94 (kC (.slice (some ⟨gv, 0, none⟩) (43 + 1) cap2)).toArray (0, 0) _ HK.out.kk Tryd.underlying94 rfl HSK.out ?_ | (refine wpList_set_row rfl 94 (.tmp 2) (.tmp 124) rfl w.heap.size (kC (.slice (some ⟨gv, 0, none⟩) (43 + 1) cap2)).toArray rfl rfl 94 zK.toArray HK.out.kr HSK.out HZK.out (kC_one _ _ _) ?_; intro w7 KD F7))
            have hgY : w.heap.size < gY := HK.out.o1
            have hB := HK.out.bel.trans (Frm.below F7.out HK.out.bel.size (fun x hx => by simp at hx; omega))
            go_light
            refine bodyPost_ret (v := .tuple #[.agg (kC (.slice (some ⟨gv, 0, none⟩) (43 + 1) cap2)).toArray, .int .i64 0]) (results_one_slot Tryd.results89 _ _ w.heap.size 94 (kC (.slice (some ⟨gv, 0, none⟩) (43 + 1) cap2)).toArray _ (.int .i64 0) rfl rfl KD.out Tryd.underlying94 rfl HSK.out) rfl ?_
            have hown : Own32 w7 (gY + 1) (.slice (some ⟨gv, 0, none⟩) (43 + 1) cap2) ((kGo 4 (kw0 key 4) (43 + 1 - 4)).map wd) := own_frm HK.out.own F7.out (fun x hx => by simp at hx; omega)
            obtain ⟨A', c', hA', hc', _, hN'⟩ := Own32.form hown HBX.out
            simp only [Value.slice.injEq] at hA'
            obtain ⟨rfl, _, rfl⟩ := hA'
            have hlen : (kWords key).length = 43 + 1 := by rw [HWD.out, kGo_length, kw0_length]
            refine ⟨some ⟨gv, 0, none⟩, cap2, by rw [hlen], by rw [hlen]; exact hvc, by rw [HWD.out]; exact hN', (fun ad h => ?_), hB⟩
            cases h
            have := (World.ownsRow.lt HK.out.own gv rfl).1
            simp only
            omega
  · subst hlen
    go_enter Tryd.func89, Tryd.ntmps89
    go_upto_region 1 with fail
    rw [← zK_eq]
    go_upto_region 5 with fail
    rw [← zK_eq]
    change Code.wp _ _ _ _ ((w.alloc (.cells zK.toArray 94)).alloc (.cells zK.toArray 94))
    rw [← HW.out]
    clear HW
    go_wp2_with fail
    (with_reducible refine (boxes_any _).mono ?_); rintro e w2 ⟨rfl, hB2⟩
    have HK02 := Lib.hid (HK0.out.next hB2 rfl)
    have HK12 := Lib.hid (HK1.out.next hB2 rfl)
    have HB2 := Lib.hid (below_then HB1.out hB2 (Nat.le_refl _))
    clear hB2 HK0 HK1 HB1
    go_upto_region 6 with (first | (refine wpList_store_frm rfl 92 (.tmp 26) (.tmp 24) rfl (w.heap.size + 1) 1 (b8 sbox) rfl rfl 94 zK HK12.out (by rw [b8_size, sbox_len, zK_length]; decide) (HSB.out _ sbox_len) (b8_one _) ?_; intro w3 K3 F3) | (refine wpList_store_frm rfl 92 (.tmp 27) (.tmp 25) rfl (w.heap.size + 1) 257 (b8 ibox) rfl rfl 94 (splice zK 1 (b8 sbox).toList) K3 (by rw [b8_size, ibox_len]; simp [splice, zK_length, sbox_len, b8]) (HSB.out _ ibox_len) (b8_one _) ?_; intro w4 K4 F4))
    have hs2 : splice (splice zK 1 (b8 sbox).toList) 257 (b8 ibox).toList = kC (.slice none 0 0) := by
      have e1 : (b8 sbox).toList = sbox.map fun x => Value.int .u8 ((x : Nat) : Int) := rfl
      have e2 : (b8 ibox).toList = ibox.map fun x => Value.int .u8 ((x : Nat) : Int) := rfl
      rw [e1, e2]
      unfold zK kC
      rw [List.cons_append, splice_box _ _ _ _ (by rw [List.length_map, List.length_replicate]) (by rw [List.length_map, sbox_len]), splice_back _ _ _ _ (by rw [List.length_map, sbox_len]) (by rw [List.length_map, ibox_len]) (by rw [List.length_map, List.length_replicate])]
    rw [hs2] at K4
    have HS := Lib.hid (show Ks w w.heap.size (w.heap.size + 1) (.slice none 0 0) (.slice none 0 0) [] w4 from
      ⟨(HK02.out.frm F3 (by simp)).frm F4 (by simp), K4, World.ownsRow_nil _ _ _ _,
        (HB2.out.trans (Frm.below F3 HB2.out.size (fun x hx => by simp at hx; omega))).trans (Frm.below F4 (by have := F3.size; have := HB2.out.size; omega) (fun x hx => by simp at hx; omega)), Nat.le_refl _, by omega⟩)
    clear hs2 K3 F3 K4 F4 HK02 HK12 HB2 HSB
    generalize w.heap.size + 1 = gY at *
    go_wp2_with fail
    go_loopg [29] 8 (fun g s29 wr => ∃ (i : Nat) (v : Value), i + g = 8 ∧ s29 = .int .i64 (i : Int) ∧ Hid (Ks w w.heap.size gY v v ((kw0 key i).map wd) wr))
    case atStart => exact ⟨0, _, by omega, rfl, HS⟩
    case round =>
      obtain ⟨i, v, hg, rfl, HK⟩ := hrel
      have HG := Lib.hid hg
      have hi : i ≤ 8 := by omega
      clear hg HS
      by_cases hlt : i < 8
      · obtain ⟨a, ha⟩ : ∃ a, key[4 * i]? = some a := ⟨_, List.getElem?_eq_getElem (by have := HL.out; omega)⟩
        obtain ⟨b, hb⟩ : ∃ a, key[4 * i + 1]? = some a := ⟨_, List.getElem?_eq_getElem (by have := HL.out; omega)⟩
        obtain ⟨c, hc⟩ : ∃ a, key[4 * i + 2]? = some a := ⟨_, List.getElem?_eq_getElem (by have := HL.out; omega)⟩
        obtain ⟨d, hd⟩ : ∃ a, key[4 * i + 3]? = some a := ⟨_, List.getElem?_eq_getElem (by have := HL.out; omega)⟩
        have HNB := HN.out.below HK.out.bel
        obtain ⟨hal, kb, off, hA, hkb, ca⟩ := HNB _ _ ha
        subst hA
        obtain ⟨hbl, _, _, hA, _, cb⟩ := HNB _ _ hb
        cases hA
        obtain ⟨hcl, _, _, hA, _, cc⟩ := HNB _ _ hc
        cases hA
        obtain ⟨hdl, _, _, hA, _, cd⟩ := HNB _ _ hd
        cases hA
        have HKW := Lib.hid (show (kw0 key (i + 1)).map wd = (kw0 key i).map wd ++ [be4 a b c d] by
          rw [kw0, List.range_succ, List.map_append, List.map_append]
          have : (key.drop (4 * i)).take 4 = [a, b, c, d] := four_at ha hb hc hd
          simp only [List.map_cons, List.map_nil, this]
          rfl)
        obtain ⟨p, q, x, e1, e2, e3, hx, hxl⟩ := be4_parts hal hbl hcl hdl
        rw [← hx] at HKW
        have HOL := Lib.hid (show ((kw0 key i).map wd).length = i by rw [List.length_map, kw0, List.length_map, List.length_range])
        generalize (kw0 key i).map wd = ws at HK HKW HOL
        have cv : wr.cell? ⟨gY, 0, none⟩ = some v := by rw [HK.out.kk.cell]; rfl
        have r0 := fun d os => Go.cell_regrown (show wr.drew.cell? ⟨kb, off + 4 * i, none⟩ = some (.int .u8 (a : Int)) from ca) d os
        have r1 := fun d os => Go.cell_regrown (show wr.drew.cell? ⟨kb, off + (4 * i + 1), none⟩ = some (.int .u8 (b : Int)) from cb) d os
        have r2 := fun d os => Go.cell_regrown (show wr.drew.cell? ⟨kb, off + (4 * i + 2), none⟩ = some (.int .u8 (c : Int)) from cc) d os
        have r3 := fun dd os => Go.cell_regrown (show wr.drew.cell? ⟨kb, off + (4 * i + 3), none⟩ = some (.int .u8 (d : Int)) from cd) dd os
        have rv := fun d os => Go.cell_regrown (show wr.drew.cell? ⟨gY, 0, none⟩ = some v from cv) d os
        clear ha hb hc hd HNB hx
        go_wp2_with fail
        refine Rel.wp_region_rel 36 [(67, .any (Rel.Lit8 wr.drew.heap.size 43 [.int .u32 (x : Int)]) Rel.Lit8.soft)] (by kernel_rfl) (by kernel_rfl) ?_
        simp only [List.take_succ_cons, List.take_zero, List.drop_succ_cons, List.drop_zero, Act.put, List.setIfInBounds_toArray, List.set_cons_zero, List.set_cons_succ]
        repeat (refine Rel.tree_quiet rfl rfl rfl (fun K hK => ?_); go_big_quiet_op; refine hK _ ?_; clear hK K)
        refine Rel.tree_rel rfl (Rel.Lit8 wr.drew.heap.size 43 [.int .u32 (x : Int)]) Rel.Lit8.soft rfl (fun W hW _ => ?_) (fun v67 => ?_)
        · unfold Rel.relAt
          go_simp
          exact ⟨Rel.Grow.alloc _ _, Rel.lit8_new [.int .u32 (x : Int)] hW.size⟩
        simp only [Act.put, List.setIfInBounds_toArray, List.set_cons_zero, List.set_cons_succ]
        intro W hW hF
        obtain ⟨g7, rfl, hg7, hg7l, _, hc7⟩ := hF 67
        have HKW2 := Lib.hid (HK.out.old hW.undrew)
        have HC7 := Lib.hid hc7
        have HGY := Lib.hid (show gY + 1 ≤ W.heap.size from HKW2.out.lt)
        clear hF hW r0 r1 r2 r3 rv ca cb cc cd cv e1 e2 e3 hc7
        go_wp2_with (at_builtin; refine wpList_append_own _ rfl (.tmp 33) (.tmp 67) 37 rfl (gY + 1) 43 i0 (.int .u32 0) 1 4 Tryd.underlying37 HI.out HI1.out HI2.out HI3.out rfl (by decide) v _ _ rfl HKW2.out.own ⟨g7, 0, none⟩ 1 1 [.int .u32 (x : Int)] rfl rfl ?c1 ?c2 ?c3 ?c4 HGY.out ?_)
        case c1 =>
          intro j u hu
          rw [Go.WideShapes.add_plain, Nat.zero_add]
          exact HC7.out j u hu
        case c2 => intro u hu; simp at hu; subst hu; rfl
        case c3 => rw [HOL.out]; simp only [maxLen]; omega
        case c4 => rw [HOL.out]; omega
        intro v1 w1 hO1 hg1 _
        have hO2 : Own32 w1 (gY + 1) v1 (ws ++ [x]) := by
          unfold Own32
          rw [List.length_append, List.map_append]
          exact hO1
        have HK1 := Lib.hid (HKW2.out.grown hg1 hO2)
        obtain ⟨g1, c1, hv1, _, _⟩ := own32_some hO2 (by simp)
        obtain ⟨m1, hm1⟩ : ∃ m, (ws ++ [x]).length = m := ⟨_, rfl⟩
        rw [hm1] at hv1
        subst hv1
        clear hm1
        have HK2 := Lib.hid (HK1.out.put)
        rw [← HKW.out] at HK2
        have hcc : w1.cell? ⟨gY, 0, none⟩ = some v := by rw [HK1.out.kk.cell]; rfl
        have hcf : w1.frozen? ⟨gY, 0, none⟩ = false := HK1.out.kk.frozen _
        have hcs : gY < w1.heap.size := HK1.out.kk.lt
        clear hO1 hg1 hO2 HKW2 HK1 HC7 HGY HK
        go_wp2_with fail
        go_light
        go_roundg (8 - (i + 1))
        case measure => have := HG.out; omega
        case rel => exact ⟨i + 1, _, by omega, by go_num, HK2⟩
      · have hin : i = 8 := by omega
        subst hin
        rw [show kw0 key 8 = kGo 8 (kw0 key 8) (8 - 8) from rfl] at HK
        have HKB := Lib.hid (fun k => kGo_ok (n := 8) (by decide) (kw0_length key 8) (kw0_ok (by have := HL.out; omega) (fun x hx => by
          obtain ⟨j, hj⟩ := List.mem_iff_getElem?.1 hx
          exact (HN.out j x hj).1)) k)
        clear HN hlt hi HG
        go_wp2_with fail
        go_loopg [7, 8] 52 (fun g s7 s8 wr => ∃ (j : Nat) (v : Value), j + 1 + g = 60 ∧ 8 ≤ j + 1 ∧ s8 = .int .i64 ((j + 1 : Nat) : Int) ∧ s7 = .int .u8 (conA (j / 8) : Int) ∧ Hid (Ks w w.heap.size gY v v ((kGo 8 (kw0 key 8) (j + 1 - 8)).map wd) wr))
        case atStart => exact ⟨7, _, by omega, by omega, rfl, rfl, HK⟩
        case round =>
          obtain ⟨j, v, hg, hjn, rfl, rfl, HK⟩ := hrel
          have HG := Lib.hid hg
          have hjt : j + 1 ≤ 60 := by omega
          clear hg
          have hlen : (kGo 8 (kw0 key 8) (j + 1 - 8)).length = j + 1 := by rw [kGo_length, kw0_length]; omega
          have HLN := Lib.hid hlen
          have HWL := Lib.hid (show ((kGo 8 (kw0 key 8) (j + 1 - 8)).map wd).length = j + 1 by rw [List.length_map, hlen])
          obtain ⟨gv, cap2, hv, hvc, hvm⟩ := own32_some HK.out.own (by rw [HWL.out]; omega)
          rw [HWL.out] at hv hvc
          subst hv
          by_cases hlt : j + 1 < 60
          · obtain ⟨t, ht⟩ : ∃ t, (kGo 8 (kw0 key 8) (j + 1 - 8))[j]? = some t := ⟨_, List.getElem?_eq_getElem (by omega)⟩
            obtain ⟨m, hm⟩ : ∃ m, j + 1 - 8 = m := ⟨_, rfl⟩
            obtain ⟨o, ho⟩ : ∃ o, (kGo 8 (kw0 key 8) (j + 1 - 8))[m]? = some o := ⟨_, List.getElem?_eq_getElem (by omega)⟩
            obtain ⟨t0, t1, t2, t3, rfl, b0, b1, b2, b3⟩ := (HKB.out _ _ (List.mem_of_getElem? ht)).four
            obtain ⟨o0, o1, o2, o3, rfl, d0, d1, d2, d3⟩ := (HKB.out _ _ (List.mem_of_getElem? ho)).four
            obtain ⟨gv', hA, _, _, ct, _⟩ := HK.out.own.at_ (i := j) (x := be4 t0 t1 t2 t3) (by rw [List.getElem?_map, ht]; rfl)
            cases hA
            obtain ⟨gv', hA, _, _, co, _⟩ := HK.out.own.at_ (i := m) (x := be4 o0 o1 o2 o3) (by rw [List.getElem?_map, ho]; rfl)
            cases hA
            obtain ⟨y0, y1, y2, y3, hy, f0, f1, f2, f3⟩ := (kTurn_ok (n := 8) (i := j + 1) (w4_of b0 b1 b2 b3)).four
            have HNX := Lib.hid (show kGo 8 (kw0 key 8) (j + 1 + 1 - 8) = kGo 8 (kw0 key 8) (j + 1 - 8) ++ [xorL [y0, y1, y2, y3] [o0, o1, o2, o3]] by
              have := kGo_next 8 (kw0 key 8) (j + 1 - 8) (t := [t0, t1, t2, t3]) (o := [o0, o1, o2, o3]) (by rw [kw0_length, show 8 + (j + 1 - 8) - 1 = j by omega]; exact ht) (by rw [kw0_length, show 8 + (j + 1 - 8) - 8 = m by omega]; exact ho)
              rw [kw0_length, show 8 + (j + 1 - 8) = j + 1 by omega, hy] at this
              rw [show j + 1 + 1 - 8 = j + 1 - 8 + 1 by omega]
              exact this)
            have HY := Lib.hid hy
            have cv : wr.cell? ⟨gY, 0, none⟩ = some (.slice (some ⟨gv, 0, none⟩) (j + 1) cap2) := by rw [HK.out.kk.cell]; rfl
            obtain ⟨c, hc⟩ : ∃ c, conA (j / 8) = c := ⟨_, rfl⟩
            have hcl : c < 256 := by rw [← hc]; exact conA_lt _
            have HC := Lib.hid hc
            rw [hc]
            have hmI : (j : Int) + 1 - 8 = (m : Int) := by omega
            have hgv : gv < wr.heap.size := cell_lt ct
            have HO := Lib.hid (show ((kGo 8 (kw0 key 8) (j + 1 - 8)).map wd)[m]? = some (be4 o0 o1 o2 o3) by rw [List.getElem?_map, ho]; rfl)
            clear ht ho hy hc hlen
            go_upto_block 4 with fail
            go_cut [7, 9] (fun s7 s9 w' => s7 = .int .u8 (conA ((j + 1) / 8) : Int) ∧ s9 = .int .u32 ((be4 y0 y1 y2 y3 : Nat) : Int) ∧ Hid (Ks w w.heap.size gY (.slice (some ⟨gv, 0, none⟩) (j + 1) cap2) (.slice (some ⟨gv, 0, none⟩) (j + 1) cap2) ((kGo 8 (kw0 key 8) (j + 1 - 8)).map wd) w'))
            case first =>
              obtain ⟨r, hr⟩ : ∃ r, (j + 1) % 8 = r := ⟨_, rfl⟩
              have hrI : ((j : Int) + 1) % 8 = (r : Int) := by omega
              have hrT : Int.tmod ((j : Int) + 1) 8 = (r : Int) := by rw [Int.tmod_eq_emod_of_nonneg (by omega)]; exact hrI
              by_cases hr0 : r = 0
              · subst hr0
                have hcon : c = conA ((j + 1) / 8 - 1) := by
                  have := con_less (n := 8) (i := j + 1) (by decide) hjn hr
                  rw [← HC.out, ← this]
                  rfl
                have hyy := HY.out
                rw [kTurn, if_pos hr] at hyy
                simp only [List.cons.injEq, and_true] at hyy
                obtain ⟨q0, q1, q2, q3⟩ := hyy
                have hc1 : xt c = conA ((j + 1) / 8) := by
                  obtain ⟨z, hz⟩ : ∃ z, (j + 1) / 8 = z + 1 := ⟨(j + 1) / 8 - 1, by omega⟩
                  rw [hcon, hz]
                  rfl
                have ex : bits .xor .u32 ((be4 (sb t1) (sb t2) (sb t3) (sb t0) : Nat) : Int) ((c : Int) * 16777216) = ((be4 y0 y1 y2 y3 : Nat) : Int) := by
                  have hbe : (c : Int) * 16777216 = ((be4 c 0 0 0 : Nat) : Int) := by unfold be4; omega
                  rw [hbe, u32_xor_nat _ _ (be4_lt (sb_lt _) (sb_lt _) (sb_lt _) (sb_lt _)) (be4_lt hcl (by decide) (by decide) (by decide)), be4_xor (sb_lt _) (sb_lt _) (sb_lt _) (sb_lt _) hcl (by decide) (by decide) (by decide), Nat.xor_zero, Nat.xor_zero, Nat.xor_zero, ← q0, ← q1, ← q2, ← q3, hcon]
                  rfl
                have HTU := Lib.hid (fun W => turn8_any t0 t1 t2 t3 W b0 b1 b2 b3)
                have HSU := Lib.hid (fun W (h : Blk W gY 94 (kC (.slice (some ⟨gv, 0, none⟩) (j + 1) cap2)).toArray) => sub_any gY _ t1 t2 t3 t0 W h b1 b2 b3 b0)
                clear hr hcon HY q0 q1 q2 q3
                go_wp2_with fail
                (with_reducible refine (HTU.out _).mono ?_); rintro e w5 ⟨rfl, rfl⟩
                go_wp2_with fail
                (with_reducible refine (HSU.out _ HK.out.kk).mono ?_); rintro e w6 ⟨rfl, nd, rfl⟩
                have HK6 := Lib.hid (HK.out.drewN nd)
                go_wp2_with fail
                (with_reducible refine (twice_any _ c _ rfl hcl).mono ?_); rintro e w7 ⟨rfl, rfl⟩
                go_wp2_with fail
                go_meet
                exact ⟨by rw [← hc1], rfl, HK6⟩
              · have hc1 : c = conA ((j + 1) / 8) := by
                  have := con_same (n := 8) (i := j + 1) (by decide) (by omega) (by omega)
                  rw [← HC.out, ← this]
                  rfl
                have hrb : ((r : Int) == 0) = false := by rw [beq_eq_false_iff_ne]; omega
                by_cases hr4 : r = 4
                · subst hr4
                  have hyy := HY.out
                  rw [kTurn, if_neg (by omega), if_pos (by omega)] at hyy
                  simp only [List.map_cons, List.map_nil, List.cons.injEq, and_true] at hyy
                  obtain ⟨rfl, rfl, rfl, rfl⟩ := hyy
                  have HSU := Lib.hid (fun W (h : Blk W gY 94 (kC (.slice (some ⟨gv, 0, none⟩) (j + 1) cap2)).toArray) => sub_any gY _ t0 t1 t2 t3 W h b0 b1 b2 b3)
                  clear hr HY
                  go_wp2_with fail
                  (with_reducible refine (HSU.out _ HK.out.kk).mono ?_); rintro e w6 ⟨rfl, nd, rfl⟩
                  have HK6 := Lib.hid (HK.out.drewN nd)
                  go_wp2_with fail
                  go_meet
                  exact ⟨by first | rfl | rw [hc1], rfl, HK6⟩
                · have hrb4 : ((r : Int) == 4) = false := by rw [beq_eq_false_iff_ne]; omega
                  have hyy := HY.out
                  rw [kTurn, if_neg (by omega), if_neg (by omega)] at hyy
                  simp only [List.cons.injEq, and_true] at hyy
                  obtain ⟨rfl, rfl, rfl, rfl⟩ := hyy
                  clear hr HY
                  go_wp2_with fail
                  go_meet
                  exact ⟨by first | rfl | rw [hc1], rfl, HK⟩
            case rest =>
              obtain ⟨rfl, rfl, HK⟩ := hcut
              clear cv ct co
              obtain ⟨wr, rfl⟩ : ∃ wo : World, wo = wc := ⟨_, rfl⟩
              have hws : ((kGo 8 (kw0 key 8) (j + 1 - 8)).map wd)[m]? = some (be4 o0 o1 o2 o3) := HO.out
              obtain ⟨gv', hA, _, hgv2, co, _⟩ := HK.out.own.at_ (i := m) (x := be4 o0 o1 o2 o3) hws
              cases hA
              have cv : wr.cell? ⟨gY, 0, none⟩ = some (.slice (some ⟨gv, 0, none⟩) (j + 1) cap2) := by rw [HK.out.kk.cell]; rfl
              have rv := fun d os => Go.cell_regrown (show wr.drew.cell? ⟨gY, 0, none⟩ = some (.slice (some ⟨gv, 0, none⟩) (j + 1) cap2) from cv) d os
              have ro := fun d os => Go.cell_regrown (show wr.drew.cell? ⟨gv, m, none⟩ = some (.int .u32 ((be4 o0 o1 o2 o3 : Nat) : Int)) from co) d os
              have hmj : m < j + 1 := by omega
              obtain ⟨x, hx⟩ : ∃ x, be4 (y0 ^^^ o0) (y1 ^^^ o1) (y2 ^^^ o2) (y3 ^^^ o3) = x := ⟨_, rfl⟩
              have ex : bits .xor .u32 ((be4 y0 y1 y2 y3 : Nat) : Int) ((be4 o0 o1 o2 o3 : Nat) : Int) = (x : Int) := by
                rw [u32_xor_nat _ _ (be4_lt f0 f1 f2 f3) (be4_lt d0 d1 d2 d3), be4_xor f0 f1 f2 f3 d0 d1 d2 d3, hx]
              have HKW := Lib.hid (show (kGo 8 (kw0 key 8) (j + 1 + 1 - 8)).map wd = (kGo 8 (kw0 key 8) (j + 1 - 8)).map wd ++ [x] by
                rw [HNX.out, List.map_append, ← hx]
                rfl)
              generalize (kGo 8 (kw0 key 8) (j + 1 - 8)).map wd = ws at HK HKW HWL
              clear hx hws HO HNX HY HC hgv2 cv co
              go_wp2_with fail
              refine Rel.wp_region_rel 12 [(121, .any (Rel.Lit8 wr.drew.heap.size 43 [.int .u32 (x : Int)]) Rel.Lit8.soft)] (by kernel_rfl) (by kernel_rfl) ?_
              simp only [List.take_succ_cons, List.take_zero, List.drop_succ_cons, List.drop_zero, Act.put, List.setIfInBounds_toArray, List.set_cons_zero, List.set_cons_succ]
              repeat (refine Rel.tree_quiet rfl rfl rfl (fun K hK => ?_); go_big_quiet_op; refine hK _ ?_; clear hK K)
              refine Rel.tree_rel rfl (Rel.Lit8 wr.drew.heap.size 43 [.int .u32 (x : Int)]) Rel.Lit8.soft rfl (fun W hW _ => ?_) (fun v67 => ?_)
              · unfold Rel.relAt
                go_simp
                exact ⟨Rel.Grow.alloc _ _, Rel.lit8_new [.int .u32 (x : Int)] hW.size⟩
              simp only [Act.put, List.setIfInBounds_toArray, List.set_cons_zero, List.set_cons_succ]
              intro W hW hF
              obtain ⟨g7, rfl, hg7, hg7l, _, hc7⟩ := hF 121
              have HKW2 := Lib.hid (HK.out.old hW.undrew)
              have HC7 := Lib.hid hc7
              have HGY := Lib.hid (show gY + 1 ≤ W.heap.size from HKW2.out.lt)
              clear hF hW rv ro ex hc7
              go_wp2_with (at_builtin; refine wpList_append_own _ rfl (.tmp 111) (.tmp 121) 37 rfl (gY + 1) 43 i0 (.int .u32 0) 1 4 Tryd.underlying37 HI.out HI1.out HI2.out HI3.out rfl (by decide) (.slice (some ⟨gv, 0, none⟩) (j + 1) cap2) _ _ rfl HKW2.out.own ⟨g7, 0, none⟩ 1 1 [.int .u32 (x : Int)] rfl rfl ?c1 ?c2 ?c3 ?c4 HGY.out ?_)
              case c1 =>
                intro j u hu
                rw [Go.WideShapes.add_plain, Nat.zero_add]
                exact HC7.out j u hu
              case c2 => intro u hu; simp at hu; subst hu; rfl
              case c3 => rw [HWL.out]; simp only [maxLen]; omega
              case c4 => rw [HWL.out]; omega
              intro v1 w1 hO1 hg1 _
              have hO2 : Own32 w1 (gY + 1) v1 (ws ++ [x]) := by
                unfold Own32
                rw [List.length_append, List.map_append]
                exact hO1
              have HK1 := Lib.hid (HKW2.out.grown hg1 hO2)
              obtain ⟨g1, c1, hv1, _, _⟩ := own32_some hO2 (by simp)
              obtain ⟨m1, hm1⟩ : ∃ m, (ws ++ [x]).length = m := ⟨_, rfl⟩
              rw [hm1] at hv1
              subst hv1
              clear hm1
              have HK2 := Lib.hid (HK1.out.put)
              rw [← HKW.out] at HK2
              have hcc : w1.cell? ⟨gY, 0, none⟩ = some (.slice (some ⟨gv, 0, none⟩) (j + 1) cap2) := by rw [HK1.out.kk.cell]; rfl
              have hcf : w1.frozen? ⟨gY, 0, none⟩ = false := HK1.out.kk.frozen _
              have hcs : gY < w1.heap.size := HK1.out.kk.lt
              clear hO1 hg1 hO2 HKW2 HK1 HC7 HGY HK
              go_wp2_with fail
              go_light
              go_roundg (52 - (j + 1 + 1 - 8))
              case measure => have := HG.out; omega
              case rel => exact ⟨j + 1, _, by omega, by omega, by go_num, rfl, HK2⟩
          · have hjt2 : j + 1 = 60 := by omega
            obtain rfl : j = 59 := by omega
            have HBX := Lib.hid (fun (i x : Nat) (hx : ((kGo 8 (kw0 key 8) (59 + 1 - 8)).map wd)[i]? = some x) => show x < 4294967296 by
              rw [List.getElem?_map] at hx
              cases hq : (kGo 8 (kw0 key 8) (59 + 1 - 8))[i]? with
              | none => rw [hq] at hx; cases hx
              | some t =>
                rw [hq] at hx
                cases hx
                obtain ⟨q0, q1, q2, q3, rfl, l0, l1, l2, l3⟩ := (HKB.out _ _ (List.mem_of_getElem? hq)).four
                exact be4_lt l0 l1 l2 l3)
            have HSK := Lib.hid (show (Tryd.prog.info? 94).map (·.size) = some (kC (.slice (some ⟨gv, 0, none⟩) (59 + 1) cap2)).toArray.size by rw [List.size_toArray, kC_length]; exact key_info)
            have HZK := Lib.hid (show zK.toArray.size = (kC (.slice (some ⟨gv, 0, none⟩) (59 + 1) cap2)).toArray.size by rw [List.size_toArray, List.size_toArray, kC_length, zK_length])
            have HWD := Lib.hid (show kWords key = kGo 8 (kw0 key 8) (59 + 1 - 8) by rw [kWords, HQ.out])
            clear hlt hjt hjn HG HKB
            go_wp2_with (first | refine wpList_load_row rfl 94 _ rfl gY rfl 94 (kC (.slice (some ⟨gv, 0, none⟩) (59 + 1) cap2)).toArray (0, 0) _ HK.out.kk Tryd.underlying94 rfl HSK.out ?_ | (refine wpList_set_row rfl 94 (.tmp 2) (.tmp 124) rfl w.heap.size (kC (.slice (some ⟨gv, 0, none⟩) (59 + 1) cap2)).toArray rfl rfl 94 zK.toArray HK.out.kr HSK.out HZK.out (kC_one _ _ _) ?_; intro w7 KD F7))
            have hgY : w.heap.size < gY := HK.out.o1
            have hB := HK.out.bel.trans (Frm.below F7.out HK.out.bel.size (fun x hx => by simp at hx; omega))
            go_light
            refine bodyPost_ret (v := .tuple #[.agg (kC (.slice (some ⟨gv, 0, none⟩) (59 + 1) cap2)).toArray, .int .i64 0]) (results_one_slot Tryd.results89 _ _ w.heap.size 94 (kC (.slice (some ⟨gv, 0, none⟩) (59 + 1) cap2)).toArray _ (.int .i64 0) rfl rfl KD.out Tryd.underlying94 rfl HSK.out) rfl ?_
            have hown : Own32 w7 (gY + 1) (.slice (some ⟨gv, 0, none⟩) (59 + 1) cap2) ((kGo 8 (kw0 key 8) (59 + 1 - 8)).map wd) := own_frm HK.out.own F7.out (fun x hx => by simp at hx; omega)
            obtain ⟨A', c', hA', hc', _, hN'⟩ := Own32.form hown HBX.out
            simp only [Value.slice.injEq] at hA'
            obtain ⟨rfl, _, rfl⟩ := hA'
            have hlen : (kWords key).length = 59 + 1 := by rw [HWD.out, kGo_length, kw0_length]
            refine ⟨some ⟨gv, 0, none⟩, cap2, by rw [hlen], by rw [hlen]; exact hvc, by rw [HWD.out]; exact hN', (fun ad h => ?_), hB⟩
            cases h
            have := (World.ownsRow.lt HK.out.own gv rfl).1
            simp only
            omega
end Aes
end Go.Proofs.YtpakdcgcgekcfaaDoor

/-
  Package aes: Rounds, add, moved, mixed, Xor.
-/
set_option linter.unusedSimpArgs false
set_option linter.unusedVariables false
namespace Go.Proofs.YtpakdcgcgekcfaaDoor
open Go.RowKit

namespace Aes
open Otp R1 Fuse
theorem blk_info16 : (Tryd.prog.info? 90).map (·.size) = some 16 := by kernel_rfl
set_option maxRecDepth 100000 in
set_option maxHeartbeats 1000000 in
theorem rounds_any (A : Option Addr) (L R c : Nat) (w : World) (hL : (L = 44 ∧ R = 10) ∨ (L = 60 ∧ R = 14) ∨ (L = 0 ∧ R = 0)) :
    Calls Tryd.prog 116 #[.agg (kC (.slice A L c)).toArray] w (fun e w' => e = .returned (.int .i64 (R : Int)) ∧ Below w.heap.size w w') := by
  obtain ⟨w1, hw1⟩ : ∃ W, W = w.alloc (.cells (kC (.slice A L c)).toArray 94) := ⟨_, rfl⟩
  have HB := Lib.hid (show Below w.heap.size w w1 by rw [hw1]; exact (Below.refl _ w).alloc (Nat.le_refl _) _)
  have hK : Blk w1 w.heap.size 94 (kC (.slice A L c)).toArray := by rw [hw1]; exact Blk.new _ _ _
  have hcv : w1.cell? ⟨w.heap.size, 0, none⟩ = some (.slice A L c) := by rw [hK.cell]; rfl
  have hlt := hK.lt
  rcases hL with ⟨rfl, rfl⟩ | ⟨rfl, rfl⟩ | ⟨rfl, rfl⟩
  all_goals
    go_enter Tryd.func116, Tryd.ntmps116
    go_upto_region 1 with fail
    rw [← hw1]
    clear hw1 hK
    go_wp2_with fail
    go_light
    go_ret
    exact ⟨rfl, HB.out⟩
def BkOut (w : World) (l : List Nat) (e : Ending) (w' : World) : Prop := e = .returned (.agg (b8 l)) ∧ Below w.heap.size w w'
theorem be4_bytes {a b c d : Nat} (ha : a < 256) (hb : b < 256) (hc : c < 256) (hd : d < 256) :
    IntKind.u8.wrap (((be4 a b c d : Nat) : Int) / 16777216) = (a : Int) ∧ IntKind.u8.wrap (((be4 a b c d : Nat) : Int) / 65536) = (b : Int) ∧ IntKind.u8.wrap (((be4 a b c d : Nat) : Int) / 256) = (c : Int) ∧ IntKind.u8.wrap ((be4 a b c d : Nat) : Int) = (d : Int) := by
  simp only [IntKind.wrap_u8]
  unfold be4
  omega
/-- A round's words. -/
theorem round_word {key : List Nat} (hk : ∀ t ∈ kWords key, W4 t) {r i : Nat} (hr : 4 * r + 4 ≤ (kWords key).length) (hi : i < 4) :
    ∃ a b c d, (kWords key)[4 * r + i]? = some [a, b, c, d] ∧ a < 256 ∧ b < 256 ∧ c < 256 ∧ d < 256 ∧ (kRound key r)[4 * i]? = some a ∧ (kRound key r)[4 * i + 1]? = some b ∧ (kRound key r)[4 * i + 2]? = some c ∧ (kRound key r)[4 * i + 3]? = some d := by
  have g : ∀ j, j < 4 → ∃ a b c d, (kWords key)[4 * r + j]? = some [a, b, c, d] ∧ a < 256 ∧ b < 256 ∧ c < 256 ∧ d < 256 := fun j hj => by
    have hlt : 4 * r + j < (kWords key).length := by omega
    obtain ⟨a, b, c, d, e, h⟩ := (hk _ (List.getElem_mem hlt)).four
    exact ⟨a, b, c, d, by rw [List.getElem?_eq_getElem hlt, e], h⟩
  obtain ⟨a0, b0, c0, d0, h0, l0⟩ := g 0 (by decide)
  obtain ⟨a1, b1, c1, d1, h1, l1⟩ := g 1 (by decide)
  obtain ⟨a2, b2, c2, d2, h2, l2⟩ := g 2 (by decide)
  obtain ⟨a3, b3, c3, d3, h3, l3⟩ := g 3 (by decide)
  have hR : kRound key r = [a0, b0, c0, d0, a1, b1, c1, d1, a2, b2, c2, d2, a3, b3, c3, d3] := by
    have : ((kWords key).drop (4 * r)).take 4 = [[a0, b0, c0, d0], [a1, b1, c1, d1], [a2, b2, c2, d2], [a3, b3, c3, d3]] := by
      apply List.ext_getElem?
      intro j
      rw [List.getElem?_take, List.getElem?_drop]
      match j with
      | 0 => simpa using h0
      | 1 => simpa using h1
      | 2 => simpa using h2
      | 3 => simpa using h3
      | j + 4 => rw [if_neg (by omega)]; rfl
    rw [kRound, this]
    rfl
  rw [hR]
  rcases (show i = 0 ∨ i = 1 ∨ i = 2 ∨ i = 3 by omega) with h | h | h | h <;> subst h
  · exact ⟨a0, b0, c0, d0, h0, l0.1, l0.2.1, l0.2.2.1, l0.2.2.2, rfl, rfl, rfl, rfl⟩
  · exact ⟨a1, b1, c1, d1, h1, l1.1, l1.2.1, l1.2.2.1, l1.2.2.2, rfl, rfl, rfl, rfl⟩
  · exact ⟨a2, b2, c2, d2, h2, l2.1, l2.2.1, l2.2.2.1, l2.2.2.2, rfl, rfl, rfl, rfl⟩
  · exact ⟨a3, b3, c3, d3, h3, l3.1, l3.2.1, l3.2.2.1, l3.2.2.2, rfl, rfl, rfl, rfl⟩
/-- A block under way (at gB), a block for the result (at gR), since a world W. -/
structure Ab (W : World) (gB gR : Nat) (cur : List Nat) (w : World) : Prop where
  kb : Blk w gB 90 (b8 cur)
  kr : Blk w gR 90 (b8 (List.replicate 16 0))
  bel : Below W.heap.size W w
  o1 : W.heap.size ≤ gB
  o2 : W.heap.size ≤ gR
  ne : gR ≠ gB
section
variable {W w w' : World} {gB gR : Nat} {cur : List Nat}
theorem Ab.old (h : Ab W gB gR cur w) (hb : Below w.heap.size w w') : Ab W gB gR cur w' := ⟨h.kb.next hb rfl, h.kr.next hb rfl, below_then h.bel hb (Nat.le_refl _), h.o1, h.o2, h.ne⟩
theorem Ab.set (h : Ab W gB gR cur w) (i y : Nat) : Ab W gB gR (cur.set i y) (w.setCell ⟨gB, i, none⟩ (.int .u8 (y : Int))) := by
  have o1 := h.o1
  refine ⟨?_, h.kr.far' gB i h.ne _, h.bel.setCell (p := ⟨gB, i, none⟩) (by simp only; omega) _, o1, h.o2, h.ne⟩
  rw [← b8_put]
  exact h.kb.set _ _
theorem Ab.cell (h : Ab W gB gR cur w) {i x : Nat} (hx : cur[i]? = some x) : w.cell? ⟨gB, i, none⟩ = some (.int .u8 (x : Int)) := by
  rw [h.kb.cell]
  exact b8_at hx
theorem Ab.put {i : Nat} {x y : Nat} (h : Ab W gB gR cur w) (hx : cur[i]? = some x) : w.cell? ⟨gB, i, none⟩ = some (.int .u8 (x : Int)) ∧ w.frozen? ⟨gB, i, none⟩ = false ∧ gB < w.heap.size ∧ Hid (Ab W gB gR (cur.set i y) (w.setCell ⟨gB, i, none⟩ (.int .u8 (y : Int)))) :=
  ⟨h.cell hx, h.kb.frozen _, h.kb.lt, Lib.hid (h.set i y)⟩
end
theorem xorL_at {a b : List Nat} {j x y : Nat} (hx : a[j]? = some x) (hy : b[j]? = some y) : (xorL a b)[j]? = some (x ^^^ y) := by
  rw [xorL, List.getElem?_zipWith, hx, hy]
set_option maxRecDepth 100000 in
set_option maxHeartbeats 4000000 in
theorem add_any (key : List Nat) (A : Option Addr) (L c : Nat) (b : List Nat) (ri : Int) (r : Nat) (w : World) (hri : ri = r) (hk : ∀ t ∈ kWords key, W4 t) (hL : (kWords key).length = L) (hc : L ≤ c) (hcm : L ≤ 1000) (hr : 4 * r + 4 ≤ L)
    (hz : Nats .u32 4294967296 w w.heap.size A ((kWords key).map wd)) (hb : b.length = 16) (hbb : ∀ x ∈ b, x < 256) :
    Calls Tryd.prog 117 #[.agg (kC (.slice A L c)).toArray, .agg (b8 b), .int .i64 ri] w (BkOut w (xorL b (kRound key r))) := by
  subst hri
  obtain ⟨w1, hw1⟩ : ∃ W, W = ((w.alloc (.cells (kC (.slice A L c)).toArray 94)).alloc (.cells (b8 b) 90)).alloc (.cells (b8 (List.replicate 16 0)) 90) := ⟨_, rfl⟩
  have HW := Lib.hid hw1
  have HB1 := Lib.hid (show Below w.heap.size w w1 by rw [hw1]; exact (((Below.refl _ w).alloc (Nat.le_refl _) _).alloc (by simp) _).alloc (by simp; omega) _)
  have HK := Lib.hid (show Blk w1 w.heap.size 94 (kC (.slice A L c)).toArray by rw [hw1]; exact ((Blk.new _ _ _).alloc _).alloc _)
  have HBb := Lib.hid (show Blk w1 (w.heap.size + 1) 90 (b8 b) by rw [hw1]; exact (blk_new' (by simp)).alloc _)
  have HR := Lib.hid (show Blk w1 (w.heap.size + 1 + 1) 90 (b8 (List.replicate 16 0)) by rw [hw1]; exact blk_new' (by simp))
  clear hw1
  have hcv : w1.cell? ⟨w.heap.size, 0, none⟩ = some (.slice A L c) := by rw [HK.out.cell]; rfl
  have hlt := HK.out.lt
  have hsl := run_slice_lh1 (P := Tryd.prog) 37 43 Tryd.underlying37 (fun _ => by kernel_rfl) A L c (4 * r) (4 * r + 4) .i64 .i64 (4 * (r : Int)) (4 * (r : Int) + 4) (by omega) (by omega) (by omega) (by omega)
  rw [show 4 * r + 4 - 4 * r = 4 by omega] at hsl
  have hN := nats_slA (i := 4 * r) (cap := c) hz (by rw [List.length_map, hL]; exact hc)
  obtain ⟨A2, hA2⟩ : ∃ x, slA A (4 * r) c = x := ⟨_, rfl⟩
  obtain ⟨c2, hc2⟩ : ∃ x, c - 4 * r = x := ⟨_, rfl⟩
  rw [hA2, hc2] at hsl
  rw [hA2] at hN
  have HN := Lib.hid hN
  have HKW := Lib.hid hk
  have HKL := Lib.hid (show 4 * r + 4 ≤ (kWords key).length by rw [hL]; exact hr)
  have HBL := Lib.hid hb
  have HBY := Lib.hid hbb
  obtain ⟨X, hX⟩ : ∃ X, xorL b (kRound key r) = X := ⟨_, rfl⟩
  have HX := Lib.hid hX
  rw [hX]
  have hr1000 : r ≤ 1000 := by omega
  clear hA2 hc2 hN hz hk hL hb hbb hX hr
  go_enter Tryd.func117, Tryd.ntmps117
  go_upto_region 1 with fail
  change Code.wp _ _ _ _ (((w.alloc (.cells (kC (.slice A L c)).toArray 94)).alloc (.cells (b8 b) 90)).alloc (.cells (b8 (List.replicate 16 0)) 90))
  rw [← HW.out]
  clear HW
  obtain ⟨gR, hgR⟩ : ∃ x, x = w.heap.size + 1 + 1 := ⟨_, rfl⟩
  rw [← hgR] at HR
  rw [← hgR]
  obtain ⟨gB, hgB⟩ : ∃ x, x = w.heap.size + 1 := ⟨_, rfl⟩
  rw [← hgB] at HBb
  rw [← hgB]
  go_wp2_with fail
  have HA := Lib.hid (show Ab w gB gR b w1 from ⟨HBb.out, HR.out, HB1.out, by omega, by omega, by omega⟩)
  go_loopg [18] 4 (fun g s18 wr => ∃ (i : Nat) (cur : List Nat), i + g = 4 ∧ s18 = .int .i64 (i : Int) ∧ Hid (cur.length = 16) ∧ Hid (∀ j, cur[j]? = if j < 4 * i then X[j]? else b[j]?) ∧ Hid (Ab w gB gR cur wr))
  case atStart => exact ⟨0, b, by omega, rfl, HBL, Lib.hid (fun j => by simp), HA⟩
  case round =>
    clear hsl hcv hlt HBb HR HB1 HK HA hgB hgR
    obtain ⟨i, cur, hg, rfl, HCL, HC, HA⟩ := hrel
    have HG := Lib.hid hg
    have hi : i ≤ 4 := by omega
    clear hg
    by_cases hlt : i < 4
    · obtain ⟨k0, k1, k2, k3, hkw, l0, l1, l2, l3, r0, r1, r2, r3⟩ := round_word HKW.out HKL.out hlt
      obtain ⟨_, kb, off, hA, hkb, cw⟩ := (HN.out.below HA.out.bel) i (be4 k0 k1 k2 k3) (by rw [List.getElem?_drop, List.getElem?_map, hkw]; rfl)
      subst hA
      obtain ⟨m0, m1, m2, m3⟩ := be4_bytes l0 l1 l2 l3
      have g : ∀ k, k < 4 → ∃ x, b[4 * i + k]? = some x ∧ x < 256 ∧ cur[4 * i + k]? = some x := fun k hk => by
        have hj : 4 * i + k < b.length := by rw [HBL.out]; omega
        refine ⟨b[4 * i + k], List.getElem?_eq_getElem hj, HBY.out _ (List.getElem_mem hj), ?_⟩
        rw [HC.out, if_neg (by omega), List.getElem?_eq_getElem hj]
      obtain ⟨x0, hx0, n0, cx0⟩ := g 0 (by decide)
      obtain ⟨x1, hx1, n1, cx1⟩ := g 1 (by decide)
      obtain ⟨x2, hx2, n2, cx2⟩ := g 2 (by decide)
      obtain ⟨x3, hx3, n3, cx3⟩ := g 3 (by decide)
      rw [Nat.add_zero] at hx0 cx0
      obtain ⟨y0, hy0⟩ : ∃ y, x0 ^^^ k0 = y := ⟨_, rfl⟩
      obtain ⟨y1, hy1⟩ : ∃ y, x1 ^^^ k1 = y := ⟨_, rfl⟩
      obtain ⟨y2, hy2⟩ : ∃ y, x2 ^^^ k2 = y := ⟨_, rfl⟩
      obtain ⟨y3, hy3⟩ : ∃ y, x3 ^^^ k3 = y := ⟨_, rfl⟩
      have q0 : X[4 * i]? = some y0 := by rw [← HX.out, ← hy0]; exact xorL_at hx0 r0
      have q1 : X[4 * i + 1]? = some y1 := by rw [← HX.out, ← hy1]; exact xorL_at hx1 r1
      have q2 : X[4 * i + 2]? = some y2 := by rw [← HX.out, ← hy2]; exact xorL_at hx2 r2
      have q3 : X[4 * i + 3]? = some y3 := by rw [← HX.out, ← hy3]; exact xorL_at hx3 r3
      have e0 : bits .xor .u8 (x0 : Int) (k0 : Int) = (y0 : Int) := by rw [u8_xor_nat _ _ n0 l0, hy0]
      have e1 : bits .xor .u8 (x1 : Int) (k1 : Int) = (y1 : Int) := by rw [u8_xor_nat _ _ n1 l1, hy1]
      have e2 : bits .xor .u8 (x2 : Int) (k2 : Int) = (y2 : Int) := by rw [u8_xor_nat _ _ n2 l2, hy2]
      have e3 : bits .xor .u8 (x3 : Int) (k3 : Int) = (y3 : Int) := by rw [u8_xor_nat _ _ n3 l3, hy3]
      have HC2 := Lib.hid (show ∀ j, ((((cur.set (4 * i) y0).set (4 * i + 1) y1).set (4 * i + 2) y2).set (4 * i + 3) y3)[j]? = if j < 4 * (i + 1) then X[j]? else b[j]? from fun j => by
        have hcl := HCL.out
        simp only [List.getElem?_set, List.length_set, hcl]
        by_cases j3 : 4 * i + 3 = j
        · subst j3; rw [if_pos rfl, if_pos (by omega), if_pos (by omega), q3]
        rw [if_neg j3]
        by_cases j2 : 4 * i + 2 = j
        · subst j2; rw [if_pos rfl, if_pos (by omega), if_pos (by omega), q2]
        rw [if_neg j2]
        by_cases j1 : 4 * i + 1 = j
        · subst j1; rw [if_pos rfl, if_pos (by omega), if_pos (by omega), q1]
        rw [if_neg j1]
        by_cases j0 : 4 * i = j
        · subst j0; rw [if_pos rfl, if_pos (by omega), if_pos (by omega), q0]
        rw [if_neg j0, HC.out j]
        by_cases hj : j < 4 * i
        · rw [if_pos hj, if_pos (by omega)]
        · rw [if_neg hj, if_neg (by omega)])
      have P1 := Lib.hid (show (cur.set (4 * i) y0)[4 * i + 1]? = some x1 by rw [List.getElem?_set_ne (by omega)]; exact cx1)
      have P2 := Lib.hid (show ((cur.set (4 * i) y0).set (4 * i + 1) y1)[4 * i + 2]? = some x2 by rw [List.getElem?_set_ne (by omega), List.getElem?_set_ne (by omega)]; exact cx2)
      have P3 := Lib.hid (show (((cur.set (4 * i) y0).set (4 * i + 1) y1).set (4 * i + 2) y2)[4 * i + 3]? = some x3 by rw [List.getElem?_set_ne (by omega), List.getElem?_set_ne (by omega), List.getElem?_set_ne (by omega)]; exact cx3)
      have HCL2 := Lib.hid (show ((((cur.set (4 * i) y0).set (4 * i + 1) y1).set (4 * i + 2) y2).set (4 * i + 3) y3).length = 16 by simp only [List.length_set]; exact HCL.out)
      have i0 : 4 * (i : Int) < 16 := by omega
      have i1 : 4 * (i : Int) + 1 < 16 := by omega
      have i2 : 4 * (i : Int) + 2 < 16 := by omega
      have i3 : 4 * (i : Int) + 3 < 16 := by omega
      obtain ⟨cc, cf, cs, HA1⟩ := HA.out.put (y := y0) cx0
      clear hkw hx0 hx1 hx2 hx3 cx0 cx1 cx2 cx3 hy0 hy1 hy2 hy3 q0 q1 q2 q3 g r0 r1 r2 r3 HC HA HCL HX HN HKL HKW HBY HBL
      go_upto_region 5 with fail
      change Code.wp _ _ _ _ (wr.setCell ⟨gB, 4 * i, none⟩ (.int .u8 (y0 : Int)))
      generalize wr.setCell ⟨gB, 4 * i, none⟩ (.int .u8 (y0 : Int)) = w5 at *
      clear cc cf cs cw
      obtain ⟨cc, cf, cs, HA2⟩ := HA1.out.put (y := y1) P1.out
      clear HA1 P1
      go_upto_region 6 with fail
      change Code.wp _ _ _ _ (w5.setCell ⟨gB, 4 * i + 1, none⟩ (.int .u8 (y1 : Int)))
      generalize w5.setCell ⟨gB, 4 * i + 1, none⟩ (.int .u8 (y1 : Int)) = w6 at *
      clear cc cf cs
      obtain ⟨cc, cf, cs, HA3⟩ := HA2.out.put (y := y2) P2.out
      clear HA2 P2
      go_upto_region 7 with fail
      change Code.wp _ _ _ _ (w6.setCell ⟨gB, 4 * i + 2, none⟩ (.int .u8 (y2 : Int)))
      generalize w6.setCell ⟨gB, 4 * i + 2, none⟩ (.int .u8 (y2 : Int)) = w7 at *
      clear cc cf cs
      obtain ⟨cc, cf, cs, HA4⟩ := HA3.out.put (y := y3) P3.out
      clear HA3 P3
      go_wp2_with fail
      go_light
      go_roundg (4 - (i + 1))
      case measure => have := HG.out; omega
      case rel => exact ⟨i + 1, _, by omega, by go_num, HCL2, HC2, HA4⟩
    · have h4 : i = 4 := by omega
      subst h4
      have hcur : cur = X := by
        apply List.ext_getElem?
        intro j
        rw [HC.out j]
        by_cases hj : j < 4 * 4
        · rw [if_pos hj]
        · rw [if_neg hj, List.getElem?_eq_none (by rw [HBL.out]; omega), List.getElem?_eq_none (by rw [← HX.out, xorL, List.length_zipWith, HBL.out]; omega)]
      subst hcur
      have HSZ := Lib.hid (show (Tryd.prog.info? 90).map (·.size) = some (b8 cur).size by rw [b8_size, HCL.out]; exact blk_info16)
      have HZZ := Lib.hid (show (b8 (List.replicate 16 0)).size = (b8 cur).size by rw [b8_size, b8_size, HCL.out]; rfl)
      have o2 := HA.out.o2
      go_wp2_with (first | refine wpList_load_row rfl 90 _ rfl gB rfl 90 (b8 cur) (0, 0) _ HA.out.kb Tryd.underlying90 rfl HSZ.out ?_ | (refine wpList_new_row rfl 90 (.tmp 6) (.tmp 62) rfl gR (b8 cur) rfl rfl 90 (b8 (List.replicate 16 0)) HA.out.kr HSZ.out HZZ.out (b8_one _) w.heap.size w HA.out.bel o2 ?_; intro w7 KD B7))
      go_light
      exact bodyPost_ret (v := .agg (b8 cur)) (results_cell_row Tryd.results117 _ _ gR 90 (b8 cur) (0, 0) _ rfl KD.out Tryd.underlying90 rfl HSZ.out) rfl ⟨rfl, B7.out⟩
end Aes
end Go.Proofs.YtpakdcgcgekcfaaDoor

/-
  Package aes: moved, mixed, Xor.
-/
set_option linter.unusedSimpArgs false
set_option linter.unusedVariables false
namespace Go.Proofs.YtpakdcgcgekcfaaDoor
open Go.RowKit

namespace Aes
open Otp R1 Fuse
def z16 : List Nat := List.replicate 16 0
def shiftW (f : Nat → Nat) (s : Nat) (b : List Nat) : List Nat := (List.range 16).map fun i => f (at0 b ((i + s * (i % 4)) % 16))
theorem shiftW_at (f : Nat → Nat) (s : Nat) (b : List Nat) {i : Nat} (hi : i < 16) : (shiftW f s b)[i]? = some (f (at0 b ((i + s * (i % 4)) % 16))) := by
  rw [shiftW, List.getElem?_map, List.getElem?_range hi]
  rfl
theorem at0_get {b : List Nat} {i : Nat} (hi : i < b.length) : b[i]? = some (at0 b i) := by
  rw [at0, List.getElem?_eq_getElem hi]
  rfl
/-- Where a block is filled from its head on. -/
theorem fill_next {cur X old : List Nat} {i x : Nat} (hl : cur.length = 16) (hi : i < 16) (hc : ∀ j, cur[j]? = if j < i then X[j]? else old[j]?) (hx : X[i]? = some x) : ∀ j, (cur.set i x)[j]? = if j < i + 1 then X[j]? else old[j]? := fun j => by
  rw [List.getElem?_set]
  by_cases h : i = j
  · subst h
    rw [if_pos rfl, if_pos (by omega), if_pos (by omega), hx]
  · rw [if_neg h, hc j]
    by_cases hj : j < i
    · rw [if_pos hj, if_pos (by omega)]
    · rw [if_neg hj, if_neg (by omega)]
theorem fill_end {cur X old : List Nat} (hX : X.length = 16) (ho : old.length = 16) (hc : ∀ j, cur[j]? = if j < 16 then X[j]? else old[j]?) : cur = X := by
  apply List.ext_getElem?
  intro j
  rw [hc j]
  by_cases hj : j < 16
  · rw [if_pos hj]
  · rw [if_neg hj, List.getElem?_eq_none (by omega), List.getElem?_eq_none (by omega)]
theorem and15 : ∀ i : Fin 16, bits .and .i64 (((i.val : Nat) : Int) + 4 * (((i.val : Nat) : Int) % 4)) 15 = (((i.val + 4 * (i.val % 4)) % 16 : Nat) : Int) ∧ bits .and .i64 (((i.val : Nat) : Int) + -4 * (((i.val : Nat) : Int) % 4)) 15 = (((i.val + 12 * (i.val % 4)) % 16 : Nat) : Int) := by decide +kernel
set_option maxRecDepth 100000 in
set_option maxHeartbeats 2000000 in
theorem moved_any (g o s : Nat) (by1 : Int) (f : Nat → Nat) (b : List Nat) (w : World) (hs : (by1 = 1 ∧ s = 4) ∨ (by1 = -1 ∧ s = 12)) (hf : ∀ x, x < 256 → w.cell? ⟨g, o + x, none⟩ = some (.int .u8 (f x : Int))) (hfl : ∀ x, f x < 256) (hg : g < w.heap.size)
    (hb : b.length = 16) (hbb : ∀ x ∈ b, x < 256) : Calls Tryd.prog 119 #[.agg (b8 b), .pointer (some ⟨g, o, none⟩), .int .i64 by1] w (BkOut w (shiftW f s b)) := by
  obtain ⟨w1, hw1⟩ : ∃ W, W = ((w.alloc (.cells (b8 b) 90)).alloc (.cells (b8 z16) 90)).alloc (.cells (b8 z16) 90) := ⟨_, rfl⟩
  have HW := Lib.hid hw1
  have HB1 := Lib.hid (show Below w.heap.size w w1 by rw [hw1]; exact (((Below.refl _ w).alloc (Nat.le_refl _) _).alloc (by simp) _).alloc (by simp; omega) _)
  have HK := Lib.hid (show Blk w1 w.heap.size 90 (b8 b) by rw [hw1]; exact ((Blk.new _ _ _).alloc _).alloc _)
  have HR := Lib.hid (show Blk w1 (w.heap.size + 1) 90 (b8 z16) by rw [hw1]; exact (blk_new' (by simp)).alloc _)
  have HO := Lib.hid (show Blk w1 (w.heap.size + 1 + 1) 90 (b8 z16) by rw [hw1]; exact blk_new' (by simp))
  obtain ⟨X, hX⟩ : ∃ X, shiftW f s b = X := ⟨_, rfl⟩
  have HX := Lib.hid hX
  have HXL := Lib.hid (show X.length = 16 by rw [← hX, shiftW, List.length_map, List.length_range])
  rw [hX]
  have HF := Lib.hid hf
  have HBL := Lib.hid hb
  have HBY := Lib.hid hbb
  clear hw1 hX hf hb hbb
  rcases hs with ⟨rfl, rfl⟩ | ⟨rfl, rfl⟩
  · go_enter Tryd.func119, Tryd.ntmps119
    go_upto_region 2 with fail
    change Code.wp _ _ _ _ (((w.alloc (.cells (b8 b) 90)).alloc (.cells (b8 z16) 90)).alloc (.cells (b8 z16) 90))
    rw [← HW.out]
    clear HW
    obtain ⟨gO, hgO⟩ : ∃ x, x = w.heap.size + 1 + 1 := ⟨_, rfl⟩
    rw [← hgO] at HO
    rw [← hgO]
    obtain ⟨gR, hgR⟩ : ∃ x, x = w.heap.size + 1 := ⟨_, rfl⟩
    rw [← hgR] at HR
    rw [← hgR]
    have HA := Lib.hid (show Ab w gO gR z16 w1 from ⟨HO.out, HR.out, HB1.out, by omega, by omega, by omega⟩)
    have hO1 : w.heap.size < gO := by omega
    clear hgO hgR
    go_wp2_with fail
    go_loopg [10] 16 (fun gm s10 wr => ∃ (i : Nat) (cur : List Nat), i + gm = 16 ∧ s10 = .int .i64 (i : Int) ∧ Hid (cur.length = 16) ∧ Hid (∀ j, cur[j]? = if j < i then X[j]? else z16[j]?) ∧ Hid (Ab w gO gR cur wr) ∧ Hid (Blk wr w.heap.size 90 (b8 b)))
    case atStart => exact ⟨0, z16, by omega, rfl, Lib.hid rfl, Lib.hid (fun j => by simp), HA, HK⟩
    case round =>
      clear HR HB1 HK HA HO
      obtain ⟨i, cur, hg, rfl, HCL, HC, HA, HK⟩ := hrel
      have HG := Lib.hid hg
      have hi : i ≤ 16 := by omega
      clear hg
      by_cases hlt : i < 16
      · have a15 := (and15 ⟨i, hlt⟩).1
        simp only at a15
        obtain ⟨m, hm⟩ : ∃ m, (i + 4 * (i % 4)) % 16 = m := ⟨_, rfl⟩
        rw [hm] at a15
        have hm16 : m < 16 := by omega
        have hxb := at0_get (b := b) (i := m) (by rw [HBL.out]; exact hm16)
        obtain ⟨x, hx⟩ : ∃ x, at0 b m = x := ⟨_, rfl⟩
        rw [hx] at hxb
        have hx8 : x < 256 := HBY.out x (List.mem_of_getElem? hxb)
        obtain ⟨y, hy⟩ : ∃ y, f x = y := ⟨_, rfl⟩
        have hXi : X[i]? = some y := by
          have := shiftW_at f 4 b hlt
          rw [HX.out, hm, hx, hy] at this
          exact this
        have hcf := HF.out x hx8
        rw [hy] at hcf
        have hcf2 : wr.cell? ⟨g, o + x, none⟩ = some (.int .u8 (y : Int)) := (HA.out.bel.cell (p := ⟨g, o + x, none⟩) hg).trans hcf
        have hcb : wr.cell? ⟨w.heap.size, m, none⟩ = some (.int .u8 (x : Int)) := by rw [HK.out.cell]; exact b8_at hxb
        have r0 := fun d os => Go.cell_regrown (show wr.drew.cell? ⟨g, o + x, none⟩ = some (.int .u8 (y : Int)) from hcf2) d os
        have r1 := fun d os => Go.cell_regrown (show wr.drew.cell? ⟨w.heap.size, m, none⟩ = some (.int .u8 (x : Int)) from hcb) d os
        have hcur : cur[i]? = some 0 := by
          rw [HC.out i, if_neg (by omega), z16, List.getElem?_replicate, if_pos hlt]
        have HC2 := Lib.hid (fill_next HCL.out hlt HC.out hXi)
        have HCL2 := Lib.hid (show (cur.set i y).length = 16 by rw [List.length_set]; exact HCL.out)
        have i16 : (i : Int) < 16 := by omega
        have m16 : (m : Int) < 16 := by omega
        have x256 : (x : Int) < 256 := by omega
        clear hm hxb hx hy hXi hcf hcf2 hcb HC HCL
        go_wp2_with fail
        refine Rel.wp_region_rel 15 [(26, .const (.pointer (some ⟨g, o, none⟩)))] (by kernel_rfl) (by kernel_rfl) ?_
        simp only [List.take_succ_cons, List.take_zero, List.drop_succ_cons, List.drop_zero, Act.put, List.setIfInBounds_toArray, List.set_cons_zero, List.set_cons_succ]
        repeat (refine Rel.tree_quiet rfl rfl rfl (fun K hK => ?_); go_big_quiet_op; refine hK _ ?_; clear hK K)
        refine Rel.tree_const rfl (.pointer (some ⟨g, o, none⟩)) rfl (fun W hW _ => ?_) ?_
        · unfold Rel.relAt; go_simp; exact ⟨Rel.Grow.refl _, rfl⟩
        simp only [Act.put, List.setIfInBounds_toArray, List.set_cons_zero, List.set_cons_succ]
        repeat (refine Rel.tree_quiet rfl rfl rfl (fun K hK => ?_); go_big_quiet_op; refine hK _ ?_; clear hK K)
        intro W hW _
        have HAW := Lib.hid (HA.out.old hW.undrew)
        have HKW := Lib.hid (HK.out.next hW.undrew rfl)
        obtain ⟨cc, cf, cs, HA2⟩ := HAW.out.put (y := y) hcur
        have HK2 := Lib.hid (HKW.out.far' gO i (by omega) (.int .u8 (y : Int)))
        clear hW r0 r1 HA HK HAW HKW hcur
        go_wp2_with fail
        go_light
        go_roundg (16 - (i + 1))
        case measure => have := HG.out; omega
        case rel => exact ⟨i + 1, _, by omega, by go_num, HCL2, HC2, HA2, HK2⟩
      · have h16 : i = 16 := by omega
        subst h16
        have hcur := fill_end HXL.out (by rfl) HC.out
        subst hcur
        have HSZ := Lib.hid (show (Tryd.prog.info? 90).map (·.size) = some (b8 cur).size by rw [b8_size, HCL.out]; exact blk_info16)
        have HZZ := Lib.hid (show (b8 (List.replicate 16 0)).size = (b8 cur).size by rw [b8_size, b8_size, HCL.out]; rfl)
        have o2 := HA.out.o2
        go_wp2_with (first | refine wpList_load_row rfl 90 _ rfl gO rfl 90 (b8 cur) (0, 0) _ HA.out.kb Tryd.underlying90 rfl HSZ.out ?_ | (refine wpList_new_row rfl 90 (.tmp 6) (.tmp 31) rfl gR (b8 cur) rfl rfl 90 (b8 (List.replicate 16 0)) HA.out.kr HSZ.out HZZ.out (b8_one _) w.heap.size w HA.out.bel o2 ?_; intro w7 KD B7))
        go_light
        exact bodyPost_ret (v := .agg (b8 cur)) (results_cell_row Tryd.results119 _ _ gR 90 (b8 cur) (0, 0) _ rfl KD.out Tryd.underlying90 rfl HSZ.out) rfl ⟨rfl, B7.out⟩
  · go_enter Tryd.func119, Tryd.ntmps119
    go_upto_region 2 with fail
    change Code.wp _ _ _ _ (((w.alloc (.cells (b8 b) 90)).alloc (.cells (b8 z16) 90)).alloc (.cells (b8 z16) 90))
    rw [← HW.out]
    clear HW
    obtain ⟨gO, hgO⟩ : ∃ x, x = w.heap.size + 1 + 1 := ⟨_, rfl⟩
    rw [← hgO] at HO
    rw [← hgO]
    obtain ⟨gR, hgR⟩ : ∃ x, x = w.heap.size + 1 := ⟨_, rfl⟩
    rw [← hgR] at HR
    rw [← hgR]
    have HA := Lib.hid (show Ab w gO gR z16 w1 from ⟨HO.out, HR.out, HB1.out, by omega, by omega, by omega⟩)
    have hO1 : w.heap.size < gO := by omega
    clear hgO hgR
    go_wp2_with fail
    go_loopg [10] 16 (fun gm s10 wr => ∃ (i : Nat) (cur : List Nat), i + gm = 16 ∧ s10 = .int .i64 (i : Int) ∧ Hid (cur.length = 16) ∧ Hid (∀ j, cur[j]? = if j < i then X[j]? else z16[j]?) ∧ Hid (Ab w gO gR cur wr) ∧ Hid (Blk wr w.heap.size 90 (b8 b)))
    case atStart => exact ⟨0, z16, by omega, rfl, Lib.hid rfl, Lib.hid (fun j => by simp), HA, HK⟩
    case round =>
      clear HR HB1 HK HA HO
      obtain ⟨i, cur, hg, rfl, HCL, HC, HA, HK⟩ := hrel
      have HG := Lib.hid hg
      have hi : i ≤ 16 := by omega
      clear hg
      by_cases hlt : i < 16
      · have a15 := (and15 ⟨i, hlt⟩).2
        simp only at a15
        obtain ⟨m, hm⟩ : ∃ m, (i + 12 * (i % 4)) % 16 = m := ⟨_, rfl⟩
        rw [hm] at a15
        have hm16 : m < 16 := by omega
        have hxb := at0_get (b := b) (i := m) (by rw [HBL.out]; exact hm16)
        obtain ⟨x, hx⟩ : ∃ x, at0 b m = x := ⟨_, rfl⟩
        rw [hx] at hxb
        have hx8 : x < 256 := HBY.out x (List.mem_of_getElem? hxb)
        obtain ⟨y, hy⟩ : ∃ y, f x = y := ⟨_, rfl⟩
        have hXi : X[i]? = some y := by
          have := shiftW_at f 12 b hlt
          rw [HX.out, hm, hx, hy] at this
          exact this
        have hcf := HF.out x hx8
        rw [hy] at hcf
        have hcf2 : wr.cell? ⟨g, o + x, none⟩ = some (.int .u8 (y : Int)) := (HA.out.bel.cell (p := ⟨g, o + x, none⟩) hg).trans hcf
        have hcb : wr.cell? ⟨w.heap.size, m, none⟩ = some (.int .u8 (x : Int)) := by rw [HK.out.cell]; exact b8_at hxb
        have r0 := fun d os => Go.cell_regrown (show wr.drew.cell? ⟨g, o + x, none⟩ = some (.int .u8 (y : Int)) from hcf2) d os
        have r1 := fun d os => Go.cell_regrown (show wr.drew.cell? ⟨w.heap.size, m, none⟩ = some (.int .u8 (x : Int)) from hcb) d os
        have hcur : cur[i]? = some 0 := by
          rw [HC.out i, if_neg (by omega), z16, List.getElem?_replicate, if_pos hlt]
        have HC2 := Lib.hid (fill_next HCL.out hlt HC.out hXi)
        have HCL2 := Lib.hid (show (cur.set i y).length = 16 by rw [List.length_set]; exact HCL.out)
        have i16 : (i : Int) < 16 := by omega
        have m16 : (m : Int) < 16 := by omega
        have x256 : (x : Int) < 256 := by omega
        clear hm hxb hx hy hXi hcf hcf2 hcb HC HCL
        go_wp2_with fail
        refine Rel.wp_region_rel 15 [(26, .const (.pointer (some ⟨g, o, none⟩)))] (by kernel_rfl) (by kernel_rfl) ?_
        simp only [List.take_succ_cons, List.take_zero, List.drop_succ_cons, List.drop_zero, Act.put, List.setIfInBounds_toArray, List.set_cons_zero, List.set_cons_succ]
        repeat (refine Rel.tree_quiet rfl rfl rfl (fun K hK => ?_); go_big_quiet_op; refine hK _ ?_; clear hK K)
        refine Rel.tree_const rfl (.pointer (some ⟨g, o, none⟩)) rfl (fun W hW _ => ?_) ?_
        · unfold Rel.relAt; go_simp; exact ⟨Rel.Grow.refl _, rfl⟩
        simp only [Act.put, List.setIfInBounds_toArray, List.set_cons_zero, List.set_cons_succ]
        repeat (refine Rel.tree_quiet rfl rfl rfl (fun K hK => ?_); go_big_quiet_op; refine hK _ ?_; clear hK K)
        intro W hW _
        have HAW := Lib.hid (HA.out.old hW.undrew)
        have HKW := Lib.hid (HK.out.next hW.undrew rfl)
        obtain ⟨cc, cf, cs, HA2⟩ := HAW.out.put (y := y) hcur
        have HK2 := Lib.hid (HKW.out.far' gO i (by omega) (.int .u8 (y : Int)))
        clear hW r0 r1 HA HK HAW HKW hcur
        go_wp2_with fail
        go_light
        go_roundg (16 - (i + 1))
        case measure => have := HG.out; omega
        case rel => exact ⟨i + 1, _, by omega, by go_num, HCL2, HC2, HA2, HK2⟩
      · have h16 : i = 16 := by omega
        subst h16
        have hcur := fill_end HXL.out (by rfl) HC.out
        subst hcur
        have HSZ := Lib.hid (show (Tryd.prog.info? 90).map (·.size) = some (b8 cur).size by rw [b8_size, HCL.out]; exact blk_info16)
        have HZZ := Lib.hid (show (b8 (List.replicate 16 0)).size = (b8 cur).size by rw [b8_size, b8_size, HCL.out]; rfl)
        have o2 := HA.out.o2
        go_wp2_with (first | refine wpList_load_row rfl 90 _ rfl gO rfl 90 (b8 cur) (0, 0) _ HA.out.kb Tryd.underlying90 rfl HSZ.out ?_ | (refine wpList_new_row rfl 90 (.tmp 6) (.tmp 31) rfl gR (b8 cur) rfl rfl 90 (b8 (List.replicate 16 0)) HA.out.kr HSZ.out HZZ.out (b8_one _) w.heap.size w HA.out.bel o2 ?_; intro w7 KD B7))
        go_light
        exact bodyPost_ret (v := .agg (b8 cur)) (results_cell_row Tryd.results119 _ _ gR 90 (b8 cur) (0, 0) _ rfl KD.out Tryd.underlying90 rfl HSZ.out) rfl ⟨rfl, B7.out⟩
theorem mixA_lt {b by4 : List Nat} (hb : ∀ x ∈ b, x < 256) (hf : ∀ x ∈ by4, x < 256) (i : Nat) : ∀ j, mixA b by4 i j < 256
  | 0 => (by decide : 0 < 256)
  | j + 1 => by
    have g : ∀ (l : List Nat), (∀ x ∈ l, x < 256) → ∀ k, at0 l k < 256 := fun l hl k => by
      unfold at0
      cases h : l[k]? with
      | none => decide
      | some x => exact hl x (List.mem_of_getElem? h)
    exact xor8 (mixA_lt hb hf i j) (gm_lt (g b hb _) (g by4 hf _))
theorem four_info : (Tryd.prog.info? 161).map (·.size) = some 4 := by kernel_rfl
theorem mix_at (by4 b : List Nat) {i : Nat} (hi : i < 16) : (mix by4 b)[i]? = some (mixA b by4 i 4) := by
  rw [mix, List.getElem?_map, List.getElem?_range hi]
  rfl
theorem set_same {l : List Nat} {i x : Nat} (h : l[i]? = some x) : l.set i x = l := by
  apply List.ext_getElem?
  intro j
  rw [List.getElem?_set]
  by_cases hj : i = j
  · subst hj
    rw [if_pos rfl, if_pos (List.getElem?_eq_some_iff.1 h).1, h]
  · rw [if_neg hj]
set_option maxRecDepth 100000 in
set_option maxHeartbeats 2000000 in
theorem mixed_any (b by4 : List Nat) (w : World) (hb : b.length = 16) (hbb : ∀ x ∈ b, x < 256) (hf : by4.length = 4) (hfb : ∀ x ∈ by4, x < 256) : Calls Tryd.prog 118 #[.agg (b8 b), .agg (b8 by4)] w (BkOut w (mix by4 b)) := by
  obtain ⟨w1, hw1⟩ : ∃ W, W = (((w.alloc (.cells (b8 b) 90)).alloc (.cells (b8 by4) 161)).alloc (.cells (b8 z16) 90)).alloc (.cells (b8 z16) 90) := ⟨_, rfl⟩
  have HW := Lib.hid hw1
  have HB1 := Lib.hid (show Below w.heap.size w w1 by rw [hw1]; exact ((((Below.refl _ w).alloc (Nat.le_refl _) _).alloc (by simp) _).alloc (by simp; omega) _).alloc (by simp; omega) _)
  have HK := Lib.hid (show Blk w1 w.heap.size 90 (b8 b) by rw [hw1]; exact (((Blk.new _ _ _).alloc _).alloc _).alloc _)
  have HF := Lib.hid (show Blk w1 (w.heap.size + 1) 161 (b8 by4) by rw [hw1]; exact ((blk_new' (by simp)).alloc _).alloc _)
  have HR := Lib.hid (show Blk w1 (w.heap.size + 1 + 1) 90 (b8 z16) by rw [hw1]; exact (blk_new' (by simp)).alloc _)
  have HO := Lib.hid (show Blk w1 (w.heap.size + 1 + 1 + 1) 90 (b8 z16) by rw [hw1]; exact blk_new' (by simp))
  obtain ⟨X, hX⟩ : ∃ X, mix by4 b = X := ⟨_, rfl⟩
  have HX := Lib.hid hX
  have HXL := Lib.hid (show X.length = 16 by rw [← hX, mix, List.length_map, List.length_range])
  rw [hX]
  have HBL := Lib.hid hb
  have HBY := Lib.hid hbb
  have HFL := Lib.hid hf
  have HFB := Lib.hid hfb
  have HSF := Lib.hid (show (Tryd.prog.info? 161).map (·.size) = some (b8 by4).size by rw [b8_size, hf]; exact four_info)
  clear hw1 hX hb hbb hf hfb
  go_enter Tryd.func118, Tryd.ntmps118
  go_upto_region 2 with fail
  change Code.wp _ _ _ _ ((((w.alloc (.cells (b8 b) 90)).alloc (.cells (b8 by4) 161)).alloc (.cells (b8 z16) 90)).alloc (.cells (b8 z16) 90))
  rw [← HW.out]
  clear HW
  obtain ⟨gO, hgO⟩ : ∃ x, x = w.heap.size + 1 + 1 + 1 := ⟨_, rfl⟩
  rw [← hgO] at HO
  rw [← hgO]
  obtain ⟨gR, hgR⟩ : ∃ x, x = w.heap.size + 1 + 1 := ⟨_, rfl⟩
  rw [← hgR] at HR
  rw [← hgR]
  obtain ⟨gF, hgF⟩ : ∃ x, x = w.heap.size + 1 := ⟨_, rfl⟩
  rw [← hgF] at HF
  rw [← hgF]
  have HA := Lib.hid (show Ab w gO gR z16 w1 from ⟨HO.out, HR.out, HB1.out, by omega, by omega, by omega⟩)
  have hO1 : w.heap.size < gO := by omega
  have hO2 : gF < gO := by omega
  clear hgO hgR hgF
  go_wp2_with fail
  go_loopg [10] 16 (fun gm s10 wr => ∃ (i : Nat) (cur : List Nat), i + gm = 16 ∧ s10 = .int .i64 (i : Int) ∧ Hid (cur.length = 16) ∧ Hid (∀ j, cur[j]? = if j < i then X[j]? else z16[j]?) ∧ Hid (Ab w gO gR cur wr) ∧ Hid (Blk wr w.heap.size 90 (b8 b)) ∧ Hid (Blk wr gF 161 (b8 by4)))
  case atStart => exact ⟨0, z16, by omega, rfl, Lib.hid rfl, Lib.hid (fun j => by simp), HA, HK, HF⟩
  case round =>
    clear HR HB1 HK HA HO HF
    obtain ⟨i, cur, hg, rfl, HCL, HC, HA, HK, HF⟩ := hrel
    have HG := Lib.hid hg
    have hi : i ≤ 16 := by omega
    clear hg
    by_cases hlt : i < 16
    · have hcur : cur[i]? = some 0 := by
        rw [HC.out i, if_neg (by omega), z16, List.getElem?_replicate, if_pos hlt]
      have hXi : X[i]? = some (mixA b by4 i 4) := by rw [← HX.out]; exact mix_at by4 b hlt
      have HC2 := Lib.hid (fill_next HCL.out hlt HC.out hXi)
      have HCL2 := Lib.hid (show (cur.set i (mixA b by4 i 4)).length = 16 by rw [List.length_set]; exact HCL.out)
      have HA0 := Lib.hid (show Ab w gO gR (cur.set i (mixA b by4 i 0)) wr by rw [mixA, set_same hcur]; exact HA.out)
      clear hcur hXi HC HA
      go_wp2_with (refine wpList_load_row rfl 161 _ rfl gF rfl 161 (b8 by4) (0, 0) _ HF.out Tryd.underlying161 rfl HSF.out ?_)
      obtain ⟨gQ, rfl⟩ : ∃ x, x = gk := ⟨_, rfl⟩
      obtain ⟨wQ, rfl⟩ : ∃ x : World, x = wr := ⟨_, rfl⟩
      go_loopg [18] 4 (fun gm s18 wr => ∃ j : Nat, j + gm = 4 ∧ s18 = .int .i64 (j : Int) ∧ Hid (Ab w gO gR (cur.set i (mixA b by4 i j)) wr) ∧ Hid (Blk wr w.heap.size 90 (b8 b)) ∧ Hid (Blk wr gF 161 (b8 by4)))
      case atStart => exact ⟨0, by omega, rfl, HA0, HK, HF⟩
      case round =>
        clear HA0 HK HF
        obtain ⟨j, hg, rfl, HA, HK, HF⟩ := hrel
        have HGJ := Lib.hid hg
        have hj : j ≤ 4 := by omega
        clear hg
        by_cases hjl : j < 4
        · obtain ⟨p, hp⟩ : ∃ p, i - i % 4 + (i + j) % 4 = p := ⟨_, rfl⟩
          have hpI : (i : Int) - (i : Int) % 4 + ((i : Int) + (j : Int)) % 4 = (p : Int) := by omega
          have hp16 : p < 16 := by omega
          have hxb := at0_get (b := b) (i := p) (by rw [HBL.out]; exact hp16)
          have hfb := at0_get (b := by4) (i := j) (by rw [HFL.out]; exact hjl)
          obtain ⟨x, hx⟩ : ∃ x, at0 b p = x := ⟨_, rfl⟩
          obtain ⟨f, hf⟩ : ∃ x, at0 by4 j = x := ⟨_, rfl⟩
          rw [hx] at hxb
          rw [hf] at hfb
          have hx8 : x < 256 := HBY.out x (List.mem_of_getElem? hxb)
          have hf8 : f < 256 := HFB.out f (List.mem_of_getElem? hfb)
          obtain ⟨y, hy⟩ : ∃ y, mixA b by4 i j = y := ⟨_, rfl⟩
          have hy8 : y < 256 := by rw [← hy]; exact mixA_lt HBY.out HFB.out i j
          obtain ⟨m, hm⟩ : ∃ m, gm x f = m := ⟨_, rfl⟩
          have hm8 : m < 256 := by rw [← hm]; exact gm_lt hx8 hf8
          obtain ⟨y1, hy1⟩ : ∃ z, y ^^^ m = z := ⟨_, rfl⟩
          have ex : bits .xor .u8 (y : Int) (m : Int) = (y1 : Int) := by rw [u8_xor_nat _ _ hy8 hm8, hy1]
          have HNX := Lib.hid (show (cur.set i y).set i y1 = cur.set i (mixA b by4 i (j + 1)) by
            rw [List.set_set, mixA, hy, hp, hx, hf, hm, hy1])
          rw [hy] at HA
          have hix := run_index_arr (P := Tryd.prog) 161 5 4 Tryd.underlying161 (fun _ => by kernel_rfl) (fun _ => by kernel_rfl) (b8 by4) .i64 (j : Int) j rfl hjl (.int .u8 (f : Int)) (b8_at hfb)
          have hci : (cur.set i y)[i]? = some y := by rw [List.getElem?_set_self (by rw [HCL.out]; exact hlt)]
          have hcb : wr.cell? ⟨w.heap.size, p, none⟩ = some (.int .u8 (x : Int)) := by rw [HK.out.cell]; exact b8_at hxb
          have r0 := fun d os => Go.cell_regrown (show wr.drew.cell? ⟨gO, i, none⟩ = some (.int .u8 (y : Int)) from HA.out.cell hci) d os
          have r1 := fun d os => Go.cell_regrown (show wr.drew.cell? ⟨w.heap.size, p, none⟩ = some (.int .u8 (x : Int)) from hcb) d os
          have HMU := Lib.hid (fun W => mul_any (x : Int) (f : Int) x f W rfl rfl hx8 hf8)
          rw [hm] at HMU
          have p16 : (p : Int) < 16 := by omega
          have i16 : (i : Int) < 16 := by omega
          clear hp hxb hfb hx hf hy hm hy1 hcb
          go_wp2_with fail
          refine Rel.wp_region_rel 15 [(34, .const (.int .u8 (m : Int)))] (by kernel_rfl) (by kernel_rfl) ?_
          simp only [List.take_succ_cons, List.take_zero, List.drop_succ_cons, List.drop_zero, Act.put, List.setIfInBounds_toArray, List.set_cons_zero, List.set_cons_succ]
          repeat (refine Rel.tree_quiet rfl rfl rfl (fun K hK => ?_); go_big_quiet_op; refine hK _ ?_; clear hK K)
          refine Rel.tree_const rfl (.int .u8 (m : Int)) rfl (fun W hW _ => ?_) ?_
          · unfold Rel.relAt; go_simp; show Calls _ _ _ _ _
            exact quiet_const (HMU.out W)
          simp only [Act.put, List.setIfInBounds_toArray, List.set_cons_zero, List.set_cons_succ]
          repeat (refine Rel.tree_quiet rfl rfl rfl (fun K hK => ?_); go_big_quiet_op; refine hK _ ?_; clear hK K)
          intro W hW _
          have HAW := Lib.hid (HA.out.old hW.undrew)
          have HKW := Lib.hid (HK.out.next hW.undrew rfl)
          have HFW := Lib.hid (HF.out.next hW.undrew rfl)
          obtain ⟨cc, cf, cs, HA2⟩ := HAW.out.put (y := y1) hci
          rw [HNX.out] at HA2
          have HK2 := Lib.hid (HKW.out.far' gO i (by omega) (.int .u8 (y1 : Int)))
          have HF2 := Lib.hid (HFW.out.far' gO i (by omega) (.int .u8 (y1 : Int)))
          clear hW r0 r1 HA HK HF HAW HKW HFW hci HNX
          go_wp2_with fail
          go_light
          go_roundg (4 - (j + 1))
          case measure => have := HGJ.out; omega
          case rel => exact ⟨j + 1, by omega, by go_num, HA2, HK2, HF2⟩
        · have h4 : j = 4 := by omega
          rw [h4] at HA
          go_wp2_with fail
          go_light
          go_roundg (16 - (i + 1))
          case measure => have := HG.out; omega
          case rel => exact ⟨i + 1, _, by omega, by go_num, HCL2, HC2, HA, HK, HF⟩
    · have h16 : i = 16 := by omega
      subst h16
      have hcur := fill_end HXL.out (by rfl) HC.out
      subst hcur
      have HSZ := Lib.hid (show (Tryd.prog.info? 90).map (·.size) = some (b8 cur).size by rw [b8_size, HCL.out]; exact blk_info16)
      have HZZ := Lib.hid (show (b8 (List.replicate 16 0)).size = (b8 cur).size by rw [b8_size, b8_size, HCL.out]; rfl)
      have o2 := HA.out.o2
      go_wp2_with (first | refine wpList_load_row rfl 90 _ rfl gO rfl 90 (b8 cur) (0, 0) _ HA.out.kb Tryd.underlying90 rfl HSZ.out ?_ | (refine wpList_new_row rfl 90 (.tmp 4) (.tmp 39) rfl gR (b8 cur) rfl rfl 90 (b8 (List.replicate 16 0)) HA.out.kr HSZ.out HZZ.out (b8_one _) w.heap.size w HA.out.bel o2 ?_; intro w7 KD B7))
      go_light
      exact bodyPost_ret (v := .agg (b8 cur)) (results_cell_row Tryd.results118 _ _ gR 90 (b8 cur) (0, 0) _ rfl KD.out Tryd.underlying90 rfl HSZ.out) rfl ⟨rfl, B7.out⟩
end Aes
end Go.Proofs.YtpakdcgcgekcfaaDoor

/-
  Package aes: Xor of two blocks.
-/
set_option linter.unusedSimpArgs false
set_option linter.unusedVariables false
namespace Go.Proofs.YtpakdcgcgekcfaaDoor
open Go.RowKit

namespace Aes
open Otp R1 Fuse
/-- Two blocks in a row. -/
def Two (w : World) (B g : Nat) (a b : List Nat) : Prop := g < B ∧ w.rangeAt g 0 (a.map fun x => Value.int .u8 ((x : Nat) : Int)) ∧ w.rangeAt g 16 (b.map fun x => Value.int .u8 ((x : Nat) : Int))
def blk2 (a b : List Nat) (i : Nat) : List Nat := if i = 0 then a else b
def acc2 (a b : List Nat) (i : Nat) : List Nat := if i = 0 then z16 else if i = 1 then a else xorL a b
theorem acc2_len {a b : List Nat} (ha : a.length = 16) (hb : b.length = 16) (i : Nat) : (acc2 a b i).length = 16 := by
  unfold acc2
  split
  · rfl
  · split
    · exact ha
    · exact xorL_length ha hb
theorem acc2_byte {a b : List Nat} (ha : ∀ x ∈ a, x < 256) (hb : ∀ x ∈ b, x < 256) (i : Nat) : ∀ x ∈ acc2 a b i, x < 256 := by
  unfold acc2
  split
  · intro x hx
    rw [(List.mem_replicate.1 hx).2]
    decide
  · split
    · exact ha
    · exact xorL_byte ha hb
theorem acc2_next {a b : List Nat} {i j x y : Nat} (hi : i < 2) (hx : (acc2 a b i)[j]? = some x) (hy : (blk2 a b i)[j]? = some y) : (acc2 a b (i + 1))[j]? = some (x ^^^ y) := by
  rcases (show i = 0 ∨ i = 1 by omega) with h | h <;> subst h
  · have hx0 : x = 0 := by
      simp only [acc2, if_true, z16, List.getElem?_replicate] at hx
      split at hx
      · exact (Option.some.inj hx).symm
      · cases hx
    subst hx0
    rw [Nat.zero_xor]
    exact hy
  · exact xorL_at hx hy
theorem range_below {w w' : World} {B g o : Nat} {l : List Value} (h : w.rangeAt g o l) (hg : g < B) (hb : Below B w w') : w'.rangeAt g o l := fun j v hv => (hb.cell (p := ⟨g, o + j, none⟩) hg).trans (h j v hv)
set_option maxRecDepth 100000 in
set_option maxHeartbeats 2000000 in
theorem xor_any (g : Nat) (a b : List Nat) (w : World) (h : Two w w.heap.size g a b) (ha : a.length = 16) (hb : b.length = 16) (hab : ∀ x ∈ a, x < 256) (hbb : ∀ x ∈ b, x < 256) : Calls Tryd.prog 95 #[.slice (some ⟨g, 0, none⟩) 2 2] w (BkOut w (xorL a b)) := by
  obtain ⟨hg, hra, hrb⟩ := h
  obtain ⟨w1, hw1⟩ : ∃ W, W = (w.alloc (.cells (b8 z16) 90)).alloc (.cells (b8 z16) 90) := ⟨_, rfl⟩
  have HW := Lib.hid hw1
  have HB1 := Lib.hid (show Below w.heap.size w w1 by rw [hw1]; exact ((Below.refl _ w).alloc (Nat.le_refl _) _).alloc (by simp) _)
  have HR := Lib.hid (show Blk w1 w.heap.size 90 (b8 z16) by rw [hw1]; exact (Blk.new _ _ _).alloc _)
  have HO := Lib.hid (show Blk w1 (w.heap.size + 1) 90 (b8 z16) by rw [hw1]; exact blk_new' (by simp))
  have HBK := Lib.hid (show ∀ i, i < 2 → w.rangeAt g (i * 16) ((blk2 a b i).map fun x => Value.int .u8 ((x : Nat) : Int)) ∧ (blk2 a b i).length = 16 ∧ ∀ x ∈ blk2 a b i, x < 256 from fun i hi => by
    rcases (show i = 0 ∨ i = 1 by omega) with h | h <;> subst h
    · exact ⟨hra, ha, hab⟩
    · exact ⟨hrb, hb, hbb⟩)
  have HAL := Lib.hid (acc2_len ha hb)
  have HAB := Lib.hid (acc2_byte hab hbb)
  have HAN := Lib.hid (fun i j x y (hi : i < 2) => acc2_next (a := a) (b := b) (i := i) (j := j) (x := x) (y := y) hi)
  have HX := Lib.hid (show acc2 a b 2 = xorL a b from rfl)
  rw [← HX.out]
  have h0 : acc2 a b 0 = z16 := rfl
  generalize acc2 a b = acc at *
  generalize blk2 a b = blk at *
  clear hw1 hra hrb ha hb hab hbb HX
  go_enter Tryd.func95, Tryd.ntmps95
  go_upto_region 2 with fail
  change Code.wp _ _ _ _ ((w.alloc (.cells (b8 z16) 90)).alloc (.cells (b8 z16) 90))
  rw [← HW.out]
  clear HW
  obtain ⟨gO, hgO⟩ : ∃ x, x = w.heap.size + 1 := ⟨_, rfl⟩
  rw [← hgO] at HO
  rw [← hgO]
  have HA := Lib.hid (show Ab w gO w.heap.size (acc 0) w1 from ⟨by rw [h0]; exact HO.out, HR.out, HB1.out, by omega, by omega, by omega⟩)
  have hgO2 : g < gO := by omega
  clear hgO h0
  go_wp2_with fail
  go_loopg [10] 2 (fun gm s10 wr => ∃ i : Nat, i + gm = 2 ∧ s10 = .int .i64 (i : Int) ∧ Hid (Ab w gO w.heap.size (acc i) wr))
  case atStart => exact ⟨0, by omega, rfl, HA⟩
  case round =>
    clear HR HB1 HA HO
    obtain ⟨i, hgi, rfl, HA⟩ := hrel
    have HG := Lib.hid hgi
    have hi : i ≤ 2 := by omega
    clear hgi
    by_cases hlt : i < 2
    · obtain ⟨hr, hbl, hby⟩ := HBK.out i hlt
      have HRG := Lib.hid (range_below hr hg HA.out.bel)
      have HBL := Lib.hid hbl
      have HBY := Lib.hid hby
      have HSL := Lib.hid (show (Tryd.prog.info? 90).map (·.size) = some ((blk i).map fun x => Value.int .u8 ((x : Nat) : Int)).length by rw [List.length_map, hbl]; exact blk_info16)
      have HSZ := Lib.hid (show (Tryd.prog.info? 90).map (·.size) = some (b8 (blk i)).size by rw [b8_size, hbl]; exact blk_info16)
      have HZZ := Lib.hid (show (b8 z16).size = (b8 (blk i)).size by rw [b8_size, b8_size, hbl]; rfl)
      have hgw : g < wr.heap.size := Nat.lt_of_lt_of_le hg HA.out.bel.size
      clear hr hbl hby
      go_upto_region 5 with (first | refine wpList_load_mid rfl 90 _ rfl g (i * 16) rfl _ _ HRG.out Tryd.underlying90 rfl HSL.out ?_ | (refine wpList_new_row rfl 90 (.tmp 5) (.tmp 13) rfl wr.heap.size (b8 (blk i)) rfl rfl 90 (b8 z16) (Blk.new _ _ _) HSZ.out HZZ.out (b8_one _) wr.heap.size wr ((Below.refl _ wr).alloc (Nat.le_refl _) _) (Nat.le_refl _) ?_; intro w5 K5 B5))
      have HA5 := Lib.hid (HA.out.old B5.out)
      have hwr : gO < wr.heap.size := HA.out.kb.lt
      clear B5 HRG HA
      generalize wr.heap.size = gN at *
      go_wp2_with (refine wpList_load_row rfl 90 _ rfl gN rfl 90 (b8 (blk i)) (0, 0) _ K5.out Tryd.underlying90 rfl HSZ.out ?_)
      obtain ⟨gQ, rfl⟩ : ∃ x, x = gk := ⟨_, rfl⟩
      go_loopg [15] 16 (fun gm s15 wr => ∃ (j : Nat) (cur : List Nat), j + gm = 16 ∧ s15 = .int .i64 (j : Int) ∧ Hid (cur.length = 16) ∧ Hid (∀ k, cur[k]? = if k < j then (acc (i + 1))[k]? else (acc i)[k]?) ∧ Hid (Ab w gO w.heap.size cur wr))
      case atStart => exact ⟨0, acc i, by omega, rfl, Lib.hid (HAL.out i), Lib.hid (fun k => by simp), HA5⟩
      case round =>
        clear HA5 K5
        obtain ⟨j, cur, hgj, rfl, HCL, HC, HA⟩ := hrel
        have HGJ := Lib.hid hgj
        have hj : j ≤ 16 := by omega
        clear hgj
        by_cases hjl : j < 16
        · obtain ⟨x, hx⟩ : ∃ x, (acc i)[j]? = some x := ⟨_, List.getElem?_eq_getElem (by rw [HAL.out]; exact hjl)⟩
          obtain ⟨y, hy⟩ : ∃ y, (blk i)[j]? = some y := ⟨_, List.getElem?_eq_getElem (by rw [HBL.out]; exact hjl)⟩
          have hx8 : x < 256 := HAB.out i x (List.mem_of_getElem? hx)
          have hy8 : y < 256 := HBY.out y (List.mem_of_getElem? hy)
          obtain ⟨z, hz⟩ : ∃ z, x ^^^ y = z := ⟨_, rfl⟩
          have ex : bits .xor .u8 (x : Int) (y : Int) = (z : Int) := by rw [u8_xor_nat _ _ hx8 hy8, hz]
          have hnx : (acc (i + 1))[j]? = some z := by rw [← hz]; exact HAN.out i j x y hlt hx hy
          have HC2 := Lib.hid (fill_next HCL.out hjl HC.out hnx)
          have HCL2 := Lib.hid (show (cur.set j z).length = 16 by rw [List.length_set]; exact HCL.out)
          have hcj : cur[j]? = some x := by rw [HC.out j, if_neg (by omega)]; exact hx
          have hix := run_index_arr (P := Tryd.prog) 90 5 16 Tryd.underlying90 (fun _ => by kernel_rfl) (fun _ => by kernel_rfl) (b8 (blk i)) .i64 (j : Int) j rfl hjl (.int .u8 (y : Int)) (b8_at hy)
          obtain ⟨cc, cf, cs, HA2⟩ := HA.out.put (y := z) hcj
          clear hx hy hz hnx hcj HC HA HCL
          go_wp2_with fail
          go_light
          go_roundg (16 - (j + 1))
          case measure => have := HGJ.out; omega
          case rel => exact ⟨j + 1, _, by omega, by go_num, HCL2, HC2, HA2⟩
        · have h16 : j = 16 := by omega
          subst h16
          have hcur := fill_end (HAL.out (i + 1)) (HAL.out i) HC.out
          subst hcur
          go_wp2_with fail
          go_light
          go_roundg (2 - (i + 1))
          case measure => have := HG.out; omega
          case rel => exact ⟨i + 1, by omega, by go_num, HA⟩
    · have h2 : i = 2 := by omega
      subst h2
      have HSZ := Lib.hid (show (Tryd.prog.info? 90).map (·.size) = some (b8 (acc 2)).size by rw [b8_size, HAL.out]; exact blk_info16)
      have HZZ := Lib.hid (show (b8 (List.replicate 16 0)).size = (b8 (acc 2)).size by rw [b8_size, b8_size, HAL.out]; rfl)
      have o2 := HA.out.o2
      go_wp2_with (first | refine wpList_load_row rfl 90 _ rfl gO rfl 90 (b8 (acc 2)) (0, 0) _ HA.out.kb Tryd.underlying90 rfl HSZ.out ?_ | (refine wpList_new_row rfl 90 (.tmp 2) (.tmp 27) rfl w.heap.size (b8 (acc 2)) rfl rfl 90 (b8 (List.replicate 16 0)) HA.out.kr HSZ.out HZZ.out (b8_one _) w.heap.size w HA.out.bel o2 ?_; intro w7 KD B7))
      go_light
      exact bodyPost_ret (v := .agg (b8 (acc 2))) (results_cell_row Tryd.results95 _ _ w.heap.size 90 (b8 (acc 2)) (0, 0) _ rfl KD.out Tryd.underlying90 rfl HSZ.out) rfl ⟨rfl, B7.out⟩
end Aes
end Go.Proofs.YtpakdcgcgekcfaaDoor

/-
  Package aes: Encrypt, Decrypt.
-/
set_option linter.unusedSimpArgs false
set_option linter.unusedVariables false
namespace Go.Proofs.YtpakdcgcgekcfaaDoor
open Go.RowKit

namespace Aes
open Otp R1 Fuse Sha
/-- A key, plain. -/
structure KeyG (key : List Nat) : Prop where
  len : key.length = 16 ∨ key.length = 32
  byte : ∀ x ∈ key, x < 256
theorem KeyG.words {key : List Nat} (h : KeyG key) : ∀ t ∈ kWords key, W4 t := by
  obtain ⟨hl, hb⟩ := h
  have hq : key.length = 4 * (key.length / 4) := by omega
  exact kGo_ok (by omega) (kw0_length _ _) (kw0_ok hq hb) _
theorem KeyG.count {key : List Nat} (h : KeyG key) : (kWords key).length = 4 * (rounds key + 1) ∧ ((rounds key = 10 ∧ (kWords key).length = 44) ∨ (rounds key = 14 ∧ (kWords key).length = 60)) := by
  have hl : (kWords key).length = key.length / 4 + (3 * (key.length / 4) + 28) := by rw [kWords, kGo_length, kw0_length]
  unfold rounds
  rcases h.len with h | h <;> rw [h] at hl ⊢ <;> omega
theorem KeyG.ok {key : List Nat} (h : KeyG key) : KeyOk key := by
  obtain ⟨hc, hr⟩ := h.count
  refine ⟨by omega, fun r hr2 => ?_⟩
  have hw := h.words
  have e : ∀ (l : List (List Nat)), (∀ t ∈ l, W4 t) → l.flatten.length = 4 * l.length ∧ ∀ x ∈ l.flatten, x < 256 := by
    intro l
    induction l with
    | nil => intro _; exact ⟨rfl, fun x hx => by cases hx⟩
    | cons t l ih =>
      intro ht
      obtain ⟨h1, h2⟩ := ih (fun s hs => ht s (List.mem_cons_of_mem _ hs))
      obtain ⟨h3, h4⟩ := ht t (by simp)
      refine ⟨by rw [List.flatten_cons, List.length_append, h1, h3, List.length_cons]; omega, fun x hx => ?_⟩
      rw [List.flatten_cons] at hx
      rcases List.mem_append.1 hx with hx | hx
      · exact h4 x hx
      · exact h2 x hx
  obtain ⟨h1, h2⟩ := e (((kWords key).drop (4 * r)).take 4) (fun t ht => hw t (List.mem_of_mem_drop (List.mem_of_mem_take ht)))
  rw [kRound]
  refine ⟨?_, h2⟩
  rw [h1, List.length_take, List.length_drop, hc]
  omega
/-- A key's slice. -/
structure KeyV (w : World) (B : Nat) (key : List Nat) (A : Option Addr) (L c : Nat) : Prop where
  good : KeyG key
  len : (kWords key).length = L
  cap : L ≤ c
  nats : Nats .u32 4294967296 w B A ((kWords key).map wd)
theorem KeyV.below {w w' : World} {B : Nat} {key : List Nat} {A : Option Addr} {L c : Nat} (h : KeyV w B key A L c) (hb : Below B w w') : KeyV w' B key A L c := ⟨h.good, h.len, h.cap, h.nats.below hb⟩
theorem KeyV.more {w : World} {B B' : Nat} {key : List Nat} {A : Option Addr} {L c : Nat} (h : KeyV w B key A L c) (hb : B ≤ B') : KeyV w B' key A L c := ⟨h.good, h.len, h.cap, h.nats.more hb⟩
theorem KeyV.next {w w' : World} {key : List Nat} {A : Option Addr} {L c : Nat} (h : KeyV w w.heap.size key A L c) (hb : Below w.heap.size w w') : KeyV w' w'.heap.size key A L c := (h.below hb).more hb.size
section
variable {w : World} {key : List Nat} {A : Option Addr} {L c : Nat}
theorem KeyV.size (h : KeyV w w.heap.size key A L c) : L = 4 * (rounds key + 1) ∧ ((L = 44 ∧ rounds key = 10) ∨ (L = 60 ∧ rounds key = 14) ∨ (L = 0 ∧ rounds key = 0)) := by
  obtain ⟨h1, h2⟩ := h.good.count
  have := h.len
  omega
theorem KeyV.rounds_call (h : KeyV w w.heap.size key A L c) : Calls Tryd.prog 116 #[.agg (kC (.slice A L c)).toArray] w (fun e w' => e = .returned (.int .i64 (rounds key : Int)) ∧ Below w.heap.size w w') := rounds_any A L (rounds key) c w h.size.2
theorem KeyV.add_call (h : KeyV w w.heap.size key A L c) (b : List Nat) (ri : Int) (r : Nat) (hri : ri = r) (hr : r ≤ rounds key) (hb : b.length = 16) (hbb : ∀ x ∈ b, x < 256) :
    Calls Tryd.prog 117 #[.agg (kC (.slice A L c)).toArray, .agg (b8 b), .int .i64 ri] w (BkOut w (xorL b (kRound key r))) := by
  have hs := h.size
  exact add_any key A L c b ri r w hri h.good.words h.len h.cap (by omega) (by omega) h.nats hb hbb
end
theorem movF (g : Nat) (v : Value) (b : List Nat) (w : World) (hK : Blk w g 94 (kC v).toArray) (hb : b.length = 16) (hbb : ∀ x ∈ b, x < 256) : Calls Tryd.prog 119 #[.agg (b8 b), .pointer (some ⟨g, 1, none⟩), .int .i64 1] w (BkOut w (shiftF b)) :=
  moved_any g 1 4 1 sb b w (.inl ⟨rfl, rfl⟩) (fun x hx => by rw [hK.cell]; simpa using kC_box v hx) sb_lt hK.lt hb hbb
theorem movB (g : Nat) (v : Value) (b : List Nat) (w : World) (hK : Blk w g 94 (kC v).toArray) (hb : b.length = 16) (hbb : ∀ x ∈ b, x < 256) : Calls Tryd.prog 119 #[.agg (b8 b), .pointer (some ⟨g, 257, none⟩), .int .i64 (-1)] w (BkOut w (shiftB b)) :=
  moved_any g 257 12 (-1) ib b w (.inr ⟨rfl, rfl⟩) (fun x hx => by rw [hK.cell]; simpa using kC_back v hx) ib_lt hK.lt hb hbb
/-- A key, a block under way, a block for the result. -/
structure Eb (W : World) (gK gB gR : Nat) (v : Value) (cur : List Nat) (w : World) : Prop where
  kk : Blk w gK 94 (kC v).toArray
  kb : Blk w gB 90 (b8 cur)
  kr : Blk w gR 90 (b8 z16)
  bel : Below W.heap.size W w
  o1 : W.heap.size ≤ gK
  o2 : gK < gB
  o3 : gB < gR
section
variable {W w w' : World} {gK gB gR : Nat} {v : Value} {cur cur' : List Nat}
theorem Eb.old (h : Eb W gK gB gR v cur w) (hb : Below w.heap.size w w') : Eb W gK gB gR v cur w' := ⟨h.kk.next hb rfl, h.kb.next hb rfl, h.kr.next hb rfl, below_then h.bel hb (Nat.le_refl _), h.o1, h.o2, h.o3⟩
theorem Eb.put (h : Eb W gK gB gR v cur w) (hf : Frm [gB] w w') (hk : Blk w' gB 90 (b8 cur')) : Eb W gK gB gR v cur' w' := by
  have o1 := h.o1
  have o2 := h.o2
  have o3 := h.o3
  exact ⟨h.kk.frm hf (by simp; omega), hk, h.kr.frm hf (by simp; omega), h.bel.trans (Frm.below hf h.bel.size (fun x hx => by simp at hx; omega)), o1, o2, o3⟩
end
theorem mixF_ok {b : List Nat} (hb : b.length = 16) (hbb : ∀ x ∈ b, x < 256) : (mix [2, 3, 1, 1] b).length = 16 ∧ ∀ x ∈ mix [2, 3, 1, 1] b, x < 256 := by
  rw [mix_F hb]
  exact ⟨mixC_length _ hb, mixC_byte mF_lt hb hbb⟩
theorem mixB_ok {b : List Nat} (hb : b.length = 16) (hbb : ∀ x ∈ b, x < 256) : (mix [14, 11, 13, 9] b).length = 16 ∧ ∀ x ∈ mix [14, 11, 13, 9] b, x < 256 := by
  rw [mix_B hb]
  exact ⟨mixC_length _ hb, mixC_byte mB_lt hb hbb⟩
set_option maxRecDepth 100000 in
set_option maxHeartbeats 2000000 in
theorem encrypt_any (key b : List Nat) (A : Option Addr) (L c : Nat) (w : World) (hk : KeyV w w.heap.size key A L c) (hb : b.length = 16) (hbb : ∀ x ∈ b, x < 256) : Calls Tryd.prog 96 #[.agg (kC (.slice A L c)).toArray, .agg (b8 b)] w (BkOut w (encB key b)) := by
  obtain ⟨w1, hw1⟩ : ∃ W, W = ((w.alloc (.cells (kC (.slice A L c)).toArray 94)).alloc (.cells (b8 b) 90)).alloc (.cells (b8 z16) 90) := ⟨_, rfl⟩
  have HW := wall hw1
  have HE1 := wall (show Eb w w.heap.size (w.heap.size + 1) (w.heap.size + 1 + 1) (.slice A L c) b w1 by
    rw [hw1]
    exact ⟨((Blk.new _ _ _).alloc _).alloc _, (blk_new' (by simp)).alloc _, blk_new' (by simp), (((Below.refl _ w).alloc (Nat.le_refl _) _).alloc (by simp) _).alloc (by simp; omega) _, Nat.le_refl _, by omega, by omega⟩)
  have HK0 := wall hk
  have HKV := wall (hk.next HE1.out.bel)
  have HOK := wall hk.good.ok
  have HSK := wall (show (Tryd.prog.info? 94).map (·.size) = some (kC (.slice A L c)).toArray.size by rw [List.size_toArray, kC_length]; exact key_info)
  have HSB := wall (fun (l : List Nat) (h : l.length = 16) => show (Tryd.prog.info? 90).map (·.size) = some (b8 l).size by rw [b8_size, h]; exact blk_info16)
  obtain ⟨R, hR⟩ : ∃ R, rounds key = R := ⟨_, rfl⟩
  have HR := wall hR
  have hR1 : 1 ≤ R := by rw [← hR]; exact HOK.out.1
  have hR2 : R ≤ 14 := by have := hk.size; omega
  have HGO := wall (fun r (h : r ≤ R) => encGo_ok HOK.out hb hbb r (by rw [hR]; exact h))
  have HEN := wall (show encB key b = xorL (shiftF (encGo key b (R - 1))) (kRound key R) by rw [encB, hR])
  obtain ⟨res, hres⟩ : ∃ r, encB key b = r := ⟨_, rfl⟩
  have HRB := wall (show res.length = 16 ∧ ∀ x ∈ res, x < 256 by rw [← hres]; exact encB_ok HOK.out b)
  rw [hres] at HEN ⊢
  have HB0 := wall hb
  have HBB0 := wall hbb
  have HNX := wall (fun i => show encGo key b (i + 1) = xorL (mix [2, 3, 1, 1] (shiftF (encGo key b i))) (kRound key (i + 1)) from rfl)
  have H00 := wall (show xorL b (kRound key 0) = encGo key b 0 from rfl)
  generalize encGo key b = en at *
  clear hw1 hk hR hb hbb hres
  go_enter Tryd.func96, Tryd.ntmps96
  go_upto_region 1 with fail
  change Code.wp _ _ _ _ (((w.alloc (.cells (kC (.slice A L c)).toArray 94)).alloc (.cells (b8 b) 90)).alloc (.cells (b8 z16) 90))
  rw [← HW.out]
  clear HW
  obtain ⟨gR, hgR⟩ : ∃ x, x = w.heap.size + 1 + 1 := ⟨_, rfl⟩
  rw [← hgR] at HE1
  rw [← hgR]
  obtain ⟨gB, hgB⟩ : ∃ x, x = w.heap.size + 1 := ⟨_, rfl⟩
  rw [← hgB] at HE1
  rw [← hgB]
  clear hgR hgB
  go_wp2_with (refine wpList_load_row rfl 94 _ rfl w.heap.size rfl 94 (kC (.slice A L c)).toArray (0, 0) _ HE1.out.kk Tryd.underlying94 rfl HSK.out ?_)
  (with_reducible refine (HKV.out.rounds_call).mono ?_); rintro e w2 ⟨rfl, hB2⟩
  have HE2 := wall (HE1.out.old hB2)
  have HKV2 := wall (HKV.out.next hB2)
  rw [HR.out]
  clear hB2 HE1 HKV
  have hRne : ((R : Int) == 0) = false := by rw [beq_eq_false_iff_ne]; omega
  go_wp2_with (first | refine wpList_load_row rfl 94 _ rfl w.heap.size rfl 94 (kC (.slice A L c)).toArray (0, 0) _ HE2.out.kk Tryd.underlying94 rfl HSK.out ?_ | refine wpList_load_row rfl 90 _ rfl gB rfl 90 (b8 b) (0, 0) _ HE2.out.kb Tryd.underlying90 rfl (HSB.out _ HB0.out) ?_)
  (with_reducible refine (HKV2.out.add_call b 0 0 rfl (Nat.zero_le _) HB0.out HBB0.out).mono ?_); rintro e w3 ⟨rfl, hB3⟩
  have HE3 := wall (HE2.out.old hB3)
  have HKV3 := wall (HKV2.out.next hB3)
  have h0 := HGO.out 0 (Nat.zero_le _)
  have HG0 := wall h0
  clear hB3 HE2 HKV2 h0
  rw [H00.out]
  generalize xorL b (kRound key 0) = e00 at *
  go_upto_region 5 with (refine wpList_set_row rfl 90 (.tmp 3) (.tmp 14) rfl gB (b8 (en 0)) rfl rfl 90 (b8 b) HE3.out.kb (HSB.out _ HG0.out.1) (by rw [b8_size, b8_size, HB0.out, HG0.out.1]) (b8_one _) ?_; intro w4 K4 F4)
  have HE4 := wall (HE3.out.put F4.out K4.out)
  clear K4 F4 HE3 HKV3
  go_wp2_with fail
  go_loopg [6] (R - 1) (fun gm s6 wr => ∃ i : Nat, i + gm = R - 1 ∧ s6 = .int .i64 ((i + 1 : Nat) : Int) ∧ Wall (Eb w w.heap.size gB gR (.slice A L c) (en i) wr))
  case atStart => exact ⟨0, by omega, rfl, HE4⟩
  case round =>
    clear HE4
    obtain ⟨i, hg, rfl, HE⟩ := hrel
    have HG := wall hg
    have hi : i + 1 ≤ R := by omega
    clear hg
    have HV := wall (HK0.out.next HE.out.bel)
    obtain ⟨cur, hcur⟩ : ∃ x, en i = x := ⟨_, rfl⟩
    have hck := HGO.out i (by omega)
    rw [hcur] at hck HE
    have HC := wall hck
    obtain ⟨s1, hs1⟩ : ∃ x, shiftF cur = x := ⟨_, rfl⟩
    have HS1 := wall (show s1.length = 16 ∧ ∀ x ∈ s1, x < 256 by rw [← hs1]; exact ⟨shiftF_length _, shiftF_byte _⟩)
    have HMV := wall (fun W (h : Blk W w.heap.size 94 (kC (.slice A L c)).toArray) => movF w.heap.size (.slice A L c) cur W h HC.out.1 HC.out.2)
    rw [hs1] at HMV
    by_cases hlt : i + 1 < R
    · obtain ⟨s2, hs2⟩ : ∃ x, mix [2, 3, 1, 1] s1 = x := ⟨_, rfl⟩
      have HS2 := wall (show s2.length = 16 ∧ ∀ x ∈ s2, x < 256 by rw [← hs2]; exact mixF_ok HS1.out.1 HS1.out.2)
      obtain ⟨s3, hs3⟩ : ∃ x, en (i + 1) = x := ⟨_, rfl⟩
      have hs3k := HGO.out (i + 1) hi
      rw [hs3] at hs3k
      have HS3 := wall hs3k
      have HMX := wall (fun W => mixed_any s1 [2, 3, 1, 1] W HS1.out.1 HS1.out.2 rfl (by decide))
      rw [hs2] at HMX
      have HAD := wall (fun W (h : KeyV W W.heap.size key A L c) => h.add_call s2 ((i : Int) + 1) (i + 1) (by omega) (by rw [HR.out]; omega) HS2.out.1 HS2.out.2)
      rw [show xorL s2 (kRound key (i + 1)) = s3 by rw [← hs3, HNX.out, hcur, hs1, hs2]] at HAD
      have HEQ := wall hs3
      clear hcur hck hs1 hs2 hs3 hs3k
      go_wp2_with fail
      refine Rel.wp_region_rel 8 [(23, .const (.agg (b8 s1))), (25, .const (.agg (b8 s2))), (27, .const (.agg (b8 s3)))] (by kernel_rfl) (by kernel_rfl) ?_
      simp only [List.take_succ_cons, List.take_zero, List.drop_succ_cons, List.drop_zero, Act.put, List.setIfInBounds_toArray, List.set_cons_zero, List.set_cons_succ]
      refine Rel.tree_pure rfl rfl rfl (.agg (kC (.slice A L c)).toArray) (fun W hW _ => Rel.exec_load _ _ rfl w.heap.size 0 rfl _ _ (Blk.range (hW.blk HE.out.kk.drew)) Tryd.underlying94 rfl HSK.out) ?_
      simp only [Act.put, List.setIfInBounds_toArray, List.set_cons_zero, List.set_cons_succ]
      refine Rel.tree_pure rfl rfl rfl (.agg (b8 cur)) (fun W hW _ => Rel.exec_load _ _ rfl gB 0 rfl _ _ (Blk.range (hW.blk HE.out.kb.drew)) Tryd.underlying90 rfl (HSB.out _ HC.out.1)) ?_
      simp only [Act.put, List.setIfInBounds_toArray, List.set_cons_zero, List.set_cons_succ]
      (refine Rel.tree_quiet rfl rfl rfl (fun K hK => ?_); go_big_quiet_op; refine hK _ ?_; clear hK K)
      refine Rel.tree_const rfl (.agg (b8 s1)) rfl (fun W hW _ => ?_) ?_
      · unfold Rel.relAt; go_simp; show Calls _ _ _ _ _
        exact const_call (HMV.out W (hW.blk HE.out.kk.drew))
      simp only [Act.put, List.setIfInBounds_toArray, List.set_cons_zero, List.set_cons_succ]
      refine Rel.tree_pure rfl rfl rfl (.agg (b8 [2, 3, 1, 1])) (fun W hW _ => Rel.exec_build _ _ rfl _ (by kernel_rfl)) ?_
      simp only [Act.put, List.setIfInBounds_toArray, List.set_cons_zero, List.set_cons_succ]
      refine Rel.tree_const rfl (.agg (b8 s2)) rfl (fun W hW _ => ?_) ?_
      · unfold Rel.relAt; go_simp; show Calls _ _ _ _ _
        exact const_call (HMX.out W)
      simp only [Act.put, List.setIfInBounds_toArray, List.set_cons_zero, List.set_cons_succ]
      (refine Rel.tree_quiet rfl rfl rfl (fun K hK => ?_); go_big_quiet_op; refine hK _ ?_; clear hK K)
      refine Rel.tree_const rfl (.agg (b8 s3)) rfl (fun W hW _ => ?_) ?_
      · have hV := HV.out.next hW.undrew
        unfold Rel.relAt; go_simp; show Calls _ _ _ _ _
        exact const_call (HAD.out W hV)
      simp only [Act.put, List.setIfInBounds_toArray, List.set_cons_zero, List.set_cons_succ]
      intro W hW _
      have HEW := wall (HE.out.old hW.undrew)
      clear hW HE HV HMV HMX HAD
      go_upto_region 7 with (refine wpList_set_row rfl 90 (.tmp 3) (.tmp 27) rfl gB (b8 s3) rfl rfl 90 (b8 cur) HEW.out.kb (HSB.out _ HS3.out.1) (by rw [b8_size, b8_size, HC.out.1, HS3.out.1]) (b8_one _) ?_; intro w7 K7 F7)
      have HE7 := wall (HEW.out.put F7.out K7.out)
      rw [← HEQ.out] at HE7
      clear HEW K7 F7
      go_wp2_with fail
      go_light
      go_roundg (R - 1 - (i + 1))
      case measure => have := HG.out; omega
      case rel => exact ⟨i + 1, by omega, by go_num, HE7⟩
    · have hiR : i = R - 1 := by omega
      have HS3 := HRB
      have HAD := wall (fun W (h : KeyV W W.heap.size key A L c) => h.add_call s1 (R : Int) R rfl (by rw [HR.out]; exact Nat.le_refl _) HS1.out.1 HS1.out.2)
      rw [show xorL s1 (kRound key R) = res by rw [HEN.out, ← hiR, hcur, hs1]] at HAD
      have hnl : ¬ ((i : Int) + 1 < (R : Int)) := by omega
      clear hcur hck hs1 hiR
      go_wp2_with fail
      refine Rel.wp_region_rel 6 [(31, .const (.agg (b8 s1))), (33, .const (.agg (b8 res)))] (by kernel_rfl) (by kernel_rfl) ?_
      simp only [List.take_succ_cons, List.take_zero, List.drop_succ_cons, List.drop_zero, Act.put, List.setIfInBounds_toArray, List.set_cons_zero, List.set_cons_succ]
      refine Rel.tree_pure rfl rfl rfl (.agg (kC (.slice A L c)).toArray) (fun W hW _ => Rel.exec_load _ _ rfl w.heap.size 0 rfl _ _ (Blk.range (hW.blk HE.out.kk.drew)) Tryd.underlying94 rfl HSK.out) ?_
      simp only [Act.put, List.setIfInBounds_toArray, List.set_cons_zero, List.set_cons_succ]
      refine Rel.tree_pure rfl rfl rfl (.agg (b8 cur)) (fun W hW _ => Rel.exec_load _ _ rfl gB 0 rfl _ _ (Blk.range (hW.blk HE.out.kb.drew)) Tryd.underlying90 rfl (HSB.out _ HC.out.1)) ?_
      simp only [Act.put, List.setIfInBounds_toArray, List.set_cons_zero, List.set_cons_succ]
      (refine Rel.tree_quiet rfl rfl rfl (fun K hK => ?_); go_big_quiet_op; refine hK _ ?_; clear hK K)
      refine Rel.tree_const rfl (.agg (b8 s1)) rfl (fun W hW _ => ?_) ?_
      · unfold Rel.relAt; go_simp; show Calls _ _ _ _ _
        exact const_call (HMV.out W (hW.blk HE.out.kk.drew))
      simp only [Act.put, List.setIfInBounds_toArray, List.set_cons_zero, List.set_cons_succ]
      (refine Rel.tree_quiet rfl rfl rfl (fun K hK => ?_); go_big_quiet_op; refine hK _ ?_; clear hK K)
      refine Rel.tree_const rfl (.agg (b8 res)) rfl (fun W hW _ => ?_) ?_
      · have hV := HV.out.next hW.undrew
        unfold Rel.relAt; go_simp; show Calls _ _ _ _ _
        exact const_call (HAD.out W hV)
      simp only [Act.put, List.setIfInBounds_toArray, List.set_cons_zero, List.set_cons_succ]
      intro W hW _
      have HEW := wall (HE.out.old hW.undrew)
      clear hW HE HV HMV HAD
      have o1 : w.heap.size ≤ gR := by have := HEW.out.o2; have := HEW.out.o3; omega
      go_wp2_with (refine wpList_new_row rfl 90 (.tmp 4) (.tmp 33) rfl gR (b8 res) rfl rfl 90 (b8 z16) HEW.out.kr (HSB.out _ HS3.out.1) (by rw [b8_size, b8_size, HS3.out.1]; rfl) (b8_one _) w.heap.size w HEW.out.bel o1 ?_; intro w7 KD B7)
      go_light
      exact bodyPost_ret (v := .agg (b8 res)) (results_cell_row Tryd.results96 _ _ gR 90 (b8 res) (0, 0) _ rfl KD.out Tryd.underlying90 rfl (HSB.out _ HS3.out.1)) rfl ⟨rfl, B7.out⟩
end Aes
end Go.Proofs.YtpakdcgcgekcfaaDoor

/-
  Package aes: Decrypt.
-/
set_option linter.unusedSimpArgs false
set_option linter.unusedVariables false
namespace Go.Proofs.YtpakdcgcgekcfaaDoor
open Go.RowKit

namespace Aes
open Otp R1 Fuse Sha
set_option maxRecDepth 100000 in
set_option maxHeartbeats 2000000 in
theorem decrypt_any (key b : List Nat) (A : Option Addr) (L c : Nat) (w : World) (hk : KeyV w w.heap.size key A L c) (hb : b.length = 16) (hbb : ∀ x ∈ b, x < 256) : Calls Tryd.prog 97 #[.agg (kC (.slice A L c)).toArray, .agg (b8 b)] w (BkOut w (decB key b)) := by
  obtain ⟨w1, hw1⟩ : ∃ W, W = ((w.alloc (.cells (kC (.slice A L c)).toArray 94)).alloc (.cells (b8 b) 90)).alloc (.cells (b8 z16) 90) := ⟨_, rfl⟩
  have HW := wall hw1
  have HE1 := wall (show Eb w w.heap.size (w.heap.size + 1) (w.heap.size + 1 + 1) (.slice A L c) b w1 by
    rw [hw1]
    exact ⟨((Blk.new _ _ _).alloc _).alloc _, (blk_new' (by simp)).alloc _, blk_new' (by simp), (((Below.refl _ w).alloc (Nat.le_refl _) _).alloc (by simp) _).alloc (by simp; omega) _, Nat.le_refl _, by omega, by omega⟩)
  have HK0 := wall hk
  have HKV := wall (hk.next HE1.out.bel)
  have HOK := wall hk.good.ok
  have HSK := wall (show (Tryd.prog.info? 94).map (·.size) = some (kC (.slice A L c)).toArray.size by rw [List.size_toArray, kC_length]; exact key_info)
  have HSB := wall (fun (l : List Nat) (h : l.length = 16) => show (Tryd.prog.info? 90).map (·.size) = some (b8 l).size by rw [b8_size, h]; exact blk_info16)
  obtain ⟨R, hR⟩ : ∃ R, rounds key = R := ⟨_, rfl⟩
  have HR := wall hR
  have hR1 : 1 ≤ R := by rw [← hR]; exact HOK.out.1
  have hR2 : R ≤ 14 := by have := hk.size; omega
  have HKR := wall (fun r (h : r ≤ R) => HOK.out.2 r (by rw [hR]; exact h))
  have HGO := wall (fun r => decGo_ok (key := key) b r)
  have HEN := wall (show decB key b = xorL (decGo key b (R - 1)) (kRound key 0) by rw [decB, hR])
  obtain ⟨res, hres⟩ : ∃ r, decB key b = r := ⟨_, rfl⟩
  have HRB := wall (show res.length = 16 ∧ ∀ x ∈ res, x < 256 by rw [← hres]; exact decB_ok HOK.out b)
  rw [hres] at HEN ⊢
  have HB0 := wall hb
  have HBB0 := wall hbb
  have HNX := wall (fun i => show decGo key b (i + 1) = shiftB (mix [14, 11, 13, 9] (xorL (decGo key b i) (kRound key (R - 1 - i)))) by rw [← hR]; rfl)
  have H00 := wall (show shiftB (xorL b (kRound key R)) = decGo key b 0 by rw [← hR]; rfl)
  have HX0 := wall (show (xorL b (kRound key R)).length = 16 ∧ ∀ x ∈ xorL b (kRound key R), x < 256 from ⟨xorL_length hb (HKR.out R (Nat.le_refl _)).1, xorL_byte hbb (HKR.out R (Nat.le_refl _)).2⟩)
  generalize decGo key b = en at *
  clear hw1 hk hR hb hbb hres
  go_enter Tryd.func97, Tryd.ntmps97
  go_upto_region 1 with fail
  change Code.wp _ _ _ _ (((w.alloc (.cells (kC (.slice A L c)).toArray 94)).alloc (.cells (b8 b) 90)).alloc (.cells (b8 z16) 90))
  rw [← HW.out]
  clear HW
  obtain ⟨gR, hgR⟩ : ∃ x, x = w.heap.size + 1 + 1 := ⟨_, rfl⟩
  rw [← hgR] at HE1
  rw [← hgR]
  obtain ⟨gB, hgB⟩ : ∃ x, x = w.heap.size + 1 := ⟨_, rfl⟩
  rw [← hgB] at HE1
  rw [← hgB]
  clear hgR hgB
  go_wp2_with (refine wpList_load_row rfl 94 _ rfl w.heap.size rfl 94 (kC (.slice A L c)).toArray (0, 0) _ HE1.out.kk Tryd.underlying94 rfl HSK.out ?_)
  (with_reducible refine (HKV.out.rounds_call).mono ?_); rintro e w2 ⟨rfl, hB2⟩
  have HE2 := wall (HE1.out.old hB2)
  have HKV2 := wall (HKV.out.next hB2)
  rw [HR.out]
  clear hB2 HE1 HKV
  have hRne : ((R : Int) == 0) = false := by rw [beq_eq_false_iff_ne]; omega
  go_wp2_with (first | refine wpList_load_row rfl 94 _ rfl w.heap.size rfl 94 (kC (.slice A L c)).toArray (0, 0) _ HE2.out.kk Tryd.underlying94 rfl HSK.out ?_ | refine wpList_load_row rfl 90 _ rfl gB rfl 90 (b8 b) (0, 0) _ HE2.out.kb Tryd.underlying90 rfl (HSB.out _ HB0.out) ?_)
  (with_reducible refine (HKV2.out.add_call b R R rfl (by rw [HR.out]; exact Nat.le_refl _) HB0.out HBB0.out).mono ?_); rintro e w3 ⟨rfl, hB3⟩
  have HE3 := wall (HE2.out.old hB3)
  clear hB3 HE2 HKV2
  obtain ⟨x0, hx0⟩ : ∃ x, xorL b (kRound key R) = x := ⟨_, rfl⟩
  rw [hx0] at HX0 H00 ⊢
  clear hx0
  go_wp2_with fail
  (with_reducible refine (movB w.heap.size (.slice A L c) x0 w3 HE3.out.kk HX0.out.1 HX0.out.2).mono ?_); rintro e w4 ⟨rfl, hB4⟩
  have HE4 := wall (HE3.out.old hB4)
  have h0 := HGO.out 0
  have HG0 := wall h0
  clear hB4 HE3 h0
  rw [H00.out]
  generalize shiftB x0 = e00 at *
  go_upto_region 5 with (refine wpList_set_row rfl 90 (.tmp 3) (.tmp 17) rfl gB (b8 (en 0)) rfl rfl 90 (b8 b) HE4.out.kb (HSB.out _ HG0.out.1) (by rw [b8_size, b8_size, HB0.out, HG0.out.1]) (b8_one _) ?_; intro w5 K5 F5)
  have HE5 := wall (HE4.out.put F5.out K5.out)
  clear K5 F5 HE4
  go_wp2_with fail
  go_loopg [6] (R - 1) (fun gm s6 wr => ∃ i : Nat, i + gm = R - 1 ∧ s6 = .int .i64 ((R - 1 - i : Nat) : Int) ∧ Wall (Eb w w.heap.size gB gR (.slice A L c) (en i) wr))
  case atStart => exact ⟨0, by omega, by go_num, HE5⟩
  case round =>
    clear HE5
    obtain ⟨i, hg, rfl, HE⟩ := hrel
    have HG := wall hg
    have hi : i + 1 ≤ R := by omega
    clear hg
    have HV := wall (HK0.out.next HE.out.bel)
    obtain ⟨cur, hcur⟩ : ∃ x, en i = x := ⟨_, rfl⟩
    have hck := HGO.out i
    rw [hcur] at hck HE
    have HC := wall hck
    by_cases hlt : i + 1 < R
    · obtain ⟨r, hr⟩ : ∃ r, R - 1 - i = r := ⟨_, rfl⟩
      have hr1 : 1 ≤ r := by omega
      have hr2 : r ≤ R := by omega
      obtain ⟨s1, hs1⟩ : ∃ x, xorL cur (kRound key r) = x := ⟨_, rfl⟩
      have HS1 := wall (show s1.length = 16 ∧ ∀ x ∈ s1, x < 256 by rw [← hs1]; exact ⟨xorL_length HC.out.1 (HKR.out r hr2).1, xorL_byte HC.out.2 (HKR.out r hr2).2⟩)
      obtain ⟨s2, hs2⟩ : ∃ x, mix [14, 11, 13, 9] s1 = x := ⟨_, rfl⟩
      have HS2 := wall (show s2.length = 16 ∧ ∀ x ∈ s2, x < 256 by rw [← hs2]; exact mixB_ok HS1.out.1 HS1.out.2)
      obtain ⟨s3, hs3⟩ : ∃ x, en (i + 1) = x := ⟨_, rfl⟩
      have hs3k := HGO.out (i + 1)
      rw [hs3] at hs3k
      have HS3 := wall hs3k
      have HAD := wall (fun W (h : KeyV W W.heap.size key A L c) => h.add_call cur (r : Int) r rfl (by rw [HR.out]; exact hr2) HC.out.1 HC.out.2)
      rw [hs1] at HAD
      have HMX := wall (fun W => show Calls Tryd.prog 118 #[.agg (b8 s1), .agg #[.int .u8 14, .int .u8 11, .int .u8 13, .int .u8 9]] W (BkOut W (mix [14, 11, 13, 9] s1)) from mixed_any s1 [14, 11, 13, 9] W HS1.out.1 HS1.out.2 rfl (by decide))
      rw [hs2] at HMX
      have HMV := wall (fun W (h : Blk W w.heap.size 94 (kC (.slice A L c)).toArray) => movB w.heap.size (.slice A L c) s2 W h HS2.out.1 HS2.out.2)
      rw [show shiftB s2 = s3 by rw [← hs3, HNX.out, hcur, hr, hs1, hs2]] at HMV
      have HEQ := wall hs3
      have HRI := wall hr
      rw [hr]
      clear hcur hck hs1 hs2 hs3 hs3k hr
      go_wp2_with (first | refine wpList_load_row rfl 94 _ rfl w.heap.size rfl 94 (kC (.slice A L c)).toArray (0, 0) _ HE.out.kk Tryd.underlying94 rfl HSK.out ?_ | refine wpList_load_row rfl 90 _ rfl gB rfl 90 (b8 cur) (0, 0) _ HE.out.kb Tryd.underlying90 rfl (HSB.out _ HC.out.1) ?_)
      (with_reducible refine (HAD.out _ HV.out).mono ?_); rintro e w6 ⟨rfl, hB6⟩
      have HE6 := wall (HE.out.old hB6)
      clear hB6 HAD HE
      go_wp2_with fail
      (with_reducible refine (HMX.out _).mono ?_); rintro e w7 ⟨rfl, hB7⟩
      have HE7 := wall (HE6.out.old hB7)
      clear hB7 HMX HE6
      go_wp2_with fail
      (with_reducible refine (HMV.out _ HE7.out.kk).mono ?_); rintro e w8 ⟨rfl, hB8⟩
      have HE8 := wall (HE7.out.old hB8)
      clear hB8 HMV HE7
      go_upto_region 7 with (refine wpList_set_row rfl 90 (.tmp 3) (.tmp 31) rfl gB (b8 s3) rfl rfl 90 (b8 cur) HE8.out.kb (HSB.out _ HS3.out.1) (by rw [b8_size, b8_size, HC.out.1, HS3.out.1]) (b8_one _) ?_; intro w9 K9 F9)
      have HE9 := wall (HE8.out.put F9.out K9.out)
      rw [← HEQ.out] at HE9
      clear HE8 K9 F9
      go_wp2_with fail
      go_light
      go_roundg (R - 1 - (i + 1))
      case measure => have := HG.out; omega
      case rel => exact ⟨i + 1, by omega, by have := HRI.out; go_num, HE9⟩
    · have hiR : i = R - 1 := by omega
      have HAD := wall (fun W (h : KeyV W W.heap.size key A L c) => h.add_call cur 0 0 rfl (Nat.zero_le _) HC.out.1 HC.out.2)
      rw [show xorL cur (kRound key 0) = res by rw [HEN.out, ← hiR, hcur]] at HAD
      have h00 : R - 1 - i = 0 := by omega
      rw [h00]
      clear hcur hck hiR h00
      go_wp2_with (first | refine wpList_load_row rfl 94 _ rfl w.heap.size rfl 94 (kC (.slice A L c)).toArray (0, 0) _ HE.out.kk Tryd.underlying94 rfl HSK.out ?_ | refine wpList_load_row rfl 90 _ rfl gB rfl 90 (b8 cur) (0, 0) _ HE.out.kb Tryd.underlying90 rfl (HSB.out _ HC.out.1) ?_)
      (with_reducible refine (HAD.out _ HV.out).mono ?_); rintro e w6 ⟨rfl, hB6⟩
      have HE6 := wall (HE.out.old hB6)
      have o1 : w.heap.size ≤ gR := by have := HE6.out.o2; have := HE6.out.o3; omega
      clear hB6 HAD HE
      go_wp2_with (refine wpList_new_row rfl 90 (.tmp 4) (.tmp 34) rfl gR (b8 res) rfl rfl 90 (b8 z16) HE6.out.kr (HSB.out _ HRB.out.1) (by rw [b8_size, b8_size, HRB.out.1]; rfl) (b8_one _) w.heap.size w HE6.out.bel o1 ?_; intro w7 KD B7)
      go_light
      exact bodyPost_ret (v := .agg (b8 res)) (results_cell_row Tryd.results97 _ _ gR 90 (b8 res) (0, 0) _ rfl KD.out Tryd.underlying90 rfl (HSB.out _ HRB.out.1)) rfl ⟨rfl, B7.out⟩
end Aes
end Go.Proofs.YtpakdcgcgekcfaaDoor

/-
  A struct built of its parts, in the walk: its cells known.
-/
set_option linter.unusedSimpArgs false
set_option linter.unusedVariables false
namespace Go.Proofs.YtpakdcgcgekcfaaDoor
open Go.RowKit

namespace Otp
theorem wpList_build_row {P : Program} {ops : Array Oper} {rest : List Oper} {o : Oper} {a : Act} {w : World} {Q : Exit → Act → World → Prop} (hgd : o.guard = none) (t : TypeId) (parts : List (Nat × Operand)) (ho : o.op = .build t parts.toArray)
    (cells : Array Value) (hb : P.built t (parts.map fun p => (p.1, a.eval p.2)) = some cells) (h : wpList P ops Q rest (a.put o.dst (.agg cells)) w) : wpList P ops Q (o :: rest) a w :=
  wpList_plain hgd fun _ hK => by
    unfold Oper.wp
    rw [Rel.exec_build t parts ho cells hb]
    exact hK _ _ h
end Otp
end Go.Proofs.YtpakdcgcgekcfaaDoor
