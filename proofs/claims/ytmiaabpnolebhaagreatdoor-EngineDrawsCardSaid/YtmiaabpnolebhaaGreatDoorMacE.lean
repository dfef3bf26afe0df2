/-
  Package mac: Derive (keys of at most a block).
-/
import Derived.Test.YtmiaabpnolebhaaGreatDoorJcc6c8868
set_option linter.unusedSimpArgs false
set_option linter.unusedVariables false
namespace Go.Proofs.YtmiaabpnolebhaaGreatDoor
open Go.RowKit

namespace Mac
open Otp R1 Sha
theorem partsB_snoc (ps : List (List Nat)) (p : List Nat) : partsB (ps ++ [p]) = partsB ps ++ numB p.length 4 ++ p := by simp [partsB]
theorem partsB_take {ps : List (List Nat)} {i : Nat} {p : List Nat} (h : ps[i]? = some p) : partsB (ps.take (i + 1)) = partsB (ps.take i) ++ numB p.length 4 ++ p := by rw [take_snoc h, partsB_snoc]
theorem partsB_length : ∀ ps : List (List Nat), (partsB ps).length = 4 * ps.length + ps.flatten.length
  | [] => rfl
  | p :: ps => by
    have := partsB_length ps
    simp only [partsB, List.flatMap_cons, List.length_append, numB_length, List.length_cons, List.flatten_cons] at this ⊢
    omega
theorem partsB_byte {ps : List (List Nat)} (h : ∀ x ∈ ps.flatten, x < 256) : ∀ x ∈ partsB ps, x < 256 := fun x hx => by
  obtain ⟨p, hp, hx⟩ := List.mem_flatMap.1 hx
  rcases List.mem_append.1 hx with h1 | h1
  · exact numB_byte _ 4 x h1
  · exact h x (List.mem_flatten.2 ⟨p, hp, h1⟩)
theorem sub_byte {a b : List Nat} (ha : ∀ x ∈ a, x < 256) (hb : ∀ x ∈ b, x < 256) : ∀ x ∈ a ++ b, x < 256 := fun x hx => by
  rcases List.mem_append.1 hx with h | h
  · exact ha x h
  · exact hb x h
set_option maxRecDepth 100000 in
set_option maxHeartbeats 8000000 in
theorem mderive_any (k : List Nat) (A : Option Addr) (len cap : Nat) (s : ByteArray) (ps : List (List Nat)) (PA : Option Addr) (pn pc : Nat) (w : World) (hT : STab w) (hl : k.length = len) (h64 : len ≤ 64) (hz : Nats .u8 256 w w.heap.size A k) (hkb : ∀ x ∈ k, x < 256)
    (hs : s.size ≤ 100000) (hpn : ps.length = pn) (hpm : pn ≤ 1000) (hP : Parts w w.heap.size PA ps) (hm : ps.flatten.length ≤ 100000) :
    Calls Tryz.prog 253 #[.slice A len cap, .string s, .slice PA pn pc] w (DigOut w (deriveB k (sB s) ps)) := by
  subst hpn
  have HNEW := wall (fun W (h1 : STab W) (h2 : Nats .u8 256 W W.heap.size A k) => mnew_any k A len cap W h1 hl h64 h2)
  obtain ⟨ip, hip⟩ : ∃ x, ipad k = x := ⟨_, rfl⟩
  obtain ⟨op, hop⟩ : ∃ x, opad k = x := ⟨_, rfl⟩
  obtain ⟨r, hr⟩ : ∃ x, deriveB k (sB s) ps = x := ⟨_, rfl⟩
  obtain ⟨lb, hlb⟩ : ∃ x, sB s = x := ⟨_, rfl⟩
  obtain ⟨n1, hn1⟩ : ∃ x, numB s.size 4 = x := ⟨_, rfl⟩
  obtain ⟨n2, hn2⟩ : ∃ x, numB ps.length 4 = x := ⟨_, rfl⟩
  obtain ⟨c1, hc1⟩ : ∃ x, ip ++ n1 = x := ⟨_, rfl⟩
  obtain ⟨c2, hc2⟩ : ∃ x, c1 ++ lb = x := ⟨_, rfl⟩
  obtain ⟨c3, hc3⟩ : ∃ x, c2 ++ n2 = x := ⟨_, rfl⟩
  rw [hr]
  change Wall (∀ W, STab W → Nats .u8 256 W W.heap.size A k → Calls Tryz.prog 268 #[.slice A len cap] W (fun e w' => e = .returned (.agg (mC (ipad k) (opad k)).toArray) ∧ Below W.heap.size W w')) at HNEW
  rw [hip, hop] at HNEW
  have HIL := wall (show ip.length = 64 by rw [← hip]; exact ipad_length k)
  have HOL := wall (show op.length = 64 by rw [← hop]; exact opad_length k)
  have HIB := wall (show ∀ x ∈ ip, x < 256 by rw [← hip]; exact turn_byte (by decide) (keyB_byte hkb))
  have HOB := wall (show ∀ x ∈ op, x < 256 by rw [← hop]; exact turn_byte (by decide) (keyB_byte hkb))
  have HN1L := wall (show n1.length = 4 by rw [← hn1]; exact numB_length _ _)
  have HN2L := wall (show n2.length = 4 by rw [← hn2]; exact numB_length _ _)
  have HN1B := wall (show ∀ x ∈ n1, x < 256 by rw [← hn1]; exact numB_byte _ _)
  have HN2B := wall (show ∀ x ∈ n2, x < 256 by rw [← hn2]; exact numB_byte _ _)
  have HLL := wall (show lb.length = s.size by rw [← hlb]; exact sB_length s)
  have HLB := wall (show ∀ x ∈ lb, x < 256 by rw [← hlb]; exact sB_byte s)
  have HC1L := wall (show c1.length = 68 by rw [← hc1, List.length_append, HIL.out, HN1L.out])
  have HC2L := wall (show c2.length = 68 + s.size by rw [← hc2, List.length_append, HC1L.out, HLL.out])
  have HC3L := wall (show c3.length = 72 + s.size by rw [← hc3, List.length_append, HC2L.out, HN2L.out]; omega)
  have HC1B := wall (show ∀ x ∈ c1, x < 256 by rw [← hc1]; exact sub_byte HIB.out HN1B.out)
  have HC2B := wall (show ∀ x ∈ c2, x < 256 by rw [← hc2]; exact sub_byte HC1B.out HLB.out)
  have HC3B := wall (show ∀ x ∈ c3, x < 256 by rw [← hc3]; exact sub_byte HC2B.out HN2B.out)
  have HR := wall (show sumB (op ++ sumB (c3 ++ partsB ps)) = r by
    rw [← hr, deriveB, macB_pads, hip, hop, hlb, hn2, ← hc3, ← hc2, ← hc1, show numB lb.length 4 = n1 by rw [HLL.out]; exact hn1]
    simp only [List.append_assoc])
  have HRL := wall (show r.length = 32 by rw [← hr]; exact deriveB_length _ _ _)
  have HNU1 := wall (fun W => num4_any (s.size : Int) s.size W rfl (by omega))
  have HNU2 := wall (fun W => num4_any (ps.length : Int) ps.length W rfl (by omega))
  rw [hn1] at HNU1
  rw [hn2] at HNU2
  have HT := wall hT
  have HN := wall hz
  have HP := wall hP
  have HM := wall hm
  have HPB := wall (parts_byte hP)
  have HSM := fun x y => wall (show (Tryz.prog.info? 412).map (·.size) = some (mC x y).toArray.size by rw [List.size_toArray, mC_length]; exact mac_info)
  have HLBE := wall hlb
  have HC1 := wall hc1
  have HC2 := wall hc2
  have HC3 := wall hc3
  clear hT hz hP hm hip hop hr hkb hlb hn1 hn2 hc1 hc2 hc3
  obtain ⟨W1, hW1⟩ : ∃ W, W = w.alloc (.cells (b8 (List.replicate 32 0)) 23) := ⟨_, rfl⟩
  have K0 := wall (show Blk W1 w.heap.size 23 (b8 (List.replicate 32 0)) by rw [hW1]; exact Blk.new _ _ _)
  have HB := wall (show Below w.heap.size w W1 by rw [hW1]; exact (Below.refl _ w).alloc (Nat.le_refl _) _)
  have HW1 := wall hW1
  clear hW1
  go_enter Tryz.func253, Tryz.ntmps253
  go_upto_region 1 with fail
  change Code.wp _ _ _ _ (w.alloc (.cells (b8 (List.replicate 32 0)) 23))
  rw [← HW1.out]
  clear HW1
  go_wp2_with fail
  (with_reducible refine (HNEW.out _ (HT.out.old HB.out) ((HN.out.below HB.out).more HB.out.size)).mono ?_); rintro e w2 ⟨rfl, hB2⟩
  have K2 := wall (K0.out.next hB2 rfl)
  have HB2 := wall (below_then HB.out hB2 (Nat.le_refl _))
  clear hB2 K0 HB HNEW HN
  go_wp2_with fail
  (with_reducible refine (HNU1.out _).mono ?_); rintro e w3 ⟨v3, rfl, hO3, hB3⟩
  obtain ⟨A3, cp3, rfl, hcp3, hN3, _⟩ := own_nats hO3 HN1B.out
  have K3 := wall (K2.out.next hB3 rfl)
  have HB3 := wall (below_then HB2.out hB3 (Nat.le_refl _))
  have HF1 := wall (mfeed_any ip op n1 A3 n1.length cp3 w3 (HT.out.old HB3.out) HIB.out rfl (by rw [HIL.out, HN1L.out]; decide) hcp3 hN3)
  rw [HC1.out] at HF1
  clear hO3 hB3 hN3 K2 HB2 HNU1
  go_wp2_with fail
  (with_reducible refine HF1.out.mono ?_); rintro e w4 ⟨rfl, hB4⟩
  have K4 := wall (K3.out.next hB4 rfl)
  have HB4 := wall (below_then HB3.out hB4 (Nat.le_refl _))
  clear hB4 K3 HB3 HF1
  go_wp2_with (refine wpList_convert_str rfl 9 24 5 (.tmp 16) rfl Tryz.underlying9 Tryz.underlying24 Tryz.underlying5 s rfl ?_; intro v5 w5 hv5 hB5)
  rw [HLBE.out] at hv5
  obtain ⟨A5, cp5, rfl, hcp5, _, hN5⟩ := hv5
  have K5 := wall (K4.out.next hB5 rfl)
  have HB5 := wall (below_then HB4.out hB5 (Nat.le_refl _))
  have HF2 := wall (mfeed_any c1 op lb A5 lb.length cp5 w5 (HT.out.old HB5.out) HC1B.out rfl (by rw [HC1L.out, HLL.out]; omega) hcp5 hN5)
  rw [HC2.out] at HF2
  clear hB5 hN5 K4 HB4
  (with_reducible refine HF2.out.mono ?_); rintro e w6 ⟨rfl, hB6⟩
  have K6 := wall (K5.out.next hB6 rfl)
  have HB6 := wall (below_then HB5.out hB6 (Nat.le_refl _))
  clear hB6 K5 HB5 HF2
  go_wp2_with fail
  (with_reducible refine (HNU2.out _).mono ?_); rintro e w7 ⟨v7, rfl, hO7, hB7⟩
  obtain ⟨A7, cp7, rfl, hcp7, hN7, _⟩ := own_nats hO7 HN2B.out
  have K7 := wall (K6.out.next hB7 rfl)
  have HB7 := wall (below_then HB6.out hB7 (Nat.le_refl _))
  have HF3 := wall (mfeed_any c2 op n2 A7 n2.length cp7 w7 (HT.out.old HB7.out) HC2B.out rfl (by rw [HC2L.out, HN2L.out]; omega) hcp7 hN7)
  rw [HC3.out] at HF3
  clear hO7 hB7 hN7 K6 HB6 HNU2
  go_wp2_with fail
  (with_reducible refine HF3.out.mono ?_); rintro e w8 ⟨rfl, hB8⟩
  have K8 := wall (K7.out.next hB8 rfl)
  have HB8 := wall (below_then HB7.out hB8 (Nat.le_refl _))
  clear hB8 K7 HB7 HF3
  have HZM := wall (show zM.toArray.size = (mC c3 op).toArray.size by rw [List.size_toArray, List.size_toArray, mC_length]; rfl)
  go_upto_region 2 with (refine wpList_new_row rfl 412 (.tmp 7) (.tmp 22) rfl w8.heap.size (mC c3 op).toArray rfl rfl 412 zM.toArray (Blk.new _ _ _) (HSM c3 op).out HZM.out (all_oneCell_toArray (mC_one c3 op)) w8.heap.size w8 ((Below.refl _ w8).alloc (Nat.le_refl _) _) (Nat.le_refl _) ?_; intro w9 KM hB9)
  have hw8 : w.heap.size < w8.heap.size := K8.out.lt
  have KM := wall (show Blk w9 w8.heap.size 412 (mC (c3 ++ partsB (ps.take 0)) op).toArray by rw [List.take_zero, show partsB [] = [] from rfl, List.append_nil]; exact KM.out)
  have K9 := wall (K8.out.next hB9 rfl)
  have HB9 := wall (below_then HB8.out hB9 (Nat.le_refl _))
  clear hB9 K8 HB8
  generalize w8.heap.size = g at *
  go_wp2_with fail
  go_loopg [25] ps.length (fun gm s25 wr => ∃ i : Nat, i + gm = ps.length ∧ s25 = .int .i64 (i : Int) ∧ Wall (Blk wr w.heap.size 23 (b8 (List.replicate 32 0))) ∧ Wall (Blk wr g 412 (mC (c3 ++ partsB (ps.take i)) op).toArray) ∧ Wall (Below w.heap.size w wr))
  case atStart => exact ⟨0, by omega, rfl, K9, KM, HB9⟩
  case round =>
    clear K9 KM HB9
    obtain ⟨i, hg, rfl, K3, KM, HB⟩ := hrel
    have HG := wall hg
    have hi : i ≤ ps.length := by omega
    clear hg
    by_cases hlt : i < ps.length
    · obtain ⟨p, hp⟩ : ∃ p, ps[i]? = some p := ⟨_, List.getElem?_eq_getElem hlt⟩
      obtain ⟨J, off, v, rfl, hJ, hcv, hBN⟩ := (HP.out.below HB.out) i p hp
      obtain ⟨Ap, cp, rfl, hcp, hnil, hN⟩ := hBN
      have HNP := wall hN
      have HFL := wall (partsB_take hp)
      have hsz := mem_flatten_le hp
      have hpl : p.length ≤ 100000 := by have := HM.out; omega
      obtain ⟨cur, hcur⟩ : ∃ c, c3 ++ partsB (ps.take i) = c := ⟨_, rfl⟩
      have HCL := wall (show cur.length ≤ 300000 by
        rw [← hcur, List.length_append, HC3L.out, partsB_length, List.length_take]
        have := HM.out
        omega)
      have HCB := wall (show ∀ x ∈ cur, x < 256 by
        rw [← hcur]
        refine sub_byte HC3B.out (partsB_byte (fun x hx => ?_))
        obtain ⟨q, hq, hx⟩ := List.mem_flatten.1 hx
        exact HPB.out x (List.mem_flatten.2 ⟨q, List.mem_of_mem_take hq, hx⟩))
      rw [hcur] at KM
      obtain ⟨nb, hnb⟩ : ∃ x, numB p.length 4 = x := ⟨_, rfl⟩
      obtain ⟨d1, hd1⟩ : ∃ x, cur ++ nb = x := ⟨_, rfl⟩
      obtain ⟨d2, hd2⟩ : ∃ x, d1 ++ p = x := ⟨_, rfl⟩
      have HD2 := wall (show c3 ++ partsB (ps.take (i + 1)) = d2 by
        rw [HFL.out, ← hd2, ← hd1, ← hcur, hnb]
        simp only [List.append_assoc])
      have HNB := wall (show ∀ x ∈ nb, x < 256 by rw [← hnb]; exact numB_byte _ _)
      have HNL := wall (show nb.length = 4 by rw [← hnb]; exact numB_length _ _)
      have HD1B := wall (show ∀ x ∈ d1, x < 256 by rw [← hd1]; exact sub_byte HCB.out HNB.out)
      have HD1L := wall (show d1.length ≤ 300004 by rw [← hd1, List.length_append, HNL.out]; have := HCL.out; omega)
      have HNU := wall (fun W => num4_any (p.length : Int) p.length W rfl (by omega))
      rw [hnb] at HNU
      have HD1 := wall hd1
      have HD2E := wall hd2
      have HZ := wall (show (mC cur op).toArray.size = (mC d2 op).toArray.size by rw [List.size_toArray, List.size_toArray, mC_length, mC_length])
      have HT3 := wall (HT.out.old HB.out)
      have HNQ := wall (fun W (h : Rel.Grow wr.drew W) => (HNP.out.below (h.undrew.mono HB.out.size)).more (Nat.le_trans HB.out.size h.undrew.size))
      clear hp hnil hN hcur hnb hd1 hd2 HFL HNP
      go_wp2_with fail
      refine Rel.wp_region_rel 7 [(31, .const (.int .i64 (p.length : Int))), (32, .any (Bytes nb) Bytes.grow), (33, .const (.agg (mC d1 op).toArray)), (35, .const (.agg (mC d2 op).toArray))] (by kernel_rfl) (by kernel_rfl) ?_
      simp only [List.take_succ_cons, List.take_zero, List.drop_succ_cons, List.drop_zero, Act.put, List.setIfInBounds_toArray, List.set_cons_zero, List.set_cons_succ]
      refine Rel.tree_pure rfl rfl rfl (.agg (mC cur op).toArray) (fun W hW _ => Rel.exec_load _ _ rfl g 0 rfl _ _ (Blk.range (hW.blk KM.out.drew)) Tryz.underlying412 rfl (HSM _ _).out) ?_
      simp only [Act.put, List.setIfInBounds_toArray, List.set_cons_zero, List.set_cons_succ]
      (refine Rel.tree_quiet rfl rfl rfl (fun K hK => ?_); go_big_quiet_op; refine hK _ ?_; clear hK K)
      refine Rel.tree_const rfl (.int .i64 (p.length : Int)) rfl (fun W hW _ => ?_) ?_
      · unfold Rel.relAt; go_simp; exact ⟨Rel.Grow.refl _, rfl⟩
      simp only [Act.put, List.setIfInBounds_toArray, List.set_cons_zero, List.set_cons_succ]
      refine Rel.tree_rel rfl (Bytes nb) Bytes.grow rfl (fun W hW _ => ?_) (fun v32 => ?_)
      · unfold Rel.relAt; go_simp; show Calls _ _ _ _ _
        exact bytes_call (HNU.out W) HNB.out
      simp only [Act.put, List.setIfInBounds_toArray, List.set_cons_zero, List.set_cons_succ]
      refine Rel.tree_const rfl (.agg (mC d1 op).toArray) rfl (fun W hW hF => ?_) ?_
      · obtain ⟨A2, c, rfl, hc, hN⟩ : Bytes nb v32 W := hF 32 (by decide)
        clear hF
        unfold Rel.relAt; go_simp; show Calls _ _ _ _ _
        have h := mfeed_any cur op nb A2 nb.length c W (HT3.out.old hW.undrew) HCB.out rfl (by rw [HNL.out]; have := HCL.out; omega) hc hN
        rw [HD1.out] at h
        exact const_call h
      simp only [Act.put, List.setIfInBounds_toArray, List.set_cons_zero, List.set_cons_succ]
      (refine Rel.tree_quiet rfl rfl rfl (fun K hK => ?_); go_big_quiet_op; refine hK _ ?_; clear hK K)
      refine Rel.tree_const rfl (.agg (mC d2 op).toArray) rfl (fun W hW _ => ?_) ?_
      · unfold Rel.relAt; go_simp; show Calls _ _ _ _ _
        have h := mfeed_any d1 op p Ap p.length cp W (HT3.out.old hW.undrew) HD1B.out rfl (by have := HD1L.out; omega) hcp (HNQ.out W hW)
        rw [HD2E.out] at h
        exact const_call h
      simp only [Act.put, List.setIfInBounds_toArray, List.set_cons_zero, List.set_cons_succ]
      intro W hW _
      have K5 := wall (hW.blk K3.out.drew)
      have KM5 := wall (hW.blk KM.out.drew)
      have HB5 := wall (below_then HB.out hW.undrew (Nat.le_refl _))
      clear hW K3 KM HB HNQ
      go_wp2_with (refine wpList_store_row rfl 412 (.tmp 7) _ rfl g (mC d2 op).toArray rfl rfl 412 (mC cur op).toArray KM5.out (HSM _ _).out HZ.out (all_oneCell_toArray (mC_one _ _)) ?_)
      go_light
      go_roundg (ps.length - (i + 1))
      case measure => have := HG.out; omega
      case rel =>
        refine ⟨i + 1, by have := HG.out; omega, by go_num, wall ?_, wall ?_, wall ?_⟩
        · exact K5.out.frm (frm_setRow (g := g) W _) (by simp; omega)
        · rw [HD2.out]; exact setRow_heap _ _ _ _ _ _ KM5.out
        · exact below_setRow HB5.out (by omega) _
    · have hil : i = ps.length := by omega
      subst hil
      have hni : ¬ (((ps.length : Nat) : Int) < ((ps.length : Nat) : Int)) := by omega
      rw [List.take_length] at KM
      obtain ⟨tot, htot⟩ : ∃ x, c3 ++ partsB ps = x := ⟨_, rfl⟩
      rw [htot] at KM
      have HTB := wall (show ∀ x ∈ tot, x < 256 by rw [← htot]; exact sub_byte HC3B.out (partsB_byte HPB.out))
      have HTL := wall (show tot.length ≤ 900000 by
        rw [← htot, List.length_append, HC3L.out, partsB_length]
        have := HM.out
        omega)
      have HSU := wall (msum_any tot op wr (HT.out.old HB.out) HTB.out HOB.out HTL.out (by rw [HOL.out]; decide))
      rw [show sumB (op ++ sumB tot) = r by rw [← htot]; exact HR.out] at HSU
      have HS := wall (show (Tryz.prog.info? 23).map (·.size) = some (b8 r).size by rw [b8_size, HRL.out]; exact dig_info)
      have HZ := wall (show (b8 (List.replicate 32 0)).size = (b8 r).size by rw [b8_size, b8_size, HRL.out]; rfl)
      clear hlt htot
      go_wp2_with (refine wpList_load_row rfl 412 _ rfl g rfl 412 (mC tot op).toArray (0, 0) _ KM.out Tryz.underlying412 rfl (HSM _ _).out ?_)
      (with_reducible refine HSU.out.mono ?_); rintro e w5 ⟨rfl, hB5⟩
      have K5 := wall (K3.out.next hB5 rfl)
      have HB5 := wall (below_then HB.out hB5 (Nat.le_refl _))
      clear hB5 K3 KM HB HSU
      go_wp2_with (refine wpList_store_row rfl 23 (.tmp 6) _ rfl w.heap.size (b8 r) rfl rfl 23 (b8 (List.replicate 32 0)) K5.out HS.out HZ.out (b8_one _) ?_)
      have hb := setRow_heap _ _ _ (b8 r) _ _ K5.out
      have hB := below_setRow HB5.out (Nat.le_refl _) (b8 r)
      go_light
      exact bodyPost_ret (v := .agg (b8 r)) (results_cell_row Tryz.results253 _ _ w.heap.size 23 (b8 r) (0, 0) _ rfl hb Tryz.underlying23 rfl HS.out) rfl ⟨rfl, hB⟩
end Mac
end Go.Proofs.YtmiaabpnolebhaaGreatDoor
