/-
  Package sha: Press.
-/
import Derived.Test.YtmiaabpnolebhaaGreatDoorJ1dca9515
import Derived.Test.YtmiaabpnolebhaaGreatDoorShaSpread
set_option linter.unusedSimpArgs false
set_option linter.unusedVariables false
namespace Go.Proofs.YtmiaabpnolebhaaGreatDoor
open Go.RowKit

namespace Sha
open Otp R1
/-- The tables of package sha. -/
structure STab (w : World) : Prop where
  k : w.rangeAt 5 0 (c32 rK).toList
  h : w.rangeAt 1 0 (c32 rH).toList
theorem STab.ltk {w : World} (h : STab w) : 5 < w.heap.size := cell_lt (h.k 0 _ rfl)
theorem STab.lth {w : World} (h : STab w) : 1 < w.heap.size := cell_lt (h.h 0 _ rfl)
theorem STab.old {w w' : World} (h : STab w) (hb : Below w.heap.size w w') : STab w' :=
  ⟨fun j v hv => (hb.cell (p := ⟨5, 0 + j, none⟩) h.ltk).trans (h.k j v hv), fun j v hv => (hb.cell (p := ⟨1, 0 + j, none⟩) h.lth).trans (h.h j v hv)⟩
theorem STab.cell {w : World} (h : STab w) {i x : Nat} (hx : rK[i]? = some x) : w.cell? ⟨5, i, none⟩ = some (.int .u32 (x : Int)) := by
  have := h.k i (.int .u32 (x : Int)) (by simp [c32, hx])
  rw [Nat.zero_add] at this
  exact this
theorem and_lt {x y : Nat} (hx : x < 4294967296) (_ : y < 4294967296) : x &&& y < 4294967296 := Nat.lt_of_le_of_lt Nat.and_le_left hx
theorem rK_word : ∀ x ∈ rK, x < 4294967296 := by decide +kernel
theorem rot_q (k x : Int) (n y r : Nat) (w : World) (hk : k = -(n : Int)) (hx : x = y) (hy : y < 4294967296) (h0 : 0 < n) (h1 : n < 32) (hr : rotr y n = r) :
    Calls Tryz.prog 263 #[.int .u32 x, .int .i64 k] w fun e w' => e = .returned (.int .u32 (r : Int)) ∧ w' = w :=
  (rot_to k x n y r w hk hx hy h0 h1 hr).mono fun _ _ h => ⟨h.1, h.2.symm⟩
theorem quiet_same2 {P : Program} {f : FuncId} {args : Array Value} {w : World} {a n : Nat} {v : Value}
    (h : Calls P f args (w.drewN (a + n)) fun e w' => e = .returned v ∧ w' = w.drewN (a + n)) : Calls P f args (w.drewN (a + n)) fun e w'' => e = .returned v ∧ ∃ m, w'' = w.drewN (a + m) :=
  h.mono fun _ _ ⟨he, hm⟩ => ⟨he, n, hm⟩
theorem h_info : (Tryz.prog.info? 72).map (·.size) = some 8 := by kernel_rfl
theorem blk64_info : (Tryz.prog.info? 193).map (·.size) = some 64 := by kernel_rfl
set_option maxRecDepth 100000 in
set_option maxHeartbeats 8000000 in
theorem press_any (hs bs : List Nat) (w : World) (hT : STab w) (hl : hs.length = 8) (hw : ∀ x ∈ hs, x < 4294967296) (bl : bs.length = 64) (bb : ∀ x ∈ bs, x < 256) :
    Calls Tryz.prog 225 #[.agg (c32 hs), .agg (b8 bs)] w (fun e w' => e = .returned (.agg (c32 (press hs bs))) ∧ Below w.heap.size w w') := by
  obtain ⟨res, hres⟩ : ∃ r, press hs bs = r := ⟨_, rfl⟩
  rw [hres]
  have HE0 := wall hres
  have HL := wall hl
  have HWD := wall hw
  have HSH := wall (show (Tryz.prog.info? 72).map (·.size) = some (c32 hs).size by rw [c32_size, hl]; exact h_info)
  have HSB := wall (show (Tryz.prog.info? 193).map (·.size) = some (b8 bs).size by rw [b8_size, bl]; exact blk64_info)
  have HZH := wall (show (c32 (List.replicate 8 0)).size = (c32 hs).size by rw [c32_size, c32_size, hl]; rfl)
  have HOH := wall (c32_one hs)
  have HSP := wall (fun W => spread_any bs W bl bb)
  obtain ⟨ws, hws⟩ : ∃ r, sched bs = r := ⟨_, rfl⟩
  rw [hws] at HSP
  have HWS := wall hws
  have HWL := wall (show ws.length = 64 by rw [← hws]; exact sched_length bl)
  have HWW := wall (show ∀ x ∈ ws, x < 4294967296 by rw [← hws]; exact sched_word bb)
  obtain ⟨W3, hW3⟩ : ∃ W, W = ((w.alloc (.cells (c32 hs) 72)).alloc (.cells (b8 bs) 193)).alloc (.cells (c32 (List.replicate 8 0)) 72) := ⟨_, rfl⟩
  have K0 := wall (show Blk W3 w.heap.size 72 (c32 hs) by rw [hW3]; exact ((Blk.new w _ _).alloc _).alloc _)
  have K1 := wall (show Blk W3 (w.heap.size + 1) 193 (b8 bs) by rw [hW3]; exact Blk.alloc (blk_new' (by simp)) _)
  have K2 := wall (show Blk W3 (w.heap.size + 1 + 1) 72 (c32 (List.replicate 8 0)) by rw [hW3]; exact blk_new' (by simp))
  have HB := wall (show Below w.heap.size w W3 by rw [hW3]; exact (((Below.refl _ w).alloc (Nat.le_refl _) _).alloc (by simp) _).alloc (by simp; omega) _)
  have hW3s : w.heap.size + 1 + 1 < W3.heap.size := K2.out.lt
  have HT0 := wall hT
  have hW3' := wall hW3
  clear hl hw bl bb hres hws hW3 hT
  go_enter Tryz.func225, Tryz.ntmps225
  go_upto_region 1 with fail
  change Code.wp _ _ _ _ (((w.alloc (.cells (c32 hs) 72)).alloc (.cells (b8 bs) 193)).alloc (.cells (c32 (List.replicate 8 0)) 72))
  rw [← hW3'.out]
  clear hW3'
  go_upto_region 2 with (first | refine wpList_load_row rfl 72 _ rfl w.heap.size rfl 72 (c32 hs) (0, 0) _ K0.out Tryz.underlying72 rfl HSH.out ?_ | (refine wpList_new_row rfl 72 (.tmp 5) (.tmp 14) rfl W3.heap.size (c32 hs) rfl rfl 72 (c32 (List.replicate 8 0)) (Blk.new _ _ _) HSH.out HZH.out HOH.out W3.heap.size W3 ((Below.refl _ W3).alloc (Nat.le_refl _) _) (Nat.le_refl _) ?_; intro w4 K3 hB4))
  have k0 := wall (K0.out.next hB4.out rfl)
  have k1 := wall (K1.out.next hB4.out rfl)
  have k2 := wall (K2.out.next hB4.out rfl)
  have HB4 := wall (below_then HB.out hB4.out (Nat.le_refl _))
  have K3' := wall K3.out
  clear K0 K1 K2 HB hB4 K3 HZH HOH
  go_wp2_with (refine wpList_load_row rfl 193 _ rfl (w.heap.size + 1) rfl 193 (b8 bs) (0, 0) _ k1.out Tryz.underlying193 rfl HSB.out ?_)
  (with_reducible refine (HSP.out _).mono ?_); rintro e w5 ⟨rfl, hB⟩
  have K0 := wall (k0.out.next hB rfl)
  have K2 := wall (k2.out.next hB rfl)
  have K3 := wall (K3'.out.next hB rfl)
  have HB := wall (below_then HB4.out hB (Nat.le_refl _))
  clear hB k0 k1 k2 K3' HB4 HSP HSB
  go_wp2_with fail
  go_loopg [6, 7, 8, 9, 10, 11, 12, 17] 64 (fun g s6 s7 s8 s9 s10 s11 s12 s17 wr => ∃ i : Nat, i + g = 64 ∧ s17 = .int .i64 (i : Int) ∧ Wall (Blk wr w.heap.size 72 (c32 hs)) ∧ Wall (Blk wr (w.heap.size + 1 + 1) 72 (c32 (List.replicate 8 0))) ∧ Wall (Blk wr W3.heap.size 72 (c32 ((St.of hs).run ws i).list)) ∧ Wall (Below w.heap.size w wr))
  case atStart => exact ⟨0, by omega, rfl, K0, K2, wall (by rw [show (St.of hs).run ws 0 = St.of hs from rfl, st_of HL.out]; exact K3.out), HB⟩
  case round =>
    clear K0 K2 K3 HB
    obtain ⟨i, hg, rfl, K0, K2, K3, HB⟩ := hrel
    have HG := wall hg
    have hi : i ≤ 64 := by omega
    clear hg
    have hok := St.ok_run (st_ok HL.out HWD.out) ws i
    by_cases hlt : i < 64
    · obtain ⟨ww, hx⟩ : ∃ x, ws[i]? = some x := ⟨_, List.getElem?_eq_getElem (by have := HWL.out; omega)⟩
      obtain ⟨kk, hkx⟩ : ∃ x, rK[i]? = some x := ⟨_, List.getElem?_eq_getElem (show i < rK.length from hlt)⟩
      have wwM := HWW.out ww (List.mem_of_getElem? hx)
      have kkM := rK_word kk (List.mem_of_getElem? hkx)
      have hck := (HT0.out.old HB.out).cell hkx
      have HRN := wall (show (St.of hs).run ws (i + 1) = ((St.of hs).run ws i).round kk ww by rw [St.run, hkx, hx]; rfl)
      have hix := run_index_arr (P := Tryz.prog) 295 52 64 Tryz.underlying295 (fun _ => by kernel_rfl) (fun _ => by kernel_rfl) (c32 ws) .i64 (i : Int) i rfl hlt _ (c32_at hx)
      clear hx hkx
      obtain ⟨s, hs0⟩ : ∃ s, (St.of hs).run ws i = s := ⟨_, rfl⟩
      rw [hs0] at HRN K3 hok
      clear hs0
      obtain ⟨a, b, c, d, e, f, g, hh⟩ := s
      obtain ⟨aM, bM, cM, dM, eM, fM, gM, hM⟩ := hok
      simp only at aM bM cM dM eM fM gM hM
      have ca : wr.cell? ⟨W3.heap.size, 0, none⟩ = some (.int .u32 (a : Int)) := by rw [K3.out.cell]; rfl
      have cb : wr.cell? ⟨W3.heap.size, 1, none⟩ = some (.int .u32 (b : Int)) := by rw [K3.out.cell]; rfl
      have cc : wr.cell? ⟨W3.heap.size, 2, none⟩ = some (.int .u32 (c : Int)) := by rw [K3.out.cell]; rfl
      have cd : wr.cell? ⟨W3.heap.size, 3, none⟩ = some (.int .u32 (d : Int)) := by rw [K3.out.cell]; rfl
      have ce : wr.cell? ⟨W3.heap.size, 4, none⟩ = some (.int .u32 (e : Int)) := by rw [K3.out.cell]; rfl
      have cf : wr.cell? ⟨W3.heap.size, 5, none⟩ = some (.int .u32 (f : Int)) := by rw [K3.out.cell]; rfl
      have cg : wr.cell? ⟨W3.heap.size, 6, none⟩ = some (.int .u32 (g : Int)) := by rw [K3.out.cell]; rfl
      have ch' : wr.cell? ⟨W3.heap.size, 7, none⟩ = some (.int .u32 (hh : Int)) := by rw [K3.out.cell]; rfl
      obtain ⟨r6, h6⟩ : ∃ r, rotr e 6 = r := ⟨_, rfl⟩
      have l6 : r6 < 4294967296 := by rw [← h6]; exact rotr_lt eM (by decide)
      obtain ⟨r11, h11⟩ : ∃ r, rotr e 11 = r := ⟨_, rfl⟩
      have l11 : r11 < 4294967296 := by rw [← h11]; exact rotr_lt eM (by decide)
      obtain ⟨r25, h25⟩ : ∃ r, rotr e 25 = r := ⟨_, rfl⟩
      have l25 : r25 < 4294967296 := by rw [← h25]; exact rotr_lt eM (by decide)
      obtain ⟨p1, ep1⟩ : ∃ q, r6 ^^^ r11 = q := ⟨_, rfl⟩
      have lp1 : p1 < 4294967296 := by rw [← ep1]; exact xor_lt l6 l11
      have bp1 : bits .xor .u32 (r6 : Int) (r11 : Int) = (p1 : Int) := by rw [u32_xor_nat _ _ l6 l11, ep1]
      obtain ⟨u1, eu1⟩ : ∃ q, p1 ^^^ r25 = q := ⟨_, rfl⟩
      have lu1 : u1 < 4294967296 := by rw [← eu1]; exact xor_lt lp1 l25
      have bu1 : bits .xor .u32 (p1 : Int) (r25 : Int) = (u1 : Int) := by rw [u32_xor_nat _ _ lp1 l25, eu1]
      obtain ⟨ef, eef⟩ : ∃ q, e &&& f = q := ⟨_, rfl⟩
      have lef : ef < 4294967296 := by rw [← eef]; exact and_lt eM fM
      have bef : bits .and .u32 (e : Int) (f : Int) = (ef : Int) := by rw [u32_and_nat _ _ eM fM, eef]
      obtain ⟨ne, ene⟩ : ∃ q, 4294967295 - e = q := ⟨_, rfl⟩
      have lne : ne < 4294967296 := by omega
      have bne : bits .xor .u32 IntKind.u32.max (e : Int) = (ne : Int) := by rw [not_u32 e eM, ene]
      have bne' : bits .xor .u32 4294967295 (e : Int) = (ne : Int) := bne
      obtain ⟨ng, eng⟩ : ∃ q, ne &&& g = q := ⟨_, rfl⟩
      have lng : ng < 4294967296 := by rw [← eng]; exact and_lt lne gM
      have bng : bits .and .u32 (ne : Int) (g : Int) = (ng : Int) := by rw [u32_and_nat _ _ lne gM, eng]
      obtain ⟨cv, ecv⟩ : ∃ q, ef ^^^ ng = q := ⟨_, rfl⟩
      have lcv : cv < 4294967296 := by rw [← ecv]; exact xor_lt lef lng
      have bcv : bits .xor .u32 (ef : Int) (ng : Int) = (cv : Int) := by rw [u32_xor_nat _ _ lef lng, ecv]
      obtain ⟨tt, ett⟩ : ∃ q, (hh + u1 + cv + kk + ww) % 4294967296 = q := ⟨_, rfl⟩
      have ltt : tt < 4294967296 := by rw [← ett]; exact Nat.mod_lt _ (by decide)
      have btt : ((hh : Int) + (u1 : Int) + (cv : Int) + (kk : Int) + (ww : Int)) % 4294967296 = (tt : Int) := by rw [← ett]; simp
      obtain ⟨r2, h2⟩ : ∃ r, rotr a 2 = r := ⟨_, rfl⟩
      have l2 : r2 < 4294967296 := by rw [← h2]; exact rotr_lt aM (by decide)
      obtain ⟨r13, h13⟩ : ∃ r, rotr a 13 = r := ⟨_, rfl⟩
      have l13 : r13 < 4294967296 := by rw [← h13]; exact rotr_lt aM (by decide)
      obtain ⟨r22, h22⟩ : ∃ r, rotr a 22 = r := ⟨_, rfl⟩
      have l22 : r22 < 4294967296 := by rw [← h22]; exact rotr_lt aM (by decide)
      obtain ⟨p0, ep0⟩ : ∃ q, r2 ^^^ r13 = q := ⟨_, rfl⟩
      have lp0 : p0 < 4294967296 := by rw [← ep0]; exact xor_lt l2 l13
      have bp0 : bits .xor .u32 (r2 : Int) (r13 : Int) = (p0 : Int) := by rw [u32_xor_nat _ _ l2 l13, ep0]
      obtain ⟨u0, eu0⟩ : ∃ q, p0 ^^^ r22 = q := ⟨_, rfl⟩
      have lu0 : u0 < 4294967296 := by rw [← eu0]; exact xor_lt lp0 l22
      have bu0 : bits .xor .u32 (p0 : Int) (r22 : Int) = (u0 : Int) := by rw [u32_xor_nat _ _ lp0 l22, eu0]
      obtain ⟨ab, eab⟩ : ∃ q, a &&& b = q := ⟨_, rfl⟩
      have lab : ab < 4294967296 := by rw [← eab]; exact and_lt aM bM
      have bab : bits .and .u32 (a : Int) (b : Int) = (ab : Int) := by rw [u32_and_nat _ _ aM bM, eab]
      obtain ⟨ac, eac⟩ : ∃ q, a &&& c = q := ⟨_, rfl⟩
      have lac : ac < 4294967296 := by rw [← eac]; exact and_lt aM cM
      have bac : bits .and .u32 (a : Int) (c : Int) = (ac : Int) := by rw [u32_and_nat _ _ aM cM, eac]
      obtain ⟨bc, ebc⟩ : ∃ q, b &&& c = q := ⟨_, rfl⟩
      have lbc : bc < 4294967296 := by rw [← ebc]; exact and_lt bM cM
      have bbc : bits .and .u32 (b : Int) (c : Int) = (bc : Int) := by rw [u32_and_nat _ _ bM cM, ebc]
      obtain ⟨abc, eabc⟩ : ∃ q, ab ^^^ ac = q := ⟨_, rfl⟩
      have labc : abc < 4294967296 := by rw [← eabc]; exact xor_lt lab lac
      have babc : bits .xor .u32 (ab : Int) (ac : Int) = (abc : Int) := by rw [u32_xor_nat _ _ lab lac, eabc]
      obtain ⟨mj, emj⟩ : ∃ q, abc ^^^ bc = q := ⟨_, rfl⟩
      have lmj : mj < 4294967296 := by rw [← emj]; exact xor_lt labc lbc
      have bmj : bits .xor .u32 (abc : Int) (bc : Int) = (mj : Int) := by rw [u32_xor_nat _ _ labc lbc, emj]
      obtain ⟨na, ena⟩ : ∃ q, (tt + u0 + mj) % 4294967296 = q := ⟨_, rfl⟩
      have bna : ((tt : Int) + (u0 : Int) + (mj : Int)) % 4294967296 = (na : Int) := by rw [← ena]; simp
      obtain ⟨nd, end_⟩ : ∃ q, (d + tt) % 4294967296 = q := ⟨_, rfl⟩
      have bnd : ((d : Int) + (tt : Int)) % 4294967296 = (nd : Int) := by rw [← end_]; simp
      have HNX := wall (show (St.mk a b c d e f g hh).round kk ww = St.mk na a b c nd e f g by
        have hu1 : S1 e = u1 := by unfold S1; rw [h6, h11, h25, ep1, eu1]
        have hu0 : S0 a = u0 := by unfold S0; rw [h2, h13, h22, ep0, eu0]
        have hcv : ch e f g = cv := by unfold ch; rw [eef, ene, eng, ecv]
        have hmj : maj a b c = mj := by unfold maj; rw [eab, eac, ebc, eabc, emj]
        have htt : t1 (St.mk a b c d e f g hh) kk ww = tt := by unfold t1; rw [hu1, hcv, ett]
        unfold St.round
        rw [htt, hu0, hmj, ena, end_])
      have H6 := wall (fun W => rot_q (-6) _ 6 e r6 W (by decide) rfl eM (by omega) (by omega) h6)
      have H11 := wall (fun W => rot_q (-11) _ 11 e r11 W (by decide) rfl eM (by omega) (by omega) h11)
      have H25 := wall (fun W => rot_q (-25) _ 25 e r25 W (by decide) rfl eM (by omega) (by omega) h25)
      have H2 := wall (fun W => rot_q (-2) _ 2 a r2 W (by decide) rfl aM (by omega) (by omega) h2)
      have H13 := wall (fun W => rot_q (-13) _ 13 a r13 W (by decide) rfl aM (by omega) (by omega) h13)
      have H22 := wall (fun W => rot_q (-22) _ 22 a r22 W (by decide) rfl aM (by omega) (by omega) h22)
      clear h6 h11 h25 h2 h13 h22 ep1 eu1 eef ene eng ecv ett ep0 eu0 eab eac ebc eabc emj ena end_
      have b64 : (i : Int) < 64 := by omega
      have n64 : (0 : Int) ≤ (i : Int) := by omega
      have HSN := wall (show (Tryz.prog.info? 72).map (·.size) = some (c32 [na, a, b, c, nd, e, f, g]).size from h_info)
      have HON := wall (c32_one [na, a, b, c, nd, e, f, g])
      have KN := wall (show Blk wr W3.heap.size 72 (c32 [a, b, c, d, e, f, g, hh]) from K3.out)
      rw [HNX.out] at HRN
      clear K3 HNX
      go_wp2_with fail
      go_quiet ((go_at_call 263; first | with_reducible exact Calls.quiet_of_same (H6.out _) | with_reducible exact Calls.quiet_of_same (H11.out _) | with_reducible exact Calls.quiet_of_same (H25.out _)))
      go_wp2_with fail
      go_quiet (fail)
      go_wp2_with fail
      go_quiet ((go_at_call 263; first | with_reducible exact quiet_same2 (H2.out _) | with_reducible exact quiet_same2 (H13.out _) | with_reducible exact quiet_same2 (H22.out _)))
      go_wp2_with (refine wpList_store_row rfl 72 (.tmp 5) _ rfl W3.heap.size (c32 [na, a, b, c, nd, e, f, g]) rfl rfl 72 (c32 [a, b, c, d, e, f, g, hh]) (KN.out.drewN _) HSN.out rfl HON.out ?_)
      go_light
      go_roundg (64 - (i + 1))
      case measure => have := HG.out; omega
      case rel =>
        refine ⟨i + 1, by have := HG.out; omega, by go_num, wall ?_, wall ?_, wall ?_, wall ?_⟩
        · exact (show Blk _ _ _ _ from (setRow_other _ W3.heap.size w.heap.size _ (by omega)).trans (K0.out.drewN _))
        · exact (show Blk _ _ _ _ from (setRow_other _ W3.heap.size (w.heap.size + 1 + 1) _ (by omega)).trans (K2.out.drewN _))
        · rw [HRN.out]
          exact setRow_heap _ _ _ _ _ _ (KN.out.drewN _)
        · exact below_setRow (Below.drewN HB.out _) (by omega) _
    · have hi64 : i = 64 := by omega
      have hni : ¬ ((i : Int) < 64) := by omega
      obtain ⟨vv, hvv⟩ : ∃ v, ((St.of hs).run ws i).list = v := ⟨_, rfl⟩
      have hvl : vv.length = 8 := by rw [← hvv]; rfl
      rw [hvv] at K3
      have hre : res = add8 hs vv := by rw [← HE0.out, press_eq, HWS.out, ← hvv, hi64]
      have HVM := wall (show ∀ x ∈ vv, x < 4294967296 by
        rw [← hvv]
        obtain ⟨h1, h2, h3, h4, h5, h6, h7, h8⟩ := hok
        intro x hx
        simp only [St.list, List.mem_cons, List.not_mem_nil, or_false] at hx
        rcases hx with rfl | rfl | rfl | rfl | rfl | rfl | rfl | rfl <;> assumption)
      have HVL := wall hvl
      have HRE := wall hre
      have hrl : res.length = 8 := by rw [hre, add8, List.length_zipWith, HL.out, hvl]; rfl
      have HRL := wall hrl
      clear hvv hvl hre hok HE0 HWS hrl hi64
      obtain ⟨gO, rfl⟩ : ∃ q : Nat, q = gk := ⟨_, rfl⟩
      obtain ⟨wO, rfl⟩ : ∃ q : World, q = wr := ⟨_, rfl⟩
      go_wp2_with fail
      go_loopg [13, 107] 8 (fun g s13 s107 wr => ∃ j : Nat, j + g = 8 ∧ s107 = .int .i64 (j : Int) ∧ Wall (Blk wr w.heap.size 72 (c32 (res.take j ++ hs.drop j))) ∧ Wall (Blk wr (w.heap.size + 1 + 1) 72 (c32 (List.replicate 8 0))) ∧ Wall (Blk wr W3.heap.size 72 (c32 vv)) ∧ Wall (Below w.heap.size w wr))
      case atStart => exact ⟨0, by omega, rfl, K0, K2, K3, HB⟩
      case round =>
        clear K0 K2 K3 HB
        obtain ⟨j, hg, rfl, K0, K2, K3, HB⟩ := hrel
        have HG := wall hg
        have hj : j ≤ 8 := by omega
        clear hg
        by_cases hlt : j < 8
        · obtain ⟨x, hx⟩ : ∃ x, hs[j]? = some x := ⟨_, List.getElem?_eq_getElem (by have := HL.out; omega)⟩
          obtain ⟨y, hy⟩ : ∃ x, vv[j]? = some x := ⟨_, List.getElem?_eq_getElem (by have := HVL.out; omega)⟩
          have xM := HWD.out x (List.mem_of_getElem? hx)
          have yM := HVM.out y (List.mem_of_getElem? hy)
          have htl : (res.take j).length = j := by rw [List.length_take, HRL.out]; omega
          have hcx : wr.cell? ⟨w.heap.size, j, none⟩ = some (.int .u32 (x : Int)) := by
            rw [K0.out.cell]
            refine c32_at ?_
            rw [List.getElem?_append_right (by omega), htl, Nat.sub_self, List.getElem?_drop, Nat.add_zero]
            exact hx
          have hcy : wr.cell? ⟨W3.heap.size, j, none⟩ = some (.int .u32 (y : Int)) := by rw [K3.out.cell]; exact c32_at hy
          have hfr : wr.frozen? ⟨w.heap.size, j, none⟩ = false := K0.out.frozen _
          have hrj : res[j]? = some ((x + y) % 4294967296) := by rw [HRE.out, add8, List.getElem?_zipWith, hx, hy]
          obtain ⟨z, hz⟩ : ∃ z, (x + y) % 4294967296 = z := ⟨_, rfl⟩
          rw [hz] at hrj
          have hzz : ((x : Int) + (y : Int)) % 4294967296 = (z : Int) := by rw [← hz]; simp
          have HSET := wall (show (res.take j ++ hs.drop j).set j z = res.take (j + 1) ++ hs.drop (j + 1) by
            rw [take_snoc hrj, List.set_append_right _ _ (by omega), htl, Nat.sub_self, List.drop_eq_getElem_cons (by have := HL.out; omega), List.set_cons_zero, List.append_assoc]
            rfl)
          have b8' : (j : Int) < 8 := by omega
          have n8 : (0 : Int) ≤ (j : Int) := by omega
          clear hx hy htl hrj hz
          go_wp2_with fail
          go_still_tail 8, (by kernel_rfl)
          change wpList _ _ _ _ _ wr.drew
          go_wp2_with fail
          go_light
          go_roundg (8 - (j + 1))
          case measure => have := HG.out; omega
          case rel =>
            refine ⟨j + 1, by have := HG.out; omega, by go_num, wall ?_, wall ?_, wall ?_, wall ?_⟩
            · have := K0.out.set j (.int .u32 (z : Int))
              rw [c32_set, HSET.out] at this
              exact this
            · exact (K2.out.far' _ _ (by omega) _)
            · exact (K3.out.far' _ _ (by omega) _)
            · exact Below.drewN (HB.out.setCell (p := ⟨w.heap.size, j, none⟩) (by show w.heap.size ≤ w.heap.size; omega) _) 1
        · have hj8 : j = 8 := by omega
          have hnl : ¬ ((j : Int) < 8) := by omega
          have K8 := wall (show Blk wr w.heap.size 72 (c32 res) by
            have := K0.out
            rw [hj8, List.take_of_length_le (by have := HRL.out; omega), List.drop_of_length_le (by have := HL.out; omega), List.append_nil] at this
            exact this)
          have HSR := wall (show (Tryz.prog.info? 72).map (·.size) = some (c32 res).size by rw [c32_size, HRL.out]; exact h_info)
          have HZR := wall (show (c32 (List.replicate 8 0)).size = (c32 res).size by rw [c32_size, c32_size, HRL.out]; rfl)
          have HOR := wall (c32_one res)
          clear K0 hj8
          go_upto_region 17 with fail
          go_wp2_with (first | refine wpList_load_row rfl 72 _ rfl w.heap.size rfl 72 (c32 res) (0, 0) _ K8.out Tryz.underlying72 rfl HSR.out ?_ | refine wpList_store_row rfl 72 (.tmp 4) _ rfl (w.heap.size + 1 + 1) (c32 res) rfl rfl 72 (c32 (List.replicate 8 0)) K2.out HSR.out HZR.out HOR.out ?_)
          have hb := setRow_heap _ _ _ (c32 res) _ _ K2.out
          have hB := below_setRow HB.out (show w.heap.size ≤ w.heap.size + 1 + 1 by omega) (c32 res)
          go_light
          exact bodyPost_ret (v := .agg (c32 res)) (results_cell_row Tryz.results225 _ _ (w.heap.size + 1 + 1) 72 (c32 res) (0, 0) _ rfl hb Tryz.underlying72 rfl HSR.out) rfl ⟨rfl, hB⟩
end Sha
end Go.Proofs.YtmiaabpnolebhaaGreatDoor
