/-
  Texts of this claim, joined: ShaPress, ShaFeed, ShaPad, ShaDig, ShaFin, R1, R1Roots, QTail, R1Press, R1Sum, MacA.
-/
import Derived.Test.YtpakdcgcgekcfaaDoorProg
import Derived.Test.YtpakdcgcgekcfaaDoorJ81216201
import Derived.Test.YtpakdcgcgekcfaaDoorJ788900e0
import Derived.Test.YtpakdcgcgekcfaaDoorJfa020c09
import Derived.Deep.LoopGhost
import Derived.Laws.Rows
import Derived.Laws.CopyOwn
import Derived.Laws.Tables
import Derived.StillTailTactics
import Derived.Deep.QuietTactic
import Derived.BigQuiet
import Derived.IntWalk
import Derived.Laws.ResultCell
import Derived.StillTail
import Derived.Deep.Quiet
import Derived.Lib.QuietBelow
import Derived.Laws.BitsAllLaws
set_option linter.unusedVariables false
/-
  Package sha: Press.
-/
set_option linter.unusedSimpArgs false
set_option linter.unusedVariables false
namespace Go.Proofs.YtpakdcgcgekcfaaDoor
open Go.RowKit

namespace Sha
open Otp R1
/-- The tables of package sha. -/
structure STab (w : World) : Prop where
  k : w.rangeAt 3 0 (c32 rK).toList
  h : w.rangeAt 2 0 (c32 rH).toList
theorem STab.ltk {w : World} (h : STab w) : 3 < w.heap.size := cell_lt (h.k 0 _ rfl)
theorem STab.lth {w : World} (h : STab w) : 2 < w.heap.size := cell_lt (h.h 0 _ rfl)
theorem STab.old {w w' : World} (h : STab w) (hb : Below w.heap.size w w') : STab w' :=
  ⟨fun j v hv => (hb.cell (p := ⟨3, 0 + j, none⟩) h.ltk).trans (h.k j v hv), fun j v hv => (hb.cell (p := ⟨2, 0 + j, none⟩) h.lth).trans (h.h j v hv)⟩
theorem STab.cell {w : World} (h : STab w) {i x : Nat} (hx : rK[i]? = some x) : w.cell? ⟨3, i, none⟩ = some (.int .u32 (x : Int)) := by
  have := h.k i (.int .u32 (x : Int)) (by simp [c32, hx])
  rw [Nat.zero_add] at this
  exact this
theorem and_lt {x y : Nat} (hx : x < 4294967296) (_ : y < 4294967296) : x &&& y < 4294967296 := Nat.lt_of_le_of_lt Nat.and_le_left hx
theorem rK_word : ∀ x ∈ rK, x < 4294967296 := by decide +kernel
theorem rot_q (k x : Int) (n y r : Nat) (w : World) (hk : k = -(n : Int)) (hx : x = y) (hy : y < 4294967296) (h0 : 0 < n) (h1 : n < 32) (hr : rotr y n = r) :
    Calls Tryd.prog 111 #[.int .u32 x, .int .i64 k] w fun e w' => e = .returned (.int .u32 (r : Int)) ∧ w' = w :=
  (rot_to k x n y r w hk hx hy h0 h1 hr).mono fun _ _ h => ⟨h.1, h.2.symm⟩
theorem quiet_same2 {P : Program} {f : FuncId} {args : Array Value} {w : World} {a n : Nat} {v : Value}
    (h : Calls P f args (w.drewN (a + n)) fun e w' => e = .returned v ∧ w' = w.drewN (a + n)) : Calls P f args (w.drewN (a + n)) fun e w'' => e = .returned v ∧ ∃ m, w'' = w.drewN (a + m) :=
  h.mono fun _ _ ⟨he, hm⟩ => ⟨he, n, hm⟩
theorem h_info : (Tryd.prog.info? 118).map (·.size) = some 8 := by kernel_rfl
theorem blk64_info : (Tryd.prog.info? 173).map (·.size) = some 64 := by kernel_rfl
set_option maxRecDepth 100000 in
set_option maxHeartbeats 8000000 in
theorem press_any (hs bs : List Nat) (w : World) (hT : STab w) (hl : hs.length = 8) (hw : ∀ x ∈ hs, x < 4294967296) (bl : bs.length = 64) (bb : ∀ x ∈ bs, x < 256) :
    Calls Tryd.prog 134 #[.agg (c32 hs), .agg (b8 bs)] w (fun e w' => e = .returned (.agg (c32 (press hs bs))) ∧ Below w.heap.size w w') := by
  obtain ⟨res, hres⟩ : ∃ r, press hs bs = r := ⟨_, rfl⟩
  rw [hres]
  have HE0 := wall hres
  have HL := wall hl
  have HWD := wall hw
  have HSH := wall (show (Tryd.prog.info? 118).map (·.size) = some (c32 hs).size by rw [c32_size, hl]; exact h_info)
  have HSB := wall (show (Tryd.prog.info? 173).map (·.size) = some (b8 bs).size by rw [b8_size, bl]; exact blk64_info)
  have HZH := wall (show (c32 (List.replicate 8 0)).size = (c32 hs).size by rw [c32_size, c32_size, hl]; rfl)
  have HOH := wall (c32_one hs)
  have HSP := wall (fun W => spread_any bs W bl bb)
  obtain ⟨ws, hws⟩ : ∃ r, sched bs = r := ⟨_, rfl⟩
  rw [hws] at HSP
  have HWS := wall hws
  have HWL := wall (show ws.length = 64 by rw [← hws]; exact sched_length bl)
  have HWW := wall (show ∀ x ∈ ws, x < 4294967296 by rw [← hws]; exact sched_word bb)
  obtain ⟨W3, hW3⟩ : ∃ W, W = ((w.alloc (.cells (c32 hs) 118)).alloc (.cells (b8 bs) 173)).alloc (.cells (c32 (List.replicate 8 0)) 118) := ⟨_, rfl⟩
  have K0 := wall (show Blk W3 w.heap.size 118 (c32 hs) by rw [hW3]; exact ((Blk.new w _ _).alloc _).alloc _)
  have K1 := wall (show Blk W3 (w.heap.size + 1) 173 (b8 bs) by rw [hW3]; exact Blk.alloc (blk_new' (by simp)) _)
  have K2 := wall (show Blk W3 (w.heap.size + 1 + 1) 118 (c32 (List.replicate 8 0)) by rw [hW3]; exact blk_new' (by simp))
  have HB := wall (show Below w.heap.size w W3 by rw [hW3]; exact (((Below.refl _ w).alloc (Nat.le_refl _) _).alloc (by simp) _).alloc (by simp; omega) _)
  have hW3s : w.heap.size + 1 + 1 < W3.heap.size := K2.out.lt
  have HT0 := wall hT
  have hW3' := wall hW3
  clear hl hw bl bb hres hws hW3 hT
  go_enter Tryd.func134, Tryd.ntmps134
  go_upto_region 1 with fail
  change Code.wp _ _ _ _ (((w.alloc (.cells (c32 hs) 118)).alloc (.cells (b8 bs) 173)).alloc (.cells (c32 (List.replicate 8 0)) 118))
  rw [← hW3'.out]
  clear hW3'
  go_upto_region 2 with (first | refine wpList_load_row rfl 118 _ rfl w.heap.size rfl 118 (c32 hs) (0, 0) _ K0.out Tryd.underlying118 rfl HSH.out ?_ | (refine wpList_new_row rfl 118 (.tmp 5) (.tmp 14) rfl W3.heap.size (c32 hs) rfl rfl 118 (c32 (List.replicate 8 0)) (Blk.new _ _ _) HSH.out HZH.out HOH.out W3.heap.size W3 ((Below.refl _ W3).alloc (Nat.le_refl _) _) (Nat.le_refl _) ?_; intro w4 K3 hB4))
  have k0 := wall (K0.out.next hB4.out rfl)
  have k1 := wall (K1.out.next hB4.out rfl)
  have k2 := wall (K2.out.next hB4.out rfl)
  have HB4 := wall (below_then HB.out hB4.out (Nat.le_refl _))
  have K3' := wall K3.out
  clear K0 K1 K2 HB hB4 K3 HZH HOH
  go_wp2_with (refine wpList_load_row rfl 173 _ rfl (w.heap.size + 1) rfl 173 (b8 bs) (0, 0) _ k1.out Tryd.underlying173 rfl HSB.out ?_)
  (with_reducible refine (HSP.out _).mono ?_); rintro e w5 ⟨rfl, hB⟩
  have K0 := wall (k0.out.next hB rfl)
  have K2 := wall (k2.out.next hB rfl)
  have K3 := wall (K3'.out.next hB rfl)
  have HB := wall (below_then HB4.out hB (Nat.le_refl _))
  clear hB k0 k1 k2 K3' HB4 HSP HSB
  go_wp2_with fail
  go_loopg [6, 7, 8, 9, 10, 11, 12, 17] 64 (fun g s6 s7 s8 s9 s10 s11 s12 s17 wr => ∃ i : Nat, i + g = 64 ∧ s17 = .int .i64 (i : Int) ∧ Wall (Blk wr w.heap.size 118 (c32 hs)) ∧ Wall (Blk wr (w.heap.size + 1 + 1) 118 (c32 (List.replicate 8 0))) ∧ Wall (Blk wr W3.heap.size 118 (c32 ((St.of hs).run ws i).list)) ∧ Wall (Below w.heap.size w wr))
  case atStart => exact ⟨0, by omega, rfl, K0, K2, wall (by rw [show (St.of hs).run ws 0 = St.of hs from rfl, st_of HL.out]; exact K3.out), HB⟩
  case round =>
    clear K0 K2 K3 HB
    obtain ⟨i, hg, rfl, K0, K2, K3, HB⟩ := hrel
    have HG := wall hg
    have hi : i ≤ 64 := by omega
    clear hg
    have hok := St.ok_run (st_ok HL.out HWD.out) ws i
    by_cases hlt : i < 64
    · obtain ⟨ww, hx⟩ : ∃ x, ws[i]? = some x := ⟨_, List.getElem?_eq_getElem (by have := HWL.out; omega)⟩
      obtain ⟨kk, hkx⟩ : ∃ x, rK[i]? = some x := ⟨_, List.getElem?_eq_getElem (show i < rK.length from hlt)⟩
      have wwM := HWW.out ww (List.mem_of_getElem? hx)
      have kkM := rK_word kk (List.mem_of_getElem? hkx)
      have hck := (HT0.out.old HB.out).cell hkx
      have HRN := wall (show (St.of hs).run ws (i + 1) = ((St.of hs).run ws i).round kk ww by rw [St.run, hkx, hx]; rfl)
      have hix := run_index_arr (P := Tryd.prog) 44 43 64 Tryd.underlying44 (fun _ => by kernel_rfl) (fun _ => by kernel_rfl) (c32 ws) .i64 (i : Int) i rfl hlt _ (c32_at hx)
      clear hx hkx
      obtain ⟨s, hs0⟩ : ∃ s, (St.of hs).run ws i = s := ⟨_, rfl⟩
      rw [hs0] at HRN K3 hok
      clear hs0
      obtain ⟨a, b, c, d, e, f, g, hh⟩ := s
      obtain ⟨aM, bM, cM, dM, eM, fM, gM, hM⟩ := hok
      simp only at aM bM cM dM eM fM gM hM
      have ca : wr.cell? ⟨W3.heap.size, 0, none⟩ = some (.int .u32 (a : Int)) := by rw [K3.out.cell]; rfl
      have cb : wr.cell? ⟨W3.heap.size, 1, none⟩ = some (.int .u32 (b : Int)) := by rw [K3.out.cell]; rfl
      have cc : wr.cell? ⟨W3.heap.size, 2, none⟩ = some (.int .u32 (c : Int)) := by rw [K3.out.cell]; rfl
      have cd : wr.cell? ⟨W3.heap.size, 3, none⟩ = some (.int .u32 (d : Int)) := by rw [K3.out.cell]; rfl
      have ce : wr.cell? ⟨W3.heap.size, 4, none⟩ = some (.int .u32 (e : Int)) := by rw [K3.out.cell]; rfl
      have cf : wr.cell? ⟨W3.heap.size, 5, none⟩ = some (.int .u32 (f : Int)) := by rw [K3.out.cell]; rfl
      have cg : wr.cell? ⟨W3.heap.size, 6, none⟩ = some (.int .u32 (g : Int)) := by rw [K3.out.cell]; rfl
      have ch' : wr.cell? ⟨W3.heap.size, 7, none⟩ = some (.int .u32 (hh : Int)) := by rw [K3.out.cell]; rfl
      obtain ⟨r6, h6⟩ : ∃ r, rotr e 6 = r := ⟨_, rfl⟩
      have l6 : r6 < 4294967296 := by rw [← h6]; exact rotr_lt eM (by decide)
      obtain ⟨r11, h11⟩ : ∃ r, rotr e 11 = r := ⟨_, rfl⟩
      have l11 : r11 < 4294967296 := by rw [← h11]; exact rotr_lt eM (by decide)
      obtain ⟨r25, h25⟩ : ∃ r, rotr e 25 = r := ⟨_, rfl⟩
      have l25 : r25 < 4294967296 := by rw [← h25]; exact rotr_lt eM (by decide)
      obtain ⟨p1, ep1⟩ : ∃ q, r6 ^^^ r11 = q := ⟨_, rfl⟩
      have lp1 : p1 < 4294967296 := by rw [← ep1]; exact xor_lt l6 l11
      have bp1 : bits .xor .u32 (r6 : Int) (r11 : Int) = (p1 : Int) := by rw [u32_xor_nat _ _ l6 l11, ep1]
      obtain ⟨u1, eu1⟩ : ∃ q, p1 ^^^ r25 = q := ⟨_, rfl⟩
      have lu1 : u1 < 4294967296 := by rw [← eu1]; exact xor_lt lp1 l25
      have bu1 : bits .xor .u32 (p1 : Int) (r25 : Int) = (u1 : Int) := by rw [u32_xor_nat _ _ lp1 l25, eu1]
      obtain ⟨ef, eef⟩ : ∃ q, e &&& f = q := ⟨_, rfl⟩
      have lef : ef < 4294967296 := by rw [← eef]; exact and_lt eM fM
      have bef : bits .and .u32 (e : Int) (f : Int) = (ef : Int) := by rw [u32_and_nat _ _ eM fM, eef]
      obtain ⟨ne, ene⟩ : ∃ q, 4294967295 - e = q := ⟨_, rfl⟩
      have lne : ne < 4294967296 := by omega
      have bne : bits .xor .u32 IntKind.u32.max (e : Int) = (ne : Int) := by rw [not_u32 e eM, ene]
      have bne' : bits .xor .u32 4294967295 (e : Int) = (ne : Int) := bne
      obtain ⟨ng, eng⟩ : ∃ q, ne &&& g = q := ⟨_, rfl⟩
      have lng : ng < 4294967296 := by rw [← eng]; exact and_lt lne gM
      have bng : bits .and .u32 (ne : Int) (g : Int) = (ng : Int) := by rw [u32_and_nat _ _ lne gM, eng]
      obtain ⟨cv, ecv⟩ : ∃ q, ef ^^^ ng = q := ⟨_, rfl⟩
      have lcv : cv < 4294967296 := by rw [← ecv]; exact xor_lt lef lng
      have bcv : bits .xor .u32 (ef : Int) (ng : Int) = (cv : Int) := by rw [u32_xor_nat _ _ lef lng, ecv]
      obtain ⟨tt, ett⟩ : ∃ q, (hh + u1 + cv + kk + ww) % 4294967296 = q := ⟨_, rfl⟩
      have ltt : tt < 4294967296 := by rw [← ett]; exact Nat.mod_lt _ (by decide)
      have btt : ((hh : Int) + (u1 : Int) + (cv : Int) + (kk : Int) + (ww : Int)) % 4294967296 = (tt : Int) := by rw [← ett]; simp
      obtain ⟨r2, h2⟩ : ∃ r, rotr a 2 = r := ⟨_, rfl⟩
      have l2 : r2 < 4294967296 := by rw [← h2]; exact rotr_lt aM (by decide)
      obtain ⟨r13, h13⟩ : ∃ r, rotr a 13 = r := ⟨_, rfl⟩
      have l13 : r13 < 4294967296 := by rw [← h13]; exact rotr_lt aM (by decide)
      obtain ⟨r22, h22⟩ : ∃ r, rotr a 22 = r := ⟨_, rfl⟩
      have l22 : r22 < 4294967296 := by rw [← h22]; exact rotr_lt aM (by decide)
      obtain ⟨p0, ep0⟩ : ∃ q, r2 ^^^ r13 = q := ⟨_, rfl⟩
      have lp0 : p0 < 4294967296 := by rw [← ep0]; exact xor_lt l2 l13
      have bp0 : bits .xor .u32 (r2 : Int) (r13 : Int) = (p0 : Int) := by rw [u32_xor_nat _ _ l2 l13, ep0]
      obtain ⟨u0, eu0⟩ : ∃ q, p0 ^^^ r22 = q := ⟨_, rfl⟩
      have lu0 : u0 < 4294967296 := by rw [← eu0]; exact xor_lt lp0 l22
      have bu0 : bits .xor .u32 (p0 : Int) (r22 : Int) = (u0 : Int) := by rw [u32_xor_nat _ _ lp0 l22, eu0]
      obtain ⟨ab, eab⟩ : ∃ q, a &&& b = q := ⟨_, rfl⟩
      have lab : ab < 4294967296 := by rw [← eab]; exact and_lt aM bM
      have bab : bits .and .u32 (a : Int) (b : Int) = (ab : Int) := by rw [u32_and_nat _ _ aM bM, eab]
      obtain ⟨ac, eac⟩ : ∃ q, a &&& c = q := ⟨_, rfl⟩
      have lac : ac < 4294967296 := by rw [← eac]; exact and_lt aM cM
      have bac : bits .and .u32 (a : Int) (c : Int) = (ac : Int) := by rw [u32_and_nat _ _ aM cM, eac]
      obtain ⟨bc, ebc⟩ : ∃ q, b &&& c = q := ⟨_, rfl⟩
      have lbc : bc < 4294967296 := by rw [← ebc]; exact and_lt bM cM
      have bbc : bits .and .u32 (b : Int) (c : Int) = (bc : Int) := by rw [u32_and_nat _ _ bM cM, ebc]
      obtain ⟨abc, eabc⟩ : ∃ q, ab ^^^ ac = q := ⟨_, rfl⟩
      have labc : abc < 4294967296 := by rw [← eabc]; exact xor_lt lab lac
      have babc : bits .xor .u32 (ab : Int) (ac : Int) = (abc : Int) := by rw [u32_xor_nat _ _ lab lac, eabc]
      obtain ⟨mj, emj⟩ : ∃ q, abc ^^^ bc = q := ⟨_, rfl⟩
      have lmj : mj < 4294967296 := by rw [← emj]; exact xor_lt labc lbc
      have bmj : bits .xor .u32 (abc : Int) (bc : Int) = (mj : Int) := by rw [u32_xor_nat _ _ labc lbc, emj]
      obtain ⟨na, ena⟩ : ∃ q, (tt + u0 + mj) % 4294967296 = q := ⟨_, rfl⟩
      have bna : ((tt : Int) + (u0 : Int) + (mj : Int)) % 4294967296 = (na : Int) := by rw [← ena]; simp
      obtain ⟨nd, end_⟩ : ∃ q, (d + tt) % 4294967296 = q := ⟨_, rfl⟩
      have bnd : ((d : Int) + (tt : Int)) % 4294967296 = (nd : Int) := by rw [← end_]; simp
      have HNX := wall (show (St.mk a b c d e f g hh).round kk ww = St.mk na a b c nd e f g by
        have hu1 : S1 e = u1 := by unfold S1; rw [h6, h11, h25, ep1, eu1]
        have hu0 : S0 a = u0 := by unfold S0; rw [h2, h13, h22, ep0, eu0]
        have hcv : ch e f g = cv := by unfold ch; rw [eef, ene, eng, ecv]
        have hmj : maj a b c = mj := by unfold maj; rw [eab, eac, ebc, eabc, emj]
        have htt : t1 (St.mk a b c d e f g hh) kk ww = tt := by unfold t1; rw [hu1, hcv, ett]
        unfold St.round
        rw [htt, hu0, hmj, ena, end_])
      have H6 := wall (fun W => rot_q (-6) _ 6 e r6 W (by decide) rfl eM (by omega) (by omega) h6)
      have H11 := wall (fun W => rot_q (-11) _ 11 e r11 W (by decide) rfl eM (by omega) (by omega) h11)
      have H25 := wall (fun W => rot_q (-25) _ 25 e r25 W (by decide) rfl eM (by omega) (by omega) h25)
      have H2 := wall (fun W => rot_q (-2) _ 2 a r2 W (by decide) rfl aM (by omega) (by omega) h2)
      have H13 := wall (fun W => rot_q (-13) _ 13 a r13 W (by decide) rfl aM (by omega) (by omega) h13)
      have H22 := wall (fun W => rot_q (-22) _ 22 a r22 W (by decide) rfl aM (by omega) (by omega) h22)
      clear h6 h11 h25 h2 h13 h22 ep1 eu1 eef ene eng ecv ett ep0 eu0 eab eac ebc eabc emj ena end_
      have b64 : (i : Int) < 64 := by omega
      have n64 : (0 : Int) ≤ (i : Int) := by omega
      have HSN := wall (show (Tryd.prog.info? 118).map (·.size) = some (c32 [na, a, b, c, nd, e, f, g]).size from h_info)
      have HON := wall (c32_one [na, a, b, c, nd, e, f, g])
      have KN := wall (show Blk wr W3.heap.size 118 (c32 [a, b, c, d, e, f, g, hh]) from K3.out)
      rw [HNX.out] at HRN
      clear K3 HNX
      go_wp2_with fail
      go_quiet ((go_at_call 111; first | with_reducible exact Calls.quiet_of_same (H6.out _) | with_reducible exact Calls.quiet_of_same (H11.out _) | with_reducible exact Calls.quiet_of_same (H25.out _)))
      go_wp2_with fail
      go_quiet (fail)
      go_wp2_with fail
      go_quiet ((go_at_call 111; first | with_reducible exact quiet_same2 (H2.out _) | with_reducible exact quiet_same2 (H13.out _) | with_reducible exact quiet_same2 (H22.out _)))
      go_wp2_with (refine wpList_store_row rfl 118 (.tmp 5) _ rfl W3.heap.size (c32 [na, a, b, c, nd, e, f, g]) rfl rfl 118 (c32 [a, b, c, d, e, f, g, hh]) (KN.out.drewN _) HSN.out rfl HON.out ?_)
      go_light
      go_roundg (64 - (i + 1))
      case measure => have := HG.out; omega
      case rel =>
        refine ⟨i + 1, by have := HG.out; omega, by go_num, wall ?_, wall ?_, wall ?_, wall ?_⟩
        · exact (show Blk _ _ _ _ from (setRow_other _ W3.heap.size w.heap.size _ (by omega)).trans (K0.out.drewN _))
        · exact (show Blk _ _ _ _ from (setRow_other _ W3.heap.size (w.heap.size + 1 + 1) _ (by omega)).trans (K2.out.drewN _))
        · rw [HRN.out]
          exact setRow_heap _ _ _ _ _ _ (KN.out.drewN _)
        · exact below_setRow (Below.drewN HB.out _) (by omega) _
    · have hi64 : i = 64 := by omega
      have hni : ¬ ((i : Int) < 64) := by omega
      obtain ⟨vv, hvv⟩ : ∃ v, ((St.of hs).run ws i).list = v := ⟨_, rfl⟩
      have hvl : vv.length = 8 := by rw [← hvv]; rfl
      rw [hvv] at K3
      have hre : res = add8 hs vv := by rw [← HE0.out, press_eq, HWS.out, ← hvv, hi64]
      have HVM := wall (show ∀ x ∈ vv, x < 4294967296 by
        rw [← hvv]
        obtain ⟨h1, h2, h3, h4, h5, h6, h7, h8⟩ := hok
        intro x hx
        simp only [St.list, List.mem_cons, List.not_mem_nil, or_false] at hx
        rcases hx with rfl | rfl | rfl | rfl | rfl | rfl | rfl | rfl <;> assumption)
      have HVL := wall hvl
      have HRE := wall hre
      have hrl : res.length = 8 := by rw [hre, add8, List.length_zipWith, HL.out, hvl]; rfl
      have HRL := wall hrl
      clear hvv hvl hre hok HE0 HWS hrl hi64
      obtain ⟨gO, rfl⟩ : ∃ q : Nat, q = gk := ⟨_, rfl⟩
      obtain ⟨wO, rfl⟩ : ∃ q : World, q = wr := ⟨_, rfl⟩
      go_wp2_with fail
      go_loopg [13, 107] 8 (fun g s13 s107 wr => ∃ j : Nat, j + g = 8 ∧ s107 = .int .i64 (j : Int) ∧ Wall (Blk wr w.heap.size 118 (c32 (res.take j ++ hs.drop j))) ∧ Wall (Blk wr (w.heap.size + 1 + 1) 118 (c32 (List.replicate 8 0))) ∧ Wall (Blk wr W3.heap.size 118 (c32 vv)) ∧ Wall (Below w.heap.size w wr))
      case atStart => exact ⟨0, by omega, rfl, K0, K2, K3, HB⟩
      case round =>
        clear K0 K2 K3 HB
        obtain ⟨j, hg, rfl, K0, K2, K3, HB⟩ := hrel
        have HG := wall hg
        have hj : j ≤ 8 := by omega
        clear hg
        by_cases hlt : j < 8
        · obtain ⟨x, hx⟩ : ∃ x, hs[j]? = some x := ⟨_, List.getElem?_eq_getElem (by have := HL.out; omega)⟩
          obtain ⟨y, hy⟩ : ∃ x, vv[j]? = some x := ⟨_, List.getElem?_eq_getElem (by have := HVL.out; omega)⟩
          have xM := HWD.out x (List.mem_of_getElem? hx)
          have yM := HVM.out y (List.mem_of_getElem? hy)
          have htl : (res.take j).length = j := by rw [List.length_take, HRL.out]; omega
          have hcx : wr.cell? ⟨w.heap.size, j, none⟩ = some (.int .u32 (x : Int)) := by
            rw [K0.out.cell]
            refine c32_at ?_
            rw [List.getElem?_append_right (by omega), htl, Nat.sub_self, List.getElem?_drop, Nat.add_zero]
            exact hx
          have hcy : wr.cell? ⟨W3.heap.size, j, none⟩ = some (.int .u32 (y : Int)) := by rw [K3.out.cell]; exact c32_at hy
          have hfr : wr.frozen? ⟨w.heap.size, j, none⟩ = false := K0.out.frozen _
          have hrj : res[j]? = some ((x + y) % 4294967296) := by rw [HRE.out, add8, List.getElem?_zipWith, hx, hy]
          obtain ⟨z, hz⟩ : ∃ z, (x + y) % 4294967296 = z := ⟨_, rfl⟩
          rw [hz] at hrj
          have hzz : ((x : Int) + (y : Int)) % 4294967296 = (z : Int) := by rw [← hz]; simp
          have HSET := wall (show (res.take j ++ hs.drop j).set j z = res.take (j + 1) ++ hs.drop (j + 1) by
            rw [take_snoc hrj, List.set_append_right _ _ (by omega), htl, Nat.sub_self, List.drop_eq_getElem_cons (by have := HL.out; omega), List.set_cons_zero, List.append_assoc]
            rfl)
          have b8' : (j : Int) < 8 := by omega
          have n8 : (0 : Int) ≤ (j : Int) := by omega
          clear hx hy htl hrj hz
          go_wp2_with fail
          go_still_tail 8, (by kernel_rfl)
          change wpList _ _ _ _ _ wr.drew
          go_wp2_with fail
          go_light
          go_roundg (8 - (j + 1))
          case measure => have := HG.out; omega
          case rel =>
            refine ⟨j + 1, by have := HG.out; omega, by go_num, wall ?_, wall ?_, wall ?_, wall ?_⟩
            · have := K0.out.set j (.int .u32 (z : Int))
              rw [c32_set, HSET.out] at this
              exact this
            · exact (K2.out.far' _ _ (by omega) _)
            · exact (K3.out.far' _ _ (by omega) _)
            · exact Below.drewN (HB.out.setCell (p := ⟨w.heap.size, j, none⟩) (by show w.heap.size ≤ w.heap.size; omega) _) 1
        · have hj8 : j = 8 := by omega
          have hnl : ¬ ((j : Int) < 8) := by omega
          have K8 := wall (show Blk wr w.heap.size 118 (c32 res) by
            have := K0.out
            rw [hj8, List.take_of_length_le (by have := HRL.out; omega), List.drop_of_length_le (by have := HL.out; omega), List.append_nil] at this
            exact this)
          have HSR := wall (show (Tryd.prog.info? 118).map (·.size) = some (c32 res).size by rw [c32_size, HRL.out]; exact h_info)
          have HZR := wall (show (c32 (List.replicate 8 0)).size = (c32 res).size by rw [c32_size, c32_size, HRL.out]; rfl)
          have HOR := wall (c32_one res)
          clear K0 hj8
          go_upto_region 17 with fail
          go_wp2_with (first | refine wpList_load_row rfl 118 _ rfl w.heap.size rfl 118 (c32 res) (0, 0) _ K8.out Tryd.underlying118 rfl HSR.out ?_ | refine wpList_store_row rfl 118 (.tmp 4) _ rfl (w.heap.size + 1 + 1) (c32 res) rfl rfl 118 (c32 (List.replicate 8 0)) K2.out HSR.out HZR.out HOR.out ?_)
          have hb := setRow_heap _ _ _ (c32 res) _ _ K2.out
          have hB := below_setRow HB.out (show w.heap.size ≤ w.heap.size + 1 + 1 by omega) (c32 res)
          go_light
          exact bodyPost_ret (v := .agg (c32 res)) (results_cell_row Tryd.results134 _ _ (w.heap.size + 1 + 1) 118 (c32 res) (0, 0) _ rfl hb Tryd.underlying118 rfl HSR.out) rfl ⟨rfl, hB⟩
end Sha
end Go.Proofs.YtpakdcgcgekcfaaDoor

/-
  Package sha: Feed.
-/
set_option linter.unusedSimpArgs false
set_option linter.unusedVariables false
namespace Go.Proofs.YtpakdcgcgekcfaaDoor
open Go.RowKit

namespace Sha
open Otp R1
/-- A state's cells where it is nothing yet. -/
def zS : List Value := List.replicate 8 (.int .u32 0) ++ (List.replicate 64 (.int .u8 0) ++ [.int .u64 0])
theorem st_info : (Tryd.prog.info? 175).map (·.size) = some 73 := by kernel_rfl
theorem u8_size : (Tryd.prog.info? 5).map (·.size) = some 1 := by kernel_rfl
def FeedOut (w : World) (t : List Nat) (e : Ending) (w' : World) : Prop := e = .returned (.agg (cS t).toArray) ∧ Below w.heap.size w w'
set_option maxRecDepth 100000 in
set_option maxHeartbeats 8000000 in
theorem feed_any (T0 p : List Nat) (A : Option Addr) (len cap : Nat) (w : World) (hT : STab w) (hb : ∀ x ∈ T0, x < 256) (hpl : p.length = len) (hm : T0.length + p.length ≤ 1000000) (hc : len ≤ cap) (hz : Nats .u8 256 w w.heap.size A p) :
    Calls Tryd.prog 122 #[.agg (cS T0).toArray, .slice A len cap] w (FeedOut w (T0 ++ p)) := by
  subst hpl
  have HT := wall hT
  have HBT := wall hb
  have HM := wall hm
  have HN := wall hz
  have HPB := wall (show ∀ x ∈ p, x < 256 from fun x hx => by
    obtain ⟨i, hi⟩ := List.mem_iff_getElem?.1 hx
    exact (hz i x hi).1)
  clear hT hb hm hz
  go_enter Tryd.func122, Tryd.ntmps122
  go_wp2_with fail
  go_loopg [1] p.length (fun g s1 wr => ∃ (q r : List Nat) (A' : Option Addr) (C : Nat), Wall (p = q ++ r) ∧ r.length = g ∧ s1 = .slice A' r.length C ∧ r.length ≤ C ∧ Wall (Nats .u8 256 wr w.heap.size A' r) ∧ Wall (Blk wr w.heap.size 175 (cS (T0 ++ q)).toArray) ∧ Wall (Blk wr (w.heap.size + 1) 175 zS.toArray) ∧ Wall (Below w.heap.size w wr))
  case atStart =>
    refine ⟨[], p, A, cap, wall rfl, rfl, rfl, hc, wall ?_, wall ?_, wall ?_, wall ?_⟩
    · exact HN.out.below (((Below.refl _ w).alloc (Nat.le_refl _) _).alloc (by simp) _)
    · rw [List.append_nil]
      exact (Blk.new w _ _).alloc _
    · exact blk_new' (by simp)
    · exact ((Below.refl _ w).alloc (Nat.le_refl _) _).alloc (by simp) _
  case round =>
    obtain ⟨q, r, A', C, HP, hg, rfl, hC, HR, K0, K1, HB⟩ := hrel
    obtain ⟨T, hT⟩ : ∃ T, T0 ++ q = T := ⟨_, rfl⟩
    rw [hT] at K0
    have HG := wall hg
    have hpq := HP.out
    have hlp : p.length = q.length + r.length := by rw [hpq, List.length_append]
    have hlT : T.length = T0.length + q.length := by rw [← hT, List.length_append]
    have hmT : T.length + r.length ≤ 1000000 := by have := HM.out; omega
    have HTB := wall (show ∀ x ∈ T, x < 256 from fun x hx => by
      rw [← hT] at hx
      rcases List.mem_append.1 hx with h | h
      · exact HBT.out x h
      · exact HPB.out x (by rw [hpq]; exact List.mem_append_left _ h))
    have HRB := wall (show ∀ x ∈ r, x < 256 from fun x hx => HPB.out x (by rw [hpq]; exact List.mem_append_right _ hx))
    have HTE := wall hT
    have HT1 := wall (HT.out.old HB.out)
    clear hpq hT hg
    by_cases h0 : 0 < r.length
    · obtain ⟨n, hn⟩ : ∃ n, T.length = n := ⟨_, rfl⟩
      obtain ⟨a0, ha0⟩ : ∃ a, n % 64 = a := ⟨_, rfl⟩
      obtain ⟨k, hk⟩ : ∃ k, Nat.min r.length (64 - a0) = k := ⟨_, rfl⟩
      have ha64 : a0 < 64 := by rw [← ha0]; exact Nat.mod_lt _ (by decide)
      have hkr : k ≤ r.length := by rw [← hk]; exact Nat.min_le_left _ _
      have hka : a0 + k ≤ 64 := by have : k ≤ 64 - a0 := by rw [← hk]; exact Nat.min_le_right _ _
                                   omega
      have hk0 : 0 < k := by rw [← hk]; exact Nat.lt_min.2 ⟨h0, by omega⟩
      obtain ⟨x, hx⟩ : ∃ x, r.take k = x := ⟨_, rfl⟩
      have hxl : x.length = k := by rw [← hx, List.length_take]; omega
      have HXL := wall hxl
      have HA := wall (show T.length % 64 + x.length ≤ 64 by rw [hn, ha0, hxl]; exact hka)
      have hadr : ∃ b off, A' = some ⟨b, off, none⟩ := by
        obtain ⟨z, hz⟩ : ∃ z, r[0]? = some z := ⟨_, List.getElem?_eq_getElem h0⟩
        obtain ⟨_, b, off, h, _⟩ := HR.out 0 z hz
        exact ⟨b, off, h⟩
      obtain ⟨rb, ro, rfl⟩ := hadr
      have hcn : wr.cell? ⟨w.heap.size, 72, none⟩ = some (.int .u64 (n : Int)) := by
        rw [K0.out.cell]
        have := cS_num T
        rw [hn] at this
        simpa using this
      have hrem : (n : Int) % 64 = (a0 : Int) := by rw [← ha0]; simp
      have hsl1 := run_slice_arr_lo (P := Tryd.prog) 173 5 64 Tryd.underlying173 (fun _ => by kernel_rfl) w.heap.size 8 a0 .i64 (a0 : Int) rfl ha64
      have hsl2 := run_slice_l1 (P := Tryd.prog) 53 5 Tryd.underlying53 (fun _ => by kernel_rfl) (some ⟨rb, ro, none⟩) r.length C k .i64 (k : Int) rfl hkr
      have HR2 := wall (show Nats .u8 256 wr w.heap.size (slA (some ⟨rb, ro, none⟩) k C) (r.drop k) from nats_slA HR.out hC)
      generalize slA (some ⟨rb, ro, none⟩) k C = A2 at *
      have HSRC := wall (show ∀ j (v : Value), (v8 x)[j]? = some v → wr.cell? ((⟨rb, ro, none⟩ : Addr).add j) = some v from fun j v hv => by
        rw [← hx, v8, List.map_take, List.getElem?_take] at hv
        split at hv
        · obtain ⟨ad, h, hc⟩ := nats_src HR.out j v hv
          cases h
          exact hc
        · cases hv)
      have HMIN := wall hk.symm
      have HX := wall hx
      have HNL := wall hn
      have hfr : wr.frozen? ⟨w.heap.size, 72, none⟩ = false := K0.out.frozen 72
      have HCP := wall (cS_copy HA.out)
      have HV8 := wall (show (v8 x).length = k by rw [v8_length]; exact hxl)
      have HFIT := wall (show 8 + a0 + k ≤ (cS T).length by rw [cS_length]; omega)
      have HONE := wall (show ∀ v ∈ v8 x, v.oneCell' = true from fun v hv => by
        obtain ⟨_, _, rfl⟩ := List.mem_map.1 hv
        rfl)
      have hnk : n + k ≤ 1000000 := by omega
      clear hk hx hn hxl hlp hlT hmT
      go_upto_region 4 with (refine wpList_copy_frm rfl (.tmp 16) (.tmp 17) 53 53 rfl 5 Tryd.underlying53 u8_size _ _ (64 - a0) (64 - a0) r.length C rfl rfl w.heap.size (8 + a0) 175 (cS T) K0.out (v8 x) k HV8.out HMIN.out (fun _ => ⟨rfl, _, rfl, HSRC.out⟩) HFIT.out HONE.out ?_; intro w4 hK4 hF4)
      have hcn4 : w4.cell? ⟨w.heap.size, 72, none⟩ = some (.int .u64 (n : Int)) := by
        rw [hK4.cell]
        have := cS_keep HA.out
        rw [HNL.out, ha0] at this
        simpa using this
      have hfr4 : w4.frozen? ⟨w.heap.size, 72, none⟩ = false := hK4.frozen 72
      have hsz4 : w.heap.size < w4.heap.size := hK4.lt
      have K5 := wall (show Blk (w4.setCell ⟨w.heap.size, 72, none⟩ (.int .u64 ((n : Int) + (k : Int)))) w.heap.size 175 (cM T x).toArray by
        have h := hK4.set 72 (.int .u64 ((n : Int) + (k : Int)))
        have hc := HCP.out
        rw [HNL.out, ha0, HXL.out, Int.natCast_add] at hc
        simp only [List.setIfInBounds_toArray] at h
        rw [hc] at h
        exact h)
      have F5 := wall (show Frm [w.heap.size] wr (w4.setCell ⟨w.heap.size, 72, none⟩ (.int .u64 ((n : Int) + (k : Int)))) from hF4.setCell (p := ⟨w.heap.size, 72, none⟩) (.inl (by simp)) _)
      clear hK4 hF4 K0 hcn hfr HSRC HR HV8 HFIT HONE HMIN
      go_upto_region 5 with fail
      generalize w4.setCell ⟨w.heap.size, 72, none⟩ (.int .u64 ((n : Int) + (k : Int))) = w5 at *
      clear hcn4 hfr4 hsz4
      replace HR2 := wall (HR2.out.frm F5.out HB.out.size (by simp))
      replace K1 := wall (K1.out.frm F5.out (by simp))
      replace HT1 := wall (HT.out.old (Below.frm HB.out F5.out (Nat.le_refl _) (by simp)))
      replace HB := wall (Below.frm HB.out F5.out (Nat.le_refl _) (by simp))
      clear F5
      have HP2 := wall (show p = (q ++ x) ++ r.drop k by rw [HP.out, ← HX.out, List.append_assoc, List.take_append_drop])
      have HTX := wall (show T0 ++ (q ++ x) = T ++ x by rw [← List.append_assoc, HTE.out])
      by_cases h64 : a0 + k = 64
      · have hq : ((a0 : Int) + (k : Int) == 64) = true := by simp; omega
        have HF := wall (show T.length % 64 + x.length = 64 by rw [HNL.out, ha0, HXL.out]; exact h64)
        obtain ⟨bl, hbl⟩ : ∃ b, stR T ++ x = b := ⟨_, rfl⟩
        obtain ⟨hh, hhh⟩ : ∃ b, stH T = b := ⟨_, rfl⟩
        obtain ⟨ps, hps⟩ : ∃ b, press hh bl = b := ⟨_, rfl⟩
        have HBL := wall (show bl.length = 64 by rw [← hbl, List.length_append, stR_length]; exact HF.out)
        have HHL := wall (show hh.length = 8 by rw [← hhh]; exact stH_length T)
        have HPL := wall (show ps.length = 8 by rw [← hps]; exact press_length _ HHL.out)
        have HBB := wall (show ∀ y ∈ bl, y < 256 from fun y hy => by
          rw [← hbl] at hy
          rcases List.mem_append.1 hy with h | h
          · exact stR_byte HTB.out y h
          · rw [← HX.out] at h
            exact HRB.out y (List.mem_of_mem_take h))
        have HHW := wall (show ∀ y ∈ hh, y < 4294967296 by rw [← hhh]; exact stH_word T)
        have HRW := wall (show w5.rangeAt w.heap.size 0 (c32 hh).toList from K5.out.rangeAt 0 _ (fun j v hv => by
          rw [Nat.zero_add]
          exact cM_words j v (by rw [hhh]; simpa [c32, v32] using hv)))
        have HRBY := wall (show w5.rangeAt w.heap.size 8 (b8 bl).toList from K5.out.rangeAt 8 _ (fun j v hv => cM_bytes HF.out j v (by rw [hbl]; simpa [b8, v8] using hv)))
        have HSW := wall (show (Tryd.prog.info? 118).map (·.size) = some (c32 hh).size by rw [c32_size, HHL.out]; exact h_info)
        have HSW2 := wall (show (Tryd.prog.info? 118).map (·.size) = some (c32 ps).size by rw [c32_size, HPL.out]; exact h_info)
        have HSB := wall (show (Tryd.prog.info? 173).map (·.size) = some (b8 bl).size by rw [b8_size, HBL.out]; exact blk64_info)
        have HSB2 := wall (show (Tryd.prog.info? 173).map (·.size) = some (b8 (List.replicate 64 0)).size by rw [b8_size]; exact blk64_info)
        have HCE := wall (show splice (splice (cM T x) 0 (c32 ps).toList) 8 (b8 (List.replicate 64 0)).toList = cS (T ++ x) by
          have := cM_press HF.out
          rw [hhh, hbl, hps] at this
          exact this)
        have HO1 := wall (c32_one ps)
        have HO2 := wall (b8_one (List.replicate 64 0))
        have HPR := wall (press_any hh bl w5 HT1.out HHL.out HHW.out HBL.out HBB.out)
        rw [hps] at HPR
        have HFT := wall (show 0 + (c32 ps).size ≤ (cM T x).length by rw [cM_length HA.out, c32_size, HPL.out]; decide)
        have HFT2 := wall (show 8 + (b8 (List.replicate 64 0)).size ≤ (splice (cM T x) 0 (c32 ps).toList).length by
          rw [length_splice _ _ _ (by rw [cM_length HA.out, Array.length_toList, c32_size, HPL.out]; decide), cM_length HA.out, b8_size]
          decide)
        clear hbl hhh hps
        go_wp2_with (first | refine wpList_load_arr rfl 118 (.tmp 32) rfl w.heap.size 0 rfl (c32 hh) _ HRW.out Tryd.underlying118 rfl HSW.out ?_ | refine wpList_load_arr rfl 173 (.tmp 34) rfl w.heap.size 8 rfl (b8 bl) _ HRBY.out Tryd.underlying173 rfl HSB.out ?_)
        (with_reducible refine HPR.out.mono ?_); rintro e w6 ⟨rfl, hB6⟩
        have K6 := wall (K5.out.next hB6 rfl)
        have K16 := wall (K1.out.next hB6 rfl)
        have HR6 := wall (HR2.out.below (hB6.mono HB.out.size))
        have HB6 := wall (below_then HB.out hB6 (Nat.le_refl _))
        clear hB6 K5 K1 HR2 HB
        go_wp2_with (first | (refine wpList_store_frm rfl 118 (.tmp 38) (.tmp 36) rfl w.heap.size 0 (c32 ps) rfl rfl 175 (cM T x) K6.out HFT.out HSW2.out HO1.out ?_; intro w7 K7 F7) | (refine wpList_store_frm rfl 173 (.tmp 39) (.tmp 37) rfl w.heap.size 8 (b8 (List.replicate 64 0)) rfl rfl 175 _ K7 HFT2.out HSB2.out HO2.out ?_; intro w8 K8 F8))
        have F := F7.trans F8
        rw [HCE.out] at K8
        go_light
        go_roundg (r.length - k)
        case measure => have := HG.out; omega
        case rel =>
          refine ⟨q ++ x, r.drop k, A2, C - k, HP2, List.length_drop, by rw [List.length_drop], by rw [List.length_drop]; omega, wall ?_, wall ?_, wall ?_, wall ?_⟩
          · exact HR6.out.frm F HB6.out.size (by simp)
          · rw [HTX.out]; exact K8
          · exact K16.out.frm F (by simp)
          · exact Below.frm HB6.out F (Nat.le_refl _) (by simp)
      · have hq : ((a0 : Int) + (k : Int) == 64) = false := by simp; omega
        rw [cM_same (t := T) (x := x) (by rw [HNL.out, ha0, HXL.out]; omega)] at K5
        go_wp2_with fail
        go_light
        go_roundg (r.length - k)
        case measure => have := HG.out; omega
        case rel => exact ⟨q ++ x, r.drop k, A2, C - k, HP2, List.length_drop, by rw [List.length_drop], by rw [List.length_drop]; omega, HR2, by rw [HTX.out]; exact K5, K1, HB⟩
    · have hr0 : r = [] := List.eq_nil_of_length_eq_zero (by omega)
      subst hr0
      have HTP := wall (show T0 ++ p = T by rw [HP.out, List.append_nil]; exact HTE.out)
      have HSS := wall (show (Tryd.prog.info? 175).map (·.size) = some (cS T).toArray.size by rw [List.size_toArray, cS_length]; exact st_info)
      have HZZ := wall (show zS.toArray.size = (cS T).toArray.size by rw [List.size_toArray, List.size_toArray, cS_length]; rfl)
      have HOO := wall (all_oneCell_toArray (cS_one T))
      clear HR HP HG
      go_wp2_with (first | refine wpList_load_row rfl 175 _ rfl w.heap.size rfl 175 (cS T).toArray (0, 0) _ K0.out Tryd.underlying175 rfl HSS.out ?_ | refine wpList_store_row rfl 175 (.tmp 4) _ rfl (w.heap.size + 1) (cS T).toArray rfl rfl 175 zS.toArray K1.out HSS.out HZZ.out HOO.out ?_)
      have hb := setRow_heap _ _ _ (cS T).toArray _ _ K1.out
      have hB := below_setRow HB.out (show w.heap.size ≤ w.heap.size + 1 by omega) (cS T).toArray
      go_light
      exact bodyPost_ret (v := .agg (cS T).toArray) (results_cell_row Tryd.results122 _ _ (w.heap.size + 1) 175 (cS T).toArray (0, 0) _ rfl hb Tryd.underlying175 rfl HSS.out) rfl ⟨by rw [HTP.out], hB⟩
end Sha
end Go.Proofs.YtpakdcgcgekcfaaDoor

/-
  Package sha: New, Pad.
-/
set_option linter.unusedSimpArgs false
set_option linter.unusedVariables false
namespace Go.Proofs.YtpakdcgcgekcfaaDoor
open Go.RowKit

namespace Sha
open Otp R1
set_option maxRecDepth 100000 in
set_option maxHeartbeats 1000000 in
theorem new_any (w : World) (hT : STab w) : Calls Tryd.prog 121 #[] w (FeedOut w []) := by
  have hlt := hT.lth
  have HR := wall (show (w.alloc (.cells zS.toArray 175)).rangeAt 2 0 (c32 rH).toList from (hT.old ((Below.refl _ w).alloc (Nat.le_refl _) _)).h)
  go_enter Tryd.func121, Tryd.ntmps121
  have h8 : (c32 rH).size = 8 := rfl
  have HZ : Blk (w.alloc (.cells Tryd.zeroCells175 175)) w.heap.size 175 Tryd.zeroCells175 := Blk.new _ _ _
  have HZ := wall HZ
  go_wp2_with (first | refine wpList_load_arr rfl 118 (.global 2) rfl 2 0 rfl (c32 rH) _ HR.out Tryd.underlying118 rfl h_info ?_ | refine wpList_store_row rfl 175 (.tmp 0) (.tmp 2) rfl w.heap.size (cS []).toArray rfl (by kernel_rfl) 175 _ HZ.out (by kernel_rfl) (by kernel_rfl) (all_oneCell_toArray (cS_one [])) ?_)
  have hb := setRow_heap _ _ _ (cS []).toArray _ _ HZ.out
  have hB := below_setRow ((Below.refl _ w).alloc (Nat.le_refl _) (.cells Tryd.zeroCells175 175)) (Nat.le_refl _) (cS []).toArray
  go_light
  exact bodyPost_ret (v := .agg (cS []).toArray) (results_cell_row Tryd.results121 _ _ w.heap.size 175 (cS []).toArray (0, 0) _ rfl hb Tryd.underlying175 rfl (by kernel_rfl)) rfl ⟨rfl, hB⟩
theorem own_one (w : World) (x : Nat) : OwnB (w.alloc (.cells #[.int .u8 (x : Int)] 5)) w.heap.size (.slice (some ⟨w.heap.size, 0, none⟩) 1 1) [x] :=
  ⟨by simp, .inr ⟨w.heap.size, 1, _, rfl, Nat.le_refl _, Blk.new _ _ _, Nat.le_refl _, by decide, rfl, rfl⟩⟩
theorem numB_shift (n j : Nat) (h : j < 8) : (numB n 8)[j]? = some (n / 2 ^ (56 - 8 * j) % 256) := by
  rw [numB_at n 8 j h, show 256 = 2 ^ 8 from rfl, ← Nat.pow_mul, show 8 * (8 - 1 - j) = 56 - 8 * j by omega]
set_option maxRecDepth 100000 in
set_option maxHeartbeats 4000000 in
theorem pad_any (n : Nat) (w : World) (hn : n ≤ 1000000) : Calls Tryd.prog 135 #[.int .u64 (n : Int)] w (BytesOut w (padB n)) := by
  obtain ⟨i0, hi0, hz0, hz1, hz2⟩ := info_row u8_info
  have HI := wall hi0
  have HI1 := wall hz0
  have HI2 := wall hz1
  have HI3 := wall hz2
  obtain ⟨m, hm⟩ : ∃ m, (119 - n % 64) % 64 = m := ⟨_, rfl⟩
  have hm64 : m < 64 := by rw [← hm]; exact Nat.mod_lt _ (by decide)
  have HPB := wall (show padB n = ([128] ++ List.replicate m 0) ++ (numB (8 * n) 8) by unfold padB; rw [hm]; rfl)
  have HM := wall hm
  clear hi0 hz0 hz1 hz2 hm
  have HO1 := wall (own_one w 128)
  go_enter Tryd.func135, Tryd.ntmps135
  go_upto_region 2 with fail
  generalize hW : w.alloc (.cells #[.int .u8 128] 5) = W
  have HW : Wall (OwnB W w.heap.size (.slice (some ⟨w.heap.size, 0, none⟩) 1 1) [128]) := wall (by rw [← hW]; exact HO1.out)
  have HB := wall (show Below w.heap.size w W by rw [← hW]; exact (Below.refl _ w).alloc (Nat.le_refl _) _)
  clear hW HO1
  go_upto_region 3 with (at_builtin; refine wpList_append_zeros rfl (.tmp 6) (.tmp 10) 53 144 rfl w.heap.size 5 i0 (.int .u8 0) .u64 .u64 1 Tryd.underlying53 Tryd.underlying144 HI.out HI1.out HI2.out HI3.out rfl rfl _ 1 _ rfl HW.out (by decide) _ m rfl ?c1 (by omega) (by simp only [maxLen]; omega) (by omega) HB.out.size ?_)
  case c1 => have := HM.out; omega
  intro v2 w2 hO2 hg2 _
  have HO := wall (show OwnB w2 w.heap.size v2 ([128] ++ List.replicate m 0) from by
    have e : (([128] ++ List.replicate m 0).map fun x => Value.int .u8 ((x : Nat) : Int)) = Value.int .u8 128 :: List.replicate m (.int .u8 0) := by simp
    unfold OwnB
    have el : (([128] : List Nat) ++ List.replicate m 0).length = 1 + m := by simp; omega
    rw [e, el]
    exact hO2)
  have HB2 := wall (HB.out.grown hg2 HB.out.size (fun k hk => (World.ownsRow.lt HW.out k hk).1))
  clear hO2 hg2 HB HW
  obtain ⟨B0, hB0⟩ : ∃ B, [128] ++ List.replicate m 0 = B := ⟨_, rfl⟩
  rw [hB0] at HO HPB
  have HBL := wall (show B0.length = 1 + m by rw [← hB0]; simp; omega)
  clear hB0 HM
  go_wp2_with fail
  go_loopg [3, 4] 8 (fun g s3 s4 wr => ∃ (j : Nat) (z : Int), j + g = 8 ∧ Wall (z = 56 - 8 * (j : Int)) ∧ -8 ≤ z ∧ z ≤ 56 ∧ s4 = .int .i64 z ∧ Wall (OwnB wr w.heap.size s3 (B0 ++ (numB (8 * n) 8).take j)) ∧ Wall (Below w.heap.size w wr))
  case atStart => exact ⟨0, 56, by omega, wall rfl, by decide, by decide, rfl, wall (by rw [List.take_zero, List.append_nil]; exact HO.out), HB2⟩
  case round =>
    clear HO HB2
    obtain ⟨j, z, hg, HZ, hz1, hz2, rfl, HO, HB⟩ := hrel
    have HG := wall hg
    have hj : j ≤ 8 := by omega
    have hwl : w.heap.size ≤ wr.heap.size := HB.out.size
    clear hg
    by_cases hlt : j < 8
    · have h0z : 0 ≤ z := by have := HZ.out; omega
      obtain ⟨s, hs⟩ : ∃ s, 56 - 8 * j = s := ⟨_, rfl⟩
      have hzs : z.toNat = s := by have := HZ.out; omega
      have hx := numB_shift (8 * n) j hlt
      rw [hs] at hx
      obtain ⟨x, hxe⟩ : ∃ x, 8 * n / 2 ^ s % 256 = x := ⟨_, rfl⟩
      rw [hxe] at hx
      have hxi : ((n : Int) * 8 / 2 ^ s) % 256 = (x : Int) := by rw [← hxe]; simp [Int.mul_comm]
      have HT := wall (take_snoc hx)
      have HLEN := wall (show (B0 ++ (numB (8 * n) 8).take j).length = 1 + m + j by rw [List.length_append, HBL.out, List.length_take, numB_length]; omega)
      clear hs hx hxe
      go_wp2_with (at_builtin; refine wpList_append_own _ rfl (.tmp 16) (.tmp 22) 53 rfl w.heap.size 5 i0 (.int .u8 0) 1 1 Tryd.underlying53 HI.out HI1.out HI2.out HI3.out rfl (by decide) _ _ _ rfl (HO.out.alloc _) ⟨wr.heap.size, 0, none⟩ 1 1 [.int .u8 (x : Int)] rfl rfl ?c1 ?c2 ?c3 ?c4 ?c5 ?_)
      case c1 =>
        have h1 := cell_one_new wr (.int .u8 (x : Int)) 5
        simpa using h1
      case c2 => intro u hu; simp at hu; subst hu; rfl
      case c3 => rw [HLEN.out]; simp only [maxLen]; omega
      case c4 => rw [HLEN.out]; omega
      case c5 => simp; omega
      intro v1 w1 hO1 hg1 _
      have HB1 := wall ((HB.out.alloc hwl (.cells #[.int .u8 (x : Int)] 5)).grown hg1 (by simp; omega) (fun k hk => (World.ownsRow.lt HO.out k hk).1))
      have HO1 := wall hO1
      clear hO1 hg1
      go_wp2_with fail
      go_light
      go_roundg (8 - (j + 1))
      case measure => have := HG.out; omega
      case rel =>
        refine ⟨j + 1, _, by omega, wall ?_, ?_, ?_, rfl, wall ?_, HB1⟩
        · have := HZ.out; omega
        · omega
        · omega
        · have h2 := HO1.out
          unfold OwnB
          rw [HT.out]
          simpa [List.map_take, List.map_append, List.append_assoc, Nat.add_assoc] using h2
    · have hj8 : j = 8 := by omega
      have hz8 : z = -8 := by have := HZ.out; omega
      subst hz8
      have HT := wall (show B0 ++ (numB (8 * n) 8).take j = padB n by rw [HPB.out, List.take_of_length_le (by rw [numB_length]; omega)])
      clear hj8
      go_wp2_with fail
      go_light
      go_ret
      have hOO := HO.out
      rw [HT.out] at hOO
      exact ⟨_, rfl, hOO, HB.out⟩
end Sha
end Go.Proofs.YtpakdcgcgekcfaaDoor

/-
  Package sha: Digest.
-/
set_option linter.unusedSimpArgs false
set_option linter.unusedVariables false
namespace Go.Proofs.YtpakdcgcgekcfaaDoor
open Go.RowKit

namespace Otp
open Fuse R1
set_option maxRecDepth 100000 in
set_option maxHeartbeats 1000000 in
theorem digest_any (ws : List Nat) (w : World) (hl : ws.length = 8) (hw : ∀ x ∈ ws, x < 4294967296) :
    Calls Tryd.prog 72 #[.agg (c32 ws)] w (fun e w' => e = .returned (.agg (b8 (wordsB ws))) ∧ Below w.heap.size w w') := by
  have HL := Lib.hid hl
  have HW := Lib.hid hw
  have HSZ := Lib.hid (show (Tryd.prog.info? 118).map (·.size) = some (c32 ws).size by
    rw [show (c32 ws).size = 8 by simp [c32, hl]]
    kernel_rfl)
  have HK := Lib.hid (Blk.new w 118 (c32 ws))
  clear hl hw
  go_enter Tryd.func72, Tryd.ntmps72
  go_wp2_with (refine wpList_load_row rfl 118 _ rfl w.heap.size rfl 118 (c32 ws) (0, 0) _ ((HK.out.alloc _).alloc _) Tryd.underlying118 rfl HSZ.out ?_)
  obtain ⟨W2, hW2⟩ : ∃ W2, W2 = (w.alloc (.cells (c32 ws) 118)).alloc (.cells (b8 (List.replicate 32 0)) 23) := ⟨_, rfl⟩
  have HW2 := Lib.hid hW2
  clear hW2
  go_loopg [4, 5, 7] 8 (fun g s4 s5 s7 wr => ∃ i : Nat, i + g = 8 ∧ s7 = .int .i64 (i : Int) ∧ Hid (Blk wr (w.heap.size + 1 + 1) 23 (b8 (wordsB (ws.take i) ++ List.replicate (32 - 4 * i) 0))) ∧ Hid (Below (w.heap.size + 1 + 1) W2 wr))
  case atStart =>
    refine ⟨0, by omega, rfl, Lib.hid ?_, Lib.hid ?_⟩
    · exact blk_new' (by simp)
    · rw [HW2.out]
      exact (Below.refl _ _).alloc (by simp) _
  case round =>
    obtain ⟨i, hg, rfl, HD, HB⟩ := hrel
    have HG := Lib.hid hg
    have hi : i ≤ 8 := by omega
    clear hg
    by_cases hlt : i < 8
    · obtain ⟨x, hx⟩ : ∃ x, ws[i]? = some x := ⟨_, List.getElem?_eq_getElem (by have := HL.out; omega)⟩
      have hxM := HW.out x (List.mem_of_getElem? hx)
      have hix := run_index_arr (P := Tryd.prog) 118 43 8 Tryd.underlying118 (fun _ => by kernel_rfl) (fun _ => by kernel_rfl) (c32 ws) .i64 (i : Int) i rfl hlt _ (c32_at hx)
      have HX := Lib.hid hx
      have hsl := run_slice_arr_l (P := Tryd.prog) 23 5 32 Tryd.underlying23 (fun _ => by kernel_rfl) (w.heap.size + 1 + 1) (4 * i) .i64 (4 * (i : Int)) (by omega) (by omega)
      have hbl : w.heap.size + 1 + 1 ≤ wr.heap.size := Nat.le_of_lt HD.out.lt
      have HN := Lib.hid (numB_four x hxM)
      clear hx
      have hwl : (wordsB (ws.take i)).length = 4 * i := by rw [wordsB_length, List.length_take]; have := HL.out; omega
      have HWL := Lib.hid hwl
      have HC1 := Lib.hid (show (numB x 4).length = Nat.min 4 (32 - 4 * i) by rw [numB_length]; exact (Nat.min_eq_left (by omega)).symm)
      have HC3 := Lib.hid (show 4 * i + (numB x 4).length ≤ (wordsB (ws.take i) ++ List.replicate (32 - 4 * i) 0).length by simp only [numB_length, List.length_append, List.length_replicate, hwl]; omega)
      clear hwl
      go_wp2_with (refine wpList_copy_b8 rfl (.tmp 13) (.tmp 25) 53 53 rfl 5 Tryd.underlying53 (by kernel_rfl) _ _ (32 - 4 * i) (32 - 4 * i) 4 4 rfl rfl (w.heap.size + 1 + 1) (4 * i) 23 _ (HD.out.alloc _) (numB x 4) HC1.out (by exact fun _ => ⟨rfl, _, rfl, cells_new _ _ _ (by rw [HN.out]) _⟩) HC3.out (w.heap.size + 1 + 1) W2 (HB.out.alloc hbl _) (Nat.le_refl _) ?_)
      intro w3 HD3 HB3
      have HE := Lib.hid (show splice (wordsB (ws.take i) ++ List.replicate (32 - 4 * i) 0) (4 * i) (numB x 4) = wordsB (ws.take (i + 1)) ++ List.replicate (32 - 4 * (i + 1)) 0 by
        have := splice_next (wordsB (ws.take i)) (numB x 4) (32 - 4 * i) (by rw [numB_length]; omega)
        rw [HWL.out, numB_length] at this
        rw [this, take_snoc HX.out, wordsB_snoc]
        congr 2)
      rw [numB_length]
      clear HD HB HN
      go_wp2_with fail
      go_light
      go_roundg (8 - (i + 1))
      case measure => have := HG.out; omega
      case rel => exact ⟨i + 1, by have := HG.out; omega, by go_num, by rw [← HE.out]; exact HD3, HB3⟩
    · have : i = 8 := by omega
      subst this
      have HD8 : Hid (Blk wr (w.heap.size + 1 + 1) 23 (b8 (wordsB ws))) := by
        have := HD.out
        rw [List.take_of_length_le (by have := HL.out; omega), show 32 - 4 * 8 = 0 from rfl, List.replicate_zero, List.append_nil] at this
        exact Lib.hid this
      have hlw : (wordsB ws).length = 32 := by rw [wordsB_length, HL.out]
      have HS := Lib.hid (show (Tryd.prog.info? 23).map (·.size) = some (b8 (wordsB ws)).size by rw [b8_size, hlw]; exact dig_info)
      have HR : Hid (Blk wr (w.heap.size + 1) 23 (b8 (List.replicate 32 0))) := by
        have h2 := HB.out
        rw [HW2.out] at h2
        exact Lib.hid (Blk.below (blk_new' (by simp)) h2 (by omega))
      have HBB : Hid (Below w.heap.size w wr) := by
        have h2 := HB.out
        rw [HW2.out] at h2
        exact Lib.hid ((((Below.refl _ w).alloc (Nat.le_refl _) _).alloc (by simp) _).trans (h2.mono (by omega)))
      have HZ := Lib.hid (show (b8 (List.replicate 32 0)).size = (b8 (wordsB ws)).size by rw [b8_size, b8_size, hlw]; rfl)
      have HO := Lib.hid (b8_one (wordsB ws))
      clear HD HB hlw
      go_wp2_with (first | refine wpList_load_row rfl 23 _ rfl (w.heap.size + 1 + 1) rfl 23 (b8 (wordsB ws)) (0, 0) _ HD8.out Tryd.underlying23 rfl HS.out ?_ | refine wpList_store_row rfl 23 (.tmp 2) _ rfl (w.heap.size + 1) (b8 (wordsB ws)) rfl rfl 23 (b8 (List.replicate 32 0)) HR.out HS.out HZ.out HO.out ?_)
      have hb := setRow_heap _ _ _ (b8 (wordsB ws)) _ _ HR.out
      have hB := below_setRow HBB.out (show w.heap.size ≤ w.heap.size + 1 by omega) (b8 (wordsB ws))
      go_light
      exact bodyPost_ret (v := .agg (b8 (wordsB ws))) (results_cell_row Tryd.results72 _ _ (w.heap.size + 1) 23 (b8 (wordsB ws)) (0, 0) _ rfl hb Tryd.underlying23 rfl HS.out) rfl ⟨rfl, hB⟩
end Otp
end Go.Proofs.YtpakdcgcgekcfaaDoor

/-
  Package sha: a state's Sum.
-/
set_option linter.unusedSimpArgs false
set_option linter.unusedVariables false
namespace Go.Proofs.YtpakdcgcgekcfaaDoor
open Go.RowKit

namespace Sha
open Otp R1
theorem field_h (cs : Array Value) (w : World) : (Instr.field 175 (.agg cs) 0).run Tryd.prog w = .ok (.agg (cs.extract 0 8)) w := by kernel_rfl
theorem cS_words (t : List Nat) : (cS t).toArray.extract 0 8 = c32 (stH t) := by
  unfold cS c32
  apply Array.ext'
  simp [stH_length]
set_option maxRecDepth 100000 in
set_option maxHeartbeats 2000000 in
theorem sum_any (t : List Nat) (w : World) (hT : STab w) (hb : ∀ x ∈ t, x < 256) (hm : t.length ≤ 900000) :
    Calls Tryd.prog 124 #[.agg (cS t).toArray] w (fun e w' => e = .returned (.agg (b8 (sumB t))) ∧ Below w.heap.size w w') := by
  obtain ⟨n, hn⟩ : ∃ n, t.length = n := ⟨_, rfl⟩
  obtain ⟨pd, hpd⟩ : ∃ p, padB n = p := ⟨_, rfl⟩
  obtain ⟨T, hTT⟩ : ∃ T, t ++ pd = T := ⟨_, rfl⟩
  obtain ⟨hs, hhs⟩ : ∃ h, stH T = h := ⟨_, rfl⟩
  have HSB := wall (show sumB t = wordsB hs by rw [← hhs, ← hTT, ← hpd, ← hn]; rfl)
  have HPL := wall (show pd.length ≤ 72 by rw [← hpd]; exact padB_le n)
  have HPB := wall (show ∀ x ∈ pd, x < 256 by rw [← hpd]; exact padB_byte n)
  have HHL := wall (show hs.length = 8 by rw [← hhs]; exact stH_length T)
  have HHW := wall (show ∀ x ∈ hs, x < 4294967296 by rw [← hhs]; exact stH_word T)
  have HEX := wall (show (cS T).toArray.extract 0 8 = c32 hs by rw [← hhs]; exact cS_words T)
  have HTB := wall hb
  have hn9 : n ≤ 900000 := by omega
  have HN := wall hn
  have HPD := wall hpd
  have HTT := wall hTT
  have HSS := wall (show (Tryd.prog.info? 175).map (·.size) = some (cS t).toArray.size by rw [List.size_toArray, cS_length]; exact st_info)
  obtain ⟨W1, hW1⟩ : ∃ W, W = (w.alloc (.cells (cS t).toArray 175)).alloc (.cells (b8 (List.replicate 32 0)) 23) := ⟨_, rfl⟩
  have K0 := wall (show Blk W1 w.heap.size 175 (cS t).toArray by rw [hW1]; exact (Blk.new w _ _).alloc _)
  have K1 := wall (show Blk W1 (w.heap.size + 1) 23 (b8 (List.replicate 32 0)) by rw [hW1]; exact blk_new' (by simp))
  have HB := wall (show Below w.heap.size w W1 by rw [hW1]; exact ((Below.refl _ w).alloc (Nat.le_refl _) _).alloc (by simp) _)
  have HT1 := wall (hT.old HB.out)
  have hcn : W1.drew.cell? ⟨w.heap.size, 72, none⟩ = some (.int .u64 (n : Int)) := by
    have := K0.out.drew.cell 72
    rw [this]
    have h := cS_num t
    rw [hn] at h
    simpa using h
  have HW1 := wall hW1
  clear hT hb hm hn hpd hTT hhs hW1
  go_enter Tryd.func124, Tryd.ntmps124
  go_upto_region 1 with fail
  change Code.wp _ _ _ _ ((w.alloc (.cells (cS t).toArray 175)).alloc (.cells (b8 (List.replicate 32 0)) 23))
  rw [← HW1.out]
  clear HW1
  have hcr := fun d os => Go.cell_regrown hcn d os
  go_wp2_with fail
  refine Rel.wp_region_rel 7 [(6, .any (Bytes pd) Bytes.grow), (7, .const (.agg (cS T).toArray)), (9, .const (.agg (b8 (wordsB hs))))] (by kernel_rfl) (by kernel_rfl) ?_
  simp only [List.take_succ_cons, List.take_zero, List.drop_succ_cons, List.drop_zero]
  refine Rel.tree_pure rfl rfl rfl (.agg (cS t).toArray) (fun W hW _ => Rel.exec_load _ _ rfl w.heap.size 0 rfl _ _ (Blk.range (hW.blk K0.out.drew)) Tryd.underlying175 rfl HSS.out) ?_
  simp only [Act.put, List.setIfInBounds_toArray, List.set_cons_zero, List.set_cons_succ]
  repeat (refine Rel.tree_quiet rfl rfl rfl (fun K hK => ?_); go_big_quiet_op; refine hK _ ?_; clear hK K)
  refine Rel.tree_rel rfl (Bytes pd) Bytes.grow rfl (fun W hW _ => ?_) (fun v6 => ?_)
  · unfold Rel.relAt; go_simp; show Calls _ _ _ _ _
    have h := pad_any n W (by omega)
    rw [HPD.out] at h
    exact bytes_call h HPB.out
  simp only [Act.put, List.setIfInBounds_toArray, List.set_cons_zero, List.set_cons_succ]
  refine Rel.tree_const rfl (.agg (cS T).toArray) rfl (fun W hW hF => ?_) ?_
  · obtain ⟨A, c, rfl, hc, hN⟩ : Bytes pd v6 W := hF 6 (by decide)
    clear hF
    unfold Rel.relAt; go_simp; show Calls _ _ _ _ _
    have hS : STab W := HT1.out.old hW.undrew
    have h := feed_any t pd A pd.length c W hS HTB.out rfl (by have := HPL.out; have := HN.out; omega) hc hN
    rw [HTT.out] at h
    exact const_call h
  simp only [Act.put, List.setIfInBounds_toArray, List.set_cons_zero, List.set_cons_succ]
  refine Rel.tree_pure rfl rfl rfl (.agg (c32 hs)) (fun W _ _ => Rel.exec_field _ _ _ rfl (.agg (cS T).toArray) _ rfl (by rw [field_h, HEX.out])) ?_
  simp only [Act.put, List.setIfInBounds_toArray, List.set_cons_zero, List.set_cons_succ]
  refine Rel.tree_const rfl (.agg (b8 (wordsB hs))) rfl (fun W hW _ => ?_) ?_
  · unfold Rel.relAt; go_simp; show Calls _ _ _ _ _
    exact const_call (digest_any hs W HHL.out HHW.out)
  simp only [Act.put, List.setIfInBounds_toArray, List.set_cons_zero, List.set_cons_succ]
  intro W hW _
  have KR := wall (hW.blk K1.out.drew)
  have HBW := wall (show Below w.heap.size w W from below_then HB.out hW.undrew (Nat.le_refl _))
  have hwl : (wordsB hs).length = 32 := by rw [wordsB_length, HHL.out]
  have HS := wall (show (Tryd.prog.info? 23).map (·.size) = some (b8 (wordsB hs)).size by rw [b8_size, hwl]; exact dig_info)
  have HZ := wall (show (b8 (List.replicate 32 0)).size = (b8 (wordsB hs)).size by rw [b8_size, b8_size, hwl]; rfl)
  have HO := wall (b8_one (wordsB hs))
  clear hwl hcr hcn hW
  go_wp2_with (refine wpList_store_row rfl 23 (.tmp 2) _ rfl (w.heap.size + 1) (b8 (wordsB hs)) rfl rfl 23 (b8 (List.replicate 32 0)) KR.out HS.out HZ.out HO.out ?_)
  have hb := setRow_heap _ _ _ (b8 (wordsB hs)) _ _ KR.out
  have hB := below_setRow HBW.out (show w.heap.size ≤ w.heap.size + 1 by omega) (b8 (wordsB hs))
  go_light
  exact bodyPost_ret (v := .agg (b8 (wordsB hs))) (results_cell_row Tryd.results124 _ _ (w.heap.size + 1) 23 (b8 (wordsB hs)) (0, 0) _ rfl hb Tryd.underlying23 rfl HS.out) rfl ⟨by rw [HSB.out], hB⟩
end Sha
end Go.Proofs.YtpakdcgcgekcfaaDoor

/-
  The reference's Value (curtilageref01): a number of at most four bytes, the highest first.
-/
set_option linter.unusedSimpArgs false
set_option linter.unusedVariables false
namespace Go.Proofs.YtpakdcgcgekcfaaDoor
open Go.RowKit

namespace R1
def beVal (l : List Nat) : Nat := l.foldl (fun a b => 256 * a + b) 0
theorem beVal_snoc (l : List Nat) (x : Nat) : beVal (l ++ [x]) = 256 * beVal l + x := by simp [beVal]
set_option maxHeartbeats 1000000 in
theorem value_any (A : Option Addr) (len cap : Nat) (l : List Nat) (w : World) (B : Nat) (hl : l.length = len) (hm : len ≤ 4) (hz : Nats .u8 256 w B A l) :
    Calls Tryd.prog 125 #[.slice A len cap] w fun e w' => e = .returned (.int .u64 ((beVal l : Nat) : Int)) ∧ w = w' := by
  have HN := Lib.hid hz
  subst hl
  clear hz
  go_enter Tryd.func125, Tryd.ntmps125
  go_wp2_with fail
  go_loopg [3, 8] l.length (fun g s3 s8 wr => ∃ i : Nat, i + g = l.length ∧ s8 = .int .i64 (i : Int) ∧ ∃ v : Nat, s3 = .int .u64 (v : Int) ∧ v = beVal (l.take i) ∧ v < 256 ^ i ∧ wr = w)
  case atStart => exact ⟨0, by omega, rfl, 0, rfl, rfl, by decide, rfl⟩
  case round =>
    obtain ⟨i, hg, rfl, v, rfl, hv, hvb, rfl⟩ := hrel
    have HG := Lib.hid hg
    have HV := Lib.hid hv
    have hig : i ≤ l.length := by omega
    clear hg hv
    by_cases hlt : i < l.length
    · obtain ⟨x, hx⟩ : ∃ x, l[i]? = some x := ⟨_, List.getElem?_eq_getElem hlt⟩
      obtain ⟨hxM, g0, off, rfl, hg0, hcx⟩ := HN.out i x hx
      have HS := Lib.hid (show beVal (l.take (i + 1)) = 256 * v + x by rw [take_snoc hx, beVal_snoc, HV.out])
      have hvc : v < 16777216 := Nat.lt_of_lt_of_le hvb (Nat.le_trans (Nat.pow_le_pow_right (by decide) (show i ≤ 3 by omega)) (by decide))
      have HB := Lib.hid (show 256 * v + x < 256 ^ (i + 1) by rw [Nat.pow_succ]; omega)
      clear hx hvb
      go_wp2_with fail
      go_light
      go_roundg (l.length - (i + 1))
      case measure => have := HG.out; omega
      case rel => exact ⟨i + 1, by omega, by go_num, 256 * v + x, by go_num, HS.out.symm, HB.out, rfl⟩
    · have : i = l.length := by omega
      subst this
      have hvl := HV.out
      rw [List.take_length] at hvl
      have HV2 := Lib.hid hvl
      clear hvl HV
      go_wp2_with fail
      go_light
      go_ret
      exact ⟨by rw [HV2.out]; rfl, rfl⟩
end R1
end Go.Proofs.YtpakdcgcgekcfaaDoor

/-
  The reference's table of the rounds (curtilageref01.roots), and what a block's words are, one by one.
-/
set_option linter.unusedSimpArgs false
set_option linter.unusedVariables false
namespace Go.Proofs.YtpakdcgcgekcfaaDoor
open Go.RowKit

namespace Sha
open Otp R1
theorem sc_at (ws : List Nat) (k : Nat) {i x : Nat} (h : (sc ws k)[i]? = some x) : ∀ j, (sc ws (k + j))[i]? = some x
  | 0 => h
  | j + 1 => by
    have := sc_at ws k h j
    rw [← Nat.add_assoc, sc, List.getElem?_append_left (List.getElem?_eq_some_iff.1 this).1]
    exact this
theorem sched_lo {bs : List Nat} {i x : Nat} (h : (words4 bs)[i]? = some x) : (sched bs)[i]? = some x := by
  have := sc_at (words4 bs) 0 (i := i) (x := x) h 48
  rwa [Nat.zero_add] at this
theorem sched_hi {bs : List Nat} (hl : bs.length = 64) {k a b c d : Nat} (hk : k < 48) (ha : (sched bs)[k]? = some a) (hb : (sched bs)[k + 1]? = some b) (hc : (sched bs)[k + 9]? = some c) (hd : (sched bs)[k + 14]? = some d) :
    (sched bs)[16 + k]? = some (nxt a b c d) := by
  have hwl : (words4 bs).length = 16 := by rw [words4_length, hl]
  have hln : (sc (words4 bs) k).length = 16 + k := by rw [sc_length, hwl]
  have hx : ∀ j y, j < 16 → (sched bs)[k + j]? = some y → (sc (words4 bs) k)[k + j]? = some y := fun j y hj hy => by
    obtain ⟨z, hz⟩ : ∃ z, (sc (words4 bs) k)[k + j]? = some z := ⟨_, List.getElem?_eq_getElem (by omega)⟩
    have h2 := sc_at _ k hz (48 - k)
    rw [show k + (48 - k) = 48 by omega] at h2
    rw [sched_eq, h2] at hy
    cases hy
    exact hz
  have hn := sc_next (hx 0 a (by omega) ha) (hx 1 b (by omega) hb) (hx 9 c (by omega) hc) (hx 14 d (by omega) hd)
  have h3 : (sc (words4 bs) (k + 1))[16 + k]? = some (nxt a b c d) := by
    rw [hn, List.getElem?_append_right (by omega), hln, Nat.sub_self]
    rfl
  have h2 := sc_at _ (k + 1) h3 (48 - (k + 1))
  rw [show k + 1 + (48 - (k + 1)) = 48 by omega] at h2
  rw [sched_eq]
  exact h2
theorem made32 (k : Nat) : madeCells #[Value.int .u32 0] k = c32 (List.replicate k 0) := by
  apply Array.ext_getElem?
  intro t
  by_cases ht : t < k
  · rw [made_get _ _ _ ht (by decide), c32_at (x := 0) (by simp [ht])]
    simp [Nat.mod_one]
  · rw [Array.getElem?_eq_none (by simp [madeCells]; omega), Array.getElem?_eq_none (by simp [c32]; omega)]
theorem u32_info : (Tryd.prog.info? 43).map (fun i => (i.zero, i.size, i.bytes)) = some (some (.int .u32 0), 1, 4) := by kernel_rfl
theorem be4_val (a b c d : Nat) : beVal [a, b, c, d] = be4 a b c d := by simp [beVal, be4]; omega
theorem turn_q (k x : Int) (n y r : Nat) (w : World) (hk : k = (n : Int)) (hx : x = y) (hy : y < 4294967296) (h0 : 0 < n) (h1 : n < 32) (hr : rotr y n = r) :
    Calls Tryd.prog 126 #[.int .u32 x, .int .i64 k] w fun e w' => e = .returned (.int .u32 (r : Int)) ∧ ∃ m, w' = w.drewN m := by
  subst hr
  exact turn_any k x n y w hk hx hy h0 h1
set_option maxRecDepth 100000 in
set_option maxHeartbeats 4000000 in
theorem roots_any (w : World) : Calls Tryd.prog 127 #[] w (fun e w' => e = .returned (.agg (c32 rK)) ∧ Below w.heap.size w w') := by
  go_enter Tryd.func127, Tryd.ntmps127
  have KZ := wall (show Blk (w.alloc (.cells (c32 (List.replicate 64 0)) 44)) w.heap.size 44 (c32 (List.replicate 64 0)) from Blk.new _ _ _)
  have HSR := wall (show (Tryd.prog.info? 44).map (·.size) = some (c32 rK).size by rw [c32_size]; exact sched_info)
  have HZR := wall (show (c32 (List.replicate 64 0)).size = (c32 rK).size by rw [c32_size, c32_size]; rfl)
  have HOR := wall (c32_one rK)
  go_upto_region 1 with fail
  change Code.wp _ _ _ _ (w.alloc (.cells (c32 (List.replicate 64 0)) 44))
  generalize hW : w.alloc (.cells (c32 (List.replicate 64 0)) 44) = W at *
  have HB := wall (show Below w.heap.size w W by rw [← hW]; exact (Below.refl _ w).alloc (Nat.le_refl _) _)
  clear hW
  go_wp2_with (refine wpList_store_row rfl 44 (.tmp 0) _ rfl w.heap.size (c32 rK) rfl rfl 44 (c32 (List.replicate 64 0)) KZ.out HSR.out HZR.out HOR.out ?_)
  have hb := setRow_heap _ _ _ (c32 rK) _ _ KZ.out
  have hB := below_setRow HB.out (Nat.le_refl _) (c32 rK)
  go_light
  exact bodyPost_ret (v := .agg (c32 rK)) (results_cell_row Tryd.results127 _ _ w.heap.size 44 (c32 rK) (0, 0) _ rfl hb Tryd.underlying44 rfl HSR.out) rfl ⟨rfl, hB⟩
end Sha
end Go.Proofs.YtpakdcgcgekcfaaDoor

/-
  A drawn region whose operations only read, or call what leaves a world of one class, but for a tail in one forced order (a store, an append): one walk of the text's order. The library's laws for the two cases (a class of worlds; a tail) put together.
-/
set_option linter.unusedSimpArgs false
set_option linter.unusedVariables false
namespace Go.Proofs.YtpakdcgcgekcfaaDoor
open Go Go.RowKit

namespace QTail
section
variable {P : Program} {ops : Array Oper} {md : Region.Mode} {C : World → Prop}
/-- The head's operations, in whatever order; then L. -/
def anyHead (P : Program) (md : Region.Mode) (ops : Array Oper) (C : World → Prop) (n : Nat) (L : Array Bool → Act → Prop) : Nat → Array Bool → Act → Prop
  | 0, s, a => L s a
  | k + 1, s, a => Region.ready md ops s ≠ [] ∧ ∀ i ∈ Region.ready md ops s, i < n ∧ qOp P ops C i (anyHead P md ops C n L k (s.setIfInBounds i true)) a
theorem any_of_head {n g : Nat} {L : Array Bool → Act → Prop} {R : Exit → Act → World → Prop} (hL : ∀ s a w, C w → L s a → wpAny P md ops R g s a w) :
    ∀ (k : Nat) (s : Array Bool) (a : Act) (w : World), C w → anyHead P md ops C n L k s a → wpAny P md ops R (k + g) s a w
  | 0, s, a, w, hw, h => by rw [Nat.zero_add]; exact hL _ _ _ hw h
  | k + 1, s, a, w, hw, h => by
    have e : k + 1 + g = k + g + 1 := by omega
    rw [e]
    exact ⟨fun h0 => absurd h0 h.1, fun i hi => wpOp_of_qOp hw (fun a' w' hw' h' => any_of_head hL k _ a' w' hw' h') (h.2 i hi).2⟩
theorem head_first {n i : Nat} {o : Oper} {v : Value} {L : Array Bool → Act → Prop} (hi : ops[i]? = some o) (hsel : ∀ (j : Nat) (o : Oper) cs b, ops[j]? = some o → o.op ≠ .select cs b)
    (hs : Region.sinkB md ops n = true) (hc : Region.chainB md ops n = true) (hn : n < ops.size) (hin : i < n) (hdone : ∀ s a, L s a → ∀ j ∈ Region.ready md ops s, n ≤ j) :
    ∀ (k : Nat) (s : Array Bool) (a : Act), HeadInv md ops n s →
      (∀ j oj, ops[j]? = some oj → j ≠ i → s.getD j true = false → (∀ e ∈ oj.after, Region.binds md e = true → e.on ≠ i) → o.apart ops oj = true) →
      i ∈ Region.ready md ops s → YieldsIn P ops C o v a → anyHead P md ops C n L k (s.setIfInBounds i true) (a.put o.dst v) → anyHead P md ops C n L (k + 1) s a := by
  intro k
  induction k with
  | zero =>
    intro s a inv _ hr hy H
    have hun := (mem_ready.1 hr).1
    refine ⟨fun h => (by rw [h] at hr; cases hr), fun j hj => ?_⟩
    have hjn : j < n := by
      rcases Nat.lt_or_ge j n with h | h
      · exact h
      · exact absurd hj (tail_waits hs hc hn inv _ i rfl hin hun j h)
    refine ⟨hjn, ?_⟩
    by_cases hji : j = i
    · subst hji
      exact hy.qOp hi H
    · have := hdone _ _ H j (ready_mono hj hji)
      omega
  | succ k ih =>
    intro s a inv hfree hr hy H
    have hun := (mem_ready.1 hr).1
    refine ⟨fun h => (by rw [h] at hr; cases hr), fun j hj => ?_⟩
    have hjn : j < n := by
      rcases Nat.lt_or_ge j n with h | h
      · exact h
      · exact absurd hj (tail_waits hs hc hn inv _ i rfl hin hun j h)
    refine ⟨hjn, ?_⟩
    by_cases hji : j = i
    · subst hji
      exact hy.qOp hi H
    · have h1 := (H.2 j (ready_mono hj hji)).2
      obtain ⟨hjun, oj, hoj, hall⟩ := mem_ready.1 hj
      have hnot : ∀ e ∈ oj.after, Region.binds md e = true → e.on ≠ i := fun e he hb heq => by
        have h1 := hall e he hb
        rw [heq, getD_both hun] at h1
        cases h1
      have h2 := qOp_put hoj (hfree j oj hoj hji hjun hnot) (fun cs b => hsel i o cs b hi) (fun cs b => hsel j oj cs b hoj) hy h1
      have hfree' : ∀ t ot, ops[t]? = some ot → t ≠ i → (s.setIfInBounds j true).getD t true = false → (∀ e ∈ ot.after, Region.binds md e = true → e.on ≠ i) → o.apart ops ot = true := fun t ot ht hti hu hno => by
        refine hfree t ot ht hti ?_ hno
        by_cases hjt : j = t
        · subst hjt
          exact hjun
        · rw [getD_set_ne true hjt] at hu
          exact hu
      refine qOp_mono (fun a' h3 => ih (s.setIfInBounds j true) a' (inv.set hj hjn) hfree' (ready_mono hr (Ne.symm hji)) h3.1 ?_) h2
      rw [Array.setIfInBounds_comm _ _ hji]
      exact h3.2
theorem head_lex {n g : Nat} {Lq : Act → Prop} (hsel : Region.noSelect ops = true) (hs : Region.sinkB md ops n = true) (hc : Region.chainB md ops n = true) (hn : n < ops.size) :
    ∀ (l : List Oper) (k : Nat) (s : Array Bool) (a : Act), (∀ j, j < l.length → l[j]? = ops[k + j]?) → k + l.length = n → HeadInv md ops n s →
    Region.lexHead md ops g l.length k s = true → wpQuiet P ops C Lq l a → anyHead P md ops C n (fun s' a' => Region.seqB md ops g n s' = true ∧ Lq a') l.length s a
  | [], k, s, a, _, hk, _, hB, h => by
    have : k = n := by simpa using hk
    subst this
    exact ⟨by simpa [Region.lexHead] using hB, h⟩
  | o :: l, k, s, a, hl, hk, inv, hB, h => by
    have h0 : ops[k]? = some o := by simpa using (hl 0 (by simp)).symm
    simp only [List.length_cons, Region.lexHead, Bool.and_eq_true] at hB
    obtain ⟨⟨hr, hf⟩, hB'⟩ := hB
    have hkn : k < n := by simp only [List.length_cons] at hk; omega
    have hr' : k ∈ Region.ready md ops s := by simpa using hr
    have hq : qOp P ops C k (wpQuiet P ops C Lq l) a := by unfold qOp; simp only [h0]; exact h
    obtain ⟨v, hy, hK⟩ := yieldsIn_of_qOp h0 hq
    exact head_first h0 (Region.noSelect_spec hsel) hs hc hn hkn (fun s' a' hL => seqB_ready hL.1) l.length s a inv (Region.free_spec h0 hf) hr' hy
      (head_lex hsel hs hc hn l (k + 1) _ _ (fun j hj => by have := hl (j + 1) (by simp; omega); simpa [Nat.add_assoc, Nat.add_comm 1 j] using this) (by simp only [List.length_cons] at hk; omega) (inv.set hr' hkn) hB' hK)
theorem wp_region_quiet_tail {id : Nat} {Q : Exit → Act → World → Prop} {a : Act} {w : World} {l : List Oper} (n : Nat) (hm : P.follows .mixedOrders = true) (hB : Region.lexTailB .any l.toArray n = true) (hC : C { w with drawn := w.drawn + 1 })
    (h : wpQuiet P l.toArray C (fun a' => ∀ w', C w' → wpList P l.toArray Q (l.drop n) a' w') (l.take n) a) : (Code.region id l.toArray true).wp P Q a w := by
  simp only [Region.lexTailB, Bool.and_eq_true, decide_eq_true_eq] at hB
  obtain ⟨⟨⟨⟨hsel, hn⟩, hs⟩, hc⟩, hlex⟩ := hB
  have hn' : n < l.length := by simpa using hn
  have htl : (l.take n).length = n := by simp; omega
  have hdl : (l.drop n).length = l.toArray.size - n := by simp
  have inv0 : HeadInv .any l.toArray n (Array.replicate l.toArray.size false) :=
    ⟨by simp, fun j oj _ hl => (by rw [getD_replicate_false] at hl; cases hl), fun t _ ht => getD_in (by simpa using ht) (getD_replicate_false _ _)⟩
  have H := head_lex (C := C) (md := .any) (g := l.toArray.size - n) hsel hs hc hn (l.take n) 0 _ a (fun j hj => by
    have hj' : j < n := by rw [htl] at hj; exact hj
    simp [hj']) (by simpa using htl) inv0 (by rw [htl]; exact hlex) h
  refine wp_region_any hm ?_
  have := any_of_head (C := C) (R := Q) (g := l.toArray.size - n) (fun s a' w' hw' hL => by
    have := wpAny_of_seq (md := .any) (Q' := Q) (l.drop n) n s a' w' (fun j => by simp [List.getElem?_drop]) (by rw [hdl]; exact hL.1) (hL.2 w' hw')
    rwa [hdl] at this) _ _ _ { w with drawn := w.drawn + 1 } hC H
  rw [htl, show n + (l.toArray.size - n) = l.toArray.size by omega] at this
  exact this
/-- At the class 'w, some draws on'. -/
theorem wp_quiet_tail {id : Nat} {Q : Exit → Act → World → Prop} {a : Act} {w : World} {l : List Oper} (n : Nat) (hm : P.follows .mixedOrders = true) (hB : Region.lexTailB .any l.toArray n = true)
    (h : wpQuiet P l.toArray (fun w' => ∃ n, w' = w.drewN n) (fun a' => ∀ w', (∃ n, w' = w.drewN n) → wpList P l.toArray Q (l.drop n) a' w') (l.take n) a) : (Code.region id l.toArray true).wp P Q a w :=
  wp_region_quiet_tail (C := fun w' => ∃ n, w' = w.drewN n) n hm hB ⟨1, rfl⟩ h
/-- At the class 'w, new blocks behind it'. -/
theorem wp_below_tail {id : Nat} {Q : Exit → Act → World → Prop} {a : Act} {w : World} {l : List Oper} (n : Nat) (hm : P.follows .mixedOrders = true) (hB : Region.lexTailB .any l.toArray n = true)
    (h : wpQuiet P l.toArray (fun w' => ∃ p : Regrown, w' = Sort.grow (redrawn w p.d) p.os) (fun a' => ∀ w', (∃ p : Regrown, w' = Sort.grow (redrawn w p.d) p.os) → wpList P l.toArray Q (l.drop n) a' w') (l.take n) a) : (Code.region id l.toArray true).wp P Q a w :=
  wp_region_quiet_tail (C := fun w' => ∃ p : Regrown, w' = Sort.grow (redrawn w p.d) p.os) n hm hB ⟨⟨w.drawn + 1, #[]⟩, by rw [Sort.grow_empty]; rfl⟩ h
end
end QTail
end Go.Proofs.YtpakdcgcgekcfaaDoor

/-
  The reference's Press (curtilageref01): it is the plain one.
-/
set_option linter.unusedSimpArgs false
set_option linter.unusedVariables false
namespace Go.Proofs.YtpakdcgcgekcfaaDoor
open Go.RowKit

namespace Sha
open Otp R1
set_option maxRecDepth 100000 in
set_option maxHeartbeats 8000000 in
theorem rpress_any (hs bs : List Nat) (A : Option Addr) (cap : Nat) (w : World) (hl : hs.length = 8) (hw : ∀ x ∈ hs, x < 4294967296) (bl : bs.length = 64) (hcap : 64 ≤ cap) (hz : Nats .u8 256 w w.heap.size A bs) :
    Calls Tryd.prog 108 #[.agg (c32 hs), .slice A 64 cap] w (fun e w' => e = .returned (.agg (c32 (press hs bs))) ∧ Below w.heap.size w w') := by
  obtain ⟨res, hres⟩ : ∃ r, press hs bs = r := ⟨_, rfl⟩
  rw [hres]
  have HE0 := wall hres
  have HL := wall hl
  have HWD := wall hw
  have HBL := wall bl
  have HN := wall hz
  have hA : ∃ b off, A = some ⟨b, off, none⟩ := by
    obtain ⟨x, hx⟩ : ∃ x, bs[0]? = some x := ⟨_, List.getElem?_eq_getElem (by omega)⟩
    obtain ⟨_, b, off, h, _⟩ := hz 0 x hx
    exact ⟨b, off, h⟩
  obtain ⟨b, off, rfl⟩ := hA
  have HSH := wall (show (Tryd.prog.info? 118).map (·.size) = some (c32 hs).size by rw [c32_size, hl]; exact h_info)
  have HWB := wall (show ∀ x ∈ bs, x < 256 from fun x hx => by
    obtain ⟨i, hi⟩ := List.mem_iff_getElem?.1 hx
    exact (hz i x hi).1)
  obtain ⟨ws, hws⟩ : ∃ r, sched bs = r := ⟨_, rfl⟩
  have HWS := wall hws
  have HWL := wall (show ws.length = 64 by rw [← hws]; exact sched_length bl)
  have HWW := wall (show ∀ x ∈ ws, x < 4294967296 by rw [← hws]; exact sched_word HWB.out)
  obtain ⟨i0, hi0, hz0, hz1, hz2⟩ := info_row u32_info
  have hmk := fun W => run_make_rowN (P := Tryd.prog) 37 43 i0 _ Tryd.underlying37 hi0 hz0 .i64 .i64 64 64 (Nat.le_refl _) (by rw [hz2]; omega) (by omega) W
  have e64 : ((64 : Nat) : Int) = 64 := rfl
  rw [hz1] at hmk
  simp only [Nat.mul_one, e64] at hmk
  obtain ⟨W2, hW2⟩ : ∃ W, W = (w.alloc (.cells (c32 hs) 118)).alloc (.cells (c32 (List.replicate 8 0)) 118) := ⟨_, rfl⟩
  have K0 := wall (show Blk W2 w.heap.size 118 (c32 hs) by rw [hW2]; exact (Blk.new w _ _).alloc _)
  have K2 := wall (show Blk W2 (w.heap.size + 1) 118 (c32 (List.replicate 8 0)) by rw [hW2]; exact blk_new' (by simp))
  have HB := wall (show Below w.heap.size w W2 by rw [hW2]; exact ((Below.refl _ w).alloc (Nat.le_refl _) _).alloc (by simp) _)
  have hWs : W2.heap.size = w.heap.size + 1 + 1 := by rw [hW2]; simp
  have hW2' := wall hW2
  have K3 := wall (show Blk (W2.alloc (.cells (madeCells #[Value.int .u32 0] 64) 43)) (w.heap.size + 1 + 1) 43 (c32 (List.replicate 64 0)) by rw [made32, ← hWs]; exact Blk.new _ _ _)
  replace K0 := wall (K0.out.alloc (.cells (madeCells #[Value.int .u32 0] 64) 43))
  replace K2 := wall (K2.out.alloc (.cells (madeCells #[Value.int .u32 0] 64) 43))
  replace HB := wall (HB.out.alloc (by omega) (.cells (madeCells #[Value.int .u32 0] 64) 43))
  clear hl hw bl hz hres hws hW2 hi0 hz0 hz1 hz2 e64
  go_enter Tryd.func108, Tryd.ntmps108
  go_upto_region 1 with fail
  change Code.wp _ _ _ _ ((w.alloc (.cells (c32 hs) 118)).alloc (.cells (c32 (List.replicate 8 0)) 118))
  rw [← hW2'.out]
  clear hW2'
  go_upto_region 2 with fail
  generalize hW3 : W2.alloc (.cells (madeCells #[Value.int .u32 0] 64) 43) = W3 at *
  clear hW3 hmk hWs
  go_wp2_with fail
  go_loopg [6, 24] 64 (fun g s6 s24 wr => ∃ i : Nat, i + g = 64 ∧ s24 = .int .i64 (i : Int) ∧ Wall (Blk wr w.heap.size 118 (c32 hs)) ∧ Wall (Blk wr (w.heap.size + 1) 118 (c32 (List.replicate 8 0))) ∧ Wall (Blk wr (w.heap.size + 1 + 1) 43 (c32 (ws.take i ++ List.replicate (64 - i) 0))) ∧ Wall (Below w.heap.size w wr))
  case atStart => exact ⟨0, by omega, rfl, K0, K2, K3, HB⟩
  case round =>
    clear K0 K2 K3 HB
    obtain ⟨i, hg, rfl, K0, K2, K3, HB⟩ := hrel
    have HG := wall hg
    have hi : i ≤ 64 := by omega
    clear hg
    have HTL := wall (show i < 64 → (ws.take i).length = i from fun h => by rw [List.length_take, HWL.out]; omega)
    by_cases hlt : i < 64
    · obtain ⟨y, hy⟩ : ∃ x, ws[i]? = some x := ⟨_, List.getElem?_eq_getElem (by have := HWL.out; omega)⟩
      have HX := wall (show (ws.take i ++ List.replicate (64 - i) 0).set i y = ws.take (i + 1) ++ List.replicate (64 - (i + 1)) 0 by
        rw [take_snoc hy, List.set_append_right _ _ (by rw [HTL.out hlt]; omega), HTL.out hlt, Nat.sub_self, show 64 - i = 64 - (i + 1) + 1 by omega, List.replicate_succ, List.set_cons_zero, List.append_assoc]
        rfl)
      have yM := HWW.out y (List.mem_of_getElem? hy)
      have hfr : wr.frozen? ⟨w.heap.size + 1 + 1, i, none⟩ = false := K3.out.frozen i
      obtain ⟨old, hold⟩ : ∃ v, wr.cell? ⟨w.heap.size + 1 + 1, i, none⟩ = some v := by
        rw [K3.out.cell]
        refine ⟨_, Array.getElem?_eq_getElem (i := i) ?_⟩
        rw [c32_size, List.length_append, List.length_replicate, HTL.out hlt]
        omega
      have hsz := K3.out.lt
      have HY := wall hy
      clear hy
      by_cases h16 : i < 16
      · have hx : ∀ j, j < 4 → ∃ x, bs[4 * i + j]? = some x := fun j hj => ⟨_, List.getElem?_eq_getElem (by have := HBL.out; omega)⟩
        obtain ⟨x0, h0⟩ := hx 0 (by omega)
        obtain ⟨x1, h1⟩ := hx 1 (by omega)
        obtain ⟨x2, h2⟩ := hx 2 (by omega)
        obtain ⟨x3, h3⟩ := hx 3 (by omega)
        have hye : beVal [x0, x1, x2, x3] = y := by
          have := sched_lo (words4_get bs i x0 x1 x2 x3 h0 h1 h2 h3)
          rw [HWS.out, HY.out] at this
          cases this
          exact be4_val _ _ _ _
        have HNV := wall (show Nats .u8 256 wr wr.heap.size (some ⟨b, off + 4 * i, none⟩) [x0, x1, x2, x3] from by
          have hN := (HN.out.below HB.out).more HB.out.size
          have key : ∀ (j : Nat) (z : Nat), bs[4 * i + j]? = some z → z < 256 ∧ ∃ b' off', some (⟨b, off + 4 * i, none⟩ : Addr) = some ⟨b', off', none⟩ ∧ b' < wr.heap.size ∧ wr.cell? ⟨b', off' + j, none⟩ = some (.int .u8 (z : Int)) := fun j z hz => by
            obtain ⟨hzM, b', off', he, hb', hc⟩ := hN (4 * i + j) z hz
            cases he
            exact ⟨hzM, b, off + 4 * i, rfl, hb', by rw [Nat.add_assoc]; exact hc⟩
          intro j z hz
          match j, hz with
          | 0, hz => cases hz; exact key 0 _ h0
          | 1, hz => cases hz; exact key 1 _ h1
          | 2, hz => cases hz; exact key 2 _ h2
          | 3, hz => cases hz; exact key 3 _ h3)
        have HV := wall (fun W (h : Nats .u8 256 W W.heap.size (some ⟨b, off + 4 * i, none⟩) [x0, x1, x2, x3]) C => value_any (some ⟨b, off + 4 * i, none⟩) 4 C [x0, x1, x2, x3] W W.heap.size rfl (by decide) h)
        rw [hye] at HV
        clear hx h0 h1 h2 h3 hye
        go_wp2_with fail
        (with_reducible refine (HV.out _ HNV.out _).mono ?_); rintro e w2 ⟨rfl, rfl⟩
        go_wp2_with fail
        go_light
        go_roundg (64 - (i + 1))
        case measure => have := HG.out; omega
        case rel =>
          refine ⟨i + 1, by have := HG.out; omega, by go_num, wall ?_, wall ?_, wall ?_, wall ?_⟩
          · exact (K0.out.far' _ _ (by omega) _)
          · exact (K2.out.far' _ _ (by omega) _)
          · have := K3.out.set i (.int .u32 (y : Int))
            rw [c32_set, HX.out] at this
            exact this
          · exact HB.out.setCell (p := ⟨w.heap.size + 1 + 1, i, none⟩) (by show w.heap.size ≤ w.heap.size + 1 + 1; omega) _
      · obtain ⟨k, rfl⟩ : ∃ k, i = 16 + k := ⟨i - 16, by omega⟩
        have hx : ∀ j, j < 16 → ∃ x, ws[k + j]? = some x ∧ x < 4294967296 ∧ wr.cell? ⟨w.heap.size + 1 + 1, k + j, none⟩ = some (.int .u32 (x : Int)) := fun j hj => by
          obtain ⟨x, hx⟩ : ∃ x, ws[k + j]? = some x := ⟨_, List.getElem?_eq_getElem (by have := HWL.out; omega)⟩
          refine ⟨x, hx, HWW.out x (List.mem_of_getElem? hx), ?_⟩
          rw [K3.out.cell]
          refine c32_at ?_
          rw [List.getElem?_append_left (by rw [HTL.out hlt]; omega), List.getElem?_take_of_lt (by omega)]
          exact hx
        obtain ⟨a, ha, haM, hca⟩ := hx 0 (by omega)
        obtain ⟨b1, hb, hbM, hcb⟩ := hx 1 (by omega)
        obtain ⟨c, hc, hcM, hcc⟩ := hx 9 (by omega)
        obtain ⟨d, hd, hdM, hcd⟩ := hx 14 (by omega)
        have hca' : wr.cell? ⟨w.heap.size + 1 + 1, k, none⟩ = some (.int .u32 (a : Int)) := hca
        have hyn : y = nxt a b1 c d := by
          have h := sched_hi (bs := bs) HBL.out (k := k) (a := a) (b := b1) (c := c) (d := d) (by omega) (by rw [HWS.out]; exact ha) (by rw [HWS.out]; exact hb) (by rw [HWS.out]; exact hc) (by rw [HWS.out]; exact hd)
          rw [HWS.out, HY.out] at h
          exact Option.some.inj h
        clear hx ha hca hb hc hd
        obtain ⟨r7, h7⟩ : ∃ r, rotr b1 7 = r := ⟨_, rfl⟩
        obtain ⟨r18, h18⟩ : ∃ r, rotr b1 18 = r := ⟨_, rfl⟩
        obtain ⟨r17, h17⟩ : ∃ r, rotr d 17 = r := ⟨_, rfl⟩
        obtain ⟨r19, h19⟩ : ∃ r, rotr d 19 = r := ⟨_, rfl⟩
        have l7 : r7 < 4294967296 := by rw [← h7]; exact rotr_lt hbM (by decide)
        have l18 : r18 < 4294967296 := by rw [← h18]; exact rotr_lt hbM (by decide)
        have l17 : r17 < 4294967296 := by rw [← h17]; exact rotr_lt hdM (by decide)
        have l19 : r19 < 4294967296 := by rw [← h19]; exact rotr_lt hdM (by decide)
        obtain ⟨q0, hq0⟩ : ∃ q, r7 ^^^ r18 = q := ⟨_, rfl⟩
        obtain ⟨q1, hq1⟩ : ∃ q, r17 ^^^ r19 = q := ⟨_, rfl⟩
        have lq0 : q0 < 4294967296 := by rw [← hq0]; exact xor_lt l7 l18
        have lq1 : q1 < 4294967296 := by rw [← hq1]; exact xor_lt l17 l19
        obtain ⟨u0, hu0⟩ : ∃ q, s0 b1 = q := ⟨_, rfl⟩
        obtain ⟨u1, hu1⟩ : ∃ q, s1 d = q := ⟨_, rfl⟩
        have lu0 : u0 < 4294967296 := by rw [← hu0]; unfold s0; exact xor_lt (xor_lt (rotr_lt hbM (by decide)) (rotr_lt hbM (by decide))) (Nat.lt_of_le_of_lt (Nat.div_le_self _ _) hbM)
        have lu1 : u1 < 4294967296 := by rw [← hu1]; unfold s1; exact xor_lt (xor_lt (rotr_lt hdM (by decide)) (rotr_lt hdM (by decide))) (Nat.lt_of_le_of_lt (Nat.div_le_self _ _) hdM)
        have x0 : bits .xor .u32 (r7 : Int) (r18 : Int) = (q0 : Int) := by rw [u32_xor_nat _ _ l7 l18, hq0]
        have x1 : bits .xor .u32 (r17 : Int) (r19 : Int) = (q1 : Int) := by rw [u32_xor_nat _ _ l17 l19, hq1]
        have y0 : bits .xor .u32 (q0 : Int) ((b1 : Int) / 8) = (u0 : Int) := by
          rw [show (b1 : Int) / 8 = ((b1 / 2 ^ 3 : Nat) : Int) by simp, u32_xor_nat _ _ lq0 (Nat.lt_of_le_of_lt (Nat.div_le_self _ _) hbM), ← hq0, ← h7, ← h18, ← hu0]
          rfl
        have y1 : bits .xor .u32 (q1 : Int) ((d : Int) / 1024) = (u1 : Int) := by
          rw [show (d : Int) / 1024 = ((d / 2 ^ 10 : Nat) : Int) by simp, u32_xor_nat _ _ lq1 (Nat.lt_of_le_of_lt (Nat.div_le_self _ _) hdM), ← hq1, ← h17, ← h19, ← hu1]
          rfl
        have z0 : ((a : Int) + (u0 : Int) + (c : Int) + (u1 : Int)) % 4294967296 = (y : Int) := by
          rw [hyn, ← hu0, ← hu1]
          unfold nxt
          simp
        have H7 := wall (fun W => turn_q 7 _ 7 b1 r7 W (by decide) rfl hbM (by omega) (by omega) h7)
        have H18 := wall (fun W => turn_q 18 _ 18 b1 r18 W (by decide) rfl hbM (by omega) (by omega) h18)
        have H17 := wall (fun W => turn_q 17 _ 17 d r17 W (by decide) rfl hdM (by omega) (by omega) h17)
        have H19 := wall (fun W => turn_q 19 _ 19 d r19 W (by decide) rfl hdM (by omega) (by omega) h19)
        clear h7 h18 h17 h19 hq0 hq1 hu0 hu1 hyn
        have i15 : IntKind.i64.wrap (16 + (k : Int) - 15) = (k : Int) + 1 := by rw [IntWalk.i64_in _ (by omega)]; omega
        have i2 : IntKind.i64.wrap (16 + (k : Int) - 2) = (k : Int) + 14 := by rw [IntWalk.i64_in _ (by omega)]; omega
        have i16 : IntKind.i64.wrap (16 + (k : Int) - 16) = (k : Int) := by rw [IntWalk.i64_in _ (by omega)]; omega
        have i7 : IntKind.i64.wrap (16 + (k : Int) - 7) = (k : Int) + 9 := by rw [IntWalk.i64_in _ (by omega)]; omega
        have b64 : (k : Int) < 64 := by omega
        have b16 : (16 : Int) + (k : Int) < 64 := by omega
        have b1' : (k : Int) + 1 < 64 := by omega
        have b9 : (k : Int) + 9 < 64 := by omega
        have b14 : (k : Int) + 14 < 64 := by omega
        have n16 : (0 : Int) ≤ 16 + (k : Int) := by omega
        have t16 : (16 + (k : Int)).toNat = 16 + k := by omega
        have n1 : (0 : Int) ≤ (k : Int) + 1 := by omega
        have t1' : ((k : Int) + 1).toNat = k + 1 := by omega
        have n9 : (0 : Int) ≤ (k : Int) + 9 := by omega
        have t9 : ((k : Int) + 9).toNat = k + 9 := by omega
        have n14 : (0 : Int) ≤ (k : Int) + 14 := by omega
        have t14 : ((k : Int) + 14).toNat = k + 14 := by omega
        have hn16 : ¬ (16 + (k : Int) < 16) := by omega
        have hk64 : k < 64 := by omega
        clear hlt h16 hi
        go_wp2_with fail
        refine QTail.wp_quiet_tail 55 (by kernel_rfl) (by kernel_rfl) ?_
        simp only [List.take_succ_cons, List.take_zero, List.drop_succ_cons, List.drop_zero]
        repeat (first | go_big_quiet_step ((go_at_call 126; first | with_reducible exact Calls.quiet_of (H7.out _) | with_reducible exact Calls.quiet_of (H18.out _) | with_reducible exact Calls.quiet_of (H17.out _) | with_reducible exact Calls.quiet_of (H19.out _))))
        refine wpQuiet_nil ?_
        intro _ hw'
        obtain ⟨nq, hw''⟩ := hw'
        subst hw''
        go_wp2_with fail
        go_light
        go_roundg (64 - (16 + k + 1))
        case measure => have := HG.out; omega
        case rel =>
          refine ⟨16 + k + 1, by have := HG.out; omega, by go_num, wall ?_, wall ?_, wall ?_, wall ?_⟩
          · exact ((K0.out.drewN _).far' _ _ (by omega) _)
          · exact ((K2.out.drewN _).far' _ _ (by omega) _)
          · have := (K3.out.drewN nq).set (16 + k) (.int .u32 (y : Int))
            rw [c32_set, HX.out] at this
            exact this
          · exact (Below.drewN HB.out _).setCell (p := ⟨w.heap.size + 1 + 1, 16 + k, none⟩) (by show w.heap.size ≤ w.heap.size + 1 + 1; omega) _
    · have hi64 : i = 64 := by omega
      have hni : ¬ ((i : Int) < 64) := by omega
      replace K3 := wall (show Blk wr (w.heap.size + 1 + 1) 43 (c32 ws) by
        have := K3.out
        rw [hi64, List.take_of_length_le (by have := HWL.out; omega), Nat.sub_self, List.replicate_zero, List.append_nil] at this
        exact this)
      clear hi64 HTL hlt hi
      obtain ⟨a0, b0, c0, d0, e0, f0, g0, h0, hhs⟩ := eight HL.out
      subst hhs
      have hok := HWD.out
      simp only [List.mem_cons, List.not_mem_nil, or_false, forall_eq_or_imp, forall_eq] at hok
      have HOK := wall (show (St.mk a0 b0 c0 d0 e0 f0 g0 h0).ok from hok)
      clear hok
      have ca : wr.cell? ⟨w.heap.size, 0, none⟩ = some (.int .u32 (a0 : Int)) := by rw [K0.out.cell]; rfl
      have cb : wr.cell? ⟨w.heap.size, 1, none⟩ = some (.int .u32 (b0 : Int)) := by rw [K0.out.cell]; rfl
      have cc : wr.cell? ⟨w.heap.size, 2, none⟩ = some (.int .u32 (c0 : Int)) := by rw [K0.out.cell]; rfl
      have cd : wr.cell? ⟨w.heap.size, 3, none⟩ = some (.int .u32 (d0 : Int)) := by rw [K0.out.cell]; rfl
      have ce : wr.cell? ⟨w.heap.size, 4, none⟩ = some (.int .u32 (e0 : Int)) := by rw [K0.out.cell]; rfl
      have cf : wr.cell? ⟨w.heap.size, 5, none⟩ = some (.int .u32 (f0 : Int)) := by rw [K0.out.cell]; rfl
      have cg : wr.cell? ⟨w.heap.size, 6, none⟩ = some (.int .u32 (g0 : Int)) := by rw [K0.out.cell]; rfl
      have ch' : wr.cell? ⟨w.heap.size, 7, none⟩ = some (.int .u32 (h0 : Int)) := by rw [K0.out.cell]; rfl
      obtain ⟨gO, rfl⟩ : ∃ q : Nat, q = gk := ⟨_, rfl⟩
      obtain ⟨wO, rfl⟩ : ∃ q : World, q = wr := ⟨_, rfl⟩
      go_wp2_with fail
      go_quiet (fail)
      replace K0 := wall (K0.out.drewN nq)
      replace K2 := wall (K2.out.drewN nq)
      replace K3 := wall (K3.out.drewN nq)
      replace HB := wall (Below.drewN HB.out nq)
      generalize wO.drewN nq = w1 at *
      clear ca cb cc cd ce cf cg ch'
      go_wp2_with fail
      (with_reducible refine (roots_any _).mono ?_); rintro e w5 ⟨rfl, hB⟩
      have k0 := wall (K0.out.next hB rfl)
      have k2 := wall (K2.out.next hB rfl)
      have k3 := wall (K3.out.next hB rfl)
      have HB5 := wall (below_then HB.out hB (Nat.le_refl _))
      clear hB K0 K2 K3 HB
      have HSR := wall (show (Tryd.prog.info? 44).map (·.size) = some (c32 rK).size by rw [c32_size]; exact sched_info)
      have HZR := wall (show (c32 (List.replicate 64 0)).size = (c32 rK).size by rw [c32_size, c32_size]; rfl)
      have HOR := wall (c32_one rK)
      go_upto_region 11 with (refine wpList_new_row rfl 44 (.tmp 15) (.tmp 114) rfl w5.heap.size (c32 rK) rfl rfl 44 (c32 (List.replicate 64 0)) (Blk.new _ _ _) HSR.out HZR.out HOR.out w5.heap.size w5 ((Below.refl _ w5).alloc (Nat.le_refl _) _) (Nat.le_refl _) ?_; intro w6 KR hB6)
      have hw52 : w.heap.size + 1 + 1 < w5.heap.size := k3.out.lt
      have K0 := wall (k0.out.next hB6 rfl)
      have K2 := wall (k2.out.next hB6 rfl)
      have K3 := wall (k3.out.next hB6 rfl)
      have HB := wall (below_then HB5.out hB6 (Nat.le_refl _))
      replace KR := wall KR
      clear hB6 k0 k2 k3 HB5 HSR HZR HOR
      generalize w5.heap.size = bR at *
      go_wp2_with fail
      go_loopg [7, 8, 9, 10, 11, 12, 13, 14, 16, 17, 18, 117] 64 (fun g s7 s8 s9 s10 s11 s12 s13 s14 s16 s17 s18 s117 wr => ∃ i : Nat, i + g = 64 ∧ s117 = .int .i64 (i : Int) ∧ ∃ a b c d e f g h : Nat, s7 = .int .u32 (a : Int) ∧ s8 = .int .u32 (b : Int) ∧ s9 = .int .u32 (c : Int) ∧ s10 = .int .u32 (d : Int) ∧ s11 = .int .u32 (e : Int) ∧ s12 = .int .u32 (f : Int) ∧ s13 = .int .u32 (g : Int) ∧ s14 = .int .u32 (h : Int) ∧ Wall ((St.mk a0 b0 c0 d0 e0 f0 g0 h0).run ws i = St.mk a b c d e f g h) ∧ Wall (Blk wr w.heap.size 118 (c32 [a0, b0, c0, d0, e0, f0, g0, h0])) ∧ Wall (Blk wr (w.heap.size + 1) 118 (c32 (List.replicate 8 0))) ∧ Wall (Blk wr (w.heap.size + 1 + 1) 43 (c32 ws)) ∧ Wall (Blk wr bR 44 (c32 rK)) ∧ Wall (Below w.heap.size w wr))
      case atStart => exact ⟨0, by omega, rfl, a0, b0, c0, d0, e0, f0, g0, h0, rfl, rfl, rfl, rfl, rfl, rfl, rfl, rfl, wall rfl, K0, K2, K3, KR, HB⟩
      case round =>
        clear K0 K2 K3 KR HB
        obtain ⟨i, hg, rfl, a, b, c, d, e, f, g, hh, rfl, rfl, rfl, rfl, rfl, rfl, rfl, rfl, HS, K0, K2, K3, KR, HB⟩ := hrel
        have HG := wall hg
        have hi : i ≤ 64 := by omega
        clear hg
        have hok := St.ok_run HOK.out ws i
        rw [HS.out] at hok
        obtain ⟨aM, bM, cM, dM, eM, fM, gM, hM⟩ := hok
        simp only at aM bM cM dM eM fM gM hM
        by_cases hlt : i < 64
        · obtain ⟨ww, hx⟩ : ∃ x, ws[i]? = some x := ⟨_, List.getElem?_eq_getElem (by have := HWL.out; omega)⟩
          obtain ⟨kk, hkx⟩ : ∃ x, rK[i]? = some x := ⟨_, List.getElem?_eq_getElem (show i < rK.length from hlt)⟩
          have wwM := HWW.out ww (List.mem_of_getElem? hx)
          have kkM := rK_word kk (List.mem_of_getElem? hkx)
          have hck : wr.cell? ⟨bR, i, none⟩ = some (.int .u32 (kk : Int)) := by rw [KR.out.cell]; exact c32_at hkx
          have hcw : wr.cell? ⟨w.heap.size + 1 + 1, i, none⟩ = some (.int .u32 (ww : Int)) := by rw [K3.out.cell]; exact c32_at hx
          have HRN := wall (show (St.mk a0 b0 c0 d0 e0 f0 g0 h0).run ws (i + 1) = (St.mk a b c d e f g hh).round kk ww by rw [St.run, hkx, hx, HS.out]; rfl)
          clear hx hkx HS
          obtain ⟨r6, h6⟩ : ∃ r, rotr e 6 = r := ⟨_, rfl⟩
          have l6 : r6 < 4294967296 := by rw [← h6]; exact rotr_lt eM (by decide)
          obtain ⟨r11, h11⟩ : ∃ r, rotr e 11 = r := ⟨_, rfl⟩
          have l11 : r11 < 4294967296 := by rw [← h11]; exact rotr_lt eM (by decide)
          obtain ⟨r25, h25⟩ : ∃ r, rotr e 25 = r := ⟨_, rfl⟩
          have l25 : r25 < 4294967296 := by rw [← h25]; exact rotr_lt eM (by decide)
          obtain ⟨p1, ep1⟩ : ∃ q, r6 ^^^ r11 = q := ⟨_, rfl⟩
          have lp1 : p1 < 4294967296 := by rw [← ep1]; exact xor_lt l6 l11
          have bp1 : bits .xor .u32 (r6 : Int) (r11 : Int) = (p1 : Int) := by rw [u32_xor_nat _ _ l6 l11, ep1]
          obtain ⟨u1, eu1⟩ : ∃ q, p1 ^^^ r25 = q := ⟨_, rfl⟩
          have lu1 : u1 < 4294967296 := by rw [← eu1]; exact xor_lt lp1 l25
          have bu1 : bits .xor .u32 (p1 : Int) (r25 : Int) = (u1 : Int) := by rw [u32_xor_nat _ _ lp1 l25, eu1]
          obtain ⟨ef, eef⟩ : ∃ q, e &&& f = q := ⟨_, rfl⟩
          have lef : ef < 4294967296 := by rw [← eef]; exact and_lt eM fM
          have bef : bits .and .u32 (e : Int) (f : Int) = (ef : Int) := by rw [u32_and_nat _ _ eM fM, eef]
          obtain ⟨ne, ene⟩ : ∃ q, 4294967295 - e = q := ⟨_, rfl⟩
          have lne : ne < 4294967296 := by omega
          have bne : (4294967295 - (e : Int)) % 4294967296 = (ne : Int) := by omega
          have bne2 : 4294967295 - (e : Int) = (ne : Int) := by omega
          obtain ⟨ng, eng⟩ : ∃ q, ne &&& g = q := ⟨_, rfl⟩
          have lng : ng < 4294967296 := by rw [← eng]; exact and_lt lne gM
          have bng : bits .and .u32 (ne : Int) (g : Int) = (ng : Int) := by rw [u32_and_nat _ _ lne gM, eng]
          obtain ⟨cv, ecv⟩ : ∃ q, ef ^^^ ng = q := ⟨_, rfl⟩
          have lcv : cv < 4294967296 := by rw [← ecv]; exact xor_lt lef lng
          have bcv : bits .xor .u32 (ef : Int) (ng : Int) = (cv : Int) := by rw [u32_xor_nat _ _ lef lng, ecv]
          obtain ⟨tt, ett⟩ : ∃ q, (hh + u1 + cv + kk + ww) % 4294967296 = q := ⟨_, rfl⟩
          have ltt : tt < 4294967296 := by rw [← ett]; exact Nat.mod_lt _ (by decide)
          have btt : ((hh : Int) + (u1 : Int) + (cv : Int) + (kk : Int) + (ww : Int)) % 4294967296 = (tt : Int) := by rw [← ett]; simp
          obtain ⟨r2, h2⟩ : ∃ r, rotr a 2 = r := ⟨_, rfl⟩
          have l2 : r2 < 4294967296 := by rw [← h2]; exact rotr_lt aM (by decide)
          obtain ⟨r13, h13⟩ : ∃ r, rotr a 13 = r := ⟨_, rfl⟩
          have l13 : r13 < 4294967296 := by rw [← h13]; exact rotr_lt aM (by decide)
          obtain ⟨r22, h22⟩ : ∃ r, rotr a 22 = r := ⟨_, rfl⟩
          have l22 : r22 < 4294967296 := by rw [← h22]; exact rotr_lt aM (by decide)
          obtain ⟨p0, ep0⟩ : ∃ q, r2 ^^^ r13 = q := ⟨_, rfl⟩
          have lp0 : p0 < 4294967296 := by rw [← ep0]; exact xor_lt l2 l13
          have bp0 : bits .xor .u32 (r2 : Int) (r13 : Int) = (p0 : Int) := by rw [u32_xor_nat _ _ l2 l13, ep0]
          obtain ⟨u0, eu0⟩ : ∃ q, p0 ^^^ r22 = q := ⟨_, rfl⟩
          have lu0 : u0 < 4294967296 := by rw [← eu0]; exact xor_lt lp0 l22
          have bu0 : bits .xor .u32 (p0 : Int) (r22 : Int) = (u0 : Int) := by rw [u32_xor_nat _ _ lp0 l22, eu0]
          obtain ⟨ab, eab⟩ : ∃ q, a &&& b = q := ⟨_, rfl⟩
          have lab : ab < 4294967296 := by rw [← eab]; exact and_lt aM bM
          have bab : bits .and .u32 (a : Int) (b : Int) = (ab : Int) := by rw [u32_and_nat _ _ aM bM, eab]
          obtain ⟨ac, eac⟩ : ∃ q, a &&& c = q := ⟨_, rfl⟩
          have lac : ac < 4294967296 := by rw [← eac]; exact and_lt aM cM
          have bac : bits .and .u32 (a : Int) (c : Int) = (ac : Int) := by rw [u32_and_nat _ _ aM cM, eac]
          obtain ⟨bc, ebc⟩ : ∃ q, b &&& c = q := ⟨_, rfl⟩
          have lbc : bc < 4294967296 := by rw [← ebc]; exact and_lt bM cM
          have bbc : bits .and .u32 (b : Int) (c : Int) = (bc : Int) := by rw [u32_and_nat _ _ bM cM, ebc]
          obtain ⟨abc, eabc⟩ : ∃ q, ab ^^^ ac = q := ⟨_, rfl⟩
          have labc : abc < 4294967296 := by rw [← eabc]; exact xor_lt lab lac
          have babc : bits .xor .u32 (ab : Int) (ac : Int) = (abc : Int) := by rw [u32_xor_nat _ _ lab lac, eabc]
          obtain ⟨mj, emj⟩ : ∃ q, abc ^^^ bc = q := ⟨_, rfl⟩
          have lmj : mj < 4294967296 := by rw [← emj]; exact xor_lt labc lbc
          have bmj : bits .xor .u32 (abc : Int) (bc : Int) = (mj : Int) := by rw [u32_xor_nat _ _ labc lbc, emj]
          obtain ⟨na, ena⟩ : ∃ q, (tt + u0 + mj) % 4294967296 = q := ⟨_, rfl⟩
          obtain ⟨t2, et2⟩ : ∃ q, (u0 + mj) % 4294967296 = q := ⟨_, rfl⟩
          have lt2 : t2 < 4294967296 := by rw [← et2]; exact Nat.mod_lt _ (by decide)
          have bt2 : ((u0 : Int) + (mj : Int)) % 4294967296 = (t2 : Int) := by rw [← et2]; simp
          have bna : ((tt : Int) + (t2 : Int)) % 4294967296 = (na : Int) := by rw [← ena, ← et2]; omega
          obtain ⟨nd, end_⟩ : ∃ q, (d + tt) % 4294967296 = q := ⟨_, rfl⟩
          have bnd : ((d : Int) + (tt : Int)) % 4294967296 = (nd : Int) := by rw [← end_]; simp
          have HNX := wall (show (St.mk a b c d e f g hh).round kk ww = St.mk na a b c nd e f g by
            have hu1 : S1 e = u1 := by unfold S1; rw [h6, h11, h25, ep1, eu1]
            have hu0 : S0 a = u0 := by unfold S0; rw [h2, h13, h22, ep0, eu0]
            have hcv : ch e f g = cv := by unfold ch; rw [eef, ene, eng, ecv]
            have hmj : maj a b c = mj := by unfold maj; rw [eab, eac, ebc, eabc, emj]
            have htt : t1 (St.mk a b c d e f g hh) kk ww = tt := by unfold t1; rw [hu1, hcv, ett]
            unfold St.round
            rw [htt, hu0, hmj, ena, end_])
          have H6 := wall (fun W => turn_q 6 _ 6 e r6 W (by decide) rfl eM (by omega) (by omega) h6)
          have H11 := wall (fun W => turn_q 11 _ 11 e r11 W (by decide) rfl eM (by omega) (by omega) h11)
          have H25 := wall (fun W => turn_q 25 _ 25 e r25 W (by decide) rfl eM (by omega) (by omega) h25)
          have H2 := wall (fun W => turn_q 2 _ 2 a r2 W (by decide) rfl aM (by omega) (by omega) h2)
          have H13 := wall (fun W => turn_q 13 _ 13 a r13 W (by decide) rfl aM (by omega) (by omega) h13)
          have H22 := wall (fun W => turn_q 22 _ 22 a r22 W (by decide) rfl aM (by omega) (by omega) h22)
          clear h6 h11 h25 h2 h13 h22 ep1 eu1 eef ene eng ecv ett ep0 eu0 eab eac ebc eabc emj ena end_ et2
          have b64 : (i : Int) < 64 := by omega
          have n64 : (0 : Int) ≤ (i : Int) := by omega
          rw [HNX.out] at HRN
          clear HNX
          go_wp2_with fail
          go_quiet ((go_at_call 126; first | with_reducible exact Calls.quiet_of (H6.out _) | with_reducible exact Calls.quiet_of (H11.out _) | with_reducible exact Calls.quiet_of (H25.out _)))
          replace K0 := wall (K0.out.drewN nq)
          replace K2 := wall (K2.out.drewN nq)
          replace K3 := wall (K3.out.drewN nq)
          replace KR := wall (KR.out.drewN nq)
          replace HB := wall (Below.drewN HB.out nq)
          generalize wr.drewN nq = w7 at *
          clear hck hcw H6 H11 H25
          go_wp2_with fail
          (with_reducible refine (H2.out _).mono ?_); rintro e w8 ⟨rfl, m1, rfl⟩
          go_wp2_with fail
          (with_reducible refine (H13.out _).mono ?_); rintro e w8 ⟨rfl, m2, rfl⟩
          go_wp2_with fail
          (with_reducible refine (H22.out _).mono ?_); rintro e w8 ⟨rfl, m3, rfl⟩
          replace K0 := wall (K0.out.drewN (m1 + m2 + m3))
          replace K2 := wall (K2.out.drewN (m1 + m2 + m3))
          replace K3 := wall (K3.out.drewN (m1 + m2 + m3))
          replace KR := wall (KR.out.drewN (m1 + m2 + m3))
          replace HB := wall (Below.drewN HB.out (m1 + m2 + m3))
          clear H2 H13 H22
          go_wp2_with fail
          go_light
          go_roundg (64 - (i + 1))
          case measure => have := HG.out; omega
          case rel =>
            exact ⟨i + 1, by have := HG.out; omega, by go_num, na, a, b, c, nd, e, f, g, (by first | rfl | rw [bna]), rfl, rfl, rfl, (by first | rfl | rw [bnd]), rfl, rfl, rfl, HRN, K0, K2, K3, KR, HB⟩
        · have hi64 : i = 64 := by omega
          have hni : ¬ ((i : Int) < 64) := by omega
          obtain ⟨vv, hvv⟩ : ∃ v, [a, b, c, d, e, f, g, hh] = v := ⟨_, rfl⟩
          have HRE := wall (show res = add8 [a0, b0, c0, d0, e0, f0, g0, h0] vv by
            rw [← HE0.out, press_eq, HWS.out, ← hvv, show St.of [a0, b0, c0, d0, e0, f0, g0, h0] = St.mk a0 b0 c0 d0 e0 f0 g0 h0 from rfl, ← hi64, HS.out]
            rfl)
          have HVL := wall (show vv.length = 8 by rw [← hvv]; rfl)
          have HVM := wall (show ∀ x ∈ vv, x < 4294967296 by
            rw [← hvv]
            intro x hx
            simp only [List.mem_cons, List.not_mem_nil, or_false] at hx
            rcases hx with rfl | rfl | rfl | rfl | rfl | rfl | rfl | rfl <;> assumption)
          have HRL := wall (show res.length = 8 by rw [HRE.out, add8, List.length_zipWith, HVL.out]; rfl)
          have HSV := wall (show (Tryd.prog.info? 118).map (·.size) = some (c32 [a, b, c, d, e, f, g, hh]).size from h_info)
          have HOV := wall (c32_one [a, b, c, d, e, f, g, hh])
          have hK3l := K3.out.lt
          clear HE0 HWS hi64 HS KR aM bM cM dM eM fM gM hM
          obtain ⟨gO, rfl⟩ : ∃ q : Nat, q = gk := ⟨_, rfl⟩
          obtain ⟨wP, rfl⟩ : ∃ q : World, q = wr := ⟨_, rfl⟩
          go_upto_region 19 with (refine wpList_new_row rfl 118 (.tmp 19) (.tmp 189) rfl wP.heap.size (c32 [a, b, c, d, e, f, g, hh]) rfl rfl 118 (c32 (List.replicate 8 0)) (Blk.new _ _ _) HSV.out rfl HOV.out wP.heap.size wP ((Below.refl _ wP).alloc (Nat.le_refl _) _) (Nat.le_refl _) ?_; intro w6 KO hB6)
          have k0 := wall (K0.out.next hB6 rfl)
          have k2 := wall (K2.out.next hB6 rfl)
          have hb6 := wall (below_then HB.out hB6 (Nat.le_refl _))
          rw [hvv] at KO
          replace KO := wall KO
          clear hB6 K0 K2 K3 HB hvv
          generalize wP.heap.size = bO at *
          go_wp2_with fail
          go_loopg [20, 190] 8 (fun g s20 s190 wr => ∃ j : Nat, j + g = 8 ∧ s190 = .int .i64 (j : Int) ∧ Wall (Blk wr w.heap.size 118 (c32 [a0, b0, c0, d0, e0, f0, g0, h0])) ∧ Wall (Blk wr (w.heap.size + 1) 118 (c32 (List.replicate 8 0))) ∧ Wall (Blk wr bO 118 (c32 (res.take j ++ vv.drop j))) ∧ Wall (Below w.heap.size w wr))
          case atStart => exact ⟨0, by omega, rfl, k0, k2, KO, hb6⟩
          case round =>
            clear k0 k2 KO hb6
            obtain ⟨j, hg, rfl, K0, K2, K3, HB⟩ := hrel
            have HG := wall hg
            have hj : j ≤ 8 := by omega
            clear hg
            by_cases hlt : j < 8
            · obtain ⟨x, hx⟩ : ∃ x, [a0, b0, c0, d0, e0, f0, g0, h0][j]? = some x := ⟨_, List.getElem?_eq_getElem (by have := HL.out; omega)⟩
              obtain ⟨y, hy⟩ : ∃ x, vv[j]? = some x := ⟨_, List.getElem?_eq_getElem (by have := HVL.out; omega)⟩
              have xM := HWD.out x (List.mem_of_getElem? hx)
              have yM := HVM.out y (List.mem_of_getElem? hy)
              have htl : (res.take j).length = j := by rw [List.length_take, HRL.out]; omega
              have hcx : wr.cell? ⟨w.heap.size, j, none⟩ = some (.int .u32 (x : Int)) := by rw [K0.out.cell]; exact c32_at hx
              have hcy : wr.cell? ⟨bO, j, none⟩ = some (.int .u32 (y : Int)) := by
                rw [K3.out.cell]
                refine c32_at ?_
                rw [List.getElem?_append_right (by omega), htl, Nat.sub_self, List.getElem?_drop, Nat.add_zero]
                exact hy
              have hfr : wr.frozen? ⟨bO, j, none⟩ = false := K3.out.frozen _
              have hrj : res[j]? = some ((x + y) % 4294967296) := by rw [HRE.out, add8, List.getElem?_zipWith, hx, hy]
              obtain ⟨z, hz⟩ : ∃ z, (x + y) % 4294967296 = z := ⟨_, rfl⟩
              rw [hz] at hrj
              have hzz : ((y : Int) + (x : Int)) % 4294967296 = (z : Int) := by rw [← hz]; simp [Int.add_comm]
              have HSET := wall (show (res.take j ++ vv.drop j).set j z = res.take (j + 1) ++ vv.drop (j + 1) by
                rw [take_snoc hrj, List.set_append_right _ _ (by omega), htl, Nat.sub_self, List.drop_eq_getElem_cons (by have := HVL.out; omega), List.set_cons_zero, List.append_assoc]
                rfl)
              have b8' : (j : Int) < 8 := by omega
              have n8 : (0 : Int) ≤ (j : Int) := by omega
              clear hx hy htl hrj hz
              go_wp2_with fail
              go_still_tail 8, (by kernel_rfl)
              change wpList _ _ _ _ _ wr.drew
              go_wp2_with fail
              go_light
              go_roundg (8 - (j + 1))
              case measure => have := HG.out; omega
              case rel =>
                refine ⟨j + 1, by have := HG.out; omega, by go_num, wall ?_, wall ?_, wall ?_, wall ?_⟩
                · exact (K0.out.far' _ _ (by omega) _)
                · exact (K2.out.far' _ _ (by omega) _)
                · have := K3.out.set j (.int .u32 (z : Int))
                  rw [c32_set, HSET.out] at this
                  exact this
                · exact Below.drewN (HB.out.setCell (p := ⟨bO, j, none⟩) (by show w.heap.size ≤ bO; omega) _) 1
            · have hj8 : j = 8 := by omega
              have hnl : ¬ ((j : Int) < 8) := by omega
              have K8 := wall (show Blk wr bO 118 (c32 res) by
                have := K3.out
                rw [hj8, List.take_of_length_le (by have := HRL.out; omega), List.drop_of_length_le (by have := HVL.out; omega), List.append_nil] at this
                exact this)
              have HSR := wall (show (Tryd.prog.info? 118).map (·.size) = some (c32 res).size by rw [c32_size, HRL.out]; exact h_info)
              have HZR := wall (show (c32 (List.replicate 8 0)).size = (c32 res).size by rw [c32_size, c32_size, HRL.out]; rfl)
              have HOR := wall (c32_one res)
              clear K3 hj8
              go_upto_region 24 with fail
              go_wp2_with (first | refine wpList_load_row rfl 118 _ rfl bO rfl 118 (c32 res) (0, 0) _ K8.out Tryd.underlying118 rfl HSR.out ?_ | refine wpList_store_row rfl 118 (.tmp 4) _ rfl (w.heap.size + 1) (c32 res) rfl rfl 118 (c32 (List.replicate 8 0)) K2.out HSR.out HZR.out HOR.out ?_)
              have hb := setRow_heap _ _ _ (c32 res) _ _ K2.out
              have hB := below_setRow HB.out (show w.heap.size ≤ w.heap.size + 1 by omega) (c32 res)
              go_light
              exact bodyPost_ret (v := .agg (c32 res)) (results_cell_row Tryd.results108 _ _ (w.heap.size + 1) 118 (c32 res) (0, 0) _ rfl hb Tryd.underlying118 rfl HSR.out) rfl ⟨rfl, hB⟩
end Sha
end Go.Proofs.YtpakdcgcgekcfaaDoor

/-
  The reference's Sum of a text (curtilageref01).
-/
set_option linter.unusedSimpArgs false
set_option linter.unusedVariables false
namespace Go.Proofs.YtpakdcgcgekcfaaDoor
open Go.RowKit

namespace Sha
open Otp R1
theorem b8_set (l : List Nat) (i y : Nat) : (b8 l).setIfInBounds i (.int .u8 (y : Int)) = b8 (l.set i y) := by
  unfold b8
  rw [List.map_set]
  simp
set_option maxRecDepth 100000 in
set_option maxHeartbeats 8000000 in
theorem rsum_any (A : Option Addr) (len cap : Nat) (l : List Nat) (w : World) (hl : l.length = len) (hm : len ≤ 900000) (hz : Nats .u8 256 w w.heap.size A l) :
    Calls Tryd.prog 86 #[.slice A len cap] w (fun e w' => e = .returned (.agg (b8 (sumB l))) ∧ Below w.heap.size w w') := by
  obtain ⟨i0, hi0, hz0, hz1, hz2⟩ := info_row u8_info
  have HI := wall hi0
  have HI1 := wall hz0
  have HI2 := wall hz1
  have HI3 := wall hz2
  obtain ⟨m, hmm⟩ : ∃ m, (119 - len % 64) % 64 = m := ⟨_, rfl⟩
  have hm64 : m < 64 := by rw [← hmm]; exact Nat.mod_lt _ (by decide)
  obtain ⟨T, hT⟩ : ∃ T, l ++ padB len = T := ⟨_, rfl⟩
  obtain ⟨hs, hhs⟩ : ∃ h, stH T = h := ⟨_, rfl⟩
  have HPB := wall (show (l ++ [128] ++ List.replicate m 0) ++ numB (8 * len) 8 = T by rw [← hT]; unfold padB; rw [hmm]; simp)
  have HTL := wall (show T.length = len + 9 + m by rw [← HPB.out]; simp [numB_length, hl]; omega)
  have HLB := wall (show ∀ x ∈ l, x < 256 from fun x hx => by
    obtain ⟨i, hi⟩ := List.mem_iff_getElem?.1 hx
    exact (hz i x hi).1)
  have HTB := wall (show ∀ x ∈ T, x < 256 by
    rw [← hT]
    intro x hx
    rcases List.mem_append.1 hx with h | h
    · exact HLB.out x h
    · exact padB_byte _ x h)
  have HSB := wall (show sumB l = wordsB hs by rw [← hhs, ← hT, ← hl]; rfl)
  have HHL := wall (show hs.length = 8 by rw [← hhs]; exact stH_length T)
  have HHW := wall (show ∀ x ∈ hs, x < 4294967296 by rw [← hhs]; exact stH_word T)
  have HHS := wall hhs
  have HCUT := wall (fun W (h : Nats .u8 256 W W.heap.size A l) => cut_any A len cap l (len : Int) len W hl (by simp only [maxLen]; omega) rfl (by omega) h)
  rw [List.take_of_length_le (by omega)] at HCUT
  have HL := wall hl
  have HM := wall hmm
  have HN := wall hz
  clear hi0 hz0 hz1 hz2 hmm hT hhs hl hz
  go_enter Tryd.func86, Tryd.ntmps86
  obtain ⟨W1, hW1⟩ : ∃ W, W = w.alloc (.cells (b8 (List.replicate 32 0)) 23) := ⟨_, rfl⟩
  have K0 := wall (show Blk W1 w.heap.size 23 (b8 (List.replicate 32 0)) by rw [hW1]; exact Blk.new _ _ _)
  have HB := wall (show Below w.heap.size w W1 by rw [hW1]; exact (Below.refl _ w).alloc (Nat.le_refl _) _)
  have HW1 := wall hW1
  clear hW1
  go_upto_region 1 with fail
  change Code.wp _ _ _ _ (w.alloc (.cells (b8 (List.replicate 32 0)) 23))
  rw [← HW1.out]
  clear HW1
  go_wp2_with fail
  (with_reducible refine (HCUT.out _ ((HN.out.below HB.out).more HB.out.size)).mono ?_); rintro e w2 ⟨v2, rfl, hO2, hB2⟩
  have K2 := wall (K0.out.next hB2 rfl)
  have HB2 := wall (below_then HB.out hB2 (Nat.le_refl _))
  have hW1s := K0.out.lt
  have HO2 : Wall (OwnB w2 (w.heap.size + 1) v2 l) := wall ⟨hO2.1, hO2.2.imp id (fun ⟨g, c, u, h1, h2, h3⟩ => ⟨g, c, u, h1, by omega, h3⟩)⟩
  have h2s : w.heap.size + 1 ≤ w2.heap.size := K2.out.lt
  clear hO2 hB2 K0 HB HCUT HN
  go_upto_region 3 with (at_builtin; refine wpList_append_byte rfl (.tmp 17) (.tmp 18) rfl (w.heap.size + 1) _ l rfl HO2.out 128 rfl (by have := HL.out; omega) h2s ?_)
  intro v3 w3 hO3 hB3
  have HO3 := wall hO3
  have K3 := wall (K2.out.below hB3 (Nat.lt_succ_self _))
  have HB3 := wall (HB2.out.trans (hB3.mono (Nat.le_succ _)))
  clear hO3 hB3 K2 HB2 HO2
  go_wp2_with fail
  go_loopg [0] m (fun g s0 wr => ∃ j : Nat, j + g = m ∧ Wall (OwnB wr (w.heap.size + 1) s0 (l ++ [128] ++ List.replicate j 0)) ∧ Wall (Blk wr w.heap.size 23 (b8 (List.replicate 32 0))) ∧ Wall (Below w.heap.size w wr))
  case atStart => exact ⟨0, by omega, wall (by rw [List.replicate_zero, List.append_nil]; exact HO3.out), K3, HB3⟩
  case round =>
    clear HO3 K3 HB3
    obtain ⟨j, hg, HO, K, HB⟩ := hrel
    have HG := wall hg
    have hj : j ≤ m := by omega
    clear hg
    obtain ⟨cur, hcur⟩ : ∃ c, l ++ [128] ++ List.replicate j 0 = c := ⟨_, rfl⟩
    have HCL := wall (show cur.length = len + 1 + j by rw [← hcur]; simp [HL.out]; omega)
    have HCB := wall (show ∀ x ∈ cur, x < 256 by
      rw [← hcur]
      intro x hx
      simp only [List.mem_append, List.mem_cons, List.not_mem_nil, or_false, List.mem_replicate] at hx
      rcases hx with (h | h) | h
      · exact HLB.out x h
      · omega
      · omega)
    have HCU := wall hcur
    rw [hcur] at HO
    clear hcur
    obtain ⟨A2, c2, rfl, hc2, HN2, _⟩ := own_nats HO.out HCB.out
    replace HN2 := wall HN2
    have hcl : cur.length = len + 1 + j := HCL.out
    rw [hcl] at HO hc2 ⊢
    have hwl := K.out.lt
    clear hcl
    by_cases hlt : j < m
    · have hne : (((len : Int) + 1 + (j : Int)) % 64 != 56) = true := by
        have := HM.out
        rw [bne_iff_ne]
        omega
      go_wp2_with (at_builtin; refine wpList_append_byte rfl (.tmp 24) (.tmp 25) rfl (w.heap.size + 1) _ cur rfl HO.out 0 rfl (by have := HCL.out; omega) hwl ?_)
      intro v4 w4 hO4 hB4
      have HO4 := wall hO4
      have K4 := wall (K.out.below hB4 (Nat.lt_succ_self _))
      have HB4 := wall (HB.out.trans (hB4.mono (Nat.le_succ _)))
      clear hO4 hB4 K HB HO
      go_wp2_with fail
      go_light
      go_roundg (m - (j + 1))
      case measure => have := HG.out; omega
      case rel =>
        refine ⟨j + 1, by omega, wall ?_, K4, HB4⟩
        rw [List.replicate_succ', ← List.append_assoc, HCU.out]
        exact HO4.out
    · have hjm : j = m := by omega
      subst hjm
      have hne : (((len : Int) + 1 + (j : Int)) % 64 != 56) = false := by
        have := HM.out
        rw [bne_eq_false_iff_eq]
        omega
      have hn8 : (len : Int) ≤ 900000 := by omega
      have HNU := wall (fun W => num_any (8 * (len : Int)) 8 (8 * len) 8 W rfl (by simp) (by omega) (by decide))
      have HNB := wall (numB_byte (8 * len) 8)
      have HNL := wall (numB_length (8 * len) 8)
      obtain ⟨nb, hnb⟩ : ∃ x, numB (8 * len) 8 = x := ⟨_, rfl⟩
      rw [HCU.out] at HPB
      rw [hnb] at HNU HNB HNL HPB
      clear hnb
      obtain ⟨gO, rfl⟩ : ∃ q : Nat, q = gk := ⟨_, rfl⟩
      obtain ⟨wO, rfl⟩ : ∃ q : World, q = wr := ⟨_, rfl⟩
      go_wp2_with fail
      (with_reducible refine (HNU.out _).mono ?_); rintro e w5 ⟨v5, rfl, hO5, hB5⟩
      obtain ⟨A5, c5, rfl, hc5, hN5, _⟩ := own_nats hO5 HNB.out
      have HNI5 := wall (own_nil hO5)
      have HN5 := wall hN5
      rw [HNL.out]
      have K5 := wall (K.out.next hB5 rfl)
      have HB5 := wall (below_then HB.out hB5 (Nat.le_refl _))
      have HO5 := wall (own_frm HO.out (Frm.of_below (S := []) hB5) (by simp))
      have h5s : w.heap.size + 1 ≤ w5.heap.size := K5.out.lt
      clear hO5 hN5 hB5 K HB HO HNU hc5
      go_wp2_with (at_builtin; refine wpList_append_bytes rfl (.tmp 27) (.tmp 30) rfl (w.heap.size + 1) _ cur rfl HO5.out A5 8 c5 nb rfl HNL.out ⟨_, HN5.out⟩ HNI5.out (by have := HCL.out; omega) h5s ?_)
      intro v6 w6 hO6 hB6
      rw [HPB.out] at hO6
      obtain ⟨A6, c6, rfl, hc6, hN6, _⟩ := own_nats hO6 HTB.out
      have HN6 := wall hN6
      have K6 := wall (K5.out.below hB6 (Nat.lt_succ_self _))
      have HB6 := wall (HB5.out.trans (hB6.mono (Nat.le_succ _)))
      have hTl : T.length = len + 9 + j := HTL.out
      rw [hTl] at hc6 hO6 ⊢
      clear hO6 hN6 hB6 K5 HB5 HO5 HN5 HNI5 hTl
      have HSR := wall (show (Tryd.prog.info? 118).map (·.size) = some (c32 rH).size from h_info)
      have h6s : w.heap.size + 1 ≤ w6.heap.size := K6.out.lt
      go_upto_region 7 with (refine wpList_new_row rfl 118 (.tmp 4) (.tmp 32) rfl w6.heap.size (c32 rH) rfl rfl 118 (c32 (List.replicate 8 0)) (Blk.new _ _ _) HSR.out rfl (c32_one rH) w6.heap.size w6 ((Below.refl _ w6).alloc (Nat.le_refl _) _) (Nat.le_refl _) ?_; intro w7 K7 hB7)
      replace K7 := wall K7.out
      have KD := wall (K6.out.next hB7 rfl)
      have HB7 := wall (below_then HB6.out hB7 (Nat.le_refl _))
      have HN7 := wall (nats_step HN6.out hB7)
      have hg6 : ∀ ad, A6 = some ad → ad.block < w6.heap.size := fun ad h => by
        obtain ⟨z, hz⟩ : ∃ z, T[0]? = some z := ⟨_, List.getElem?_eq_getElem (by have := HTL.out; omega)⟩
        obtain ⟨_, b, off, h1, h2, _⟩ := HN6.out 0 z hz
        rw [h] at h1
        cases h1
        exact h2
      have HN7' := wall (show Nats .u8 256 w7 w6.heap.size A6 T from HN6.out.below hB7)
      clear hB7 K6 HB6 HN6 HSR HN7 hg6
      generalize w6.heap.size = g6 at *
      obtain ⟨L, hLe⟩ : ∃ L, len + 9 + j = L := ⟨_, rfl⟩
      have HLL := wall (show T.length = L by rw [HTL.out]; exact hLe)
      have HL64 := wall (show L % 64 = 0 by have := HM.out; omega)
      have hL9 : L ≤ 1000000 := by omega
      rw [hLe] at hc6 ⊢
      clear HTL hLe HM hne HPB HNL HNB HCL HCB HCU HN2
      obtain ⟨gP, rfl⟩ : ∃ q : Nat, q = gO := ⟨_, rfl⟩
      go_wp2_with fail
      go_loopg [5] L (fun g s5 wr => ∃ (k : Nat) (z : Int), 64 * k + g = L ∧ Wall (z = 64 * (k : Int)) ∧ 0 ≤ z ∧ z ≤ (L : Int) ∧ s5 = .int .i64 z ∧ Wall (Blk wr w.heap.size 23 (b8 (List.replicate 32 0))) ∧ Wall (Blk wr g6 118 (c32 (hb T k))) ∧ Wall (Nats .u8 256 wr g6 A6 T) ∧ Wall (Below w.heap.size w wr))
      case atStart => exact ⟨0, 0, by omega, wall rfl, by decide, by omega, rfl, KD, K7, HN7', HB7⟩
      case round =>
        clear KD K7 HN7' HB7
        obtain ⟨k, z, hg, HZ, hz0, hzL, rfl, KD, K7, HN, HB⟩ := hrel
        have HG := wall hg
        have hk : 64 * k ≤ L := by omega
        clear hg
        by_cases hlt : 64 * k < L
        · have hk2 : 64 * k + 64 ≤ L := by have := HL64.out; omega
          have hzl : z < (L : Int) := by have := HZ.out; omega
          have hsl := run_slice_lh1 (P := Tryd.prog) 53 5 Tryd.underlying53 (fun _ => by kernel_rfl) A6 L c6 (64 * k) (64 * k + 64) .i64 .i64 z (z + 64) (by have := HZ.out; omega) (by have := HZ.out; omega) (by omega) (by omega)
          rw [show 64 * k + 64 - 64 * k = 64 by omega] at hsl
          have HNS := wall (show Nats .u8 256 wr g6 (slA A6 (64 * k) c6) ((T.drop (64 * k)).take 64) from nats_take (nats_slA HN.out (by rw [HLL.out]; exact hc6)) 64)
          have HBL := wall (show ((T.drop (64 * k)).take 64).length = 64 by rw [List.length_take, List.length_drop, HLL.out]; omega)
          generalize slA A6 (64 * k) c6 = A8 at *
          obtain ⟨bs, hbs⟩ : ∃ b, (T.drop (64 * k)).take 64 = b := ⟨_, rfl⟩
          obtain ⟨hk1, hhk⟩ : ∃ h, hb T k = h := ⟨_, rfl⟩
          obtain ⟨hk2', hhk2⟩ : ∃ h, hb T (k + 1) = h := ⟨_, rfl⟩
          have HPE := wall (show press hk1 bs = hk2' by rw [← hhk2, hb, hhk, hbs])
          have HKL := wall (show hk1.length = 8 by rw [← hhk]; exact hb_length T k)
          have HKL2 := wall (show hk2'.length = 8 by rw [← hhk2]; exact hb_length T _)
          have HKW := wall (show ∀ x ∈ hk1, x < 4294967296 by rw [← hhk]; exact hb_word T k)
          have HK2 := wall hhk2
          rw [hbs] at HNS HBL
          rw [hhk] at K7
          have HSW := wall (show (Tryd.prog.info? 118).map (·.size) = some (c32 hk1).size by rw [c32_size, HKL.out]; exact h_info)
          have HSW2 := wall (show (Tryd.prog.info? 118).map (·.size) = some (c32 hk2').size by rw [c32_size, HKL2.out]; exact h_info)
          have HZW := wall (show (c32 hk1).size = (c32 hk2').size by rw [c32_size, c32_size, HKL.out, HKL2.out])
          have hwz : IntKind.i64.wrap (z + 64) = z + 64 := IntWalk.i64_in _ (by omega)
          clear hbs hhk hhk2
          go_wp2_with fail
          refine Rel.wp_region_rel 7 [(45, .const (.agg (c32 hk2')))] (by kernel_rfl) (by kernel_rfl) ?_
          simp only [List.take_succ_cons, List.take_zero, List.drop_succ_cons, List.drop_zero]
          refine Rel.tree_pure rfl rfl rfl (.agg (c32 hk1)) (fun W hW _ => Rel.exec_load _ _ rfl g6 0 rfl _ _ (Blk.range (hW.blk K7.out.drew)) Tryd.underlying118 rfl HSW.out) ?_
          simp only [Act.put, List.setIfInBounds_toArray, List.set_cons_zero, List.set_cons_succ]
          repeat (refine Rel.tree_quiet rfl rfl rfl (fun K hK => ?_); go_big_quiet_op; refine hK _ ?_; clear hK K)
          refine Rel.tree_const rfl (.agg (c32 hk2')) rfl (fun W hW _ => ?_) ?_
          · unfold Rel.relAt; go_simp; show Calls _ _ _ _ _
            have h := rpress_any hk1 bs A8 (c6 - 64 * k) W HKL.out HKW.out HBL.out (by omega) ((HNS.out.below (hW.undrew.mono (Nat.le_of_lt K7.out.lt))).more (Nat.le_trans (Nat.le_of_lt K7.out.lt) hW.undrew.size))
            rw [HPE.out] at h
            exact const_call h
          simp only [Act.put, List.setIfInBounds_toArray, List.set_cons_zero, List.set_cons_succ]
          intro W hW _
          have KD2 := wall (hW.blk KD.out.drew)
          have K72 := wall (hW.blk K7.out.drew)
          have HN2 := wall (HN.out.below (hW.undrew.mono (Nat.le_of_lt K7.out.lt)))
          have HB2 := wall (below_then HB.out hW.undrew (Nat.le_refl _))
          clear hW KD K7 HN HB hsl
          go_wp2_with (refine wpList_store_row rfl 118 (.tmp 4) _ rfl g6 (c32 hk2') rfl rfl 118 (c32 hk1) K72.out HSW2.out HZW.out (c32_one _) ?_)
          go_light
          go_roundg (L - 64 * (k + 1))
          case measure => have := HG.out; omega
          case rel =>
            have F := frm_setRow (g := g6) W (c32 hk2')
            refine ⟨k + 1, _, by omega, wall ?_, ?_, ?_, rfl, wall ?_, wall ?_, wall ?_, wall ?_⟩
            · have := HZ.out; omega
            · omega
            · have := HZ.out; omega
            · exact KD2.out.frm F (by simp; omega)
            · rw [HK2.out]; exact setRow_heap _ _ _ _ _ _ K72.out
            · exact HN2.out.frm F (Nat.le_of_lt K72.out.lt) (by simp)
            · exact below_setRow HB2.out (by omega) _
        · have hzL' : ¬ z < (L : Int) := by have := HZ.out; omega
          have HKH := wall (show hb T k = hs by rw [← HHS.out, stH, HLL.out, show L / 64 = k by have := HL64.out; omega])
          rw [HKH.out] at K7
          clear HZ hk hlt HN
          obtain ⟨gQ, rfl⟩ : ∃ q : Nat, q = gk := ⟨_, rfl⟩
          obtain ⟨wQ, rfl⟩ : ∃ q : World, q = wr := ⟨_, rfl⟩
          have HSW := wall (show (Tryd.prog.info? 118).map (·.size) = some (c32 hs).size by rw [c32_size, HHL.out]; exact h_info)
          go_upto_region 12 with fail
          change Code.wp _ _ _ _ (wQ.alloc (.cells (b8 (List.replicate 32 0)) 23))
          have hgs : g6 < wQ.heap.size := K7.out.lt
          have KR := wall (KD.out.alloc (.cells (b8 (List.replicate 32 0)) 23))
          have KH := wall (K7.out.alloc (.cells (b8 (List.replicate 32 0)) 23))
          have KN := wall (Blk.new wQ 23 (b8 (List.replicate 32 0)))
          have HB8 := wall (HB.out.alloc HB.out.size (.cells (b8 (List.replicate 32 0)) 23))
          generalize wQ.alloc (.cells (b8 (List.replicate 32 0)) 23) = w8 at *
          generalize wQ.heap.size = gD at *
          clear KD K7 HB HG
          go_wp2_with (refine wpList_load_row rfl 118 _ rfl g6 rfl 118 (c32 hs) (0, 0) _ KH.out Tryd.underlying118 rfl HSW.out ?_)
          go_loopg [47] 8 (fun g s47 wr => ∃ i : Nat, i + g = 8 ∧ s47 = .int .i64 (i : Int) ∧ Wall (Blk wr w.heap.size 23 (b8 (List.replicate 32 0))) ∧ Wall (Blk wr gD 23 (b8 (wordsB (hs.take i) ++ List.replicate (32 - 4 * i) 0))) ∧ Wall (Below w.heap.size w wr))
          case atStart => exact ⟨0, by omega, rfl, KR, KN, HB8⟩
          case round =>
            clear KR KN HB8 KH
            obtain ⟨i, hg, rfl, KR, KN, HB⟩ := hrel
            have HG := wall hg
            have hi : i ≤ 8 := by omega
            clear hg
            by_cases hlt : i < 8
            · obtain ⟨x, hx⟩ : ∃ x, hs[i]? = some x := ⟨_, List.getElem?_eq_getElem (by have := HHL.out; omega)⟩
              have hxM := HHW.out x (List.mem_of_getElem? hx)
              have hix := run_index_arr (P := Tryd.prog) 118 43 8 Tryd.underlying118 (fun _ => by kernel_rfl) (fun _ => by kernel_rfl) (c32 hs) .i64 (i : Int) i rfl hlt _ (c32_at hx)
              have HNX := wall (show wordsB (hs.take (i + 1)) = wordsB (hs.take i) ++ numB x 4 by rw [take_snoc hx, wordsB_snoc])
              have HNU := wall (fun W => num_any (x : Int) 4 x 4 W rfl rfl (by omega) (by decide))
              obtain ⟨nb4, hnb4⟩ : ∃ n, numB x 4 = n := ⟨_, rfl⟩
              have HN4 := wall (show nb4.length = 4 by rw [← hnb4]; exact numB_length _ _)
              have HN4B := wall (show ∀ y ∈ nb4, y < 256 by rw [← hnb4]; exact numB_byte _ _)
              rw [hnb4] at HNX HNU
              obtain ⟨pf, hpf⟩ : ∃ p, wordsB (hs.take i) = p := ⟨_, rfl⟩
              have HPL := wall (show pf.length = 4 * i by rw [← hpf, wordsB_length, List.length_take, HHL.out]; omega)
              rw [hpf] at KN HNX
              clear hx hnb4 hpf
              obtain ⟨gO, rfl⟩ : ∃ q : Nat, q = gk := ⟨_, rfl⟩
              obtain ⟨wO, rfl⟩ : ∃ q : World, q = wr := ⟨_, rfl⟩
              go_wp2_with fail
              (with_reducible refine (HNU.out _).mono ?_); rintro e w9 ⟨v9, rfl, hO9, hB9⟩
              obtain ⟨A9, c9, rfl, hc9, hN9, hA9⟩ := own_nats hO9 HN4B.out
              have hgd9 : gD < wO.heap.size := KN.out.lt
              have HN9 := wall (show Nats .u8 256 w9 w9.heap.size A9 nb4 from hN9)
              have HA9 := wall hA9
              rw [HN4.out]
              have KR9 := wall (KR.out.next hB9 rfl)
              have KN9 := wall (show Blk w9 gD 23 (b8 (pf ++ (nb4.take 0 ++ List.replicate (32 - 4 * i - 0) 0))) by simpa using KN.out.next hB9 rfl)
              have HB9 := wall (below_then HB.out hB9 (Nat.le_refl _))
              clear hO9 hN9 hB9 hA9 KR KN HB hix hc9 HNU
              go_wp2_with fail
              go_loopg [55] 4 (fun g s55 wr => ∃ j : Nat, j + g = 4 ∧ s55 = .int .i64 (j : Int) ∧ Wall (Nats .u8 256 wr w9.heap.size A9 nb4) ∧ Wall (Blk wr w.heap.size 23 (b8 (List.replicate 32 0))) ∧ Wall (Blk wr gD 23 (b8 (pf ++ (nb4.take j ++ List.replicate (32 - 4 * i - j) 0)))) ∧ Wall (Below w.heap.size w wr))
              case atStart => exact ⟨0, by omega, rfl, HN9, KR9, KN9, HB9⟩
              case round =>
                clear HN9 KR9 KN9 HB9
                obtain ⟨j, hg, rfl, HN, KR, KN, HB⟩ := hrel
                have HGJ := wall hg
                have hj : j ≤ 4 := by omega
                clear hg
                by_cases hjl : j < 4
                · obtain ⟨y, hy⟩ : ∃ y, nb4[j]? = some y := ⟨_, List.getElem?_eq_getElem (by have := HN4.out; omega)⟩
                  obtain ⟨hyM, bb, oo, hAe, hbb, hcy⟩ := HN.out j y hy
                  have hgdb : gD ≠ bb := by have := HA9.out _ hAe; simp at this; omega
                  have HSET := wall (show (pf ++ (nb4.take j ++ List.replicate (32 - 4 * i - j) 0)).set (4 * i + j) y = pf ++ (nb4.take (j + 1) ++ List.replicate (32 - 4 * i - (j + 1)) 0) by
                    have htl : (nb4.take j).length = j := by rw [List.length_take, HN4.out]; omega
                    rw [List.set_append_right _ _ (by rw [HPL.out]; omega), HPL.out, show 4 * i + j - 4 * i = j by omega, List.set_append_right _ _ (by omega), htl, Nat.sub_self, show 32 - 4 * i - j = 32 - 4 * i - (j + 1) + 1 by omega, List.replicate_succ, List.set_cons_zero, take_snoc hy]
                    simp)
                  have hfr : wr.frozen? ⟨gD, 4 * i + j, none⟩ = false := KN.out.frozen _
                  obtain ⟨old, hold⟩ : ∃ v, wr.cell? ⟨gD, 4 * i + j, none⟩ = some v := by
                    rw [KN.out.cell]
                    refine ⟨_, Array.getElem?_eq_getElem (i := 4 * i + j) ?_⟩
                    rw [b8_size, List.length_append, List.length_append, List.length_replicate, List.length_take, HPL.out, HN4.out]
                    omega
                  have hsz := KN.out.lt
                  subst hAe
                  have b32 : 4 * (i : Int) + (j : Int) < 32 := by omega
                  clear hy
                  go_wp2_with fail
                  go_light
                  go_roundg (4 - (j + 1))
                  case measure => have := HGJ.out; omega
                  case rel =>
                    refine ⟨j + 1, by omega, by go_num, wall ?_, wall ?_, wall ?_, wall ?_⟩
                    · exact nats_far HN.out (fun ad h => by have := HA9.out ad h; omega) _ _
                    · exact (KR.out.far' _ _ (by omega) _)
                    · have := KN.out.set (4 * i + j) (.int .u8 (y : Int))
                      rw [b8_set, HSET.out] at this
                      exact this
                    · exact HB.out.setCell (p := ⟨gD, 4 * i + j, none⟩) (by show w.heap.size ≤ gD; omega) _
                · have hj4 : j = 4 := by omega
                  have hnj : ¬ ((j : Int) < 4) := by omega
                  have KN2 := wall (show Blk wr gD 23 (b8 (wordsB (hs.take (i + 1)) ++ List.replicate (32 - 4 * (i + 1)) 0)) by
                    have := KN.out
                    rw [hj4, List.take_of_length_le (by rw [HN4.out]; omega), show 32 - 4 * i - 4 = 32 - 4 * (i + 1) by omega, ← List.append_assoc, ← HNX.out] at this
                    exact this)
                  clear KN HN hj4
                  go_wp2_with fail
                  go_light
                  go_roundg (8 - (i + 1))
                  case measure => have := HG.out; omega
                  case rel => exact ⟨i + 1, by have := HG.out; omega, by go_num, KR, KN2, HB⟩
            · have hi8 : i = 8 := by omega
              have hni : ¬ ((i : Int) < 8) := by omega
              have KN2 := wall (show Blk wr gD 23 (b8 (wordsB hs)) by
                have := KN.out
                rw [hi8, List.take_of_length_le (by rw [HHL.out]; omega), show 32 - 4 * 8 = 0 from rfl, List.replicate_zero, List.append_nil] at this
                exact this)
              have hwl2 : (wordsB hs).length = 32 := by rw [wordsB_length, HHL.out]
              have HS := wall (show (Tryd.prog.info? 23).map (·.size) = some (b8 (wordsB hs)).size by rw [b8_size, hwl2]; exact dig_info)
              have HZ := wall (show (b8 (List.replicate 32 0)).size = (b8 (wordsB hs)).size by rw [b8_size, b8_size, hwl2]; rfl)
              have HO := wall (b8_one (wordsB hs))
              clear KN hi8 hwl2 hlt
              go_wp2_with (first | refine wpList_load_row rfl 23 _ rfl gD rfl 23 (b8 (wordsB hs)) (0, 0) _ KN2.out Tryd.underlying23 rfl HS.out ?_ | refine wpList_store_row rfl 23 (.tmp 2) _ rfl w.heap.size (b8 (wordsB hs)) rfl rfl 23 (b8 (List.replicate 32 0)) KR.out HS.out HZ.out HO.out ?_)
              have hb := setRow_heap _ _ _ (b8 (wordsB hs)) _ _ KR.out
              have hB := below_setRow HB.out (Nat.le_refl _) (b8 (wordsB hs))
              go_light
              exact bodyPost_ret (v := .agg (b8 (wordsB hs))) (results_cell_row Tryd.results86 _ _ w.heap.size 23 (b8 (wordsB hs)) (0, 0) _ rfl hb Tryd.underlying23 rfl HS.out) rfl ⟨by rw [HSB.out], hB⟩
end Sha
end Go.Proofs.YtpakdcgcgekcfaaDoor

/-
  Package mac: pad, num, New (keys of at most a block), Feed.
-/
set_option linter.unusedSimpArgs false
set_option linter.unusedVariables false
namespace Go.Proofs.YtpakdcgcgekcfaaDoor
open Go.RowKit

namespace Mac
open Otp R1 Sha
def BytesRet (w : World) (l : List Nat) (e : Ending) (w' : World) : Prop := ∃ v, e = .returned v ∧ Bytes l v w' ∧ Below w.heap.size w w'
theorem bytes_ret {P : Program} {f : FuncId} {args : Array Value} {W : World} {l : List Nat} (h : Calls P f args W (BytesRet W l)) : Calls P f args W (fun e w'' => ∃ v, e = .returned v ∧ Rel.Grow W w'' ∧ Bytes l v w'') :=
  h.mono fun _ _ ⟨v, he, ho, hB⟩ => ⟨v, he, hB, ho⟩
theorem bytes_blk {w : World} {g o n : Nat} {t : TypeId} {L : List Value} {l : List Nat} (h : Blk w g t L.toArray) (hb : ∀ x ∈ l, x < 256) (hc : ∀ (j : Nat) (v : Value), (v8 l)[j]? = some v → L[o + j]? = some v) (hn : l.length = n) (c : Nat) (hcap : n ≤ c) : Bytes l (.slice (some ⟨g, o, none⟩) n c) w := by
  subst hn
  refine ⟨_, c, rfl, hcap, fun i z hz => ⟨hb z (List.mem_of_getElem? hz), g, o, rfl, h.lt, ?_⟩⟩
  rw [h.cell]
  have := hc i (.int .u8 (z : Int)) (by simp [v8, hz])
  simpa using this
theorem bytes_b8 {w : World} {g n : Nat} {t : TypeId} {l : List Nat} (h : Blk w g t (b8 l)) (hb : ∀ x ∈ l, x < 256) (hn : l.length = n) : Bytes l (.slice (some ⟨g, 0, none⟩) n n) w :=
  bytes_blk (o := 0) (L := v8 l) h hb (fun j v hv => by simpa using hv) hn n (Nat.le_refl _)
set_option maxRecDepth 100000 in
set_option maxHeartbeats 2000000 in
theorem pad_to (kb : List Nat) (c : Nat) (ci : Int) (w : World) (hci : ci = c) (hk : kb.length = 64) (hb : ∀ x ∈ kb, x < 256) (hc : c < 256) :
    Calls Tryd.prog 123 #[.agg (b8 kb), .int .u8 ci] w (BytesRet w (kb.map (· ^^^ c))) := by
  subst hci
  obtain ⟨res, hres⟩ : ∃ r, kb.map (· ^^^ c) = r := ⟨_, rfl⟩
  rw [hres]
  have HRL := wall (show res.length = 64 by rw [← hres, List.length_map, hk])
  have HRB := wall (show ∀ x ∈ res, x < 256 by rw [← hres]; exact turn_byte hc hb)
  have HRA := wall (show ∀ i x, kb[i]? = some x → res[i]? = some (x ^^^ c) from fun i x h => by rw [← hres, List.getElem?_map, h]; rfl)
  have HK := wall hk
  have HKB := wall hb
  clear hk hb hres
  go_enter Tryd.func123, Tryd.ntmps123
  go_wp2_with fail
  go_loopg [5, 6] 64 (fun g s5 s6 wr => ∃ i : Nat, i + g = 64 ∧ s6 = .int .i64 (i : Int) ∧ Wall (Blk wr w.heap.size 173 (b8 (res.take i ++ kb.drop i))) ∧ Wall (Below w.heap.size w wr))
  case atStart => exact ⟨0, by omega, rfl, wall (Blk.new w _ _), wall ((Below.refl _ w).alloc (Nat.le_refl _) _)⟩
  case round =>
    obtain ⟨i, hg, rfl, K, HB⟩ := hrel
    have HG := wall hg
    have hi : i ≤ 64 := by omega
    clear hg
    by_cases hlt : i < 64
    · obtain ⟨x, hx⟩ : ∃ x, kb[i]? = some x := ⟨_, List.getElem?_eq_getElem (by have := HK.out; omega)⟩
      have hxM := HKB.out x (List.mem_of_getElem? hx)
      have htl : (res.take i).length = i := by rw [List.length_take, HRL.out]; omega
      have hcx : wr.cell? ⟨w.heap.size, i, none⟩ = some (.int .u8 (x : Int)) := by
        rw [K.out.cell]
        refine b8_at ?_
        rw [List.getElem?_append_right (by omega), htl, Nat.sub_self, List.getElem?_drop, Nat.add_zero]
        exact hx
      have hfr : wr.frozen? ⟨w.heap.size, i, none⟩ = false := K.out.frozen _
      have hxo := u8_xor_nat x c hxM hc
      have HS := wall (show (res.take i ++ kb.drop i).set i (x ^^^ c) = res.take (i + 1) ++ kb.drop (i + 1) by
        rw [take_snoc (HRA.out i x hx), List.set_append_right _ _ (by omega), htl, Nat.sub_self, List.drop_eq_getElem_cons (by have := HK.out; omega), List.set_cons_zero, List.append_assoc]
        rfl)
      have hsz := K.out.lt
      obtain ⟨y, hy⟩ : ∃ y, x ^^^ c = y := ⟨_, rfl⟩
      rw [hy] at hxo HS
      clear hx htl hy
      go_wp2_with fail
      go_light
      go_roundg (64 - (i + 1))
      case measure => have := HG.out; omega
      case rel =>
        refine ⟨i + 1, by omega, by go_num, wall ?_, wall ?_⟩
        · have := K.out.set i (.int .u8 (y : Int))
          rw [b8_set, HS.out] at this
          exact this
        · exact HB.out.setCell (p := ⟨w.heap.size, i, none⟩) (Nat.le_refl _) _
    · have hi64 : i = 64 := by omega
      have hni : ¬ ((i : Int) < 64) := by omega
      have K2 := wall (show Blk wr w.heap.size 173 (b8 res) by
        have := K.out
        rw [hi64, List.take_of_length_le (by rw [HRL.out]; omega), List.drop_of_length_le (by rw [HK.out]; omega), List.append_nil] at this
        exact this)
      clear K hi64 hlt
      go_wp2_with fail
      go_light
      go_ret
      exact ⟨_, rfl, bytes_b8 K2.out HRB.out HRL.out, HB.out⟩
set_option maxHeartbeats 1000000 in
theorem num4_any (z : Int) (n : Nat) (w : World) (hz : z = n) (hn : z ≤ 1000000) : Calls Tryd.prog 106 #[.int .i64 z] w (BytesOut w (numB n 4)) := by
  have HZ := wall hz
  have h0 : 0 ≤ z := by omega
  clear hz
  go_enter Tryd.func106, Tryd.ntmps106
  go_wp2_with fail
  go_light
  go_ret
  refine ⟨.slice (some ⟨w.heap.size, 0, none⟩) 4 4, rfl, ?_, (Below.refl _ w).alloc (Nat.le_refl _) _⟩
  have hl : (numB n 4).length = 4 := numB_length n 4
  have hc : ((numB n 4).map fun x => Value.int .u8 ((x : Nat) : Int)) = [Value.int .u8 (z / 16777216), Value.int .u8 (z / 65536), Value.int .u8 (z / 256 % 256), Value.int .u8 (z % 256)] := by
    have e1 : z / 16777216 = ((n / 256 ^ 3 % 256 : Nat) : Int) := by have := HZ.out; omega
    have e2 : z / 65536 = ((n / 256 ^ 2 % 256 : Nat) : Int) := by have := HZ.out; omega
    have e3 : z / 256 % 256 = ((n / 256 ^ 1 % 256 : Nat) : Int) := by have := HZ.out; omega
    have e4 : z % 256 = ((n / 256 ^ 0 % 256 : Nat) : Int) := by have := HZ.out; omega
    rw [e1, e2, e3, e4]
    rfl
  unfold OwnB
  rw [hc, hl]
  exact ⟨rfl, .inr ⟨w.heap.size, 4, _, rfl, Nat.le_refl _, heap_alloc_new w _, Nat.le_refl _, by decide, rfl, rfl⟩⟩
end Mac
end Go.Proofs.YtpakdcgcgekcfaaDoor
