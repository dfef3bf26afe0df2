/-
  The walk of OtpReaches.
-/
import Derived.Test.YtpakdcgcgekcfaaDoorProg
import Derived.Test.YtpakdcgcgekcfaaDoorMem
import Derived.Test.YtpakdcgcgekcfaaDoorNext
import Derived.Test.YtpakdcgcgekcfaaDoorOtpReach
import Derived.Test.YtpakdcgcgekcfaaDoorOtpActV
import Derived.Test.YtpakdcgcgekcfaaDoorOtpRowP
import Derived.Test.YtpakdcgcgekcfaaDoorOtpRows
import Derived.Test.YtpakdcgcgekcfaaDoorR1Same
import Derived.Deep.LoopGhost
import Derived.Deep.MidRow
import Derived.Deep.RegionWith
import Derived.Deep.CutRange
import Derived.Deep.CutBlock
import Derived.Deep.DeepCutAuto
import Derived.Deep.RegionHeld3
import Derived.Lib.QuietBelow
import Derived.RegionTactic
import Derived.BigRegion
import Derived.Deep.QuietTactic
import Derived.BigQuiet
import Derived.Laws.CopyOwn
import Derived.Laws.Tables
namespace Go.Proofs.YtpakdcgcgekcfaaDoor
open Go.RowKit

namespace Otp
open Fuse R1
/-- An act in memory, a chip, since a world W. -/
structure Az (W : World) (k0 : Nat) (C : Array Value) (c p b : Nat) (vs : List Nat) (ls : List Bool) (sd : Bool) (w : World) : Prop where
  cz : Cz w c p b vs ls sd
  bk : Blk w k0 46 C
  tab : Tab w
  bel : Below W.heap.size W w
  ltc : W.heap.size ≤ c
  ltp : W.heap.size ≤ p
  ltb : W.heap.size ≤ b
  lt0 : W.heap.size ≤ k0
  tabW : Tab W
section
variable {W w w' : World} {k0 : Nat} {C : Array Value} {c p b : Nat} {vs vs' : List Nat} {ls ls' : List Bool} {sd sd' : Bool}
theorem Az.old (h : Az W k0 C c p b vs ls sd w) (hB : Below w.heap.size w w') : Az W k0 C c p b vs ls sd w' :=
  ⟨h.cz.old hB, h.bk.next hB rfl, h.tab.old hB, below_then h.bel hB (Nat.le_refl _), h.ltc, h.ltp, h.ltb, h.lt0, h.tabW⟩
theorem Az.nes (h : Az W k0 C c p b vs ls sd w) : k0 ≠ c ∧ k0 ≠ b := by
  obtain ⟨_, h2, _⟩ := h.cz.fz.row
  exact ⟨h.bk.ne h.cz.head (by decide), h.bk.ne h2 (by decide)⟩
theorem Az.did (h : Az W k0 C c p b vs ls sd w) (hC : Cz w' c p b vs' ls' sd') (hF : Frm [b] w w') : Az W k0 C c p b vs' ls' sd' w' :=
  ⟨hC, h.bk.frm hF (by have := h.nes; simp; omega), h.tab.frm hF (fun hx => by
    have := h.tabW.lt
    have := h.ltb
    simp at hx
    omega), Below.frm h.bel hF (by have := h.bel.size; omega) (fun x hx => by simp at hx; subst hx; exact h.ltb), h.ltc, h.ltp, h.ltb, h.lt0, h.tabW⟩
end
theorem plL_none {vs : List Nat} {d : Nat} {n : Int} {ks : List Nat} (h : plE vs d n ks ≠ 0) : plL vs d n ks = [] := by
  unfold plE at h
  unfold plL
  split
  · rename_i hd
    rw [if_pos hd] at h
    unfold tlL
    rw [if_neg h]
  · rename_i hd
    rw [if_neg hd] at h
    split
    · rename_i hd
      rw [if_pos hd] at h
      unfold tcL
      rw [if_neg h]
    · rename_i hd
      rw [if_neg hd] at h
      split
      · rename_i hd
        rw [if_pos hd] at h
        unfold tkL
        rw [if_neg h]
      · rename_i hd
        rw [if_neg hd] at h
        split
        · rename_i hd
          rw [if_pos hd] at h
          unfold trL
          rw [if_neg h]
        · rename_i hd
          rw [if_neg hd] at h
          unfold klL
          unfold atE at h
          split
          · rename_i hi
            rw [if_pos hi] at h
            exact absurd rfl h
          · rfl
theorem key_as {c p b : Nat} {vs : List Nat} {ls : List Bool} {sd : Bool} (D : List Nat) (w : World) (h : Cz w c p b vs ls sd) (hD : wordsB (keyW vs) = D) : Calls Tryd.prog 30 #[.pointer (some ⟨c, 0, none⟩)] w (BytesOut w D) := by
  subst hD
  exact key_any w h
theorem id_as {c p b : Nat} {vs : List Nat} {ls : List Bool} {sd : Bool} (D : List Nat) (w : World) (h : Cz w c p b vs ls sd) (hD : wordsB (idW vs) = D) : Calls Tryd.prog 28 #[.pointer (some ⟨c, 0, none⟩)] w (fun e w' => e = .returned (.agg (b8 D)) ∧ Below w.heap.size w w') := by
  subst hD
  exact id_any w h
theorem cells_two_0 (w : World) (u v : Value) (T : TypeId) : (w.alloc (.cells #[u, v] T)).cell? ⟨w.heap.size, 0, none⟩ = some u := by rw [(Blk.new w T #[u, v]).cell]; rfl
theorem cells_two_0d (w : World) (u v : Value) (T : TypeId) : (w.alloc (.cells #[u, v] T)).drew.cell? ⟨w.heap.size, 0, none⟩ = some u := cells_two_0 w u v T
theorem cells_two_1 (w : World) (u v : Value) (T : TypeId) : (w.alloc (.cells #[u, v] T)).cell? ⟨w.heap.size, 1, none⟩ = some v := by rw [(Blk.new w T #[u, v]).cell]; rfl
theorem cells_two_1d (w : World) (u v : Value) (T : TypeId) : (w.alloc (.cells #[u, v] T)).drew.cell? ⟨w.heap.size, 1, none⟩ = some v := cells_two_1 w u v T
/-- Nothing that was there has changed. -/
def Since (w W : World) : Prop := Below w.heap.size w W
theorem Since.alloc {w W : World} (h : Since w W) (o : Obj) : Since w (W.alloc o) := Below.alloc h (Below.size h) o
theorem Since.call {w W W' : World} (h : Since w W) (hB : Below W.heap.size W W') : Since w W' := below_then h hB (Nat.le_refl _)
theorem Since.alloc_drew {w W : World} (h : Since w W.drew) (o : Obj) : Since w (W.alloc o).drew := by
  have h' : Below w.heap.size w W.drew := h
  exact Below.alloc h' h'.size o
theorem Since.since {w W W' : World} (hB : Below W.heap.size W W') (h : Since w W) : Since w W' := h.call hB
theorem Since.drewN {w W : World} (h : Since w W) (n : Nat) : Since w (W.drewN n) := Below.drewN h n
theorem Since.undrew {w W : World} {n : Nat} (h : Since w (W.drewN n)) : Since w W := by
  have h' : Below w.heap.size w (W.drewN n) := h
  exact ⟨h'.os, h'.tape, h'.output, h'.size, h'.block⟩
theorem nats_alloc {k : IntKind} {M : Nat} {w w' : World} {A : Option Addr} {l : List Nat} {o : Obj} (h : Nats k M w w.heap.size A l) (hB : Below (w.alloc o).heap.size (w.alloc o) w') : Nats k M w' w'.heap.size A l :=
  nats_step h (below_nxt ((Below.refl _ w).alloc (Nat.le_refl _) o) hB (Nat.le_refl _) rfl rfl rfl rfl)
set_option maxRecDepth 100000 in
set_option maxHeartbeats 8000000 in
theorem reaches_any (zs : List Nat) (blank : Bool) (t : ActV) (w : World) (hT : Tab w) (hzl : zs.length = 64) (hzw : ∀ (i x : Nat), zs[i]? = some x → x < 4294967296) (ho : t.ok) :
    Calls Tryd.prog 4 #[.agg (c32 zs), .bool blank, .agg t.cells] w (TrueBelow w) := by
  obtain ⟨C, hC⟩ : ∃ C, t.cells = C := ⟨_, rfl⟩
  have HOK := Lib.hid ho
  have HSA := Lib.hid (show (Tryd.prog.info? 46).map (·.size) = some C.size by
    rw [← hC, ActV.size ho]
    kernel_rfl)
  have HCC := Lib.hid hC
  rw [hC]
  have HT := Lib.hid (hT.old (((Below.refl _ w).alloc (Nat.le_refl _) (.cells (c32 zs) 44)).alloc (by simp) (.cells C 46)))
  have HZ0 := Lib.hid ((Blk.new w 44 (c32 zs)).alloc (.cells C 46))
  have HA0 := Lib.hid (show Blk ((w.alloc (.cells (c32 zs) 44)).alloc (.cells C 46)) (w.heap.size + 1) 46 C from blk_new' (by simp))
  have HB0 := Lib.hid (((Below.refl _ w).alloc (Nat.le_refl _) (.cells (c32 zs) 44)).alloc (by simp) (.cells C 46))
  have HZL := Lib.hid hzl
  have HZW := Lib.hid hzw
  have HTW := Lib.hid hT
  have HSZ := Lib.hid (show (Tryd.prog.info? 44).map (·.size) = some (c32 zs).size by
    rw [show (c32 zs).size = 64 by simp [c32, hzl]]
    kernel_rfl)
  clear hT hzl hzw hC ho
  go_enter Tryd.func4, Tryd.ntmps4
  go_wp2_with fail
  have hw0 : w.heap.size + 1 < ((w.alloc (.cells (c32 zs) 44)).alloc (.cells C 46)).heap.size := by simp
  generalize (w.alloc (.cells (c32 zs) 44)).alloc (.cells C 46) = w0 at *
  (with_reducible refine (awake_any _ HT.out).mono ?_); rintro e w1 ⟨rfl, hB⟩
  have HT1 := Lib.hid (HT.out.old hB)
  have HZ1 := Lib.hid (HZ0.out.next hB rfl)
  have HA1 := Lib.hid (HA0.out.next hB rfl)
  have HB1 := Lib.hid (below_then HB0.out hB (Nat.le_refl _))
  clear hB HT HZ0 HB0 HA0
  go_wp2_with (refine wpList_load_row rfl 44 _ rfl w.heap.size rfl 44 (c32 zs) (0, 0) _ HZ1.out Tryd.underlying44 rfl HSZ.out ?_)
  (with_reducible refine (lay_any zs _ HZL.out HZW.out).mono ?_); rintro e w2 ⟨c, p, b, rfl, hC, hc, hp, hb, hB⟩
  have hwb : w.heap.size ≤ w1.heap.size := HB1.out.size
  have S2 := Lib.hid (show Az w (w.heap.size + 1) C c p b zs f64 false w2 from ⟨hC, HA1.out.next hB rfl, HT1.out.old hB, below_then HB1.out hB (Nat.le_refl _), by omega, by omega, by omega, by omega, HTW.out⟩)
  clear hB hC HT1 HZ1 HB1 HSZ HA1 hc hp hb hw0
  go_upto_if 27 with fail
  go_cut [7] (fun v w' => ∃ c p b vs, v = .pointer (some ⟨c, 0, none⟩) ∧ Hid (Az w (w.heap.size + 1) C c p b vs f64 false w'))
  case first =>
    cases blank with
    | false =>
      go_wp2_with fail
      go_meet
      exact ⟨c, p, b, zs, rfl, S2⟩
    | true =>
      go_wp2_with fail
      (with_reducible refine (new_chip _).mono ?_); rintro e w3 ⟨c, p, b, rfl, hC, hc, hp, hb, hB⟩
      have hw2 : w.heap.size ≤ w2.heap.size := S2.out.bel.size
      have S3 := S2.out.old hB
      go_wp2_with fail
      go_meet
      exact ⟨c, p, b, z64, rfl, Lib.hid ⟨hC, S3.bk, S3.tab, S3.bel, by omega, by omega, by omega, by omega, HTW.out⟩⟩
  case rest =>
    clear S2 HZL HZW
    obtain ⟨c, p, b, vs, rfl, S2⟩ := hcut
    obtain ⟨w2, rfl⟩ : ∃ wo : World, wo = wc := ⟨_, rfl⟩
    clear hwb
    have hcc := S2.out.cz.cell.1
    have hbg : b < w2.heap.size := S2.out.cz.fz.ltb
    go_wp2_with fail
    (with_reducible refine (words_any _ S2.out.cz.fz).mono ?_); rintro e w3 ⟨v, rfl, hO, hB⟩
    have hw64 := S2.out.cz.len
    have HWD := Lib.hid S2.out.cz.fz.word
    have HLN := Lib.hid hw64
    obtain ⟨g1, c1, rfl, hc1, hm1⟩ := own32_some hO (by omega)
    rw [hw64] at hc1 hO ⊢
    have HO1 := Lib.hid hO
    have S3 := Lib.hid (S2.out.old hB)
    clear hO hB hcc S2 hw64 hm1
    obtain ⟨er, hE⟩ : ∃ e, plE vs t.d t.n t.ks = e := ⟨_, rfl⟩
    obtain ⟨pl, hL⟩ : ∃ e, plL vs t.d t.n t.ks = e := ⟨_, rfl⟩
    have HE := Lib.hid hE
    have HL := Lib.hid hL
    have HNO := Lib.hid (show er ≠ 0 → pl = [] from fun h => by rw [← hL]; exact plL_none (by rw [hE]; exact h))
    clear hE hL
    go_wp2_with (refine wpList_load_row rfl 46 _ rfl (w.heap.size + 1) rfl 46 C (0, 0) _ S3.out.bk Tryd.underlying46 rfl HSA.out ?_)
    (with_reducible refine (plan_to t _ er pl S3.out.cz S3.out.tab HOK.out HCC.out HE.out HL.out).mono ?_); rintro e w4 ⟨v, rfl, hO, hB⟩
    obtain ⟨A4, cp4, rfl, hl4, hm4, -⟩ := hO.at_
    have HO4 := Lib.hid hO
    have S4 := Lib.hid (S3.out.old hB)
    have HOO1 := Lib.hid (own32_next HO1.out hB rfl)
    have hb3 : b < w3.heap.size := S3.out.cz.fz.ltb
    have hg1 : w2.heap.size ≤ g1 := by
      rcases HO1.out.2 with ⟨h, _⟩ | ⟨g, _, _, h, hg, _⟩
      · cases h
      · simp only [Value.slice.injEq, Option.some.injEq, Addr.mk.injEq] at h
        omega
    simp only [maxLen] at hm4
    clear hO hB S3 HO1
    by_cases he : er = 0
    · subst he
      have hG := good_plan HLN.out HWD.out t.d t.n t.ks HOK.out.2.1 HOK.out.2.2.1
      rw [HL.out] at hG
      obtain ⟨vs', hd⟩ : ∃ v, doL vs pl = (0, v) := ⟨_, doL_ok pl vs hG.1 (fun q hq => by rw [HLN.out]; exact (hG.2.1 q hq).1)⟩
      have HD := Lib.hid hd
      have HM := Lib.hid hG.2.1
      have hb4 : b < w3.heap.size := hb3
      clear hG hd HNO
      go_wp2_with fail
      (with_reducible refine (do_to _ w3.heap.size pl _ 0 vs' S4.out.cz HO4.out hb4 (fun q hq => (HM.out q hq).2) (fun q hq => (HM.out q hq).1) HD.out).mono ?_); rintro e w5 ⟨rfl, hC, hF⟩
      have S5 := Lib.hid (S4.out.did hC hF)
      have HOO5 := Lib.hid (show Own32 w5 w2.heap.size (.slice (some ⟨g1, 0, none⟩) 64 c1) vs from own_frm HOO1.out hF (by simp; omega))
      clear hC hF HO4 S4 HOO1 hb3 hb4
      have hcc := S5.out.cz.cell.1
      go_wp2_with fail
      (with_reducible refine (words_any _ S5.out.cz.fz).mono ?_); rintro e w6 ⟨v, rfl, hO, hB⟩
      have hw64 := S5.out.cz.len
      obtain ⟨g2, c2, rfl, hc2, hm2⟩ := own32_some hO (by omega)
      rw [hw64] at hc2 hO ⊢
      have HO2 := Lib.hid hO
      have S6 := Lib.hid (S5.out.old hB)
      have HO1 := Lib.hid (own32_next HOO5.out hB rfl)
      have HWD2 := Lib.hid S5.out.cz.fz.word
      clear hO hB hcc S5 hw64 hm2 HOO5
      have hd0 : C[0]? = some (.int .u8 (t.d : Int)) := by rw [← HCC.out]; exact actC_d
      have hn0 : C[1]? = some (.int .i64 t.n) := by rw [← HCC.out]; exact actC_n
      obtain ⟨zd, hzd⟩ : ∃ z : Int, (t.d : Int) = z := ⟨_, rfl⟩
      rw [hzd] at hd0
      have hz0 : 0 ≤ zd := by omega
      have hz1 : zd < 256 := by have := HOK.out.1; omega
      have HZD := Lib.hid hzd
      have HD0 := Lib.hid hd0
      have HN0 := Lib.hid hn0
      clear hzd hd0 hn0
      have hc0 : w6.cell? ⟨w.heap.size + 1, 0, none⟩ = some (.int .u8 zd) := by rw [S6.out.bk.cell, HD0.out]
      have hc1' : w6.cell? ⟨w.heap.size + 1, 1, none⟩ = some (.int .i64 t.n) := by rw [S6.out.bk.cell, HN0.out]
      go_upto_block 0 with fail
      go_cut [12, 13, 14] (fun v12 v13 v14 w' => v14 = .bool true ∧ (∃ f t : Int, v12 = .int .i64 f ∧ v13 = .int .i64 t ∧ Hid (∀ i : Nat, (i : Int) < f ∨ t ≤ (i : Int) → vs'[i]? = vs[i]?)) ∧ Hid (Below w6.heap.size w6 w'))
      case first =>
        have h5 : t.d % 5 < 5 := Nat.mod_lt _ (by decide)
        have hq : zd % 5 = ((t.d % 5 : Nat) : Int) := by have := HZD.out; omega
        obtain ⟨q, hqq⟩ : ∃ q, t.d % 5 = q := ⟨_, rfl⟩
        have HQ := Lib.hid hqq
        rw [hqq] at hq h5
        clear hqq
        have hk0 : w.heap.size + 1 < w6.heap.size := S6.out.bk.lt
        have c5 : q = 0 ∨ q = 1 ∨ q = 2 ∨ q = 3 ∨ q = 4 := by omega
        clear h5
        rcases c5 with rfl | rfl | rfl | rfl | rfl
        · have t0 : (zd % 5 == 0) = true := by rw [hq]; rfl
          have hE : tlE vs t.n = 0 := by have := HE.out; unfold plE at this; rw [if_pos HQ.out] at this; exact this
          have hn1 : 1 ≤ t.n ∧ t.n ≤ 4 := by
            unfold tlE at hE
            split at hE
            · cases hE
            · omega
          obtain ⟨k, hk⟩ := Int.eq_ofNat_of_zero_le (show 0 ≤ t.n by omega)
          rw [hk] at hE hc1'
          obtain ⟨v2, hp, hpl, hlf⟩ := reach_life HLN.out HWD.out hE
          have hv : vs' = v2 := by
            have h1 := HD.out
            rw [← HL.out, show plL vs t.d t.n t.ks = tlL vs (k : Int) by unfold plL; rw [if_pos HQ.out, hk], hpl, hp.do_] at h1
            simpa using h1.symm
          subst hv
          have HF := Lib.hid hp.far
          have HLF := Lib.hid hlf
          clear hE hn1 hk hp hpl hlf hq HL HM HE HN0 HD0 HD
          go_wp2_with fail
          go_region_held3 (fun w' => w'.cell? ⟨w.heap.size + 1, 1, none⟩ = some (.int .i64 (k : Int))) (first | go_keep | (rw [hcell _ _ hk0]; exact hc1'))
            (first | (go_at_call 26; (with_reducible refine (life_to k _ S6.out.cz.drew HLF.out).mono ?_); rintro e w7 ⟨rfl, hB⟩; obtain ⟨hcell, hfrz⟩ := oldCells hB; have HB7 := Lib.hid hB; clear hB))
          all_goals go_wp2_with fail
          all_goals go_meet
          all_goals exact ⟨rfl, ⟨0, 1, rfl, rfl, Lib.hid (fun i hi => HF.out i (by simp only [List.length_cons, List.length_nil]; omega))⟩, Lib.hid (below_nxt (Below.refl _ w6) HB7.out (Nat.le_refl _) rfl rfl rfl rfl)⟩
        · have t0 : (zd % 5 == 0) = false := by rw [hq]; rfl
          have t1 : (zd % 5 == 1) = true := by rw [hq]; rfl
          have hE : tcE vs t.n = 0 := by
            have := HE.out
            unfold plE at this
            rw [if_neg (by rw [HQ.out]; decide), if_pos HQ.out] at this
            exact this
          have hn1 : 0 ≤ t.n := by
            unfold tcE at hE
            split at hE
            · cases hE
            · omega
          obtain ⟨k, hk⟩ := Int.eq_ofNat_of_zero_le hn1
          rw [hk] at hE hc1' hn1
          obtain ⟨v2, hp, hpl, hk5, hge, hor⟩ := reach_count HLN.out HWD.out hE
          have hv : vs' = v2 := by
            have h1 := HD.out
            rw [← HL.out, show plL vs t.d t.n t.ks = tcL vs (k : Int) by unfold plL; rw [if_neg (by rw [HQ.out]; decide), if_pos HQ.out, hk], hpl, hp.do_] at h1
            simpa using h1.symm
          subst hv
          have HF := Lib.hid (show ∀ i : Nat, (i : Int) < 1 ∨ 9 ≤ (i : Int) → vs'[i]? = vs[i]? from fun i hi => hp.far i (by rw [lw_length]; omega))
          obtain ⟨x, hx⟩ : ∃ x, vs[1 + k / 32]? = some x := ⟨_, List.getElem?_eq_getElem (by have := HLN.out; omega)⟩
          obtain ⟨g', hg', -, hgl, hcx, -⟩ := HO1.out.at_ hx
          cases hg'
          have hxM := HWD.out _ _ hx
          rw [hx, Option.getD_some] at hor
          obtain ⟨cn, hcn⟩ : ∃ cn, counter vs' = cn := ⟨_, rfl⟩
          rw [hcn] at hge hor
          have HCN := Lib.hid hcn
          have HOR := Lib.hid hor
          have hcl : cn ≤ 255 := by rw [← hcn]; exact counter_le _
          clear hE hk hp hpl hor hq HL HM HE HN0 HD0 HD hcn hx
          have hge' : decide ((k : Int) ≤ (cn : Int)) = true := by simpa using hge
          have HT6 := S6.out.tab
          have HCT : Hid (∀ d os, Calls Tryd.prog 27 #[.pointer (some ⟨c, 0, none⟩)] (Sort.grow (redrawn w6 d) os) fun e w'' => e = .returned (.int .i64 (cn : Int)) ∧ ∃ p : Regrown, w'' = Sort.grow (redrawn w6 p.d) p.os) := Lib.hid (fun d os => Calls.regrown_of (counter_to cn _ (S6.out.cz.old (below_regrown w6 d os)) (S6.out.tab.old (below_regrown w6 d os)) HCN.out))
          have hq1 : ∀ d os, (Sort.grow (redrawn w6 d) os).cell? ⟨w.heap.size + 1, 1, none⟩ = some (.int .i64 (k : Int)) := cell_regrown hc1'
          have hq2 : ∀ d os, (Sort.grow (redrawn w6 d) os).cell? ⟨g1, 1 + k / 32, none⟩ = some (.int .u32 (x : Int)) := cell_regrown hcx
          have hk64 : k / 32 + 1 < 64 := by omega
          clear hc1' hcx HT6
          go_wp2_with fail
          by_cases hck : cn = k
          · subst hck
            have heq : ((cn : Int) == (cn : Int)) = true := by simp
            clear hq2
            refine wp_region_quiet_below (by kernel_rfl) (by kernel_rfl) ?_
            repeat (first | go_big_quiet_step ((go_at_call 27; exact HCT.out _ _)) | quiet_step ((go_at_call 27; exact HCT.out _ _)))
            refine wpQuiet_nil ?_
            intro _ hw'
            obtain ⟨⟨dq, osq⟩, hw''⟩ := hw'
            subst hw''
            go_wp2_with fail
            go_meet
            exact ⟨rfl, ⟨1, 9, rfl, rfl, HF⟩, Lib.hid (below_regrown w6 dq osq)⟩
          · have heq : ((cn : Int) == (k : Int)) = false := by simp; omega
            have hbit : (((x : Int) / 2 ^ (k % 32)).tmod 2 == 1) = true := by
              have h : x / 2 ^ (k % 32) % 2 = 1 := by rcases HOR.out with h | h; exact absurd h hck; exact h
              rw [bit_int0, h]
              rfl
            refine wp_region_quiet_below (by kernel_rfl) (by kernel_rfl) ?_
            repeat (first | go_big_quiet_step ((go_at_call 27; exact HCT.out _ _)) | quiet_step ((go_at_call 27; exact HCT.out _ _)))
            refine wpQuiet_nil ?_
            intro _ hw'
            obtain ⟨⟨dq, osq⟩, hw''⟩ := hw'
            subst hw''
            go_wp2_with fail
            go_meet
            exact ⟨rfl, ⟨1, 9, rfl, rfl, HF⟩, Lib.hid (below_regrown w6 dq osq)⟩
        · have t0 : (zd % 5 == 0) = false := by rw [hq]; rfl
          have t1 : (zd % 5 == 1) = false := by rw [hq]; rfl
          have t2 : (zd % 5 == 2) = true := by rw [hq]; rfl
          have hE : tkE vs (t.ks ++ t.ks.take 24) (t.ks.take 16) = 0 := by
            have := HE.out
            unfold plE at this
            rw [if_neg (by rw [HQ.out]; decide), if_neg (by rw [HQ.out]; decide), if_pos HQ.out] at this
            exact this
          obtain ⟨v2, hp, hpl, hl18, hky, hid⟩ := reach_key HLN.out HWD.out HOK.out.2.1 HOK.out.2.2.1 hE
          have hv : vs' = v2 := by
            have h1 := HD.out
            rw [← HL.out, show plL vs t.d t.n t.ks = tkL vs (t.ks ++ t.ks.take 24) (t.ks.take 16) by unfold plL; rw [if_neg (by rw [HQ.out]; decide), if_neg (by rw [HQ.out]; decide), if_pos HQ.out], hpl, hp.do_] at h1
            simpa using h1.symm
          subst hv
          have HF := Lib.hid (show ∀ i : Nat, (i : Int) < 9 ∨ 27 ≤ (i : Int) → vs'[i]? = vs[i]? from fun i hi => hp.far i (by rw [hl18]; omega))
          have HKY := Lib.hid hky
          have HID := Lib.hid hid
          have HKL := Lib.hid HOK.out.2.1
          have HKB := Lib.hid HOK.out.2.2.1
          have HKC : Hid (∀ (j : Nat) (v : Value), (t.ks.map fun x => Value.int .u8 ((x : Nat) : Int))[j]? = some v → C[2 + j]? = some v) := Lib.hid (fun j v hv => by rw [← HCC.out]; exact actC_key j v hv)
          clear hE hp hpl hl18 hky hid hq HL HM HE HN0 HD0 HD
          generalize t.ks = ks at *
          have H16L := Lib.hid (show (ks.take 16).length = 16 by rw [List.length_take, HKL.out]; rfl)
          have H16B := Lib.hid (show ∀ x ∈ ks.take 16, x < 256 from fun x hx => HKB.out x (List.mem_of_mem_take hx))
          have H56L := Lib.hid (show (ks ++ ks.take 24).length = 56 by rw [List.length_append, List.length_take, HKL.out]; rfl)
          have H56B := Lib.hid (show ∀ x ∈ ks ++ ks.take 24, x < 256 from fun x hx => by
            rcases List.mem_append.1 hx with h | h
            · exact HKB.out x h
            · exact HKB.out x (List.mem_of_mem_take h))
          have HKN : Hid (∀ W : World, Blk W (w.heap.size + 1) 46 C → Nats .u8 256 W W.heap.size (some ⟨w.heap.size + 1, 2, none⟩) ks) := Lib.hid (fun W hW i z hz => ⟨HKB.out z (List.mem_of_getElem? hz), _, 2, rfl, hW.lt, by rw [hW.cell]; exact HKC.out i _ (by rw [List.getElem?_map, hz]; rfl)⟩)
          have HKN16 : Hid (∀ W : World, Blk W (w.heap.size + 1) 46 C → Nats .u8 256 W W.heap.size (some ⟨w.heap.size + 1, 2, none⟩) (ks.take 16)) := Lib.hid (fun W hW i z hz => by
            rw [List.getElem?_take] at hz
            split at hz
            · exact HKN.out W hW i z hz
            · cases hz)
          generalize ks.take 16 = k16 at *
          have HSI := Lib.hid (show (Tryd.prog.info? 50).map (·.size) = some (b8 k16).size by rw [b8_size, H16L.out]; exact id_info)
          have HZI := Lib.hid (show (b8 (List.replicate 16 0)).size = (b8 k16).size by rw [b8_size, b8_size, H16L.out]; rfl)
          have HOI := Lib.hid (b8_one k16)
          go_wp2_with fail
          (with_reducible refine (id_as k16 _ S6.out.cz HID.out).mono ?_); rintro e w7 ⟨rfl, hB⟩
          have S7 := Lib.hid (S6.out.old hB)
          have HB7 := Lib.hid hB
          clear hB
          go_upto_region 29 with (refine wpList_new_row rfl 50 (.tmp 15) (.tmp 115) rfl w7.heap.size (b8 k16) rfl rfl 50 (b8 (List.replicate 16 0)) (Blk.new _ _ _) HSI.out HZI.out HOI.out w7.heap.size w7 ((Below.refl _ w7).alloc (Nat.le_refl _) _) (Nat.le_refl _) ?_; intro w8 HX hB8)
          have S8 := Lib.hid (S7.out.old hB8.out)
          have HB8 := Lib.hid (below_then HB7.out hB8.out (Nat.le_refl _))
          clear hB8 S7 HB7
          have HKYC : Hid (∀ W : World, Since w8 W → Calls Tryd.prog 30 #[.pointer (some ⟨c, 0, none⟩)] W (BytesOut W (ks ++ ks.take 24))) := Lib.hid (fun W hW => key_as _ W (S8.out.cz.old hW) HKY.out)
          have HKN8 : Hid (∀ W : World, Since w8 W → Nats .u8 256 W W.heap.size (some ⟨w.heap.size + 1, 2, none⟩) ks) := Lib.hid (fun W hW => HKN.out W (S8.out.bk.next hW rfl))
          have HKN8' : Hid (∀ W : World, Since w8 W → Nats .u8 256 W W.heap.size (some ⟨w.heap.size + 1, 2, none⟩) k16) := Lib.hid (fun W hW => HKN16.out W (S8.out.bk.next hW rfl))
          have HIN8 : Hid (∀ W : World, Since w8 W → Nats .u8 256 W W.heap.size (some ⟨w7.heap.size, 0, none⟩) k16) := Lib.hid (fun W hW => nats_b8 (HX.out.next hW rfl) H16B.out)
          have hs0 : Since w8 w8.drew := Below.drew (Below.refl _ w8)
          clear hc0 hc1' HX HKN HKN16
          go_region_held3 (fun W => Since w8 W)
            (with_reducible first | assumption | exact Since.alloc_drew (by assumption) _ | exact Since.alloc (by assumption) _ | exact Since.since (by assumption) (by assumption) | exact Since.drewN (by assumption) _ | exact Since.drewN (Since.undrew (by assumption)) _)
            (first
              | (go_at_call 30; (with_reducible refine (HKYC.out _ (by assumption)).mono ?_); rintro e w9 ⟨v9, rfl, hO9, hB9⟩; have hNJ := nats_step hNJ hB9; obtain ⟨A9, c9, rfl, hc9, hm9, hNK⟩ := ownB_form hO9 H56B.out; rw [H56L.out] at hc9 ⊢)
              | (go_at_call 30; (with_reducible refine (HKYC.out _ (by assumption)).mono ?_); rintro e w9 ⟨v9, rfl, hO9, hB9⟩; obtain ⟨A9, c9, rfl, hc9, hm9, hNK⟩ := ownB_form hO9 H56B.out; rw [H56L.out] at hc9 ⊢)
              | (go_at_call 31; (with_reducible refine (join_two _ (w.heap.size + 1) ks _ HKL.out (by simp) (by exact cells_two_0 _ _ _ _) (by exact cells_two_1 _ _ _ _) (HKN8.out _ (by assumption))).mono ?_); rintro e w10 ⟨v10, rfl, hO10, hB10⟩; have hNK := nats_alloc hNK hB10; obtain ⟨A10, c10, rfl, hc10, hm10, hNJ⟩ := ownB_form hO10 H56B.out; rw [H56L.out] at hc10 ⊢)
              | (go_at_call 31; (with_reducible refine (join_two _ (w.heap.size + 1) ks _ HKL.out (by have := hB9.size; simp at this; omega) (by exact (hB9.cell (p := ⟨_, 0, none⟩) (by simp)).trans (cells_two_0d _ _ _ _)) (by exact (hB9.cell (p := ⟨_, 1, none⟩) (by simp)).trans (cells_two_1d _ _ _ _)) (HKN8.out _ (by assumption))).mono ?_); rintro e w10 ⟨v10, rfl, hO10, hB10⟩; have hNK := nats_step hNK hB10; obtain ⟨A10, c10, rfl, hc10, hm10, hNJ⟩ := ownB_form hO10 H56B.out; rw [H56L.out] at hc10 ⊢)
              | (go_at_call 31; (with_reducible refine (join_two _ (w.heap.size + 1) ks _ HKL.out (by simp) (by exact cells_two_0d _ _ _ _) (by exact cells_two_1d _ _ _ _) (HKN8.out _ (by assumption))).mono ?_); rintro e w10 ⟨v10, rfl, hO10, hB10⟩; obtain ⟨A10, c10, rfl, hc10, hm10, hNJ⟩ := ownB_form hO10 H56B.out; rw [H56L.out] at hc10 ⊢)
              | (go_at_call 29; (with_reducible refine (same_any A9 A10 56 56 c9 c10 _ _ true _ _ _ H56L.out H56L.out (by decide) (by decide) hNK hNJ (by simp)).mono ?_); rintro e w11 ⟨rfl, n11, rfl⟩)
              | (go_at_call 29; (with_reducible refine (same_any _ _ 16 16 16 32 k16 k16 true _ _ _ H16L.out H16L.out (by decide) (by decide) (HIN8.out _ (by assumption)) (HKN8'.out _ (by assumption)) (by simp)).mono ?_); rintro e w12 ⟨rfl, n12, rfl⟩))
          all_goals go_wp2_with fail
          all_goals go_meet
          all_goals exact ⟨rfl, ⟨9, 27, rfl, rfl, HF⟩, Lib.hid (HB8.out.trans ((show Below w8.heap.size w8 _ from (by with_reducible assumption : Since w8 _)).mono HB8.out.size))⟩
        · have t0 : (zd % 5 == 0) = false := by rw [hq]; rfl
          have t1 : (zd % 5 == 1) = false := by rw [hq]; rfl
          have t2 : (zd % 5 == 2) = false := by rw [hq]; rfl
          have t3 : (zd % 5 == 3) = true := by rw [hq]; rfl
          have hE : trE vs t.n = 0 := by
            have := HE.out
            unfold plE at this
            rw [if_neg (by rw [HQ.out]; decide), if_neg (by rw [HQ.out]; decide), if_neg (by rw [HQ.out]; decide), if_pos HQ.out] at this
            exact this
          have hn1 : 0 ≤ t.n ∧ t.n < 4 := by
            unfold trE at hE
            split at hE
            · assumption
            · cases hE
          obtain ⟨k, hk⟩ := Int.eq_ofNat_of_zero_le hn1.1
          rw [hk] at hE hc1' hn1
          have hk4 : k < 4 := by omega
          have hz : rowZ vs k = true := by
            rw [trE_nat vs k hk4] at hE
            split at hE
            · assumption
            · cases hE
          have hb' := burn vs k t.ks HLN.out HWD.out hk4 hz HOK.out.2.1 HOK.out.2.2.1
          have hv : vs' = setAll vs (rowL k (words4 t.ks)) := by
            have h1 := HD.out
            rw [← HL.out, show plL vs t.d t.n t.ks = trL vs (k : Int) t.ks by unfold plL; rw [if_neg (by rw [HQ.out]; decide), if_neg (by rw [HQ.out]; decide), if_neg (by rw [HQ.out]; decide), if_pos HQ.out, hk], hb'.trL, hb'.do_] at h1
            simpa using h1.symm
          have hfar : ∀ i : Nat, (i : Int) < 27 + 9 * (k : Int) ∨ 36 + 9 * (k : Int) ≤ (i : Int) → vs'[i]? = vs[i]? := fun i hi => by
            rw [hv]
            exact rowL_far vs k _ (by rw [words4_length, HOK.out.2.1]) i (by omega)
          rw [← hv] at hb'
          have HF := Lib.hid hfar
          have P7 := Lib.hid (show prE vs' false (k : Int) = 0 by rw [pr_open hk4]; exact hb'.rowE)
          have Q7 := Lib.hid (pr_key hk4 hb'.rowE hb'.key)
          have HKR : Hid (∀ W : World, Blk W (w.heap.size + 1) 46 C → W.rangeAt (w.heap.size + 1) 2 ((t.ks).map fun x => Value.int .u8 ((x : Nat) : Int))) := Lib.hid (fun W hW j v hv => by
            rw [hW.cell, ← HCC.out]
            exact actC_key j v hv)
          have HKL := Lib.hid HOK.out.2.1
          have HSK := Lib.hid (show (Tryd.prog.info? 23).map (·.size) = some (b8 t.ks).size by rw [b8_size, HOK.out.2.1]; exact dig_info)
          have HSK2 := Lib.hid (show (Tryd.prog.info? 23).map (·.size) = some ((t.ks).map fun x => Value.int .u8 ((x : Nat) : Int)).length by rw [List.length_map, HOK.out.2.1]; exact dig_info)
          have HZK := Lib.hid (show (b8 (List.replicate 32 0)).size = (b8 t.ks).size by rw [b8_size, b8_size, HOK.out.2.1]; rfl)
          have HOKS := Lib.hid (b8_one t.ks)
          clear hE hn1 hk hz hb' hv hfar hq HL HM HE HN0 HD0 HD
          go_wp2_with fail
          go_quiet (fail)
          go_wp2_with fail
          (with_reducible refine (rowp_as k _ t.ks 0 (S6.out.cz.drewN _) Q7.out P7.out).mono ?_); rintro e w7 ⟨rfl, hB⟩
          have HB7 := Lib.hid (below_nxt (Below.refl _ w6) hB (Nat.le_refl _) rfl rfl rfl rfl)
          have HK7 := Lib.hid (S6.out.bk.below HB7.out hk0)
          clear hB
          go_upto_region 33 with (refine wpList_new_row rfl 23 (.tmp 16) (.tmp 146) rfl w7.heap.size (b8 t.ks) rfl rfl 23 (b8 (List.replicate 32 0)) (Blk.new _ _ _) HSK.out HZK.out HOKS.out w7.heap.size w7 ((Below.refl _ w7).alloc (Nat.le_refl _) _) (Nat.le_refl _) ?_; intro w8 HX hB8)
          have HB8 := Lib.hid (below_then HB7.out hB8.out (Nat.le_refl _))
          have HR8 := Lib.hid (HKR.out w8 (HK7.out.below hB8.out HK7.out.lt))
          have heq : ∀ W : World, (Op.equalIn 10000 23 (.agg (b8 t.ks)) (.agg (b8 t.ks))).run Tryd.prog W = .ok true W := fun W => by
            rw [eq_arr W 32 23 t.ks t.ks HKL.out HKL.out Tryd.underlying23]
            simp
          have heq' : ∀ W : World, (Op.equalIn 10000 23 (.agg (b8 t.ks)) (.agg ((t.ks).map fun x => Value.int .u8 ((x : Nat) : Int)).toArray)).run Tryd.prog W = .ok true W := heq
          clear hB8 HB7 HK7 P7 Q7 heq
          go_wp2_with (first | refine load_row_g (by rfl) 23 _ rfl w7.heap.size rfl 23 (b8 t.ks) _ HX.out Tryd.underlying23 rfl HSK.out ?_ | refine load_mid_g (by rfl) 23 _ rfl (w.heap.size + 1) 2 rfl _ _ HR8.out Tryd.underlying23 rfl HSK2.out ?_)
          go_meet
          exact ⟨rfl, ⟨_, _, rfl, rfl, HF⟩, HB8⟩
        · have t0 : (zd % 5 == 0) = false := by rw [hq]; rfl
          have t1 : (zd % 5 == 1) = false := by rw [hq]; rfl
          have t2 : (zd % 5 == 2) = false := by rw [hq]; rfl
          have t3 : (zd % 5 == 3) = false := by rw [hq]; rfl
          have hE : atE t.n = 0 := by
            have := HE.out
            unfold plE at this
            rw [if_neg (by rw [HQ.out]; decide), if_neg (by rw [HQ.out]; decide), if_neg (by rw [HQ.out]; decide), if_neg (by rw [HQ.out]; decide)] at this
            exact this
          have hn1 : 0 ≤ t.n ∧ t.n < 4 := by
            unfold atE at hE
            split at hE
            · assumption
            · cases hE
          obtain ⟨k, hk⟩ := Int.eq_ofNat_of_zero_le hn1.1
          rw [hk] at hE hc1' hn1
          have hk4 : k < 4 := by omega
          obtain ⟨L, v2, hb'⟩ := kill_law vs k HLN.out HWD.out hk4
          have hv : vs' = v2 := by
            have h1 := HD.out
            rw [← HL.out, show plL vs t.d t.n t.ks = klL vs (k : Int) by unfold plL; rw [if_neg (by rw [HQ.out]; decide), if_neg (by rw [HQ.out]; decide), if_neg (by rw [HQ.out]; decide), if_neg (by rw [HQ.out]; decide), hk], hb'.klL, hb'.do_] at h1
            simpa using h1.symm
          subst hv
          have HF := Lib.hid (show ∀ i : Nat, (i : Int) < 35 + 9 * (k : Int) ∨ 36 + 9 * (k : Int) ≤ (i : Int) → vs'[i]? = vs[i]? from fun i hi => hb'.far i (by omega))
          have P7 := Lib.hid (show prE vs' false (k : Int) = 17 by rw [pr_open hk4]; exact hb'.rowE)
          have Q7 := Lib.hid (show prD vs' false (k : Int) = z32 from pr_none (by rw [P7.out]; decide))
          have HSZ := Lib.hid (show (Tryd.prog.info? 23).map (·.size) = some (b8 z32).size from dig_info)
          have HOZ := Lib.hid (b8_one z32)
          clear hE hn1 hk hb' hq HL HM HE HN0 HD0 HD
          go_wp2_with fail
          go_quiet (fail)
          go_wp2_with fail
          (with_reducible refine (rowp_as k _ z32 17 (S6.out.cz.drewN _) Q7.out P7.out).mono ?_); rintro e w7 ⟨rfl, hB⟩
          have HB7 := Lib.hid (below_nxt (Below.refl _ w6) hB (Nat.le_refl _) rfl rfl rfl rfl)
          clear hB
          go_upto_region 20 with (refine wpList_new_row rfl 23 (.tmp 18) (.tmp 72) rfl w7.heap.size (b8 z32) rfl rfl 23 (b8 (List.replicate 32 0)) (Blk.new _ _ _) HSZ.out rfl HOZ.out w7.heap.size w7 ((Below.refl _ w7).alloc (Nat.le_refl _) _) (Nat.le_refl _) ?_; intro w8 HX hB8)
          have HB8 := Lib.hid (below_then HB7.out hB8.out (Nat.le_refl _))
          clear hB8 HB7 P7 Q7
          go_wp2_with fail
          go_meet
          exact ⟨rfl, ⟨_, _, rfl, rfl, HF⟩, HB8⟩
      case rest =>
        obtain ⟨rfl, ⟨f, to_, rfl, rfl, HF⟩, HB7⟩ := hcut
        obtain ⟨w7, rfl⟩ : ∃ wo : World, wo = wc := ⟨_, rfl⟩
        have S7 := Lib.hid (S6.out.old HB7.out)
        have HO1' := Lib.hid (own32_next HO1.out HB7.out rfl)
        have HO2' := Lib.hid (own32_next HO2.out HB7.out rfl)
        have HVL2 := Lib.hid S6.out.cz.len
        clear S6 HO1 HO2 hc0 hc1' HB7 HM
        go_wp2_with fail
        go_loopg [20, 158] 64 (fun g s20 s158 wr => ∃ i : Nat, i + g = 64 ∧ s158 = .int .i64 (i : Int) ∧ ∃ n, wr = w7.drewN n)
        case atStart => exact ⟨0, by omega, rfl, 0, rfl⟩
        case round =>
          obtain ⟨i, hg, rfl, n, rfl⟩ := hrel
          have HG := Lib.hid hg
          have hi : i ≤ 64 := by omega
          clear hg
          by_cases hlt : i < 64
          · by_cases hin : (i : Int) < f ∨ to_ ≤ (i : Int)
            · have he := HF.out i hin
              obtain ⟨x, hx⟩ : ∃ x, vs[i]? = some x := ⟨_, List.getElem?_eq_getElem (by have := HLN.out; omega)⟩
              obtain ⟨ga, hga, -, -, hca, -⟩ := HO1'.out.at_ hx
              cases hga
              obtain ⟨gb, hgb, -, -, hcb, -⟩ := HO2'.out.at_ (he.trans hx)
              cases hgb
              have hxx : ((x : Int) != (x : Int)) = false := by simp
              clear he hx
              by_cases h1 : (i : Int) < f
              · have hd1 : decide ((i : Int) < f) = true := decide_eq_true h1
                clear hin
                go_wp2_with fail
                go_quiet (fail)
                go_wp2_with fail
                go_light
                go_roundg (64 - (i + 1))
                case measure => have := HG.out; omega
                case rel => exact ⟨i + 1, by have := HG.out; omega, by go_num, _, rfl⟩
              · have hd1 : decide ((i : Int) < f) = false := decide_eq_false h1
                have h2 : to_ ≤ (i : Int) := by omega
                have hd2 : decide (to_ ≤ (i : Int)) = true := decide_eq_true h2
                clear hin
                go_wp2_with fail
                go_quiet (fail)
                go_wp2_with fail
                go_light
                go_roundg (64 - (i + 1))
                case measure => have := HG.out; omega
                case rel => exact ⟨i + 1, by have := HG.out; omega, by go_num, _, rfl⟩
            · have h1 : ¬ (i : Int) < f := by omega
              have h2 : ¬ to_ ≤ (i : Int) := by omega
              have hd1 : decide ((i : Int) < f) = false := decide_eq_false h1
              have hd2 : decide (to_ ≤ (i : Int)) = false := decide_eq_false h2
              clear hin
              go_wp2_with fail
              go_quiet (fail)
              go_wp2_with fail
              go_light
              go_roundg (64 - (i + 1))
              case measure => have := HG.out; omega
              case rel => exact ⟨i + 1, by have := HG.out; omega, by go_num, _, rfl⟩
          · have : i = 64 := by omega
            subst this
            obtain ⟨er2, hE2⟩ : ∃ e, plE vs' t.d t.n t.ks = e := ⟨_, rfl⟩
            obtain ⟨pl2, hL2⟩ : ∃ e, plL vs' t.d t.n t.ks = e := ⟨_, rfl⟩
            have HE2 := Lib.hid hE2
            have HL2 := Lib.hid hL2
            have S8 := Lib.hid (show Az w (w.heap.size + 1) C c p b vs' f64 false (w7.drewN n) from S7.out.old (Below.drewN (Below.refl _ _) n))
            have HAG := Lib.hid (show t.d % 5 = 0 ∨ t.d % 5 = 3 ∨ pl2 = [] from by
              rw [← hL2]
              exact plL_again HLN.out HWD.out HOK.out.2.1 HOK.out.2.2.1 HE.out (by rw [HL.out]; exact HD.out))
            clear hE2 hL2
            go_wp2_with (refine wpList_load_row rfl 46 _ rfl (w.heap.size + 1) rfl 46 C (0, 0) _ S8.out.bk Tryd.underlying46 rfl HSA.out ?_)
            (with_reducible refine (plan_to t _ er2 pl2 S8.out.cz S8.out.tab HOK.out HCC.out HE2.out HL2.out).mono ?_); rintro e w9 ⟨v, rfl, hO, hB⟩
            obtain ⟨A9, cp9, rfl, hl9, hm9, -⟩ := hO.at_
            have S9 := Lib.hid (S8.out.old hB)
            have hc9 : w9.cell? ⟨w.heap.size + 1, 0, none⟩ = some (.int .u8 zd) := by rw [S9.out.bk.cell, HD0.out]
            have hq : zd % 5 = ((t.d % 5 : Nat) : Int) := by have := HZD.out; omega
            clear hO hB S8 hm9
            by_cases q0 : t.d % 5 = 0
            · have t0 : (zd % 5 == 0) = true := by rw [hq, q0]; rfl
              clear hq q0
              go_wp2_with fail
              go_light
              go_ret
              exact ⟨rfl, S9.out.bel⟩
            · have t0 : (zd % 5 == 0) = false := by rw [hq]; simp; omega
              by_cases q3 : t.d % 5 = 3
              · have t3 : (zd % 5 == 3) = true := by rw [hq, q3]; rfl
                clear hq q0 q3
                go_wp2_with fail
                go_light
                go_ret
                exact ⟨rfl, S9.out.bel⟩
              · have t3 : (zd % 5 == 3) = false := by rw [hq]; simp; omega
                obtain rfl : pl2 = [] := by rcases HAG.out with h | h | h; exact absurd h q0; exact absurd h q3; exact h
                clear hq q0 q3
                go_wp2_with fail
                go_light
                go_ret
                exact ⟨rfl, S9.out.bel⟩
    · have hne : (er != 0) = true := by rw [bne_iff_ne]; exact he
      obtain rfl := HNO.out he
      clear he
      go_wp2_with fail
      go_light
      go_ret
      exact ⟨rfl, S4.out.bel⟩
end Otp
end Go.Proofs.YtpakdcgcgekcfaaDoor
