/-
  Texts of this claim, joined: Hid, HidF2.
-/
import Derived.Test.YtpakdcgcgekcfaaDoorJ563105ce
set_option linter.unusedVariables false
/-
  SlotHides.
-/
set_option linter.unusedSimpArgs false
set_option linter.unusedVariables false
namespace Go.Proofs.YtpakdcgcgekcfaaDoor
open Go.RowKit

namespace Slot
open Otp R1 Sha Aes
def zXs : Xs := ⟨z8, List.replicate 256 0, false, false⟩
theorem zXs_ok : zXs.Ok := ⟨rfl, by rw [zXs, List.length_replicate], fun y hy => by rw [(List.mem_replicate.1 hy).2]; decide⟩
/-- Is an act passed over? -/
def skB (sec : List Bool) (a : Ac) : Bool := decide ((a.d : Int) % 7 = 3) && inR a.h && (sec[a.h.toNat]?.getD false)
theorem jv_start : Jv newSt newSt zXs (List.replicate 8 false) := by
  have hr : ∀ i : Nat, i < 8 → rk newSt i = 0 := fun i hi => by
    unfold rk newSt zRows
    rw [List.getElem?_replicate, if_pos hi]
    rfl
  have hk : ∀ i : Nat, i < 8 → kx zXs (i : Int) = 0 := fun i hi => by
    unfold kx
    rw [Int.toNat_natCast, zXs, z8, List.getElem?_replicate, if_pos hi]
    rfl
  have k : Kx newSt zXs := ⟨newSt_ok, zXs_ok, fun i hi => by rw [hk i hi, hr i hi]; rfl, rfl, rfl, fun _ => hr⟩
  exact ⟨k, k, by rw [List.length_replicate], fun i hi _ h => absurd (hk i hi) h, fun i hi _ => by rw [List.getElem?_replicate, if_pos hi]⟩
/-- The law under way. -/
structure Hw (w2 : World) (gs gt gx gc : Nat) (s t : Slt) (x : Xs) (sec : List Bool) (w : World) : Prop where
  ss : Sl w gs s
  st : Sl w gt t
  sx : Sx w gx x
  sc : Blk w gc 79 (bL sec).toArray
  bel : Below w2.heap.size w2 w
  j : Jv s t x sec
  o0 : w2.heap.size = gs
  o1 : gs < gt
  o2 : gt < gx
  o3 : gx < gc
theorem Hw.old {w2 : World} {gs gt gx gc : Nat} {s t : Slt} {x : Xs} {sec : List Bool} {w w' : World} (h : Hw w2 gs gt gx gc s t x sec w) (hb : Below w.heap.size w w') : Hw w2 gs gt gx gc s t x sec w' :=
  ⟨h.ss.old hb, h.st.old hb, h.sx.old hb, h.sc.next hb rfl, below_then h.bel hb (Nat.le_refl _), h.j, h.o0, h.o1, h.o2, h.o3⟩
/-- A store into a newer block. -/
theorem Hw.far {w2 : World} {gs gt gx gc : Nat} {s t : Slt} {x : Xs} {sec : List Bool} {w w' : World} {S : List Nat} (h : Hw w2 gs gt gx gc s t x sec w) (hf : Frm S w w') (hS : ∀ y ∈ S, gc < y) : Hw w2 gs gt gx gc s t x sec w' := by
  have o0 := h.o0
  have o1 := h.o1
  have o2 := h.o2
  have o3 := h.o3
  exact ⟨h.ss.frm hf (fun q => by have := hS _ q; omega), h.st.frm hf (fun q => by have := hS _ q; omega), h.sx.frm hf (fun q => by have := hS _ q; omega), h.sc.frm hf (fun q => by have := hS _ q; omega), Below.frm h.bel hf (Nat.le_refl _) (fun y hy => by have := hS y hy; omega), h.j, o0, o1, o2, o3⟩
theorem scount_any (g : Nat) (s : Slt) (w : World) (hS : Sl w g s) : Calls Tryd.prog 42 #[.pointer (some ⟨g, 0, none⟩)] w (IntBelow w (cntE s 8)) :=
  count_of _ (fun i => kindE s (i : Int)) w (fun i W hi hB => kind_any g s (i : Int) W (hS.old hB) (wfI_small (by omega) (by omega))) (cntE s) rfl (fun _ => rfl) (cntE_le s)
set_option maxRecDepth 100000 in
set_option maxHeartbeats 4000000 in
theorem hides_any (A : Option Addr) (len cap : Nat) (qs : List (Ac × List Nat)) (ka kb : List Nat) (w : World) (hT : STab w) (hl : qs.length = len) (hlm : len ≤ maxLen) (hq : ActsIn w w.heap.size A qs) (hka : ka.length = 32 ∧ ∀ y ∈ ka, y < 256) (hkb : kb.length = 32 ∧ ∀ y ∈ kb, y < 256) :
    Calls Tryd.prog 7 #[.slice A len cap, .agg (b8 ka), .agg (b8 kb)] w (TrueBelow w) := by
  have HT := wall hT
  have HQ := wall hq
  have HL := wall (And.intro hl hlm)
  have HKA := wall hka
  have HKB := wall hkb
  have HAI := wall (show (Tryd.prog.info? 23).map (·.size) = some (b8 ka).size by rw [b8_size, hka.1]; exact dig_info)
  have HBI := wall (show (Tryd.prog.info? 23).map (·.size) = some (b8 kb).size by rw [b8_size, hkb.1]; exact dig_info)
  obtain ⟨w1, hw1⟩ : ∃ W, W = (w.alloc (.cells (b8 ka) 23)).alloc (.cells (b8 kb) 23) := ⟨_, rfl⟩
  have HW := wall hw1
  have HF := wall (show From w1 (fun W => (Below w.heap.size w W ∧ Blk W w.heap.size 23 (b8 ka)) ∧ Blk W (w.heap.size + 1) 23 (b8 kb)) by
    rw [hw1]
    exact ((From.below (((Below.refl _ w).alloc (Nat.le_refl _) _).alloc (by simp) _) (Nat.le_refl _)).and (From.blk ((Blk.new _ _ _).alloc _))).and (From.blk (blk_new' (by simp))))
  clear hw1 hT hq hl hlm hka hkb
  go_enter Tryd.func7, Tryd.ntmps7
  go_upto_region 1 with fail
  rw [← HW.out]
  clear HW
  go_wp2_with fail
  (with_reducible refine (awake_any _ (HT.out.old HF.out.now.1.1)).mono ?_); rintro e w2 ⟨rfl, hB2⟩
  replace HF := wall (HF.out.next hB2)
  clear hB2
  go_wp2_with fail
  (with_reducible refine (snew_out _).mono ?_); rintro e w3 ⟨rfl, hS3, hB3⟩
  have HB3 := wall hB3
  have HS3 := wall hS3
  obtain ⟨gs, hgs⟩ : ∃ x, w2.heap.size = x := ⟨_, rfl⟩
  have HG2 := wall (show w2.heap.size = gs ∧ w.heap.size + 1 < gs by rw [← hgs]; exact ⟨rfl, HF.out.now.2.lt⟩)
  rw [hgs] at HS3 ⊢
  clear hS3 hB3 hgs
  go_wp2_with fail
  (with_reducible refine (snew_out _).mono ?_); rintro e w4 ⟨rfl, hS4, hB4⟩
  have HS4 := wall (HS3.out.old hB4)
  have HT4 := wall hS4
  have HB4 := wall (below_then HB3.out hB4 (Nat.le_refl _))
  have hg3 : gs < w3.heap.size := HS3.out.lt
  obtain ⟨gt, hgt⟩ : ∃ x, w3.heap.size = x := ⟨_, rfl⟩
  rw [hgt] at HT4 hg3 ⊢
  clear hS4 hB4 hgt HS3 HB3
  go_upto_region 5 with fail
  rw [show Tryd.zeroCells78 = (xsL zXs).toArray by kernel_rfl]
  obtain ⟨w5, hw5⟩ : ∃ V, V = w4.alloc (.cells (xsL zXs).toArray 78) := ⟨_, rfl⟩
  have hB5 : Below w4.heap.size w4 w5 := by rw [hw5]; exact (Below.refl _ _).alloc (Nat.le_refl _) _
  have HX5 := wall (show Sx w5 w4.heap.size zXs from ⟨zXs_ok, by rw [hw5]; exact Blk.new _ _ _⟩)
  have HS5 := wall (HS4.out.old hB5)
  have HT5 := wall (HT4.out.old hB5)
  have HB5 := wall (below_then HB4.out hB5 (Nat.le_refl _))
  have hg4 : gt < w4.heap.size := HT4.out.lt
  rw [← hw5]
  obtain ⟨gx, hgx⟩ : ∃ x, w4.heap.size = x := ⟨_, rfl⟩
  rw [hgx] at HX5 hg4 ⊢
  clear hw5 hB5 hgx HS4 HT4 HB4
  go_upto_region 6 with fail
  change Code.wp _ _ _ _ (w5.alloc (.cells (bL (List.replicate 8 false)).toArray 79))
  obtain ⟨w6, hw6⟩ : ∃ V, V = w5.alloc (.cells (bL (List.replicate 8 false)).toArray 79) := ⟨_, rfl⟩
  have hB6 : Below w5.heap.size w5 w6 := by rw [hw6]; exact (Below.refl _ _).alloc (Nat.le_refl _) _
  have HC6 := wall (show Blk w6 w5.heap.size 79 (bL (List.replicate 8 false)).toArray by rw [hw6]; exact Blk.new _ _ _)
  have HX6 := wall (HX5.out.old hB6)
  have HS6 := wall (HS5.out.old hB6)
  have HT6 := wall (HT5.out.old hB6)
  have HB6 := wall (below_then HB5.out hB6 (Nat.le_refl _))
  have hg5 : gx < w5.heap.size := HX5.out.blk.lt
  rw [← hw6]
  obtain ⟨gc, hgc⟩ : ∃ x, w5.heap.size = x := ⟨_, rfl⟩
  rw [hgc] at HC6 hg5 ⊢
  clear hw6 hB6 hgc HX5 HS5 HT5 HB5
  have HGG := wall (And.intro hg3 (And.intro hg4 hg5))
  have HJ0 := wall jv_start
  clear hg3 hg4 hg5
  go_wp2_with fail
  have HH6 := wall (show Hw w2 gs gt gx gc newSt newSt zXs (List.replicate 8 false) w6 from ⟨HS6.out, HT6.out, HX6.out, HC6.out, HB6.out, HJ0.out, HG2.out.1, HGG.out.1, HGG.out.2.1, HGG.out.2.2⟩)
  clear HS6 HT6 HX6 HC6 HB6 HJ0
  go_loopg [31] len (fun gm s31 wr => ∃ (i : Nat) (s t : Slt) (x : Xs) (sec : List Bool), i + gm = len ∧ s31 = .int .i64 (i : Int) ∧ Wall (Hw w2 gs gt gx gc s t x sec wr))
  case atStart => exact ⟨0, newSt, newSt, zXs, List.replicate 8 false, by omega, rfl, HH6⟩
  case round =>
    clear HH6
    obtain ⟨i, s, t, x, sec, hg, rfl, HH⟩ := hrel
    have HG := wall hg
    have hi : i ≤ len := by omega
    clear hg
    by_cases hlt : i < len
    · obtain ⟨⟨a, p⟩, hq⟩ : ∃ q, qs[i]? = some q := ⟨_, List.getElem?_eq_getElem (by rw [HL.out.1]; exact hlt)⟩
      obtain ⟨haf, b, off, rfl, hbl, hrg⟩ := HQ.out i (a, p) hq
      simp only at haf hrg
      have hBw : Below w.heap.size w wr := (HF.out.at HH.out.bel).1.1
      have hlt' : (i : Int) < (len : Int) := by omega
      obtain ⟨AL, hAL⟩ : ∃ y, acL a = y := ⟨_, rfl⟩
      have HRG := wall (show wr.rangeAt b (off + i * 38) AL.toArray.toList by rw [← hAL]; exact range_below hrg hbl hBw)
      have HAF := wall (show ActF w w.heap.size a p from haf)
      have HAI2 := wall (show (Tryd.prog.info? 81).map (·.size) = some AL.toArray.size by rw [← hAL]; exact acL_info haf.kl)
      have HAO := wall (show AL.toArray.all (·.oneCell') = true by rw [← hAL]; exact acL_one a)
      have HAS := wall (show (acL zAct).toArray.size = AL.toArray.size by rw [← hAL, List.size_toArray, List.size_toArray, acL_length haf.kl]; rfl)
      have HAE := wall hAL
      have hblr : b < wr.heap.size := Nat.lt_of_lt_of_le hbl hBw.size
      clear hq haf hrg hBw hAL
      go_upto_region 9 with (first | refine wpList_load_arr rfl 81 _ rfl b (off + i * 38) rfl AL.toArray _ HRG.out Tryd.underlying81 rfl HAI2.out ?_ | (refine wpList_new_row rfl 81 (.tmp 12) (.tmp 35) rfl wr.heap.size AL.toArray rfl rfl 81 (acL zAct).toArray (Blk.new _ _ _) HAI2.out HAS.out HAO.out wr.heap.size wr ((Below.refl _ wr).alloc (Nat.le_refl _) _) (Nat.le_refl _) ?_; intro w7 K7 B7))
      have HK7 := wall K7.out
      have HH7 := wall (HH.out.old B7.out)
      have HGW := wall (show gc < wr.heap.size from HH.out.sc.lt)
      clear K7 B7 HRG
      by_cases h30 : 30 ≤ i
      · have e30 : decide (30 ≤ (i : Int)) = true := decide_eq_true (by omega)
        have e30' : (30 : Int) ≤ (i : Int) := by omega
        replace HH := wall HH7.out
        clear HG hlt hi h30 HK7 HH7
        go_wp2_with fail
        (with_reducible refine (scount_any gs s _ HH.out.ss).mono ?_); rintro e wy ⟨rfl, hB7⟩
        have HH7 := wall (HH.out.old hB7)
        clear hB7 HH
        go_wp2_with fail
        (with_reducible refine (scount_any gt t _ HH7.out.st).mono ?_); rintro e wz ⟨rfl, hB8⟩
        have HH8 := wall (HH7.out.old hB8)
        have hcnt := HH8.out.j.count
        obtain ⟨cn, hcn⟩ : ∃ y, cntE s 8 = y := ⟨_, rfl⟩
        rw [hcn] at hcnt ⊢
        rw [← hcnt]
        clear hB8 HH7 hcnt hcn
        go_wp2_with fail
        go_light
        go_ret
        exact ⟨rfl, (HF.out.at HH8.out.bel).1.1⟩
      · have e30 : decide (30 ≤ (i : Int)) = false := decide_eq_false (by omega)
        have e30' : ¬ (30 : Int) ≤ (i : Int) := by omega
        go_wp2_with (refine wpList_load_row rfl 81 _ rfl wr.heap.size rfl 81 AL.toArray (0, 0) _ HK7.out Tryd.underlying81 rfl HAI2.out ?_)
        have HFEW := wall (show Calls Tryd.prog 44 #[.agg AL.toArray] w7 (FewOut a (p.take 60) w7) by
          have hb := (HF.out.at HH7.out.bel).1.1
          have := few_any a p w7 HAF.out.kl HAF.out.lb HAF.out.pl HAF.out.pm ((HAF.out.nats.below hb).more hb.size)
          rw [HAE.out] at this
          exact this)
        (with_reducible refine (HFEW.out).mono ?_); rintro e w8 ⟨lb, A8, c8, rfl, hlb8, hc8, hn8, hz8, hB8, hge8⟩
        have hp60 : (p.take 60).length ≤ 60 := by rw [List.length_take]; omega
        obtain ⟨p8, hp8⟩ : ∃ y, p.take 60 = y := ⟨_, rfl⟩
        rw [hp8] at hc8 hz8 hp60 ⊢
        have hgA : wr.heap.size < w7.heap.size := HK7.out.lt
        have HGE := wall (show ∀ ad : Addr, A8 = some ad → wr.heap.size < ad.block from fun ad had => Nat.lt_of_lt_of_le hgA (hge8 ad had))
        have HZ8 := wall hz8
        have HK8 := wall (HK7.out.next hB8 rfl)
        have HH8 := wall (HH7.out.old hB8)
        clear HFEW hz8 hB8 HK7 HH7 hp8 hgA hge8
        obtain ⟨a8, ha8⟩ : ∃ y : Ac, { a with lb := lb, A := A8, n := p8.length, c := c8 } = y := ⟨_, rfl⟩
        have HOK := wall (show ∀ key : List Nat, key.length = 32 → (∀ y ∈ key, y < 256) → Ac.Ok { a8 with key := key } p8 from fun key h1 h2 => by
          rw [← ha8]
          exact ⟨h1, h2, HAF.out.wh, HAF.out.wt, Nat.le_trans hlb8 (by decide), rfl, Nat.le_trans hp60 (by decide), hc8, hn8⟩)
        have hk8 : a8.key.length = 32 := by rw [← ha8]; exact HAF.out.kl
        have HA8 := wall (show a8.A = A8 by rw [← ha8])
        have HI8 := wall (acL_info hk8)
        have HO8 := wall (acL_one a8)
        have HN8 := wall (acL_length hk8)
        have HL8 := wall (show AL.toArray.size = (acL a8).toArray.size by rw [← HAE.out, List.size_toArray, List.size_toArray, acL_length HAF.out.kl, acL_length hk8])
        rw [ha8]
        have HK32 := wall hk8
        obtain ⟨M8, hM8⟩ : ∃ y, acL a8 = y := ⟨_, rfl⟩
        have HM8 := wall hM8
        rw [hM8] at HI8 HO8 HL8 HN8 ⊢
        clear ha8 hk8 hM8 HAF HAE hlb8 hc8 hn8 hp60
        go_upto_region 11 with (refine wpList_set_row rfl 81 (.tmp 12) (.tmp 39) rfl wr.heap.size M8.toArray rfl rfl 81 AL.toArray HK8.out HI8.out HL8.out HO8.out ?_; intro w9 K9 F9)
        have HJ := wall HH8.out.j
        have hh9 := HH8.out.far F9.out (fun y hy => by have := HGW.out; simp at hy; omega)
        have HR9 := wall (show Rd w2 gs gt gx gc wr.heap.size s t x sec a8 p8 w9 from ⟨hh9.ss, hh9.st, hh9.sx, hh9.sc, by rw [HM8.out]; exact K9.out, by rw [HA8.out]; exact (nats_other HZ8.out (Nat.le_refl _) F9.out (fun ad had => by have := HGE.out ad had; simp; omega)).more F9.out.size, by rw [HA8.out]; exact HGE.out, hh9.bel, hh9.o0, hh9.o1, hh9.o2, hh9.o3, HGW.out⟩)
        clear K9 F9 HH8 HK8 hh9 HZ8 HGE HA8 HI8 HO8 HL8
        have hcb := HR9.out.acb HK32.out
        have hc0 := hcb.d
        have hc1 := hcb.h
        clear hcb
        obtain ⟨ih, hih⟩ : ∃ y, inR a8.h = y := ⟨_, rfl⟩
        have HIH := wall hih
        clear hih
        simp only [Act.put, List.setIfInBounds_toArray, List.set_cons_zero, List.set_cons_succ]
        go_cut [13] (fun v w' => v = .bool ih ∧ w9 = w')
        case first =>
          by_cases h1 : 0 ≤ a8.h
          · by_cases h2 : a8.h < 8
            · go_wp2_with fail
              go_meet
              exact ⟨by rw [← HIH.out]; unfold inR; simp [h1, h2], rfl⟩
            · go_wp2_with fail
              go_meet
              exact ⟨by rw [← HIH.out]; unfold inR; simp [h1, h2], rfl⟩
          · go_wp2_with fail
            go_meet
            exact ⟨by rw [← HIH.out]; unfold inR; rw [decide_eq_false (fun q => by omega)], rfl⟩
        case rest =>
          obtain ⟨rfl, rfl⟩ := hcut
          obtain ⟨sk, hsk⟩ : ∃ y, skB sec a8 = y := ⟨_, rfl⟩
          have HSK := wall hsk
          clear hsk
          go_upto_region 12 with fail
          go_cut [60] (fun v w' => v = .bool sk ∧ w9 = w')
          case first =>
            cases ih with
            | true =>
              have hin : 0 ≤ a8.h ∧ a8.h < 8 := of_decide_eq_true HIH.out
              obtain ⟨y, hy⟩ : ∃ y, sec[a8.h.toNat]? = some y := ⟨_, List.getElem?_eq_getElem (by rw [HJ.out.sl]; omega)⟩
              have hcs := HR9.out.secCell hy
              have HY := wall hy
              clear hy
              go_wp2_with fail
              · rename_i h3
                go_meet
                exact ⟨by rw [← HSK.out]; unfold skB; rw [HIH.out, HY.out, decide_eq_true h3]; rfl, rfl⟩
              · rename_i h3
                go_meet
                exact ⟨by rw [← HSK.out]; unfold skB; rw [decide_eq_false h3]; rfl, rfl⟩
            | false =>
              go_wp2_with fail
              · go_meet
                exact ⟨by rw [← HSK.out]; unfold skB; rw [HIH.out, Bool.and_false]; rfl, rfl⟩
              · go_meet
                exact ⟨by rw [← HSK.out]; unfold skB; rw [HIH.out, Bool.and_false]; rfl, rfl⟩
          case rest =>
            obtain ⟨rfl, rfl⟩ := hcut
            cases sk with
            | true =>
              go_wp2_with fail
              go_light
              go_roundg (len - (i + 1))
              case measure => have := HG.out; omega
              case rel => exact ⟨i + 1, s, t, x, sec, by have := HG.out; omega, rfl, wall ⟨HR9.out.ss, HR9.out.st, HR9.out.sx, HR9.out.sc, HR9.out.bel, HJ.out, HR9.out.o0, HR9.out.o1, HR9.out.o2, HR9.out.o3⟩⟩
            | false =>
              have HKA9 := wall (HF.out.at HR9.out.bel).1.2
              have HKM := wall (show Blk w9 wr.heap.size 81 M8.toArray by rw [← HM8.out]; exact HR9.out.act)
              clear hc0 hc1 HIH
              go_upto_region 14 with (first | refine wpList_load_row rfl 23 _ rfl w.heap.size rfl 23 (b8 ka) (0, 0) _ HKA9.out Tryd.underlying23 rfl HAI.out ?_ | (refine wpList_store_frm rfl 23 (.tmp 62) (.tmp 61) rfl wr.heap.size 4 (b8 ka) rfl rfl 81 M8 HKM.out (by rw [b8_size, HKA.out.1, HN8.out]; decide) HAI.out (b8_one _) ?_; intro w10 K10 F10))
              obtain ⟨a9, ha9⟩ : ∃ y : Ac, { a8 with key := ka } = y := ⟨_, rfl⟩
              have HA9 := wall ha9
              have HR10 := wall (show Rd w2 gs gt gx gc wr.heap.size s t x sec a9 p8 w10 from HR9.out.setA F10 (by rw [← ha9, ← splice_key HK32.out HKA.out.1, HM8.out]; exact K10) (by rw [← ha9]))
              have HO9 := wall (show a9.Ok p8 by rw [← ha9]; exact HOK.out ka HKA.out.1 HKA.out.2)
              have HS9 := wall (show skB sec a9 = false by rw [← ha9]; exact HSK.out)
              clear HR9 HKA9 HKM K10 F10 ha9 HSK HM8 HK32 HN8
              obtain ⟨KS, hKS⟩ : ∃ y, x.ks.map (Value.int .i64) = y := ⟨_, rfl⟩
              have HKS := wall hKS
              have HKL := wall (show KS.length = 8 by rw [← hKS, List.length_map]; exact HR10.out.sx.ok.kl)
              have HRG := wall (show w10.rangeAt gx 0 KS.toArray.toList from HR10.out.sx.blk.rangeAt 0 KS (fun j v hv => by
                rw [Nat.zero_add]
                unfold xsL
                rw [List.getElem?_append_left (by rw [← hKS] at hv; exact (List.getElem?_eq_some_iff.1 hv).1), hKS]
                exact hv))
              have HKI := wall (show (Tryd.prog.info? 75).map (·.size) = some KS.toArray.size by rw [List.size_toArray, HKL.out]; exact int8_info)
              have HKO := wall (show KS.toArray.all (·.oneCell') = true from all_oneCell_toArray (fun v hv => by
                rw [← hKS] at hv
                obtain ⟨_, _, rfl⟩ := List.mem_map.1 hv
                rfl))
              have HKZ := wall (show (z8.map (Value.int .i64)).toArray.size = KS.toArray.size by rw [List.size_toArray, List.size_toArray, HKL.out]; rfl)
              clear hKS
              go_upto_region 15 with (first | refine wpList_load_arr rfl 75 _ rfl gx 0 rfl KS.toArray _ HRG.out Tryd.underlying75 rfl HKI.out ?_ | (refine wpList_new_row rfl 75 (.tmp 14) (.tmp 66) rfl w10.heap.size KS.toArray rfl rfl 75 (z8.map (Value.int .i64)).toArray (Blk.new _ _ _) HKI.out HKZ.out HKO.out w10.heap.size w10 ((Below.refl _ w10).alloc (Nat.le_refl _) _) (Nat.le_refl _) ?_; intro w11 K11 B11))
              have HW11 := wall K11.out
              have HR11 := wall (HR10.out.old B11.out)
              have hgW : wr.heap.size < w10.heap.size := HR10.out.act.lt
              have HGW2 := wall (show gx < w10.heap.size ∧ gs < w10.heap.size ∧ gt < w10.heap.size ∧ gc < w10.heap.size ∧ wr.heap.size < w10.heap.size from ⟨HR10.out.sx.blk.lt, HR10.out.ss.lt, HR10.out.st.lt, HR10.out.sc.lt, hgW⟩)
              obtain ⟨gW, hgw⟩ : ∃ y, w10.heap.size = y := ⟨_, rfl⟩
              rw [hgw] at HW11 HGW2 ⊢
              clear K11 B11 HR10 HRG HKO HKZ hgW hgw
              have HDO := wall (do_any gx x a9 p8 w11 HR11.out.sx HO9.out HR11.out.nat)
              have HK9 := wall (show (Tryd.prog.info? 81).map (·.size) = some (acL a9).toArray.size from acL_info HO9.out.kl)
              have HB9 := wall HR11.out.act
              obtain ⟨M9, hM9⟩ : ∃ y, acL a9 = y := ⟨_, rfl⟩
              have HM9 := wall hM9
              rw [hM9] at HDO HK9 HB9
              clear hM9
              go_wp2_with (refine wpList_load_row rfl 81 _ rfl wr.heap.size rfl 81 M9.toArray (0, 0) _ HB9.out Tryd.underlying81 rfl HK9.out ?_)
              (with_reducible refine (HDO.out).mono ?_); rintro e w12 ⟨D, ys, rfl, hD, hsx, hf⟩
              have HR12 := wall (HR11.out.setX hf hsx)
              have HW12 := wall (HW11.out.frm hf (by have := HGW2.out; simp; omega))
              have HDL := wall hD
              have HDI := wall (show (Tryd.prog.info? 23).map (·.size) = some (b8 D).size by rw [b8_size, hD]; exact dig_info)
              have HDZ := wall (show (b8 z32).size = (b8 D).size by rw [b8_size, b8_size, hD]; rfl)
              clear HR11 HW11 HDO HB9 hsx hf hD
              obtain ⟨E, hE⟩ : ∃ y, doE x a9 = y := ⟨_, rfl⟩
              have HE := wall hE
              obtain ⟨x1, hx1⟩ : ∃ y : Xs, (⟨doK x a9, ys, if a9.d % 7 = 5 then true else x.lk, if a9.d % 7 = 6 then true else x.dd⟩ : Xs) = y := ⟨_, rfl⟩
              have HX1 := wall hx1
              rw [hE]
              rw [hx1] at HR12
              clear hE hx1
              try simp only [Act.put, List.setIfInBounds_toArray, List.set_cons_zero, List.set_cons_succ]
              go_upto_region 16 with (refine wpList_new_row rfl 23 (.tmp 15) (.tmp 71) rfl w12.heap.size (b8 D) rfl rfl 23 (b8 z32) (Blk.new _ _ _) HDI.out HDZ.out (b8_one _) w12.heap.size w12 ((Below.refl _ w12).alloc (Nat.le_refl _) _) (Nat.le_refl _) ?_; intro w13 K13 B13)
              have HR13 := wall (HR12.out.old B13.out)
              have HW13 := wall (HW12.out.next B13.out rfl)
              clear K13 B13 HR12 HW12 HDI HDZ HDL
              try simp only [Act.put, List.setIfInBounds_toArray, List.set_cons_zero, List.set_cons_succ]
              obtain ⟨sy, hsy⟩ : ∃ y, decide (doE x a9 = 0 ∧ a9.d % 7 = 2 ∧ sec[a9.h.toNat]? = some true) = y := ⟨_, rfl⟩
              have HSY := wall hsy
              clear hsy
              go_cut [86] (fun v w' => v = .bool sy ∧ w13 = w')
              case first =>
                have hcb := HR13.out.acb HO9.out.kl
                have hc0 := hcb.d
                have hc1 := hcb.h
                clear hcb
                by_cases hE0 : (E : Int) = 0
                · have e0 : decide ((E : Int) = 0) = true := decide_eq_true hE0
                  have e0b : ((E : Int) == 0) = true := by rw [beq_iff_eq]; exact hE0
                  have HE0 := wall hE0
                  clear hE0
                  by_cases h2 : (a9.d : Int) % 7 = 2
                  · have hE' : doE x a9 = 0 := by rw [HE.out]; have := HE0.out; omega
                    have h2' : a9.d % 7 = 2 := by omega
                    obtain ⟨hin, hit⟩ := der_in hE' h2'
                    obtain ⟨y, hy⟩ : ∃ y, sec[a9.h.toNat]? = some y := ⟨_, List.getElem?_eq_getElem (by rw [HJ.out.sl]; omega)⟩
                    have hcs := HR13.out.secCell hy
                    have HY := wall hy
                    have HE2 := wall (And.intro hE' h2')
                    clear hy hE' h2' hit
                    go_wp2_with fail
                    go_meet
                    refine ⟨?_, rfl⟩
                    rw [← HSY.out, HY.out]
                    congr 1
                    cases y with
                    | true => exact (decide_eq_true ⟨HE2.out.1, HE2.out.2, rfl⟩).symm
                    | false => exact (decide_eq_false (fun q => by cases q.2.2)).symm
                  · go_wp2_with fail
                    go_meet
                    exact ⟨by rw [← HSY.out, decide_eq_false (fun q => h2 (by have := q.2.1; omega))], rfl⟩
                · go_wp2_with fail
                  go_meet
                  exact ⟨by rw [← HSY.out, decide_eq_false (fun q => hE0 (by have := q.1; rw [HE.out] at this; omega))], rfl⟩
              case rest =>
              obtain ⟨rfl, rfl⟩ := hcut
              go_upto_if 86 with fail
              go_cut [] (fun w' => Wall (Rd w2 gs gt gx gc wr.heap.size s t x1 (sec1 sec x a9) a9 p8 w') ∧ Wall (Blk w' gW 75 KS.toArray))
              case first =>
                cases sy with
                | true =>
                  obtain ⟨hE', h2', hy⟩ := of_decide_eq_true HSY.out
                  obtain ⟨hin, hit⟩ := der_in hE' h2'
                  obtain ⟨z, hz⟩ : ∃ y, sec[a9.t.toNat]? = some y := ⟨_, List.getElem?_eq_getElem (by rw [HJ.out.sl]; omega)⟩
                  have hct := HR13.out.secCell hz
                  have hft := HR13.out.sc.frozen a9.t.toNat
                  have hc2 := (HR13.out.acb HO9.out.kl).t
                  have HE2 := wall (And.intro hE' (And.intro h2' hy))
                  clear hz hE' h2' hy hin
                  go_wp2_with fail
                  go_meet
                  exact ⟨by rw [sec1_yes HE2.out.1 HE2.out.2.1 HE2.out.2.2]; exact wall (HR13.out.setC1 _ true), wall (HW13.out.far' gc _ (by have := HGW2.out; omega) _)⟩
                | false =>
                  go_wp2_with fail
                  go_meet
                  exact ⟨by (have e : sec1 sec x a9 = sec := by (unfold sec1; rw [if_neg (of_decide_eq_false HSY.out)])); rw [e]; exact HR13, HW13⟩
              case rest =>
                obtain ⟨HR14, HW14⟩ := hcut
                obtain ⟨w14, rfl⟩ : ∃ wo : World, wo = wc := ⟨_, rfl⟩
                clear HR13 HW13
                obtain ⟨K2, hK2⟩ : ∃ y, x1.ks.map (Value.int .i64) = y := ⟨_, rfl⟩
                have HK2 := wall hK2
                have HKL2 := wall (show K2.length = 8 by rw [← hK2, List.length_map]; exact HR14.out.sx.ok.kl)
                have HRG2 := wall (HR14.out.ks hK2)
                have HKI2 := wall (show (Tryd.prog.info? 75).map (·.size) = some K2.toArray.size by rw [List.size_toArray, HKL2.out]; exact int8_info)
                have HXO := wall (And.intro HR14.out.sx.ok (show x.Ok from HJ.out.ks.xo))
                clear hK2
                go_wp2_with (refine wpList_load_arr rfl 75 _ rfl gx 0 rfl K2.toArray _ HRG2.out Tryd.underlying75 rfl HKI2.out ?_)
                clear HRG2
                obtain ⟨gO, rfl⟩ : ∃ q, q = gk := ⟨_, rfl⟩
                obtain ⟨wO, rfl⟩ : ∃ q : World, q = wr := ⟨_, rfl⟩
                go_loopg [94] 8 (fun gm s94 wr => ∃ j : Nat, j + gm = 8 ∧ s94 = .int .i64 (j : Int) ∧ Wall (Rd w2 gs gt gx gc wO.heap.size s t x1 (secU sec x x1 a9 j) a9 p8 wr) ∧ Wall (Blk wr gW 75 KS.toArray))
                case atStart => exact ⟨0, by omega, rfl, by rw [secU_zero HJ.out.sl]; exact HR14, HW14⟩
                case round =>
                  clear HR14 HW14
                  obtain ⟨j, hg, rfl, HR15, HW15⟩ := hrel
                  have HG2 := wall hg
                  have hj : j ≤ 8 := by omega
                  clear hg
                  by_cases hj8 : j < 8
                  · have hj8' : (j : Int) < 8 := by omega
                    have hix := fun W => run_index_arr (P := Tryd.prog) 75 3 8 Tryd.underlying75 (fun _ => by kernel_rfl) (fun _ => by kernel_rfl) K2.toArray .i64 (j : Int) j rfl hj8 _ (kx_at HXO.out.1 HK2.out hj8) W
                    have hcb := HR15.out.acb HO9.out.kl
                    have hc0 := hcb.d
                    have hc3 := hcb.k
                    have hcs := HR15.out.secCell (secU_at sec x x1 a9 hj8)
                    have hfs := HR15.out.sc.frozen j
                    have hcw : wr.cell? ⟨gW, j, none⟩ = some (.int .i64 (kx x (j : Int))) := by rw [HW15.out.cell j]; exact kx_at HXO.out.2 HKS.out hj8
                    clear hcb
                    go_wp2_with fail
                    · rename_i h1
                      go_light
                      go_roundg (8 - (j + 1))
                      case measure => have := HG2.out; omega
                      case rel => exact ⟨j + 1, by have := HG2.out; omega, rfl, by rw [secU_put hj8 (show secA sec x x1 a9 j = false by (unfold secA; rw [if_pos (by simpa using h1)]))]; exact wall (HR15.out.setC1 j false), wall (HW15.out.far' gc _ (by have := HGW2.out; omega) _)⟩
                    · rename_i h1 h2 h3
                      go_light
                      go_roundg (8 - (j + 1))
                      case measure => have := HG2.out; omega
                      case rel => exact ⟨j + 1, by have := HG2.out; omega, rfl, by rw [secU_put hj8 (show secA sec x x1 a9 j = (a9.k == 1) by (unfold secA; rw [if_neg (by simpa using h1), if_pos ⟨h2, by omega⟩]; by_cases q : a9.k = 1 <;> simp [q]))]; exact wall (HR15.out.setC1 j _), wall (HW15.out.far' gc _ (by have := HGW2.out; omega) _)⟩
                    · rename_i h1 h2 h3
                      go_light
                      go_roundg (8 - (j + 1))
                      case measure => have := HG2.out; omega
                      case rel => exact ⟨j + 1, by have := HG2.out; omega, rfl, by rw [← secU_stay _ _ _ _ hj8 (by (unfold secA; rw [if_neg (by simpa using h1), if_neg (fun q => by have := q.2; omega)]))]; exact HR15, HW15⟩
                    · rename_i h1 h2
                      go_light
                      go_roundg (8 - (j + 1))
                      case measure => have := HG2.out; omega
                      case rel => exact ⟨j + 1, by have := HG2.out; omega, rfl, by rw [← secU_stay _ _ _ _ hj8 (by (unfold secA; rw [if_neg (by simpa using h1), if_neg (fun q => h2 q.1)]))]; exact HR15, HW15⟩
                  · have hje : j = 8 := by omega
                    subst hje
                    have HR16 := wall (show Rd w2 gs gt gx gc wO.heap.size s t x1 (secN sec x x1 a9) a9 p8 wr by rw [← secU_eight]; exact HR15.out)
                    clear HR15 HW15 HG2 hj hj8
                    have HAP := wall (ap_any gs s a9 p8 wr (HT.out.old (HF.out.at HR16.out.bel).1.1) HR16.out.ss HO9.out HR16.out.nat)
                    have HB16 := wall HR16.out.act
                    rw [HM9.out] at HAP HB16
                    go_wp2_with (refine wpList_load_row rfl 81 _ rfl wO.heap.size rfl 81 M9.toArray (0, 0) _ HB16.out Tryd.underlying81 rfl HK9.out ?_)
                    (with_reducible refine (HAP.out).mono ?_); rintro e w17 ⟨rfl, hsl, hf⟩
                    have HR17 := wall (HR16.out.setS hf hsl)
                    clear HR16 HAP HB16 hsl hf
                    obtain ⟨D1, hD1⟩ : ∃ y, apD s a9 p8 = y := ⟨_, rfl⟩
                    obtain ⟨E1, hE1⟩ : ∃ y, apE s a9 = y := ⟨_, rfl⟩
                    have HD1 := wall hD1
                    have HE1 := wall hE1
                    have HDL1 := wall (show D1.length = 32 by rw [← hD1]; exact apD_length s a9 p8)
                    rw [hD1, hE1]
                    have HDI1 := wall (show (Tryd.prog.info? 23).map (·.size) = some (b8 D1).size by rw [b8_size, HDL1.out]; exact dig_info)
                    have HDZ1 := wall (show (b8 z32).size = (b8 D1).size by rw [b8_size, b8_size, HDL1.out]; rfl)
                    clear hD1 hE1
                    try simp only [Act.put, List.setIfInBounds_toArray, List.set_cons_zero, List.set_cons_succ]
                    go_upto_region 27 with (refine wpList_new_row rfl 23 (.tmp 19) (.tmp 122) rfl w17.heap.size (b8 D1) rfl rfl 23 (b8 z32) (Blk.new _ _ _) HDI1.out HDZ1.out (b8_one _) w17.heap.size w17 ((Below.refl _ w17).alloc (Nat.le_refl _) _) (Nat.le_refl _) ?_; intro w18 K18 B18)
                    have HW18 := wall K18.out
                    have HR18 := wall (HR17.out.old B18.out)
                    have hg19 : wO.heap.size < w17.heap.size := HR17.out.act.lt
                    have HG19 := wall (show wO.heap.size < w17.heap.size ∧ gs < w17.heap.size ∧ gt < w17.heap.size ∧ gx < w17.heap.size ∧ gc < w17.heap.size from ⟨hg19, HR17.out.ss.lt, HR17.out.st.lt, HR17.out.sx.blk.lt, HR17.out.sc.lt⟩)
                    obtain ⟨g19, hg⟩ : ∃ y, w17.heap.size = y := ⟨_, rfl⟩
                    rw [hg] at HW18 HG19 ⊢
                    clear K18 B18 HR17 hg19 hg
                    have hc3 := (HR18.out.acb HO9.out.kl).k
                    try simp only [Act.put, List.setIfInBounds_toArray, List.set_cons_zero, List.set_cons_succ]
                    go_upto_if 126 with fail
                    obtain ⟨k2, hk2⟩ : ∃ y, (if a9.k = 1 then kb else ka) = y := ⟨_, rfl⟩
                    have HK2L := wall (show k2.length = 32 ∧ ∀ y ∈ k2, y < 256 by
                      rw [← hk2]
                      split
                      · exact HKB.out
                      · exact HKA.out)
                    have hk9 : a9.key = ka := by rw [← HA9.out]
                    have HKEY := wall (show a9.k ≠ 1 → k2 = a9.key by
                      intro q
                      rw [← hk2, if_neg q, hk9])
                    have HK2 := wall hk2
                    have HO10 := wall (show Ac.Ok { a9 with key := k2 } p8 from ⟨HK2L.out.1, HK2L.out.2, HO9.out.wh, HO9.out.wt, HO9.out.lb, HO9.out.pl, HO9.out.pm, HO9.out.c, HO9.out.nil⟩)
                    have HA9K := wall hk9
                    clear hk2 hk9
                    go_cut [] (fun w' => Wall (Rd w2 gs gt gx gc wO.heap.size (apS s a9 p8) t x1 (secN sec x x1 a9) { a9 with key := k2 } p8 w') ∧ Wall (Blk w' g19 23 (b8 D1)))
                    case first =>
                      by_cases hk1 : a9.k = 1
                      · have HKB18 := wall (HF.out.at HR18.out.bel).2
                        have HB18 := wall HR18.out.act
                        have HN9 := wall (acL_length HO9.out.kl)
                        rw [HM9.out] at HB18 HN9
                        have HKK := wall (show k2 = kb by rw [← HK2.out, if_pos hk1])
                        go_wp2_with (first | refine wpList_load_row rfl 23 _ rfl (w.heap.size + 1) rfl 23 (b8 kb) (0, 0) _ HKB18.out Tryd.underlying23 rfl HBI.out ?_ | (refine wpList_store_frm rfl 23 (.tmp 128) (.tmp 127) rfl wO.heap.size 4 (b8 kb) rfl rfl 81 M9 HB18.out (by rw [b8_size, HKB.out.1, HN9.out]; decide) HBI.out (b8_one _) ?_; intro w19 K19 F19))
                        go_meet
                        exact ⟨wall (HR18.out.setA F19 (by rw [HKK.out, ← splice_key HO9.out.kl HKB.out.1, HM9.out]; exact K19) rfl), wall (HW18.out.frm F19 (by have := HG19.out; simp; omega))⟩
                      · go_wp2_with fail
                        go_meet
                        exact ⟨by rw [HKEY.out hk1]; exact HR18, HW18⟩
                    case rest =>
                      obtain ⟨HR19, HW19⟩ := hcut
                      obtain ⟨w19, rfl⟩ : ∃ wo : World, wo = wc := ⟨_, rfl⟩
                      clear HR18 HW18 hc3
                      have HAP2 := wall (ap_any gt t { a9 with key := k2 } p8 w19 (HT.out.old (HF.out.at HR19.out.bel).1.1) HR19.out.st HO10.out HR19.out.nat)
                      have HB19 := wall HR19.out.act
                      have HKM2 := wall (show (Tryd.prog.info? 81).map (·.size) = some (acL { a9 with key := k2 }).toArray.size from acL_info HO10.out.kl)
                      obtain ⟨r1, r2, r3⟩ := round HJ.out HO9.out HO10.out HKEY.out (fun q => by
                        have := HS9.out
                        unfold skB at this
                        rw [q.2.1, q.2.2, decide_eq_true (show (a9.d : Int) % 7 = 3 by omega)] at this
                        cases this)
                      have HJ2 := wall (r3 x1 HXO.out.1 (by rw [← HX1.out]) (by rw [← HX1.out]) (by rw [← HX1.out]))
                      rw [← r1, ← r2, HD1.out, HE1.out] at HAP2
                      clear r1 r2 r3
                      obtain ⟨M10, hM10⟩ : ∃ y, acL { a9 with key := k2 } = y := ⟨_, rfl⟩
                      rw [hM10] at HAP2 HB19 HKM2
                      clear hM10
                      go_wp2_with (refine wpList_load_row rfl 81 _ rfl wO.heap.size rfl 81 M10.toArray (0, 0) _ HB19.out Tryd.underlying81 rfl HKM2.out ?_)
                      (with_reducible refine (HAP2.out).mono ?_); rintro e w20 ⟨rfl, hsl, hf⟩
                      have HR20 := wall (HR19.out.setT hf hsl)
                      have HW20 := wall (HW19.out.frm hf (by have := HG19.out; simp; omega))
                      clear HR19 HW19 HAP2 HB19 hsl hf
                      try simp only [Act.put, List.setIfInBounds_toArray, List.set_cons_zero, List.set_cons_succ]
                      go_upto_region 30 with (refine wpList_new_row rfl 23 (.tmp 21) (.tmp 133) rfl w20.heap.size (b8 D1) rfl rfl 23 (b8 z32) (Blk.new _ _ _) HDI1.out HDZ1.out (b8_one _) w20.heap.size w20 ((Below.refl _ w20).alloc (Nat.le_refl _) _) (Nat.le_refl _) ?_; intro w21 K21 B21)
                      have HV21 := wall K21.out
                      have HW21 := wall (HW20.out.next B21.out rfl)
                      have HR21 := wall (HR20.out.old B21.out)
                      clear K21 B21 HR20 HW20
                      have heq := fun W => eq_arr W 32 23 D1 D1 HDL1.out HDL1.out Tryd.underlying23
                      rw [decide_eq_true rfl] at heq
                      try simp only [Act.put, List.setIfInBounds_toArray, List.set_cons_zero, List.set_cons_succ]
                      go_wp2_with (first | refine wpList_load_row rfl 23 _ rfl g19 rfl 23 (b8 D1) (0, 0) _ HW21.out Tryd.underlying23 rfl HDI1.out ?_ | refine wpList_load_row rfl 23 _ rfl w20.heap.size rfl 23 (b8 D1) (0, 0) _ HV21.out Tryd.underlying23 rfl HDI1.out ?_)
                      go_light
                      go_roundg (len - (i + 1))
                      case measure => have := HG.out; omega
                      case rel => exact ⟨i + 1, _, _, x1, _, by have := HG.out; omega, rfl, wall ⟨HR21.out.ss, HR21.out.st, HR21.out.sx, HR21.out.sc, HR21.out.bel, HJ2.out, HR21.out.o0, HR21.out.o1, HR21.out.o2, HR21.out.o3⟩⟩
    · have hin : i = len := by omega
      subst hin
      clear HG hlt hi
      go_wp2_with fail
      (with_reducible refine (scount_any gs s _ HH.out.ss).mono ?_); rintro e wy ⟨rfl, hB7⟩
      have HH7 := wall (HH.out.old hB7)
      clear hB7 HH
      go_wp2_with fail
      (with_reducible refine (scount_any gt t _ HH7.out.st).mono ?_); rintro e wz ⟨rfl, hB8⟩
      have HH8 := wall (HH7.out.old hB8)
      have hcnt := HH8.out.j.count
      obtain ⟨cn, hcn⟩ : ∃ y, cntE s 8 = y := ⟨_, rfl⟩
      rw [hcn] at hcnt ⊢
      rw [← hcnt]
      clear hB8 HH7 hcnt hcn
      go_wp2_with fail
      go_light
      go_ret
      exact ⟨rfl, (HF.out.at HH8.out.bel).1.1⟩
end Slot
end Go.Proofs.YtpakdcgcgekcfaaDoor

/-
  SlotHides: with the arguments as they come in.
-/
set_option linter.unusedSimpArgs false
set_option linter.unusedVariables false
namespace Go.Proofs.YtpakdcgcgekcfaaDoor
open Go.RowKit

namespace Slot
open Otp R1 Sha Aes
theorem hides_frame (A : Option Addr) (len cap : Nat) (rows : List (List Value)) (z1 z2 : List Int) (w : World) (hT : STab w) (hr : RowsW w 38 ([.int .u8, .int .i64, .int .i64, .int .i64] ++ List.replicate 32 (.int .u8) ++ [.str, .sl .u8]) A len cap rows)
    (l1 : z1.length = 32) (b1 : ∀ z ∈ z1, (Lit.int .u8 z).wf = true) (l2 : z2.length = 32) (b2 : ∀ z ∈ z2, (Lit.int .u8 z).wf = true) :
    Calls Tryd.prog 7 #[.slice A len cap, .agg (z1.map (Value.int .u8)).toArray, .agg (z2.map (Value.int .u8)).toArray] w (TrueBelow w) := by
  obtain ⟨qs, h1, h2, h3⟩ := acts_of hr
  obtain ⟨e1, f1⟩ := u8_ints z1 b1
  obtain ⟨e2, f2⟩ := u8_ints z2 b2
  rw [e1, e2]
  exact hides_any A len cap qs _ _ w hT h1 h2 h3 ⟨by rw [List.length_map]; exact l1, f1⟩ ⟨by rw [List.length_map]; exact l2, f2⟩
end Slot
end Go.Proofs.YtpakdcgcgekcfaaDoor
