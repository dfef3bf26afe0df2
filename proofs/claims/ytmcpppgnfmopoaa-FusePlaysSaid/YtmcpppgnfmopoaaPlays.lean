/-
  FusePlays, walked.
-/
import Derived.Test.YtmcpppgnfmopoaaProg
import Derived.Test.YtmcpppgnfmopoaaMem
import Derived.Test.YtmcpppgnfmopoaaDo
import Derived.Test.YtmcpppgnfmopoaaFuseCopy
import Derived.Test.YtmcpppgnfmopoaaFuseSame
import Derived.Deep.CutRange
import Derived.Deep.CutBlock
import Derived.Deep.DeepCutAuto
import Derived.Deep.LoopGhost
import Derived.Deep.RegionWith
import Derived.Deep.QuietTactic
import Derived.BigQuiet
namespace Go.Proofs.Ytmcpppgnfmopoaa
open Go.RowKit

namespace Fuse
structure ActD where
  k : Int
  i : Int
  j : Int
  v : Int
  g : Int
def ActD.ok (t : ActD) : Prop := 0 ≤ t.k ∧ (Lit.int .i64 t.i).wf = true ∧ (Lit.int .i64 t.j).wf = true ∧ 0 ≤ t.v ∧ t.v < 4294967296 ∧ 0 ≤ t.g ∧ t.g < 4294967296 ∧ t.i ≤ 9223372036854775807 ∧ t.j ≤ 9223372036854775807
def Acts (w : World) (B : Nat) (a : Option Addr) (l : List ActD) : Prop := ∀ (n : Nat) (t : ActD), l[n]? = some t → t.ok ∧ ∃ b off, a = some ⟨b, off, none⟩ ∧ b < B ∧
  w.cell? ⟨b, off + n * 5, none⟩ = some (.int .u8 t.k) ∧ w.cell? ⟨b, off + n * 5 + 1, none⟩ = some (.int .i64 t.i) ∧ w.cell? ⟨b, off + n * 5 + 2, none⟩ = some (.int .i64 t.j) ∧ w.cell? ⟨b, off + n * 5 + 3, none⟩ = some (.int .u32 t.v) ∧ w.cell? ⟨b, off + n * 5 + 4, none⟩ = some (.int .u32 t.g)
theorem Acts.below {w w' : World} {B : Nat} {a : Option Addr} {l : List ActD} (h : Acts w B a l) (hb : Below B w w') : Acts w' B a l := fun n t ht => by
  obtain ⟨h1, b, off, h2, h3, h4, h5, h6, h7, h8⟩ := h n t ht
  exact ⟨h1, b, off, h2, h3, (hb.cell (p := ⟨b, _, none⟩) h3).trans h4, (hb.cell (p := ⟨b, _, none⟩) h3).trans h5, (hb.cell (p := ⟨b, _, none⟩) h3).trans h6, (hb.cell (p := ⟨b, _, none⟩) h3).trans h7, (hb.cell (p := ⟨b, _, none⟩) h3).trans h8⟩

theorem locked_at {p b : Nat} {vs : List Nat} {ls : List Bool} (j : Nat) (l : Bool) (w : World) (h : Fz w p b vs ls) (hj : j < vs.length) (hl : ls[j]? = some l) :
    Calls Try.prog 21 #[.pointer (some ⟨p, 0, none⟩), .int .i64 (j : Int)] w fun e w' => e = .returned (.bool l) ∧ w' = w :=
  (locked_any (j : Int) w h).mono fun e w' hh => ⟨by
    rw [hh.1]
    have hr : inR vs (j : Int) = true := by unfold inR; exact decide_eq_true (by omega)
    simp [lockedB, hr, hl], hh.2.symm⟩

def PlaysAt (w : World) (p b x c d n : Nat) (wr : World) : Prop := ∃ vs ls, Fz wr p b vs ls ∧ Rz wr x c d vs ls ∧ vs.length = n ∧ Below w.heap.size w wr

set_option maxRecDepth 100000 in
set_option maxHeartbeats 4000000 in
theorem plays_any (k : Int) (a : Option Addr) (len cap : Nat) (l : List ActD) (w : World) (hk0 : 0 ≤ k) (hk1 : k < 256) (hl : l.length = len) (hm : len ≤ maxLen) (hz : Acts w w.heap.size a l) :
    Calls Try.prog 6 #[.int .u8 k, .slice a len cap] w (TrueBelow w) := by
  unfold maxLen at hm
  have hm' : len ≤ 9223372036854775807 := by omega
  have HZ := Lib.hid hz
  have HL := Lib.hid hl
  clear hz hl hm
  go_enter Try.func6, Try.ntmps6
  go_wp2_with fail
  (with_reducible refine (awake_any _).mono ?_); rintro e w0 ⟨rfl, hb0⟩
  go_wp2_with fail
  have hkn0 : 0 ≤ k % 9 := by omega
  have hkn1 : k % 9 < 9 := by omega
  generalize k % 9 = nn at *
  obtain ⟨n, rfl⟩ := Int.eq_ofNat_of_zero_le hkn0
  (with_reducible refine (new_nat n _ (by omega)).mono ?_); rintro e w1 ⟨rfl, hf1, hb1, hs1⟩
  go_wp2_with fail
  (with_reducible refine (rnew_any n _ (by omega)).mono ?_); rintro e w2 ⟨x, c, d, rfl, hr2, hx2, hc2, hd2, hb2⟩
  have hf2 := hf1.below hb2 hf1.ltp hf1.ltb
  have hB2 := below_then (below_then hb0 hb1 (Nat.le_refl _)) hb2 (Nat.le_refl _)
  have hP0 : PlaysAt w (w0.heap.size + 1) w0.heap.size x c d n w2 := ⟨_, _, hf2, hr2, by simp, hB2⟩
  have hwb : w.heap.size ≤ w0.heap.size := hb0.size
  have hwx : w.heap.size ≤ x ∧ w.heap.size ≤ c ∧ w.heap.size ≤ d := by have := hb1.size; omega
  have HP0 := Lib.hid hP0
  clear hf1 hb1 hs1 hr2 hb2 hf2 hB2 hP0 hb0
  generalize hpp : w0.heap.size + 1 = p at *
  have hwp : w.heap.size ≤ p := by omega
  clear hpp
  generalize w0.heap.size = b at *
  go_upto_block 0 with fail
  go_cut [] (fun w' => PlaysAt w p b x c d n w')
  case first =>
    go_wp2_with fail
    go_loopg [36] len (fun g s36 wr => ∃ i : Nat, i + g = len ∧ s36 = .int .i64 (i : Int) ∧ PlaysAt w p b x c d n wr)
    case atStart => exact ⟨0, by omega, rfl, HP0.out⟩
    case round =>
      obtain ⟨i, hg, rfl, vs, ls, hF, hR, hvn, hB⟩ := hrel
      have HG := Lib.hid hg
      have hig : i ≤ len := by omega
      have HB := Lib.hid hB
      have HF := Lib.hid hF
      have HR := Lib.hid hR
      have HVN := Lib.hid hvn
      clear hg hB hF hR hvn
      by_cases hlt : i < len
      · obtain ⟨t, ht⟩ : ∃ t, l[i]? = some t := ⟨_, List.getElem?_eq_getElem (by have := HL.out; omega)⟩
        obtain ⟨hok, ba, off, rfl, hbl, hc0, hc1, hc2', hc3, hc4⟩ := (HZ.out.below HB.out) i t ht
        obtain ⟨tk, ti, tj, tv, tg⟩ := t
        simp only at hc0 hc1 hc2' hc3 hc4
        obtain ⟨ho1, ho2, ho3, ho4, ho5, ho6, ho7, ho8, ho9⟩ := hok
        simp only at ho1 ho2 ho3 ho4 ho5 ho6 ho7 ho8 ho9
        have HO1 := Lib.hid ho1
        have HO2 := Lib.hid ho2
        have HO3 := Lib.hid ho3
        have HOV4 := Lib.hid ho4
        have HOV5 := Lib.hid ho5
        have HOV6 := Lib.hid ho6
        have HOV7 := Lib.hid ho7
        have HOV8 := Lib.hid ho8
        have HOV9 := Lib.hid ho9
        clear ht ho1 ho2 ho3 ho4 ho5 ho6 ho7 ho8 ho9
        by_cases h50 : (50 : Int) ≤ (i : Int)
        · go_wp2_with fail
          go_meet
          exact ⟨vs, ls, HF.out.frm ((Frm.refl [] wr).alloc _) (by simp) (by simp), HR.out.alloc _, HVN.out, HB.out.alloc HB.out.size _⟩
        · go_upto_region 12 with fail
          have hF1 := HF.out.frm ((Frm.refl [] wr).alloc (.cells #[.int .u8 tk, .int .i64 ti, .int .i64 tj, .int .u32 tv, .int .u32 tg] 54)) (by simp) (by simp)
          have hR1 := HR.out.alloc (.cells #[.int .u8 tk, .int .i64 ti, .int .i64 tj, .int .u32 tv, .int .u32 tg] 54)
          have hB1 := HB.out.alloc HB.out.size (.cells #[.int .u8 tk, .int .i64 ti, .int .i64 tj, .int .u32 tv, .int .u32 tg] 54)
          have hA1 := Blk.new wr 54 #[.int .u8 tk, .int .i64 ti, .int .i64 tj, .int .u32 tv, .int .u32 tg]
          have hwl : wr.heap.size < (wr.alloc (.cells #[.int .u8 tk, .int .i64 ti, .int .i64 tj, .int .u32 tv, .int .u32 tg] 54)).heap.size := by simp
          have hltr := HR.out.lts
          have hltf := HF.out.ltp
          have hltb := HF.out.ltb
          have HF1 := Lib.hid hF1
          have HR1 := Lib.hid hR1
          have HB1 := Lib.hid hB1
          have HA1 := Lib.hid hA1
          clear hF1 hR1 hB1 hA1 HF HR HB hc0 hc1 hc2' hc3 hc4
          generalize hw3 : wr.alloc (.cells #[.int .u8 tk, .int .i64 ti, .int .i64 tj, .int .u32 tv, .int .u32 tg] 54) = w3 at *
          clear hw3
          generalize wr.heap.size = q at *
          go_wp2_with fail
          (with_reducible refine (words_any _ HF1.out).mono ?_); rintro e w4 ⟨v4, rfl, hO4, hb4⟩
          obtain ⟨A4, c4, rfl, hvc4, hm4, hN4⟩ := hO4.form HF1.out.word
          have hnb4 := Own32.nilc hO4
          have hF4 := HF1.out.below hb4 (by omega) (by omega)
          have hR4 := HR1.out.frm (Below.frm' hb4) (by simp) (by simp) (by simp)
          have hB4 := below_then HB1.out hb4 (Nat.le_refl _)
          have hA4 := (HA1.out.below hb4 hwl).cell
          have hwl4 : w3.heap.size ≤ w4.heap.size := hb4.size
          have HVW := Lib.hid HF1.out.word
          have HO4 := Lib.hid hO4
          have HF4 := Lib.hid hF4
          have HR4 := Lib.hid hR4
          have HB4 := Lib.hid hB4
          clear hO4 hF4 hR4 hB4 HF1 HR1 HB1 HA1 hm4 hN4 hnb4
          go_upto_region 13 with fail
          go_cut [59] (fun v w' => v = .bool false ∧ ∃ vs' ls', Fz w' p b vs' ls' ∧ Rz w' x c d vs' ls' ∧ More vs vs' ∧ Own32 w' w3.heap.size (.slice A4 vs.length c4) vs ∧ Below w.heap.size w w')
          case first =>
            have hx0 := HR4.out.hd0.1
            go_region_with (first
              | (go_at_call 20; (with_reducible refine (do_any tk ti tj tv tg _ HF4.out.drew HR4.out.drew HO1.out HOV4.out HOV5.out HOV6.out HOV7.out HOV8.out HOV9.out HO2.out HO3.out).mono ?_); rintro e w5 ⟨rfl, vs', ls', hF5, hR5, hM5, hf5⟩; have hx5 := hR5.hd0.1)
              | (go_at_call 18; (with_reducible refine (words_any _ hF5).mono ?_); rintro e w6 ⟨v6, rfl, hO6, hb6⟩; have hx6 := (hR5.frm (Below.frm' hb6) (by simp) (by simp) (by simp)).hd0.1; have hR6 := hR5.frm (Below.frm' hb6) (by simp) (by simp) (by simp); have hF6 := hF5.below hb6 hF5.ltp hF5.ltb; obtain ⟨A6, c6, rfl, hvc6, hm6, hN6⟩ := hO6.form hF5.word)
              | (go_at_call 17; go_must ((with_reducible refine (same_len A6 (some ⟨c, 0, none⟩) _ _ c6 vs'.length vs' vs' true w6.heap.size _ hN6 (hR6.nats) (by rfl) (by rfl) (by have := hF5.most; omega) (by have := hF5.most; omega) (by simp)).mono ?_); rintro e w7 ⟨rfl, nq, rfl⟩)))
            all_goals go_wp2_with fail
            all_goals go_meet
            all_goals
              refine ⟨rfl, vs', ls', hF6.drewN _, hR6.drewN _, hM5, Own32.drewN (own_frm (own_frm HO4.out.drew hf5 (by simp; omega)) (Below.frm' hb6) (by simp)) _, Below.drewN ?_ _⟩
              exact (Below.frm HB4.out.drew hf5 (Nat.le_refl _) (by simp; omega)).trans (hb6.mono (by have := HB4.out.size; have := hf5.size; simp at this; omega))
          case rest =>
            obtain ⟨rfl, vs', ls', hF5, hR5, hM5, hO5, hB5⟩ := hcut
            obtain ⟨w5, rfl⟩ : ∃ wo : World, wo = wc := ⟨_, rfl⟩
            have HF5 := Lib.hid hF5
            have HR5 := Lib.hid hR5
            have HM5 := Lib.hid hM5
            have HO5 := Lib.hid hO5
            have HB5 := Lib.hid hB5
            have hvl : vs'.length = n := by rw [hM5.1, HVN.out]
            have HVL := Lib.hid hvl
            clear hF5 hR5 hM5 hO5 hB5 hvl
            go_wp2_with fail
            (with_reducible refine (words_any _ HF5.out).mono ?_); rintro e w6 ⟨v6, rfl, hO6, hb6⟩
            obtain ⟨A6, c6, rfl, hvc6, hm6, hN6⟩ := hO6.form HF5.out.word
            have hF6 := HF5.out.below hb6 HF5.out.ltp HF5.out.ltb
            have hR6 := HR5.out.frm (Below.frm' hb6) (by simp) (by simp) (by simp)
            have hO56 : Own32 w6 w3.heap.size (.slice A4 vs.length c4) vs := own_frm HO5.out (Below.frm' hb6) (by simp)
            have hB6 := HB5.out.trans (hb6.mono HB5.out.size)
            have HF6 := Lib.hid hF6
            have HR6 := Lib.hid hR6
            have HO6 : Hid (Own32 w6 w3.heap.size (.slice A4 vs.length c4) vs) := hO56
            have HN6 := Lib.hid hN6
            have HB6 := Lib.hid hB6
            have hvm := HF5.out.most
            clear hF6 hR6 hO56 hN6 hB6 hO6 hm6
            obtain ⟨gO, rfl⟩ : ∃ gO : Nat, gO = gk := ⟨_, rfl⟩
            obtain ⟨wO, rfl⟩ : ∃ wO : World, wO = wr := ⟨_, rfl⟩
            go_wp2_with fail
            go_loopg [63] vs'.length (fun g s63 wz => ∃ j : Nat, j + g = vs'.length ∧ s63 = .int .i64 (j : Int) ∧ ∃ q, wz = w6.drewN q)
            case atStart => exact ⟨0, by omega, rfl, 0, rfl⟩
            case round =>
              obtain ⟨j, hg, rfl, hQ⟩ := hrel
              have HGJ := Lib.hid hg
              have hjg : j ≤ vs'.length := by omega
              clear hg
              by_cases hlt2 : j < vs'.length
              · have hlt3 : j < vs.length := by have := HM5.out.1; omega
                obtain ⟨y', hy'⟩ : ∃ y', vs'[j]? = some y' := ⟨_, List.getElem?_eq_getElem hlt2⟩
                obtain ⟨y, hy⟩ : ∃ y, vs[j]? = some y := ⟨_, List.getElem?_eq_getElem hlt3⟩
                obtain ⟨hy'2, b6, o6, rfl, _, hcy'⟩ := HN6.out j y' hy'
                obtain ⟨g4, rfl, _, _, hcy, _, _⟩ := Own32.at_ HO6.out hy
                have hR6' := HR6.out
                obtain ⟨y3, l3, hy3, hl3, _, _, hcl3, _, _⟩ := hR6'.at_ hlt2
                have hhd := hR6'.hd0.2
                have hy2 : y < 4294967296 := HVW.out j y hy
                have hsub : y &&& (4294967295 - y') = 0 := (sub_bits hy2 hy'2).2 (HM5.out.2 j y y' hy hy')
                have ha := u32_andNot_nat y y' hy2 hy'2
                rw [hsub] at ha
                have hF6z : Fz wr p b vs' ls' := by obtain ⟨q, rfl⟩ := hQ; exact HF6.out.drewN q
                have hz1 : wr.cell? ⟨b6, o6 + j, none⟩ = some (.int .u32 (y' : Int)) := by obtain ⟨q, rfl⟩ := hQ; exact hcy'
                have hz2 : wr.cell? ⟨g4, j, none⟩ = some (.int .u32 (y : Int)) := by obtain ⟨q, rfl⟩ := hQ; exact hcy
                have hz3 : wr.cell? ⟨x, 1, none⟩ = some (.slice (some ⟨d, 0, none⟩) vs'.length vs'.length) := by obtain ⟨q, rfl⟩ := hQ; exact hhd
                have hz4 : wr.cell? ⟨d, j, none⟩ = some (.bool l3) := by obtain ⟨q, rfl⟩ := hQ; exact hcl3
                have HQ := Lib.hid hQ
                have HFZ := Lib.hid hF6z
                have HL3 := Lib.hid hl3
                have hi1 : (j : Int) < (vs.length : Int) := by omega
                have hi2 : (j : Int) < (vs'.length : Int) := by omega
                have hi3 : (0 : Int) ≤ (j : Int) := by omega
                have hvm2 : vs.length ≤ 4096 := by have := HM5.out.1; omega
                have hgd : (bits .andNot .u32 (y : Int) (y' : Int) != 0) = false := by rw [ha]; rfl
                clear hQ hF6z hl3 hcy' hcy hhd hcl3 hy hy' hy3 hR6' hsub ha
                go_wp2_with fail
                go_quiet ((go_at_call 21; exact Calls.quiet_of_same (locked_at j l3 _ (HFZ.out.drewN _) hlt2 HL3.out)))
                go_wp2_with fail
                go_light
                go_roundg (vs'.length - (j + 1))
                case measure => have := HGJ.out; omega
                case rel =>
                  obtain ⟨q, rfl⟩ := HQ.out
                  exact ⟨j + 1, by omega, by go_num, _, World.drewN_drewN ..⟩
              · have HQ := Lib.hid hQ
                clear hQ
                go_wp2_with fail
                go_light
                go_roundg (len - (i + 1))
                case measure => have := HG.out; omega
                case rel =>
                  obtain ⟨q, rfl⟩ := HQ.out
                  exact ⟨i + 1, by omega, by go_num, vs', ls', HF6.out.drewN q, HR6.out.drewN q, HVL.out, below_drewN HB6.out q⟩
      · go_wp2_with fail
        go_meet
        exact ⟨vs, ls, HF.out, HR.out, HVN.out, HB.out⟩
  case rest =>
    obtain ⟨wa, rfl⟩ : ∃ wo : World, wo = wc := ⟨_, rfl⟩
    obtain ⟨vs, ls, hF, hR, hvn, hB⟩ := hcut
    have HF := Lib.hid hF
    have HR := Lib.hid hR
    have HB := Lib.hid hB
    have HVN := Lib.hid hvn
    clear hF hR hB hvn
    go_wp2_with fail
    (with_reducible refine (copy_any _ HF.out).mono ?_); rintro e w3 ⟨p', b', rfl, hF3, hp3, hb3, hB3⟩
    have hFa := HF.out.below hB3 HF.out.ltp HF.out.ltb
    have hRa := HR.out.frm (Below.frm' hB3) (by simp) (by simp) (by simp)
    have hBa := below_then HB.out hB3 (Nat.le_refl _)
    have HF3 := Lib.hid hF3
    have HFa := Lib.hid hFa
    have HRa := Lib.hid hRa
    have HBa := Lib.hid hBa
    have hlpb := HF.out.ltb
    have hlpp := HF.out.ltp
    have hltr := HR.out.lts
    have hwa : w.heap.size ≤ wa.heap.size := HB.out.size
    clear hF3 hFa hRa hBa hB3
    go_upto_block 4 with fail
    go_cut [] (fun w' => w3 = w')
    case first =>
      go_wp2_with fail
      go_loopg [93] n (fun g s93 wz => ∃ j : Nat, j + g = n ∧ s93 = .int .i64 (j : Int) ∧ w3 = wz)
      case atStart => exact ⟨0, by omega, rfl, rfl⟩
      case round =>
        obtain ⟨j, hg, rfl, rfl⟩ := hrel
        have HGJ := Lib.hid hg
        have hjg : j ≤ n := by omega
        clear hg
        by_cases hlt : j < n
        · have hj : j < vs.length := by rw [HVN.out]; exact hlt
          have HL3 : Hid ((List.replicate vs.length false)[j]? = some false) := by show _ = _; rw [List.getElem?_replicate, if_pos hj]
          go_wp2_with fail
          (with_reducible refine (locked_at j false _ HF3.out hj HL3.out).mono ?_); rintro e w4 ⟨rfl, rfl⟩
          go_wp2_with fail
          go_light
          go_roundg (n - (j + 1))
          case measure => have := HGJ.out; omega
          case rel => exact ⟨j + 1, by omega, by go_num, rfl⟩
        · go_wp2_with fail
          go_meet
          rfl
    case rest =>
      obtain rfl := hcut
      go_wp2_with fail
      (with_reducible refine (program_any 0 4294967295 _ HF3.out (by decide) (by decide)).mono ?_); rintro e w4 ⟨rfl, hF4, hf4⟩
      have hFb := HFa.out.frm hf4 (by simp; omega) (by simp; omega)
      have hRb := HRa.out.frm hf4 (by simp; omega) (by simp; omega) (by simp; omega)
      have hBb := Below.frm HBa.out hf4 (Nat.le_refl _) (by simp; omega)
      have hvl : (cutV vs 0 (Int.toNat 4294967295) 4294967295).length = n := by rw [(More.cutV vs 0 _ _).1, HVN.out]
      have HF4 := Lib.hid hF4
      have HFb := Lib.hid hFb
      have HRb := Lib.hid hRb
      have HBb := Lib.hid hBb
      have HVL := Lib.hid hvl
      have hx4 := hRb.hd0.1
      have hvm := HF.out.most
      clear hF4 hFb hRb hBb hvl hf4 HFa HRa HBa
      have hlen4 : ∀ W, Fz W p' b' (cutV vs 0 (Int.toNat 4294967295) 4294967295) (List.replicate vs.length false) → Calls Try.prog 23 #[.pointer (some ⟨p', 0, none⟩)] W fun e w' => e = .returned (.int .i64 (n : Int)) ∧ W = w' := fun W h => by
        have := len_any W h
        rw [HVL.out] at this
        exact this
      have hlen5 : ∀ W, Fz W p b vs ls → Calls Try.prog 23 #[.pointer (some ⟨p, 0, none⟩)] W fun e w' => e = .returned (.int .i64 (n : Int)) ∧ W = w' := fun W h => by
        have := len_any W h
        rw [HVN.out] at this
        exact this
      have HLEN4 := Lib.hid hlen4
      have HLEN5 := Lib.hid hlen5
      clear hlen4 hlen5
      go_wp2_with fail
      go_region_with (first
        | (go_at_call 18; (with_reducible refine (words_any _ HFb.out.drew).mono ?_); rintro e w6 ⟨v6, rfl, hO6, hb6⟩; have hx6 := (HRb.out.drew.frm (Below.frm' hb6) (by simp) (by simp) (by simp)).hd0.1; have hR6 := HRb.out.drew.frm (Below.frm' hb6) (by simp) (by simp) (by simp); have hF6 := HFb.out.drew.below hb6 HFb.out.ltp HFb.out.ltb; have hFx6 := HF4.out.drew.below hb6 HF4.out.ltp HF4.out.ltb; obtain ⟨A6, c6, rfl, hvc6, hm6, hN6⟩ := hO6.form HF.out.word)
        | (go_at_call 17; (with_reducible refine (same_len A6 (some ⟨c, 0, none⟩) _ _ c6 vs.length vs vs true w6.heap.size _ hN6 (hR6.nats) (by rfl) (by rfl) (by omega) (by omega) (by simp)).mono ?_); rintro e w7 ⟨rfl, nq, rfl⟩)
        | (go_at_call 23; (with_reducible refine (HLEN5.out _ (hF6.drewN _)).mono ?_); rintro e w7 ⟨rfl, rfl⟩)
        | (go_at_call 23; (with_reducible refine (HLEN4.out _ (hFx6.drewN _)).mono ?_); rintro e w7 ⟨rfl, rfl⟩))
      all_goals go_wp2_with fail
      all_goals go_light
      all_goals go_ret
      all_goals exact ⟨rfl, Below.drewN ((HBb.out.drew).trans (hb6.mono (by have := HBb.out.size; simp; omega))) _⟩
end Fuse
end Go.Proofs.Ytmcpppgnfmopoaa
