/-
  Package otp: ToKey.
-/
import Derived.Test.YtpakdcgcgekcfaaDoorProg
import Derived.Test.YtpakdcgcgekcfaaDoorMem
import Derived.Test.YtpakdcgcgekcfaaDoorNext
import Derived.Test.YtpakdcgcgekcfaaDoorShaWord
import Derived.Test.YtpakdcgcgekcfaaDoorOtpOps
import Derived.Deep.LoopGhost
import Derived.Deep.AppendLies
import Derived.Deep.RegionLaw
import Derived.Deep.RegionWith
import Derived.Deep.CutRange
import Derived.Deep.CutBlock
import Derived.Deep.DeepCutAuto
namespace Go.Proofs.YtpakdcgcgekcfaaDoor
open Go.RowKit

namespace Otp
open Fuse
variable {w w' : World} {c p b : Nat} {vs : List Nat} {ls : List Bool} {sd : Bool}
theorem own32_le {w : World} {B B' : Nat} {v : Value} {l : List Nat} (h : Own32 w B v l) (hB : B' ≤ B) : Own32 w B' v l := by
  refine ⟨h.1, ?_⟩
  rcases h.2 with h0 | ⟨g, cap, cur, hv, hg, rest⟩
  · exact .inl h0
  · exact .inr ⟨g, cap, cur, hv, Nat.le_trans hB hg, rest⟩
theorem own32_next {w wx w' : World} {B : Nat} {v : Value} {l : List Nat} (h : Own32 w B v l) (hB : Below wx.heap.size wx w') (hx : wx.heap = w.heap) : Own32 w' B v l := by
  refine ⟨h.1, ?_⟩
  rcases h.2 with h0 | ⟨g, cap, cur, hv, hg, hh, rest⟩
  · exact .inl h0
  · exact .inr ⟨g, cap, cur, hv, hg, Blk.next (w := w) (t := 43) (cs := cur) hh hB hx, rest⟩
theorem nats_at {k : IntKind} {M : Nat} {w wx : World} {B : Nat} {A : Option Addr} {l : List Nat} (h : Nats k M w B A l) (hB : B ≤ w.heap.size) (hx : wx.heap = w.heap) : Nats k M wx wx.heap.size A l := fun i z hz => by
  obtain ⟨h1, b, off, h2, h3, h4⟩ := h i z hz
  refine ⟨h1, b, off, h2, by rw [hx]; omega, ?_⟩
  rw [← h4]
  simp [World.cell?, hx]
theorem own32_news {w wx : World} {B g n c : Nat} {l : List Nat} (h : Own32 w B (.slice (some ⟨g, 0, none⟩) n c) l) (hx : wx.heap = w.heap) : ∀ (j : Nat) (u : Value), (l.map fun x => Value.int .u32 ((x : Nat) : Int))[j]? = some u → wx.cell? ((⟨g, 0, none⟩ : Addr).add j) = some u := fun j u hu => by
  rw [List.getElem?_map] at hu
  cases hz : l[j]? with
  | none => rw [hz] at hu; cases hu
  | some x =>
    rw [hz] at hu
    obtain rfl := Option.some.inj hu
    obtain ⟨g', hg', _, _, hc, _⟩ := h.at_ hz
    cases hg'
    rw [Go.WideShapes.add_plain, Nat.zero_add, ← hc]
    simp [World.cell?, hx]
theorem own32_at {w wx : World} {B : Nat} {v : Value} {l : List Nat} (h : Own32 w B v l) (hx : wx.heap = w.heap) : wx.ownsRow B 43 1 v l.length (l.map fun x => Value.int .u32 ((x : Nat) : Int)) := by
  refine ⟨h.1, ?_⟩
  rcases h.2 with h0 | ⟨g, cap, cur, hv, hg, hh, rest⟩
  · exact .inl h0
  · exact .inr ⟨g, cap, cur, hv, hg, by rw [hx]; exact hh, rest⟩
theorem own32_some {w : World} {B : Nat} {v : Value} {l : List Nat} (h : Own32 w B v l) (hl : 0 < l.length) : ∃ g c, v = .slice (some ⟨g, 0, none⟩) l.length c ∧ l.length ≤ c ∧ c ≤ maxLen := by
  rcases h.2 with ⟨_, h0⟩ | ⟨g, cap, cur, hv, hg, hh, hc, hm, rest⟩
  · omega
  · exact ⟨g, cap, hv, hc, hm⟩
theorem own32_one (l : List Nat) : ∀ u ∈ l.map fun x => Value.int .u32 ((x : Nat) : Int), u.oneCell' = true := by
  intro u hu
  simp only [List.mem_map] at hu
  obtain ⟨x, _, rfl⟩ := hu
  rfl
theorem tk_len {k n L N : Nat} (h1 : k = L / 4) (h2 : n = N / 4) (h3 : L = 56) (h4 : N = 16) : k + n ≤ maxLen := by
  have : maxLen = 9223372036854775807 := rfl
  omega
theorem tk_bytes {k n L N : Nat} (h1 : k = L / 4) (h2 : n = N / 4) (h3 : L = 56) (h4 : N = 16) : (k + n) * 4 ≤ 140737488355328 := by omega
def tkW (l ns : List Nat) : List Nat := words4 l ++ words4 ns
/-- Is a bit set that may not be? -/
def badF (vs : List Nat) : Nat → List Nat → Bool
  | _, [] => false
  | f, v :: r => decide ((vs[f]?.getD 0) &&& (4294967295 - v) ≠ 0) || badF vs (f + 1) r
def tkE (vs l ns : List Nat) : Int := if l.length ≠ 56 then 1 else if life vs ≠ 0 then 14 else if badF vs 9 (tkW l ns) = true then 11 else 0
def tkL (vs l ns : List Nat) : List (Nat × Nat) := if tkE vs l ns = 0 then planOf vs 9 (tkW l ns) else []
theorem badF_append (vs : List Nat) : ∀ (f : Nat) (l r : List Nat), badF vs f (l ++ r) = (badF vs f l || badF vs (f + l.length) r)
  | f, [], r => by simp [badF]
  | f, x :: l, r => by
    simp only [List.cons_append, badF, badF_append vs (f + 1) l r, List.length_cons, Bool.or_assoc]
    rw [show f + 1 + l.length = f + (l.length + 1) by omega]
theorem badF_snoc (vs : List Nat) (f : Nat) (l : List Nat) {i x old : Nat} (hx : l[i]? = some x) (ho : vs[f + i]? = some old) : badF vs f (l.take (i + 1)) = (badF vs f (l.take i) || decide (old &&& (4294967295 - x) ≠ 0)) := by
  have hi : i < l.length := (List.getElem?_eq_some_iff.1 hx).1
  rw [take_snoc hx, badF_append, List.length_take, Nat.min_eq_left (by omega)]
  simp [badF, ho]
theorem badF_hit (vs : List Nat) (f : Nat) (l : List Nat) {i x old : Nat} (hx : l[i]? = some x) (ho : vs[f + i]? = some old) (hb : old &&& (4294967295 - x) ≠ 0) : badF vs f l = true := by
  rw [← List.take_append_drop (i + 1) l, badF_append, badF_snoc vs f l hx ho]
  simp [hb]
set_option maxRecDepth 100000 in
set_option maxHeartbeats 800000 in
theorem tokey_any (A : Option Addr) (len cap : Nat) (l ns : List Nat) (w : World) (h : Cz w c p b vs ls sd) (hl : l.length = len) (hlc : len ≤ cap) (hcm : cap ≤ maxLen) (hz : Nats .u8 256 w w.heap.size A l) (hn : ns.length = 16) (hnb : ∀ x ∈ ns, x < 256) :
    Calls Tryd.prog 77 #[.pointer (some ⟨c, 0, none⟩), .slice A len cap, .agg (b8 ns)] w (ToOut w (tkE vs l ns) (tkL vs l ns)) := by
  have H := Lib.hid h
  have HZ := Lib.hid hz
  have HN := Lib.hid hn
  have HNB := Lib.hid hnb
  have HCM := Lib.hid hcm
  subst hl
  clear h hz hn hnb hcm
  by_cases h56 : l.length = 56
  · by_cases hlf : life vs = 0
    · have hE : tkE vs l ns = if badF vs 9 (tkW l ns) = true then 11 else 0 := by unfold tkE; rw [if_neg (by omega), if_neg (by omega)]
      have HE := Lib.hid hE
      have HL0 := Lib.hid hlf
      have H56 := Lib.hid h56
      rw [h56] at hlc ⊢
      clear hE hlf h56
      obtain ⟨er, her⟩ : ∃ er, tkE vs l ns = er := ⟨_, rfl⟩
      have HER := Lib.hid her
      have HTL := Lib.hid (show er = 0 → tkL vs l ns = planOf vs 9 (tkW l ns) from fun h => by unfold tkL; rw [her, if_pos h])
      have HTN := Lib.hid (show er ≠ 0 → tkL vs l ns = [] from fun h => by unfold tkL; rw [her, if_neg h])
      rw [her] at HE ⊢
      clear her
      have HW1 := Lib.hid (words4_length l)
      have HW2 := Lib.hid (words4_length ns)
      obtain ⟨i0, hi0, hz0, hz1, hz2⟩ := info_row u32_info
      have HI := Lib.hid hi0
      have HI1 := Lib.hid hz0
      have HI2 := Lib.hid hz1
      have HI3 := Lib.hid hz2
      clear hi0 hz0 hz1 hz2
      go_enter Tryd.func77, Tryd.ntmps77
      go_wp2_with fail
      (with_reducible refine (life_any _ (H.out.alloc _)).mono ?_); rintro e w1 ⟨rfl, hB⟩
      rw [HL0.out]
      have HK := Lib.hid ((Blk.new w 50 (b8 ns)).below hB (by simp))
      have HB := Lib.hid (((Below.refl _ w).alloc (Nat.le_refl _) _).trans (hB.mono (by simp)))
      clear hB
      go_upto_region 7 with fail
      go_cut [8] (fun v w' => Hid (Own32 w' w.heap.size v (tkW l ns)) ∧ Hid (Below w.heap.size w w'))
      case first =>
        go_region_law (first
          | (go_simp; go_at_call 102; (with_reducible refine (number_any A 56 cap l _ H56.out hlc HCM.out (by have := H56.out; omega) (by exact nats_at (HZ.out.below HB.out) HB.out.size rfl)).mono ?_); rintro e w2 ⟨v1, rfl, hO, hB⟩; have HK := Lib.hid (HK.out.next hB rfl); have HO1 := Lib.hid (own32_le hO HB.out.size); (try have HO2 := Lib.hid (own32_next HO2.out hB rfl)); have HB := Lib.hid (below_nxt HB.out hB (Nat.le_refl _) rfl rfl rfl rfl); clear hO hB)
          | (go_simp; go_at_call 102; (with_reducible refine (number_any (some ⟨w.heap.size, 0, none⟩) 16 16 ns _ HN.out (by decide) (by decide) (by have := HN.out; omega) (by exact nats_at (nats_b8 HK.out HNB.out) (Nat.le_refl _) rfl)).mono ?_); rintro e w2 ⟨v2, rfl, hO, hB⟩; obtain ⟨g2, c2, rfl, hc2, hm2⟩ := own32_some hO (by have h1 := HW2.out; have h2 := HN.out; omega); have HK := Lib.hid (HK.out.next hB rfl); have HO2 := Lib.hid (own32_le hO HB.out.size); (try have HO1 := Lib.hid (own32_next HO1.out hB rfl)); have HB := Lib.hid (below_nxt HB.out hB (Nat.le_refl _) rfl rfl rfl rfl); clear hO hB)
          | (refine step_append_lies _ (by rfl) _ _ _ (by rfl) w.heap.size 43 i0 _ 1 4 Tryd.underlying37 HI.out HI1.out HI2.out HI3.out rfl (by omega) v1 _ ((words4 l).map fun x => Value.int .u32 ((x : Nat) : Int)) (by rfl) (by exact own32_at HO1.out rfl) ⟨g2, 0, none⟩ (words4 ns).length c2 ((words4 ns).map fun x => Value.int .u32 ((x : Nat) : Int)) (by rfl) (by simp) (by exact own32_news HO2.out rfl) (by exact own32_one _) (by have h1 := HW2.out; have h2 := HN.out; omega) (by exact tk_len HW1.out HW2.out H56.out HN.out) (by exact tk_bytes HW1.out HW2.out H56.out HN.out) (by exact HB.out.size) _ rfl ?_; intro g4 c4 w4 hown4 hgrow4 hat4 hlt4))
        all_goals go_wp2_with fail
        all_goals go_meet
        all_goals refine ⟨Lib.hid ?_, Lib.hid (HB.out.grown hgrow4 HB.out.size (fun k hk => (World.ownsRow.lt HO1.out k hk).1))⟩
        all_goals (unfold Own32 tkW; rw [List.length_append, List.map_append]; exact hown4)
      case rest =>
        obtain ⟨HO, HB2⟩ := hcut
        have hlw : (tkW l ns).length = 18 := by
          unfold tkW
          rw [List.length_append, words4_length, words4_length]
          have h1 := H56.out
          have h2 := HN.out
          omega
        have hwb : ∀ (i x : Nat), (tkW l ns)[i]? = some x → x < 4294967296 := fun i x hx => by
          have hm := List.mem_of_getElem? hx
          unfold tkW at hm
          rw [List.mem_append] at hm
          rcases hm with hm | hm
          · exact words4_lt l (fun y hy => by
              obtain ⟨j, hj, rfl⟩ := List.getElem_of_mem hy
              exact (HZ.out j _ (List.getElem?_eq_getElem hj)).1) x hm
          · exact words4_lt ns HNB.out x hm
        generalize tkW l ns = ws at *
        generalize tkL vs l ns = tl at *
        clear HER HW1 HW2 HL0 HI HI1 HI2 HI3 HK HB HN HNB H56 HCM
        obtain ⟨g8, c8, hv8, hc8, hm8⟩ := own32_some HO.out (by omega)
        have HLW := Lib.hid hlw
        have HWB := Lib.hid hwb
        rw [hlw] at hv8 hc8
        subst hv8
        obtain ⟨wo, rfl⟩ : ∃ wo : World, wo = wc := ⟨_, rfl⟩
        have HH := Lib.hid (H.out.old HB2.out)
        have hwl := HB2.out.size
        clear hlw hwb hm8
        go_wp2_with fail
        go_loopg [9, 10, 29] 18 (fun g s9 s10 s29 wr => ∃ i : Nat, i + g = 18 ∧ s29 = .int .i64 (i : Int) ∧ Hid (badF vs 9 (ws.take i) = false) ∧ Hid (Below wo.heap.size wo wr))
        case atStart => exact ⟨0, by omega, rfl, Lib.hid rfl, Lib.hid (Below.refl _ _)⟩
        case round =>
          obtain ⟨i, hg, rfl, HF, HB3⟩ := hrel
          have HG := Lib.hid hg
          have hi : i ≤ 18 := by omega
          clear hg
          have HO3 := Lib.hid (own32_next HO.out HB3.out rfl)
          have HB4 := Lib.hid (below_then HB2.out HB3.out (Nat.le_refl _))
          have HC := Lib.hid (HH.out.old HB3.out)
          by_cases hlt : i < 18
          · obtain ⟨x, hx⟩ : ∃ x, ws[i]? = some x := ⟨_, List.getElem?_eq_getElem (by have := HLW.out; omega)⟩
            obtain ⟨g', hg', -, hgl, hcx, -⟩ := HO3.out.at_ hx
            cases hg'
            obtain ⟨old, ho⟩ : ∃ old, vs[9 + i]? = some old := ⟨_, List.getElem?_eq_getElem (by have := H.out.len; omega)⟩
            have hoM := H.out.fz.word _ _ ho
            have hxM := HWB.out i x hx
            have HS := Lib.hid (badF_snoc vs 9 ws hx ho)
            have HT := Lib.hid (badF_hit vs 9 ws hx ho)
            have HOO := Lib.hid ho
            clear hx ho
            go_wp2_with fail
            (with_reducible refine (all_any _ HC.out).mono ?_); rintro e w5 ⟨v, rfl, hO5, hB5⟩
            obtain ⟨A5, cp5, rfl, hc5, hm5, -⟩ := hO5.form HC.out.fz.word
            obtain ⟨g5, rfl, hg5, hg6, hco, -⟩ := hO5.at_ HOO.out
            have hvl : vs.length = 64 := HC.out.len
            rw [hvl] at hc5 ⊢
            have HB5 := Lib.hid (below_then HB3.out hB5 (Nat.le_refl _))
            have hb1 := u32_andNot_nat old x hoM (by omega)
            clear hO5 hB5
            by_cases hz : old &&& (4294967295 - x) = 0
            · rw [hz] at hb1
              have HS2 := Lib.hid (show badF vs 9 (ws.take (i + 1)) = false by rw [HS.out, HF.out, hz]; rfl)
              clear hz
              go_wp2_with fail
              go_light
              go_roundg (18 - (i + 1))
              case measure => have := HG.out; omega
              case rel => exact ⟨i + 1, by omega, by go_num, HS2, HB5⟩
            · have HE11 := Lib.hid (show er = 11 by rw [HE.out, if_pos (HT.out hz)])
              have hne : (((old &&& (4294967295 - x) : Nat) : Int) != 0) = true := by rw [bne_iff_ne]; omega
              have HL9 := Lib.hid (HTN.out (by rw [HE11.out]; decide))
              clear hz
              generalize old &&& (4294967295 - x) = y at *
              go_wp2_with fail
              go_light
              go_ret2
              rw [HL9.out, HE11.out]
              exact ⟨_, rfl, World.ownsRow_nil _ _ _ _, below_then HB2.out HB5.out (Nat.le_refl _)⟩
          · have : i = 18 := by omega
            subst this
            have hbad := HF.out
            rw [List.take_of_length_le (by have := HLW.out; omega)] at hbad
            have HE0 := Lib.hid (show er = 0 by rw [HE.out, hbad]; rfl)
            have HL9 := Lib.hid (HTL.out HE0.out)
            have HN9 := Lib.hid (show Nats .u32 4294967296 wr wr.heap.size (some ⟨g8, 0, none⟩) ws from fun j z hz => by
              obtain ⟨g', hg', -, hgl, hcx, -⟩ := HO3.out.at_ hz
              cases hg'
              exact ⟨HWB.out j z hz, g8, 0, rfl, hgl, by rw [Nat.zero_add]; exact hcx⟩)
            clear hbad
            go_wp2_with fail
            (with_reducible refine (plan_any 9 9 _ 18 c8 ws _ HC.out rfl HLW.out (by have := HLW.out; omega) HN9.out).mono ?_); rintro e w6 ⟨v, rfl, hO6, hB6⟩
            have HT6 := Lib.hid (toOut_old HB4.out (er := 0) (l := _) ⟨v, rfl, hO6, hB6⟩)
            clear hO6 hB6
            go_wp2_with fail
            go_light
            go_ret2
            rw [HL9.out, HE0.out]
            exact HT6.out
    · have e1 : tkE vs l ns = 14 := by unfold tkE; rw [if_neg (by omega), if_pos hlf]
      have e2 : tkL vs l ns = [] := by simp [tkL, e1]
      rw [e1, e2, h56]
      have hle : life vs ≤ 4 := lifeN_le _ _
      have hne : (((life vs : Nat) : Int) != 0) = true := by rw [bne_iff_ne]; omega
      clear e1 e2 hlf h56
      go_enter Tryd.func77, Tryd.ntmps77
      go_wp2_with fail
      (with_reducible refine (life_any _ (H.out.alloc _)).mono ?_); rintro e w1 ⟨rfl, hB⟩
      have HB := Lib.hid (((Below.refl _ w).alloc (Nat.le_refl _) _).trans (hB.mono (by simp)))
      clear hB
      generalize life vs = lf at *
      go_wp2_with fail
      go_light
      go_ret2
      exact ⟨_, rfl, World.ownsRow_nil _ _ _ _, HB.out⟩
  · have e1 : tkE vs l ns = 1 := by unfold tkE; rw [if_pos h56]
    have e2 : tkL vs l ns = [] := by simp [tkL, e1]
    rw [e1, e2]
    have hne : (((l.length : Nat) : Int) != 56) = true := by rw [bne_iff_ne]; omega
    clear e1 e2 h56
    go_enter Tryd.func77, Tryd.ntmps77
    go_wp2_with fail
    go_light
    go_ret2
    exact ⟨_, rfl, World.ownsRow_nil _ _ _ _, (Below.refl _ w).alloc (Nat.le_refl _) _⟩
end Otp
end Go.Proofs.YtpakdcgcgekcfaaDoor
