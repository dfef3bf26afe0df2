/-
  Texts of this claim, joined: OtpKey, OtpRow, OtpLaw, CtrBits, OtpRise, RowD, CopyB.
-/
import Derived.Test.YtmiaabpnolebhaaGreatDoorJb884c8bf
import Derived.Test.YtmiaabpnolebhaaGreatDoorJ12cd198d
import Derived.Deep.RegionLaw
import Derived.Laws.ResultCell
set_option linter.unusedSimpArgs false
set_option linter.unusedVariables false
/-
  Package otp: ToKey.
-/
namespace Go.Proofs.YtmiaabpnolebhaaGreatDoor
open Go.RowKit

namespace Otp
open Fuse
variable {w w' : World} {c p b : Nat} {vs : List Nat} {ls : List Bool} {sd : Bool}
theorem own32_le {w : World} {B B' : Nat} {v : Value} {l : List Nat} (h : Own32 w B v l) (hB : B' ≤ B) : Own32 w B' v l := by
  refine ⟨h.1, ?_⟩
  rcases h.2 with h0 | ⟨g, cap, cur, hv, hg, rest⟩
  · exact .inl h0
  · exact .inr ⟨g, cap, cur, hv, Nat.le_trans hB hg, rest⟩
theorem own32_next {w wx w' : World} {B : Nat} {v : Value} {l : List Nat} (h : Own32 w B v l) (hB : Below wx.heap.size wx w') (hx : wx.heap = w.heap) : Own32 w' B v l := by
  refine ⟨h.1, ?_⟩
  rcases h.2 with h0 | ⟨g, cap, cur, hv, hg, hh, rest⟩
  · exact .inl h0
  · exact .inr ⟨g, cap, cur, hv, hg, Blk.next (w := w) (t := 52) (cs := cur) hh hB hx, rest⟩
theorem nats_at {k : IntKind} {M : Nat} {w wx : World} {B : Nat} {A : Option Addr} {l : List Nat} (h : Nats k M w B A l) (hB : B ≤ w.heap.size) (hx : wx.heap = w.heap) : Nats k M wx wx.heap.size A l := fun i z hz => by
  obtain ⟨h1, b, off, h2, h3, h4⟩ := h i z hz
  refine ⟨h1, b, off, h2, by rw [hx]; omega, ?_⟩
  rw [← h4]
  simp [World.cell?, hx]
theorem own32_news {w wx : World} {B g n c : Nat} {l : List Nat} (h : Own32 w B (.slice (some ⟨g, 0, none⟩) n c) l) (hx : wx.heap = w.heap) : ∀ (j : Nat) (u : Value), (l.map fun x => Value.int .u32 ((x : Nat) : Int))[j]? = some u → wx.cell? ((⟨g, 0, none⟩ : Addr).add j) = some u := fun j u hu => by
  rw [List.getElem?_map] at hu
  cases hz : l[j]? with
  | none => rw [hz] at hu; cases hu
  | some x =>
    rw [hz] at hu
    obtain rfl := Option.some.inj hu
    obtain ⟨g', hg', _, _, hc, _⟩ := h.at_ hz
    cases hg'
    rw [Go.WideShapes.add_plain, Nat.zero_add, ← hc]
    simp [World.cell?, hx]
theorem own32_at {w wx : World} {B : Nat} {v : Value} {l : List Nat} (h : Own32 w B v l) (hx : wx.heap = w.heap) : wx.ownsRow B 52 1 v l.length (l.map fun x => Value.int .u32 ((x : Nat) : Int)) := by
  refine ⟨h.1, ?_⟩
  rcases h.2 with h0 | ⟨g, cap, cur, hv, hg, hh, rest⟩
  · exact .inl h0
  · exact .inr ⟨g, cap, cur, hv, hg, by rw [hx]; exact hh, rest⟩
theorem own32_some {w : World} {B : Nat} {v : Value} {l : List Nat} (h : Own32 w B v l) (hl : 0 < l.length) : ∃ g c, v = .slice (some ⟨g, 0, none⟩) l.length c ∧ l.length ≤ c ∧ c ≤ maxLen := by
  rcases h.2 with ⟨_, h0⟩ | ⟨g, cap, cur, hv, hg, hh, hc, hm, rest⟩
  · omega
  · exact ⟨g, cap, hv, hc, hm⟩
theorem own32_one (l : List Nat) : ∀ u ∈ l.map fun x => Value.int .u32 ((x : Nat) : Int), u.oneCell' = true := by
  intro u hu
  simp only [List.mem_map] at hu
  obtain ⟨x, _, rfl⟩ := hu
  rfl
theorem tk_len {k n L N : Nat} (h1 : k = L / 4) (h2 : n = N / 4) (h3 : L = 56) (h4 : N = 16) : k + n ≤ maxLen := by
  have : maxLen = 9223372036854775807 := rfl
  omega
theorem tk_bytes {k n L N : Nat} (h1 : k = L / 4) (h2 : n = N / 4) (h3 : L = 56) (h4 : N = 16) : (k + n) * 4 ≤ 140737488355328 := by omega
def tkW (l ns : List Nat) : List Nat := words4 l ++ words4 ns
/-- Is a bit set that may not be? -/
def badF (vs : List Nat) : Nat → List Nat → Bool
  | _, [] => false
  | f, v :: r => decide ((vs[f]?.getD 0) &&& (4294967295 - v) ≠ 0) || badF vs (f + 1) r
def tkE (vs l ns : List Nat) : Int := if l.length ≠ 56 then 1 else if life vs ≠ 0 then 14 else if badF vs 9 (tkW l ns) = true then 11 else 0
def tkL (vs l ns : List Nat) : List (Nat × Nat) := if tkE vs l ns = 0 then planOf vs 9 (tkW l ns) else []
theorem badF_append (vs : List Nat) : ∀ (f : Nat) (l r : List Nat), badF vs f (l ++ r) = (badF vs f l || badF vs (f + l.length) r)
  | f, [], r => by simp [badF]
  | f, x :: l, r => by
    simp only [List.cons_append, badF, badF_append vs (f + 1) l r, List.length_cons, Bool.or_assoc]
    rw [show f + 1 + l.length = f + (l.length + 1) by omega]
theorem badF_snoc (vs : List Nat) (f : Nat) (l : List Nat) {i x old : Nat} (hx : l[i]? = some x) (ho : vs[f + i]? = some old) : badF vs f (l.take (i + 1)) = (badF vs f (l.take i) || decide (old &&& (4294967295 - x) ≠ 0)) := by
  have hi : i < l.length := (List.getElem?_eq_some_iff.1 hx).1
  rw [take_snoc hx, badF_append, List.length_take, Nat.min_eq_left (by omega)]
  simp [badF, ho]
theorem badF_hit (vs : List Nat) (f : Nat) (l : List Nat) {i x old : Nat} (hx : l[i]? = some x) (ho : vs[f + i]? = some old) (hb : old &&& (4294967295 - x) ≠ 0) : badF vs f l = true := by
  rw [← List.take_append_drop (i + 1) l, badF_append, badF_snoc vs f l hx ho]
  simp [hb]
set_option maxRecDepth 100000 in
set_option maxHeartbeats 800000 in
theorem tokey_any (A : Option Addr) (len cap : Nat) (l ns : List Nat) (w : World) (h : Cz w c p b vs ls sd) (hl : l.length = len) (hlc : len ≤ cap) (hcm : cap ≤ maxLen) (hz : Nats .u8 256 w w.heap.size A l) (hn : ns.length = 16) (hnb : ∀ x ∈ ns, x < 256) :
    Calls Tryz.prog 68 #[.pointer (some ⟨c, 0, none⟩), .slice A len cap, .agg (b8 ns)] w (ToOut w (tkE vs l ns) (tkL vs l ns)) := by
  have H := Lib.hid h
  have HZ := Lib.hid hz
  have HN := Lib.hid hn
  have HNB := Lib.hid hnb
  have HCM := Lib.hid hcm
  subst hl
  clear h hz hn hnb hcm
  by_cases h56 : l.length = 56
  · by_cases hlf : life vs = 0
    · have hE : tkE vs l ns = if badF vs 9 (tkW l ns) = true then 11 else 0 := by unfold tkE; rw [if_neg (by omega), if_neg (by omega)]
      have HE := Lib.hid hE
      have HL0 := Lib.hid hlf
      have H56 := Lib.hid h56
      rw [h56] at hlc ⊢
      clear hE hlf h56
      obtain ⟨er, her⟩ : ∃ er, tkE vs l ns = er := ⟨_, rfl⟩
      have HER := Lib.hid her
      have HTL := Lib.hid (show er = 0 → tkL vs l ns = planOf vs 9 (tkW l ns) from fun h => by unfold tkL; rw [her, if_pos h])
      have HTN := Lib.hid (show er ≠ 0 → tkL vs l ns = [] from fun h => by unfold tkL; rw [her, if_neg h])
      rw [her] at HE ⊢
      clear her
      have HW1 := Lib.hid (words4_length l)
      have HW2 := Lib.hid (words4_length ns)
      obtain ⟨i0, hi0, hz0, hz1, hz2⟩ := info_row u32_info
      have HI := Lib.hid hi0
      have HI1 := Lib.hid hz0
      have HI2 := Lib.hid hz1
      have HI3 := Lib.hid hz2
      clear hi0 hz0 hz1 hz2
      go_enter Tryz.func68, Tryz.ntmps68
      go_wp2_with fail
      (with_reducible refine (life_any _ (H.out.alloc _)).mono ?_); rintro e w1 ⟨rfl, hB⟩
      rw [HL0.out]
      have HK := Lib.hid ((Blk.new w 119 (b8 ns)).below hB (by simp))
      have HB := Lib.hid (((Below.refl _ w).alloc (Nat.le_refl _) _).trans (hB.mono (by simp)))
      clear hB
      go_upto_region 7 with fail
      go_cut [8] (fun v w' => Hid (Own32 w' w.heap.size v (tkW l ns)) ∧ Hid (Below w.heap.size w w'))
      case first =>
        go_region_law (first
          | (go_simp; go_at_call 145; (with_reducible refine (number_any A 56 cap l _ H56.out hlc HCM.out (by have := H56.out; omega) (by exact nats_at (HZ.out.below HB.out) HB.out.size rfl)).mono ?_); rintro e w2 ⟨v1, rfl, hO, hB⟩; have HK := Lib.hid (HK.out.next hB rfl); have HO1 := Lib.hid (own32_le hO HB.out.size); (try have HO2 := Lib.hid (own32_next HO2.out hB rfl)); have HB := Lib.hid (below_nxt HB.out hB (Nat.le_refl _) rfl rfl rfl rfl); clear hO hB)
          | (go_simp; go_at_call 145; (with_reducible refine (number_any (some ⟨w.heap.size, 0, none⟩) 16 16 ns _ HN.out (by decide) (by decide) (by have := HN.out; omega) (by exact nats_at (nats_b8 HK.out HNB.out) (Nat.le_refl _) rfl)).mono ?_); rintro e w2 ⟨v2, rfl, hO, hB⟩; obtain ⟨g2, c2, rfl, hc2, hm2⟩ := own32_some hO (by have h1 := HW2.out; have h2 := HN.out; omega); have HK := Lib.hid (HK.out.next hB rfl); have HO2 := Lib.hid (own32_le hO HB.out.size); (try have HO1 := Lib.hid (own32_next HO1.out hB rfl)); have HB := Lib.hid (below_nxt HB.out hB (Nat.le_refl _) rfl rfl rfl rfl); clear hO hB)
          | (refine step_append_lies _ (by rfl) _ _ _ (by rfl) w.heap.size 52 i0 _ 1 4 Tryz.underlying55 HI.out HI1.out HI2.out HI3.out rfl (by omega) v1 _ ((words4 l).map fun x => Value.int .u32 ((x : Nat) : Int)) (by rfl) (by exact own32_at HO1.out rfl) ⟨g2, 0, none⟩ (words4 ns).length c2 ((words4 ns).map fun x => Value.int .u32 ((x : Nat) : Int)) (by rfl) (by simp) (by exact own32_news HO2.out rfl) (by exact own32_one _) (by have h1 := HW2.out; have h2 := HN.out; omega) (by exact tk_len HW1.out HW2.out H56.out HN.out) (by exact tk_bytes HW1.out HW2.out H56.out HN.out) (by exact HB.out.size) _ rfl ?_; intro g4 c4 w4 hown4 hgrow4 hat4 hlt4))
        all_goals go_wp2_with fail
        all_goals go_meet
        all_goals refine ⟨Lib.hid ?_, Lib.hid (HB.out.grown hgrow4 HB.out.size (fun k hk => (World.ownsRow.lt HO1.out k hk).1))⟩
        all_goals (unfold Own32 tkW; rw [List.length_append, List.map_append]; exact hown4)
      case rest =>
        obtain ⟨HO, HB2⟩ := hcut
        have hlw : (tkW l ns).length = 18 := by
          unfold tkW
          rw [List.length_append, words4_length, words4_length]
          have h1 := H56.out
          have h2 := HN.out
          omega
        have hwb : ∀ (i x : Nat), (tkW l ns)[i]? = some x → x < 4294967296 := fun i x hx => by
          have hm := List.mem_of_getElem? hx
          unfold tkW at hm
          rw [List.mem_append] at hm
          rcases hm with hm | hm
          · exact words4_lt l (fun y hy => by
              obtain ⟨j, hj, rfl⟩ := List.getElem_of_mem hy
              exact (HZ.out j _ (List.getElem?_eq_getElem hj)).1) x hm
          · exact words4_lt ns HNB.out x hm
        generalize tkW l ns = ws at *
        generalize tkL vs l ns = tl at *
        clear HER HW1 HW2 HL0 HI HI1 HI2 HI3 HK HB HN HNB H56 HCM
        obtain ⟨g8, c8, hv8, hc8, hm8⟩ := own32_some HO.out (by omega)
        have HLW := Lib.hid hlw
        have HWB := Lib.hid hwb
        rw [hlw] at hv8 hc8
        subst hv8
        obtain ⟨wo, rfl⟩ : ∃ wo : World, wo = wc := ⟨_, rfl⟩
        have HH := Lib.hid (H.out.old HB2.out)
        have hwl := HB2.out.size
        clear hlw hwb hm8
        go_wp2_with fail
        go_loopg [9, 10, 29] 18 (fun g s9 s10 s29 wr => ∃ i : Nat, i + g = 18 ∧ s29 = .int .i64 (i : Int) ∧ Hid (badF vs 9 (ws.take i) = false) ∧ Hid (Below wo.heap.size wo wr))
        case atStart => exact ⟨0, by omega, rfl, Lib.hid rfl, Lib.hid (Below.refl _ _)⟩
        case round =>
          obtain ⟨i, hg, rfl, HF, HB3⟩ := hrel
          have HG := Lib.hid hg
          have hi : i ≤ 18 := by omega
          clear hg
          have HO3 := Lib.hid (own32_next HO.out HB3.out rfl)
          have HB4 := Lib.hid (below_then HB2.out HB3.out (Nat.le_refl _))
          have HC := Lib.hid (HH.out.old HB3.out)
          by_cases hlt : i < 18
          · obtain ⟨x, hx⟩ : ∃ x, ws[i]? = some x := ⟨_, List.getElem?_eq_getElem (by have := HLW.out; omega)⟩
            obtain ⟨g', hg', -, hgl, hcx, -⟩ := HO3.out.at_ hx
            cases hg'
            obtain ⟨old, ho⟩ : ∃ old, vs[9 + i]? = some old := ⟨_, List.getElem?_eq_getElem (by have := H.out.len; omega)⟩
            have hoM := H.out.fz.word _ _ ho
            have hxM := HWB.out i x hx
            have HS := Lib.hid (badF_snoc vs 9 ws hx ho)
            have HT := Lib.hid (badF_hit vs 9 ws hx ho)
            have HOO := Lib.hid ho
            clear hx ho
            go_wp2_with fail
            (with_reducible refine (all_any _ HC.out).mono ?_); rintro e w5 ⟨v, rfl, hO5, hB5⟩
            obtain ⟨A5, cp5, rfl, hc5, hm5, -⟩ := hO5.form HC.out.fz.word
            obtain ⟨g5, rfl, hg5, hg6, hco, -⟩ := hO5.at_ HOO.out
            have hvl : vs.length = 64 := HC.out.len
            rw [hvl] at hc5 ⊢
            have HB5 := Lib.hid (below_then HB3.out hB5 (Nat.le_refl _))
            have hb1 := u32_andNot_nat old x hoM (by omega)
            clear hO5 hB5
            by_cases hz : old &&& (4294967295 - x) = 0
            · rw [hz] at hb1
              have HS2 := Lib.hid (show badF vs 9 (ws.take (i + 1)) = false by rw [HS.out, HF.out, hz]; rfl)
              clear hz
              go_wp2_with fail
              go_light
              go_roundg (18 - (i + 1))
              case measure => have := HG.out; omega
              case rel => exact ⟨i + 1, by omega, by go_num, HS2, HB5⟩
            · have HE11 := Lib.hid (show er = 11 by rw [HE.out, if_pos (HT.out hz)])
              have hne : (((old &&& (4294967295 - x) : Nat) : Int) != 0) = true := by rw [bne_iff_ne]; omega
              have HL9 := Lib.hid (HTN.out (by rw [HE11.out]; decide))
              clear hz
              generalize old &&& (4294967295 - x) = y at *
              go_wp2_with fail
              go_light
              go_ret2
              rw [HL9.out, HE11.out]
              exact ⟨_, rfl, World.ownsRow_nil _ _ _ _, below_then HB2.out HB5.out (Nat.le_refl _)⟩
          · have : i = 18 := by omega
            subst this
            have hbad := HF.out
            rw [List.take_of_length_le (by have := HLW.out; omega)] at hbad
            have HE0 := Lib.hid (show er = 0 by rw [HE.out, hbad]; rfl)
            have HL9 := Lib.hid (HTL.out HE0.out)
            have HN9 := Lib.hid (show Nats .u32 4294967296 wr wr.heap.size (some ⟨g8, 0, none⟩) ws from fun j z hz => by
              obtain ⟨g', hg', -, hgl, hcx, -⟩ := HO3.out.at_ hz
              cases hg'
              exact ⟨HWB.out j z hz, g8, 0, rfl, hgl, by rw [Nat.zero_add]; exact hcx⟩)
            clear hbad
            go_wp2_with fail
            (with_reducible refine (plan_any 9 9 _ 18 c8 ws _ HC.out rfl HLW.out (by have := HLW.out; omega) HN9.out).mono ?_); rintro e w6 ⟨v, rfl, hO6, hB6⟩
            have HT6 := Lib.hid (toOut_old HB4.out (er := 0) (l := _) ⟨v, rfl, hO6, hB6⟩)
            clear hO6 hB6
            go_wp2_with fail
            go_light
            go_ret2
            rw [HL9.out, HE0.out]
            exact HT6.out
    · have e1 : tkE vs l ns = 14 := by unfold tkE; rw [if_neg (by omega), if_pos hlf]
      have e2 : tkL vs l ns = [] := by simp [tkL, e1]
      rw [e1, e2, h56]
      have hle : life vs ≤ 4 := lifeN_le _ _
      have hne : (((life vs : Nat) : Int) != 0) = true := by rw [bne_iff_ne]; omega
      clear e1 e2 hlf h56
      go_enter Tryz.func68, Tryz.ntmps68
      go_wp2_with fail
      (with_reducible refine (life_any _ (H.out.alloc _)).mono ?_); rintro e w1 ⟨rfl, hB⟩
      have HB := Lib.hid (((Below.refl _ w).alloc (Nat.le_refl _) _).trans (hB.mono (by simp)))
      clear hB
      generalize life vs = lf at *
      go_wp2_with fail
      go_light
      go_ret2
      exact ⟨_, rfl, World.ownsRow_nil _ _ _ _, HB.out⟩
  · have e1 : tkE vs l ns = 1 := by unfold tkE; rw [if_pos h56]
    have e2 : tkL vs l ns = [] := by simp [tkL, e1]
    rw [e1, e2]
    have hne : (((l.length : Nat) : Int) != 56) = true := by rw [bne_iff_ne]; omega
    clear e1 e2 h56
    go_enter Tryz.func68, Tryz.ntmps68
    go_wp2_with fail
    go_light
    go_ret2
    exact ⟨_, rfl, World.ownsRow_nil _ _ _ _, (Below.refl _ w).alloc (Nat.le_refl _) _⟩
end Otp
end Go.Proofs.YtmiaabpnolebhaaGreatDoor

/-
  Package otp: ToRow.
-/
namespace Go.Proofs.YtmiaabpnolebhaaGreatDoor
open Go.RowKit

namespace Otp
open Fuse
variable {w w' : World} {c p b : Nat} {vs : List Nat} {ls : List Bool} {sd : Bool}
/-- The words of a row. -/
def rowW (vs : List Nat) (k : Nat) : List Nat := (vs.drop (27 + 9 * k)).take 9
def rowZ (vs : List Nat) (k : Nat) : Bool := (rowW vs k).all fun x => decide (x = 0)
def trE (vs : List Nat) (i : Int) : Int := if 0 ≤ i ∧ i < 4 then (if rowZ vs i.toNat = true then 0 else 14) else 1
def numb : Nat → List Nat → List (Nat × Nat)
  | _, [] => []
  | f, x :: r => (f, x) :: numb (f + 1) r
theorem numb_append : ∀ (f : Nat) (l r : List Nat), numb f (l ++ r) = numb f l ++ numb (f + l.length) r
  | f, [], r => by simp [numb]
  | f, x :: l, r => by
    simp only [List.cons_append, numb, numb_append (f + 1) l r, List.length_cons]
    rw [show f + 1 + l.length = f + (l.length + 1) by omega]
theorem numb_length : ∀ (f : Nat) (l : List Nat), (numb f l).length = l.length
  | _, [] => rfl
  | f, x :: l => by simp [numb, numb_length (f + 1) l]
theorem numb_snoc (f : Nat) (l : List Nat) {i x : Nat} (hx : l[i]? = some x) : numb f (l.take (i + 1)) = numb f (l.take i) ++ [(f + i, x)] := by
  have hi : i < l.length := (List.getElem?_eq_some_iff.1 hx).1
  rw [take_snoc hx, numb_append, List.length_take, Nat.min_eq_left (by omega)]
  rfl
def rowL (k : Nat) (ws : List Nat) : List (Nat × Nat) := (35 + 9 * k, 16711680) :: numb (27 + 9 * k) ws ++ [(35 + 9 * k, 16711935)]
def trL (vs : List Nat) (i : Int) (ds : List Nat) : List (Nat × Nat) := if trE vs i = 0 then rowL i.toNat (words4 ds) else []
theorem rowZ_snoc (vs : List Nat) (k : Nat) {j x : Nat} (hx : (rowW vs k)[j]? = some x) : ((rowW vs k).take (j + 1)).all (fun x => decide (x = 0)) = (((rowW vs k).take j).all (fun x => decide (x = 0)) && decide (x = 0)) := by
  rw [take_snoc hx, List.all_append]
  simp
theorem rowZ_hit (vs : List Nat) (k : Nat) {j x : Nat} (hx : (rowW vs k)[j]? = some x) (h : x ≠ 0) : rowZ vs k = false := by
  unfold rowZ
  rw [List.all_eq_false]
  exact ⟨x, List.mem_of_getElem? hx, by simpa using h⟩
/-- A literal list of one Write. -/
theorem ownW_one (w : World) (z u : Int) (x y : Nat) (B : Nat) (hB : B ≤ w.heap.size) (hz : z = x) (hu : u = y) : OwnW (w.alloc (.cells #[.int .i64 z, .int .u32 u] 224)) B (.slice (some ⟨w.heap.size, 0, none⟩) 1 1) [(x, y)] := by
  subst hz; subst hu
  refine ⟨rfl, .inr ⟨w.heap.size, 1, #[.int .i64 (x : Int), .int .u32 (y : Int)], rfl, hB, Blk.new w _ _, Nat.le_refl _, by simp [maxLen], rfl, rfl⟩⟩
end Otp
end Go.Proofs.YtmiaabpnolebhaaGreatDoor

/-
  Package otp, in plain Lean: what a plan, done, leaves; the counter's words.
-/
namespace Go.Proofs.YtmiaabpnolebhaaGreatDoor
open Go.RowKit

namespace Otp
open Fuse
theorem bit_not' (v i : Nat) (hv : v < 4294967296) : (4294967295 - v).testBit i = (decide (i < 32) && !v.testBit i) := by
  rw [show 4294967295 - v = 2 ^ 32 - (v + 1) by omega, Nat.testBit_two_pow_sub_succ (show v < 2 ^ 32 from hv)]
theorem or_lt {x v : Nat} (hx : x < 4294967296) (hv : v < 4294967296) : x ||| v < 4294967296 := Nat.or_lt_two_pow (n := 32) hx hv
theorem and_or_not {x v : Nat} (hx : x < 4294967296) (hv : v < 4294967296) : x &&& (4294967295 - (x ||| v)) = 0 := by
  apply Nat.eq_of_testBit_eq
  intro i
  rw [Nat.testBit_and, bit_not' _ _ (or_lt hx hv), Nat.testBit_or, Nat.zero_testBit]
  cases x.testBit i <;> simp
theorem or_full {x v : Nat} (hx : x < 4294967296) (hv : v < 4294967296) : x ||| ((x ||| v) &&& 4294967295) = x ||| v := by
  rw [show 4294967295 = 2 ^ 32 - 1 from rfl, Nat.and_two_pow_sub_one_of_lt_two_pow (show x ||| v < 2 ^ 32 from or_lt hx hv), ← Nat.or_assoc, Nat.or_self]

theorem planOf_congr {vs vs' : List Nat} : ∀ (l : List Nat) (f : Nat), (∀ j, f ≤ j → vs[j]? = vs'[j]?) → planOf vs f l = planOf vs' f l
  | [], f, _ => rfl
  | x :: l, f, h => by
    rw [planOf, planOf, h f (Nat.le_refl _), planOf_congr l (f + 1) (fun j hj => h j (by omega))]
/-- What a plan leaves when it is done. -/
def orAt : List Nat → Nat → List Nat → List Nat
  | vs, _, [] => vs
  | vs, f, v :: r => orAt (vs.set f ((vs[f]?.getD 0) ||| v)) (f + 1) r
theorem doL_plan : ∀ (l : List Nat) (vs : List Nat) (f : Nat), f + l.length ≤ vs.length → (∀ (i x : Nat), vs[i]? = some x → x < 4294967296) → (∀ x ∈ l, x < 4294967296) → doL vs (planOf vs f l) = (0, orAt vs f l)
  | [], vs, f, _, _, _ => rfl
  | v :: r, vs, f, hf, hw, hl => by
    simp only [List.length_cons] at hf
    obtain ⟨old, ho⟩ : ∃ old, vs[f]? = some old := ⟨_, List.getElem?_eq_getElem (by omega)⟩
    have hoM := hw f old ho
    have hvM := hl v (by simp)
    have hset : ∀ (y : Nat), y < 4294967296 → ∀ (i x : Nat), (vs.set f y)[i]? = some x → x < 4294967296 := fun y hy i x h => by
      rw [List.getElem?_set] at h
      split at h
      · split at h
        · cases h; exact hy
        · cases h
      · exact hw i x h
    have ih := doL_plan r (vs.set f (old ||| v)) (f + 1) (by simp; omega) (hset _ (or_lt hoM hvM)) (fun x hx => hl x (by simp [hx]))
    have hpc : planOf vs (f + 1) r = planOf (vs.set f (old ||| v)) (f + 1) r := planOf_congr r (f + 1) fun j hj => by rw [List.getElem?_set_ne (by omega)]
    simp only [planOf, ho, Option.getD_some, orAt]
    by_cases h : old ||| v = old
    · have hs : vs.set f (old ||| v) = vs := by
        rw [h]
        apply List.ext_getElem?
        intro i
        rw [List.getElem?_set]
        split
        · rename_i hi; subst hi; split
          · exact ho.symm
          · omega
        · rfl
      rw [hs] at ih ⊢
      rw [if_pos h, List.nil_append, ih]
    · rw [if_neg h, List.singleton_append, doL]
      have hr : inR vs (f : Int) = true := by unfold inR; exact decide_eq_true (by omega)
      have h0 : cutE vs (f : Int) (old ||| v) = 0 := by simp [cutE, hr, ho, and_or_not hoM hvM]
      have h1 : cutV vs (f : Int) (old ||| v) 4294967295 = vs.set f (old ||| v) := by simp only [cutV, h0, if_true, Int.toNat_natCast, ho, Option.getD_some, or_full hoM hvM]
      simp only [h0, h1, if_true]
      rw [hpc, ih]
theorem orAt_mid : ∀ (l m pre post : List Nat), m.length = l.length → orAt (pre ++ m ++ post) pre.length l = pre ++ List.zipWith (· ||| ·) m l ++ post
  | [], m, pre, post, h => by
    have : m = [] := List.eq_nil_of_length_eq_zero h
    subst this
    simp [orAt]
  | v :: r, [], pre, post, h => by simp at h
  | v :: r, x :: m, pre, post, h => by
    have e := orAt_mid r m (pre ++ [x ||| v]) post (by simpa using h)
    rw [orAt]
    have hg : (pre ++ x :: m ++ post)[pre.length]? = some x := by simp
    have hs : (pre ++ x :: m ++ post).set pre.length (x ||| v) = (pre ++ [x ||| v]) ++ m ++ post := by simp
    rw [hg, Option.getD_some, hs]
    simp only [List.length_append, List.length_cons, List.length_nil] at e
    rw [e]
    simp

theorem lw_or (a j : Nat) : ∀ d, ((lw a)[j]?.getD 0) ||| ((lw (a + d))[j]?.getD 0) = (lw (a + d))[j]?.getD 0
  | 0 => by simp
  | d + 1 => by
    have ih := lw_or a j d
    rw [show a + (d + 1) = (a + d) + 1 by omega, lw, List.getElem?_set]
    split
    · rename_i h
      split
      · rw [Option.getD_some, h, ← Nat.or_assoc, ih]
      · simp only [Option.getD_none]
        rename_i h2
        rw [List.getElem?_eq_none (by rw [lw_length] at h2 ⊢; omega)]
        rfl
    · exact ih
theorem lw_zip {a s : Nat} (h : a ≤ s) : List.zipWith (· ||| ·) (lw a) (lw s) = lw s := by
  apply List.ext_getElem?
  intro j
  rw [List.getElem?_zipWith]
  by_cases hj : j < 8
  · obtain ⟨x, h1⟩ : ∃ x, (lw a)[j]? = some x := ⟨_, List.getElem?_eq_getElem (by rw [lw_length]; exact hj)⟩
    obtain ⟨y, h2⟩ : ∃ y, (lw s)[j]? = some y := ⟨_, List.getElem?_eq_getElem (by rw [lw_length]; exact hj)⟩
    have := lw_or a j (s - a)
    rw [show a + (s - a) = s by omega, h1, h2, Option.getD_some, Option.getD_some] at this
    rw [h1, h2]
    simp [this]
  · rw [List.getElem?_eq_none (by rw [lw_length]; omega), List.getElem?_eq_none (by rw [lw_length]; omega)]
theorem cv_length (n : Nat) : (cv n).length = 64 := by simp [cv, lw_length]
theorem cv_word (n : Nat) : ∀ (i x : Nat), (cv n)[i]? = some x → x < 4294967296 := fun i x h => by
  have hm := List.mem_of_getElem? h
  simp only [cv, List.mem_append, List.mem_singleton, List.mem_replicate] at hm
  rcases hm with (rfl | hm) | ⟨_, rfl⟩
  · decide
  · obtain ⟨j, hj⟩ := List.mem_iff_getElem?.1 hm
    exact lw_word n j x hj
  · decide
/-- A counter that is raised, wholly. -/
theorem cv_do {a s : Nat} (h : a ≤ s) : doL (cv a) (planOf (cv a) 1 (lw s)) = (0, cv s) := by
  rw [doL_plan (lw s) (cv a) 1 (by rw [lw_length, cv_length]; omega) (cv_word a) (fun x hx => by obtain ⟨j, hj⟩ := List.mem_iff_getElem?.1 hx; exact lw_word s j x hj)]
  have := orAt_mid (lw s) (lw a) [0] (List.replicate 55 0) (by rw [lw_length, lw_length])
  rw [lw_zip h] at this
  exact congrArg (Prod.mk 0) this
theorem planOf_mem {vs : List Nat} (hw : ∀ (i x : Nat), vs[i]? = some x → x < 4294967296) : ∀ (l : List Nat) (f : Nat), (∀ x ∈ l, x < 4294967296) → ∀ y ∈ planOf vs f l, y.2 < 4294967296 ∧ f ≤ y.1 ∧ y.1 < f + l.length
  | [], f, _, y, hy => by simp [planOf] at hy
  | v :: r, f, hl, y, hy => by
    simp only [planOf, List.mem_append] at hy
    rcases hy with hy | hy
    · split at hy
      · simp at hy
      · simp only [List.mem_singleton] at hy
        subst hy
        refine ⟨or_lt ?_ (hl v (by simp)), Nat.le_refl _, by simp⟩
        cases ho : vs[f]? with
        | none => simp
        | some o => simpa using hw f o ho
    · have := planOf_mem hw r (f + 1) (fun x hx => hl x (by simp [hx])) y hy
      simp only [List.length_cons]
      exact ⟨this.1, by omega, by omega⟩
set_option maxRecDepth 100000 in
theorem cv_counter : ∀ n : Fin 256, counter (cv n.val) = n.val := by decide +kernel
def pops (x m : Nat) : Nat := ((List.range m).map fun k => x / 2 ^ k % 2).sum
def bitsum (l : List Nat) : Nat := (l.map fun x => pops x 32).sum
theorem pops_succ (x m : Nat) : pops x (m + 1) = pops x m + x / 2 ^ m % 2 := by simp [pops, List.range_succ]
theorem pops_le (x : Nat) : ∀ m, pops x m ≤ m
  | 0 => by simp [pops]
  | m + 1 => by
    have := pops_le x m
    rw [pops_succ]
    omega
theorem bitsum_snoc (l : List Nat) (x : Nat) : bitsum (l ++ [x]) = bitsum l + pops x 32 := by simp [bitsum]
theorem bitsum_le : ∀ l : List Nat, bitsum l ≤ 32 * l.length
  | [] => by simp [bitsum]
  | x :: r => by
    have h1 := bitsum_le r
    have h2 := pops_le x 32
    have : bitsum (x :: r) = pops x 32 + bitsum r := by simp [bitsum]
    rw [this, List.length_cons]
    omega
theorem bit_int0 (y k : Nat) : ((y : Int) / 2 ^ k).tmod 2 = ((y / 2 ^ k % 2 : Nat) : Int) := by
  have : ((y : Int) / 2 ^ k) = ((y / 2 ^ k : Nat) : Int) := by simp
  rw [this]
  rfl
set_option maxRecDepth 100000 in
theorem cv_bits : ∀ n : Fin 256, bitsum (cwords (cv n.val)) = n.val := by decide +kernel
end Otp
end Go.Proofs.YtmiaabpnolebhaaGreatDoor

/-
  The counter, bit by bit: plain.
-/
namespace Go.Proofs.YtmiaabpnolebhaaGreatDoor
open Go.RowKit

namespace Otp
open Fuse
theorem bit_tb (x t : Nat) : x / 2 ^ t % 2 = (x.testBit t).toNat := by
  rw [Nat.toNat_testBit]
theorem bit_compl (x t : Nat) (hx : x < 4294967296) (ht : t < 32) : x / 2 ^ t % 2 = 1 - (4294967295 - x) / 2 ^ t % 2 := by
  rw [bit_tb, bit_tb, bit_not' x t hx]
  cases x.testBit t <;> simp [ht]
theorem ctz_bits (y : Nat) (h0 : y ≠ 0) (hy : y < 4294967296) : (∀ t, t < Lib.ctz 32 y → y / 2 ^ t % 2 = 0) ∧ y / 2 ^ (Lib.ctz 32 y) % 2 = 1 ∧ Lib.ctz 32 y < 32 := by
  obtain ⟨m, hm, hk⟩ := Lib.ctzFrom_spec 32 y (by omega) hy
  have e : Lib.ctz 32 y = Lib.ctzFrom 32 y := by simp [Lib.ctz, h0]
  rw [e]
  generalize Lib.ctzFrom 32 y = k at *
  refine ⟨fun t ht => ?_, ?_, hk⟩
  · have : y = 2 ^ t * (2 * (2 ^ (k - t - 1) * (2 * m + 1))) := by
      rw [hm, ← Nat.mul_assoc 2, ← Nat.mul_assoc, ← Nat.pow_succ', ← Nat.pow_add]
      congr 2
      omega
    rw [this, Nat.mul_div_cancel_left _ (Nat.pow_pos (by decide)), Nat.mul_mod_right]
  · rw [hm, Nat.mul_div_cancel_left _ (Nat.pow_pos (by decide))]
    omega
/-- Below the count every bit is set; at it, if there is such a bit, it isn't. -/
theorem ctr_bits : ∀ ws : List Nat, (∀ x ∈ ws, x < 4294967296) → (∀ n, n < ctr ws → (ws[n / 32]?.getD 0) / 2 ^ (n % 32) % 2 = 1) ∧ (ctr ws < 32 * ws.length → (ws[ctr ws / 32]?.getD 0) / 2 ^ (ctr ws % 32) % 2 = 0)
  | [], _ => ⟨fun n hn => by simp [ctr] at hn, fun h => by simp [ctr] at h⟩
  | x :: r, hw => by
    have hx := hw x (by simp)
    obtain ⟨i1, i2⟩ := ctr_bits r (fun y hy => hw y (by simp [hy]))
    by_cases hf : x = 4294967295
    · have e : ctr (x :: r) = 32 + ctr r := by rw [ctr, if_pos hf]
      rw [e]
      constructor
      · intro n hn
        by_cases h32 : n < 32
        · rw [Nat.div_eq_of_lt h32, List.getElem?_cons_zero, Option.getD_some, bit_compl x _ hx (Nat.mod_lt _ (by decide)), hf]
          simp
        · have := i1 (n - 32) (by omega)
          rw [show n / 32 = (n - 32) / 32 + 1 by omega, show n % 32 = (n - 32) % 32 by omega, List.getElem?_cons_succ]
          exact this
      · intro h
        have := i2 (by simp only [List.length_cons] at h; omega)
        rw [show (32 + ctr r) / 32 = ctr r / 32 + 1 by omega, show (32 + ctr r) % 32 = ctr r % 32 by omega, List.getElem?_cons_succ]
        exact this
    · have e : ctr (x :: r) = Lib.ctz 32 (4294967295 - x) := by rw [ctr, if_neg hf]
      obtain ⟨c1, c2, c3⟩ := ctz_bits (4294967295 - x) (by omega) (by omega)
      rw [e]
      constructor
      · intro n hn
        rw [Nat.div_eq_of_lt (show n < 32 by omega), Nat.mod_eq_of_lt (show n < 32 by omega), List.getElem?_cons_zero, Option.getD_some, bit_compl x n hx (by omega), c1 n hn]
      · intro _
        rw [Nat.div_eq_of_lt c3, Nat.mod_eq_of_lt c3, List.getElem?_cons_zero, Option.getD_some, bit_compl x _ hx c3, c2]
end Otp
end Go.Proofs.YtmiaabpnolebhaaGreatDoor

/-
  What rises, in plain Lean: words whose bits are only set; the life, the counter, the marks of rows.
-/
namespace Go.Proofs.YtmiaabpnolebhaaGreatDoor
open Go.RowKit

namespace Otp
open Fuse
/-- Every bit of x is one of y. -/
def Sub (x y : Nat) : Prop := x ||| y = y
theorem Sub.refl (x : Nat) : Sub x x := Nat.or_self x
theorem Sub.bit {x y : Nat} (h : Sub x y) (i : Nat) (hx : x.testBit i = true) : y.testBit i = true := by
  have := congrArg (fun z => z.testBit i) h
  simp only [Nat.testBit_or, hx, Bool.true_or] at this
  exact this.symm
theorem Sub.of_bits {x y : Nat} (h : ∀ i, x.testBit i = true → y.testBit i = true) : Sub x y := by
  apply Nat.eq_of_testBit_eq
  intro i
  rw [Nat.testBit_or]
  cases hx : x.testBit i with
  | false => simp
  | true => simp [h i hx]
theorem Sub.trans {x y z : Nat} (h : Sub x y) (k : Sub y z) : Sub x z := Sub.of_bits fun i hi => k.bit i (h.bit i hi)
theorem Sub.or (x y : Nat) : Sub x (x ||| y) := Sub.of_bits fun i hi => by rw [Nat.testBit_or, hi]; rfl
theorem Sub.field {x y : Nat} (h : Sub x y) (k : Nat) : Sub (x / 2 ^ k % 256) (y / 2 ^ k % 256) := Sub.of_bits fun i hi => by
  rw [show (256 : Nat) = 2 ^ 8 from rfl, Nat.testBit_mod_two_pow, Nat.testBit_div_two_pow] at hi ⊢
  simp only [Bool.and_eq_true, decide_eq_true_eq] at hi ⊢
  exact ⟨hi.1, h.bit _ hi.2⟩
theorem ones_mono0 : ∀ a b : Fin 256, a.val ||| b.val = b.val → Lib.onesCount a.val ≤ Lib.onesCount b.val := by decide +kernel
theorem onB_mono {x y : Nat} (h : Sub x y) (i : Nat) (hx : onB x i = true) : onB y i = true := by
  unfold onB at hx ⊢
  rw [decide_eq_true_eq] at hx ⊢
  have := ones_mono0 ⟨x / 2 ^ (8 * i) % 256, Nat.mod_lt _ (by decide)⟩ ⟨y / 2 ^ (8 * i) % 256, Nat.mod_lt _ (by decide)⟩ (h.field (8 * i))
  exact Nat.le_trans hx this
theorem lifeN_mono {x y : Nat} (h : Sub x y) : ∀ n, lifeN x n ≤ lifeN y n
  | 0 => Nat.le_refl _
  | i + 1 => by
    have ih := lifeN_mono h i
    have hle := lifeN_le x i
    simp only [lifeN]
    by_cases hx : onB x i = true
    · rw [if_pos hx, if_pos (onB_mono h i hx)]
      exact Nat.le_refl _
    · rw [if_neg hx]
      split
      · omega
      · exact ih
/-- The words have kept their bits. -/
def More (vs vs' : List Nat) : Prop := vs.length = vs'.length ∧ ∀ (i x y : Nat), vs[i]? = some x → vs'[i]? = some y → Sub x y
theorem More.refl (vs : List Nat) : More vs vs := ⟨rfl, fun i x y hx hy => by rw [hx] at hy; obtain rfl := Option.some.inj hy; exact Sub.refl x⟩
theorem More.trans {a b c : List Nat} (h : More a b) (k : More b c) : More a c := ⟨h.1.trans k.1, fun i x z hx hz => by
  have hi : i < b.length := by have := (List.getElem?_eq_some_iff.1 hx).1; have := h.1; omega
  exact (h.2 i x _ hx (List.getElem?_eq_getElem hi)).trans (k.2 i _ z (List.getElem?_eq_getElem hi) hz)⟩
theorem More.set {vs : List Nat} {i x y : Nat} (hx : vs[i]? = some x) (h : Sub x y) : More vs (vs.set i y) := ⟨by simp, fun j a b ha hb => by
  by_cases hji : j = i
  · subst hji
    rw [List.getElem?_set_self (List.getElem?_eq_some_iff.1 ha).1] at hb
    rw [hx] at ha
    obtain rfl := Option.some.inj ha
    obtain rfl := Option.some.inj hb
    exact h
  · rw [List.getElem?_set_ne (fun e => hji e.symm), ha] at hb
    obtain rfl := Option.some.inj hb
    exact Sub.refl a⟩
theorem life_mono {vs vs' : List Nat} (h : More vs vs') (h0 : 0 < vs.length) : life vs ≤ life vs' := by
  obtain ⟨x, hx⟩ : ∃ x, vs[0]? = some x := ⟨_, List.getElem?_eq_getElem h0⟩
  obtain ⟨y, hy⟩ : ∃ y, vs'[0]? = some y := ⟨_, List.getElem?_eq_getElem (by rw [← h.1]; exact h0)⟩
  unfold life
  rw [hx, hy]
  exact lifeN_mono (h.2 0 x y hx hy) 4
theorem counter_mono {vs vs' : List Nat} (h : More vs vs') (hl : vs.length = 64) (hw : ∀ x ∈ vs, x < 4294967296) (hw' : ∀ x ∈ vs', x < 4294967296) : counter vs ≤ counter vs' := by
  have hl' : vs'.length = 64 := by rw [← h.1]; exact hl
  obtain ⟨a1, _⟩ := ctr_bits (cwords vs) (fun x hx => hw x (List.mem_of_mem_drop (List.mem_of_mem_take hx)))
  obtain ⟨_, b2⟩ := ctr_bits (cwords vs') (fun x hx => hw' x (List.mem_of_mem_drop (List.mem_of_mem_take hx)))
  have c1 : (cwords vs).length = 8 := by simp [cwords, hl]
  have c2 : (cwords vs').length = 8 := by simp [cwords, hl']
  have hle := ctr_le (cwords vs)
  unfold counter
  rcases Nat.lt_or_ge (ctr (cwords vs')) (ctr (cwords vs)) with hlt | hge
  · exfalso
    have hn : ctr (cwords vs') < 32 * (cwords vs').length := by omega
    have e1 := a1 _ hlt
    have e2 := b2 hn
    generalize ctr (cwords vs') = n at *
    have hi : n / 32 < 8 := by omega
    obtain ⟨x, hx⟩ : ∃ x, (cwords vs)[n / 32]? = some x := ⟨_, List.getElem?_eq_getElem (by omega)⟩
    obtain ⟨y, hy⟩ : ∃ y, (cwords vs')[n / 32]? = some y := ⟨_, List.getElem?_eq_getElem (by omega)⟩
    rw [hx, Option.getD_some, bit_tb] at e1
    rw [hy, Option.getD_some, bit_tb] at e2
    have hx' : vs[1 + n / 32]? = some x := by rw [cwords, List.getElem?_take, if_pos hi, List.getElem?_drop] at hx; exact hx
    have hy' : vs'[1 + n / 32]? = some y := by rw [cwords, List.getElem?_take, if_pos hi, List.getElem?_drop] at hy; exact hy
    have hb : x.testBit (n % 32) = true := by cases hq : x.testBit (n % 32) <;> simp [hq] at e1 ⊢
    rw [(h.2 _ x y hx' hy').bit _ hb] at e2
    simp at e2
  · omega
/-- Writes that may be done, one behind the other. -/
def okL : List Nat → List (Nat × Nat) → Prop
  | _, [] => True
  | vs, p :: r => (∃ old, vs[p.1]? = some old ∧ Sub old p.2) ∧ p.2 < 4294967296 ∧ okL (vs.set p.1 p.2) r
def setAll : List Nat → List (Nat × Nat) → List Nat
  | vs, [] => vs
  | vs, p :: r => setAll (vs.set p.1 p.2) r
theorem sub_and {x v : Nat} (h : Sub x v) (hv : v < 4294967296) : x &&& (4294967295 - v) = 0 := by
  apply Nat.eq_of_testBit_eq
  intro i
  rw [Nat.testBit_and, bit_not' v i hv, Nat.zero_testBit]
  cases hx : x.testBit i with
  | false => rfl
  | true => simp [h.bit i hx]
theorem setAll_length : ∀ (l : List (Nat × Nat)) (vs : List Nat), (setAll vs l).length = vs.length
  | [], _ => rfl
  | p :: r, vs => by rw [setAll, setAll_length r, List.length_set]
theorem setAll_more : ∀ (l : List (Nat × Nat)) (vs : List Nat), okL vs l → More vs (setAll vs l)
  | [], vs, _ => More.refl vs
  | p :: r, vs, h => by
    obtain ⟨⟨old, ho, hs⟩, _, hr⟩ := h
    exact (More.set ho hs).trans (setAll_more r _ hr)
theorem okL_take : ∀ (l : List (Nat × Nat)) (vs : List Nat) (n : Nat), okL vs l → okL vs (l.take n)
  | [], _, n, h => by simpa using h
  | _ :: _, _, 0, _ => trivial
  | p :: r, vs, n + 1, h => ⟨h.1, h.2.1, okL_take r _ n h.2.2⟩
theorem okL_at : ∀ (l : List (Nat × Nat)) (vs : List Nat) (n : Nat) (p : Nat × Nat), okL vs l → l[n]? = some p → ∃ old, (setAll vs (l.take n))[p.1]? = some old ∧ Sub old p.2 ∧ p.2 < 4294967296
  | q :: r, vs, 0, p, h, hp => by
    simp only [List.getElem?_cons_zero, Option.some.injEq] at hp
    subst hp
    obtain ⟨⟨old, ho, hs⟩, hb, _⟩ := h
    exact ⟨old, ho, hs, hb⟩
  | q :: r, vs, n + 1, p, h, hp => okL_at r _ n p h.2.2 (by simpa using hp)
theorem setAll_far : ∀ (l : List (Nat × Nat)) (vs : List Nat) (i : Nat), (∀ p ∈ l, p.1 ≠ i) → (setAll vs l)[i]? = vs[i]?
  | [], _, _, _ => rfl
  | p :: r, vs, i, h => by
    rw [setAll, setAll_far r _ i (fun q hq => h q (by simp [hq])), List.getElem?_set_ne (h p (by simp))]
theorem okL_append : ∀ (l r : List (Nat × Nat)) (vs : List Nat), okL vs l → okL (setAll vs l) r → okL vs (l ++ r)
  | [], _, _, _, h => h
  | p :: l, r, vs, h, k => ⟨h.1, h.2.1, okL_append l r _ h.2.2 k⟩
theorem okL_plan : ∀ (l : List Nat) (vs : List Nat) (f : Nat), f + l.length ≤ vs.length → (∀ (i x : Nat), vs[i]? = some x → x < 4294967296) → (∀ x ∈ l, x < 4294967296) → okL vs (planOf vs f l)
  | [], _, _, _, _, _ => trivial
  | v :: r, vs, f, hf, hw, hl => by
    simp only [List.length_cons] at hf
    obtain ⟨old, ho⟩ : ∃ old, vs[f]? = some old := ⟨_, List.getElem?_eq_getElem (by omega)⟩
    rw [planOf, ho, Option.getD_some]
    by_cases hs : old ||| v = old
    · rw [if_pos hs, List.nil_append]
      exact okL_plan r vs (f + 1) (by omega) hw (fun x hx => hl x (by simp [hx]))
    · rw [if_neg hs]
      have hv : v < 4294967296 := hl v (by simp)
      have hy : old ||| v < 4294967296 := or_lt (hw f old ho) hv
      refine ⟨⟨old, ho, Sub.or old v⟩, hy, ?_⟩
      have e : planOf vs (f + 1) r = planOf (vs.set f (old ||| v)) (f + 1) r := planOf_congr r (f + 1) (fun j hj => by rw [List.getElem?_set_ne (by omega)])
      show okL (vs.set f (old ||| v)) (planOf vs (f + 1) r)
      rw [e]
      refine okL_plan r _ (f + 1) (by rw [List.length_set]; omega) (fun i x hx => ?_) (fun x hx => hl x (by simp [hx]))
      by_cases hif : f = i
      · subst hif
        rw [List.getElem?_set_self (by omega)] at hx
        obtain rfl := Option.some.inj hx
        exact hy
      · rw [List.getElem?_set_ne hif] at hx
        exact hw i x hx
theorem okL_numb : ∀ (ws vs : List Nat) (f : Nat), (∀ j, j < ws.length → vs[f + j]? = some 0) → (∀ x ∈ ws, x < 4294967296) → okL vs (numb f ws)
  | [], _, _, _, _ => trivial
  | x :: r, vs, f, h, hw => by
    refine ⟨⟨0, by simpa using h 0 (by simp), by simp [Sub]⟩, hw x (by simp), okL_numb r _ (f + 1) (fun j hj => ?_) (fun y hy => hw y (by simp [hy]))⟩
    rw [List.getElem?_set_ne (by omega)]
    have := h (j + 1) (by simp; omega)
    rw [← this]
    congr 1
    omega
theorem numb_mem : ∀ (ws : List Nat) (f : Nat) (p : Nat × Nat), p ∈ numb f ws → f ≤ p.1 ∧ p.1 < f + ws.length
  | x :: r, f, p, h => by
    simp only [numb, List.mem_cons] at h
    rcases h with rfl | h
    · simp
    · have := numb_mem r (f + 1) p h
      simp only [List.length_cons]
      omega
theorem okL_row (vs : List Nat) (k : Nat) (ws : List Nat) (hl : vs.length = 64) (hk : k < 4) (hz : rowZ vs k = true) (hw : ws.length = 8) (hb : ∀ x ∈ ws, x < 4294967296) : okL vs (rowL k ws) := by
  have hz' : ∀ j, j < 9 → vs[27 + 9 * k + j]? = some 0 := fun j hj => by
    unfold rowZ at hz
    rw [List.all_eq_true] at hz
    have hr : (rowW vs k)[j]? = vs[27 + 9 * k + j]? := by unfold rowW; rw [List.getElem?_take, if_pos hj, List.getElem?_drop]
    obtain ⟨x, hx⟩ : ∃ x, vs[27 + 9 * k + j]? = some x := ⟨_, List.getElem?_eq_getElem (by omega)⟩
    rw [← hr] at hx
    have := hz x (List.mem_of_getElem? hx)
    rw [hr] at hx
    rw [hx]
    simpa using this
  unfold rowL
  refine okL_append _ _ _ ?_ ?_
  · refine ⟨⟨0, ?_, by simp [Sub]⟩, show (16711680 : Nat) < 4294967296 by decide, okL_numb ws _ _ (fun j hj => ?_) hb⟩
    · have := hz' 8 (by omega)
      rw [show 35 + 9 * k = 27 + 9 * k + 8 by omega]
      exact this
    · rw [List.getElem?_set_ne (by omega)]
      exact hz' j (by omega)
  · refine ⟨⟨16711680, ?_, ?_⟩, show (16711935 : Nat) < 4294967296 by decide, trivial⟩
    · show (setAll (vs.set (35 + 9 * k) 16711680) (numb (27 + 9 * k) ws))[35 + 9 * k]? = some 16711680
      rw [setAll_far _ _ _ (fun p hp => by have := numb_mem _ _ p hp; omega), List.getElem?_set_self (by omega)]
    · show (16711680 : Nat) ||| 16711935 = 16711935
      decide
/-- What Do answers of such writes. -/
theorem doL_ok : ∀ (l : List (Nat × Nat)) (vs : List Nat), okL vs l → (∀ p ∈ l, p.1 < vs.length) → doL vs l = (0, setAll vs l)
  | [], _, _, _ => rfl
  | p :: r, vs, h, hi => by
    obtain ⟨⟨old, ho, hs⟩, hb, hr⟩ := h
    have hlt : p.1 < vs.length := hi p (by simp)
    have hin : inR vs (p.1 : Int) = true := by simp [inR]; omega
    have hc : cutE vs (p.1 : Int) p.2 = 0 := by
      unfold cutE
      rw [if_pos hin]
      simp [ho, sub_and hs hb]
    have hv : cutV vs (p.1 : Int) p.2 4294967295 = vs.set p.1 p.2 := by
      unfold cutV
      rw [if_pos hc]
      simp only [Int.toNat_natCast, ho, Option.getD_some]
      have hfull : p.2 &&& 4294967295 = p.2 := by
        have := Nat.and_two_pow_sub_one_eq_mod p.2 32
        rw [show (4294967295 : Nat) = 2 ^ 32 - 1 by decide, this]
        exact Nat.mod_eq_of_lt hb
      rw [hfull, show old ||| p.2 = p.2 from hs]
    rw [doL, if_pos hc, hv, setAll]
    exact doL_ok r _ hr (fun q hq => by rw [List.length_set]; exact hi q (by simp [hq]))
/-- A row's key, where there is one. -/
def rowKey (vs : List Nat) (r : Nat) : List Nat := (vs.drop (27 + 9 * r)).take 8
def rowE (vs : List Nat) (r : Nat) : Int := if onB (vs[35 + 9 * r]?.getD 0) 1 = true then 17 else if onB (vs[35 + 9 * r]?.getD 0) 0 = true then 0 else 3
theorem onB_zero (i : Nat) : onB 0 i = false := by
  unfold onB
  rw [Nat.zero_div]
  rfl
/-- A row that has a key isn't empty. -/
theorem rowE_full {vs : List Nat} {r : Nat} (hl : vs.length = 64) (hr : r < 4) (h : rowE vs r = 0) : rowZ vs r = false := by
  cases hz : rowZ vs r with
  | false => rfl
  | true =>
    exfalso
    unfold rowZ at hz
    rw [List.all_eq_true] at hz
    obtain ⟨x, hx⟩ : ∃ x, vs[35 + 9 * r]? = some x := ⟨_, List.getElem?_eq_getElem (by omega)⟩
    have hr8 : (rowW vs r)[8]? = some x := by
      unfold rowW
      rw [List.getElem?_take, if_pos (by omega), List.getElem?_drop, show 27 + 9 * r + 8 = 35 + 9 * r by omega]
      exact hx
    have := hz x (List.mem_of_getElem? hr8)
    have hx0 : x = 0 := by simpa using this
    unfold rowE at h
    rw [hx, hx0, Option.getD_some, onB_zero, onB_zero] at h
    simp at h
/-- Behind writes that keep its words a key is the same, or dead; and dead stays dead. -/
theorem row_mono {vs vs' : List Nat} {r : Nat} (hm : More vs vs') (hl : vs.length = 64) (hr : r < 4) (hk : rowE vs r = 0 → rowKey vs' r = rowKey vs r) :
    (rowE vs r = 0 → rowE vs' r = 17 ∨ (rowE vs' r = 0 ∧ rowKey vs' r = rowKey vs r)) ∧ (rowE vs r = 17 → rowE vs' r = 17) := by
  obtain ⟨x, hx⟩ : ∃ x, vs[35 + 9 * r]? = some x := ⟨_, List.getElem?_eq_getElem (by omega)⟩
  obtain ⟨y, hy⟩ : ∃ y, vs'[35 + 9 * r]? = some y := ⟨_, List.getElem?_eq_getElem (by have := hm.1; omega)⟩
  have hs := hm.2 _ x y hx hy
  constructor
  · intro h
    have hk' := hk h
    unfold rowE at h ⊢
    rw [hx, Option.getD_some] at h
    rw [hy, Option.getD_some]
    by_cases h1 : onB y 1 = true
    · left; rw [if_pos h1]
    · right
      have h0 : onB x 0 = true := by
        by_cases hq : onB x 0 = true
        · exact hq
        · exfalso
          rw [if_neg hq] at h
          split at h <;> simp at h
      rw [if_neg h1, if_pos (onB_mono hs 0 h0)]
      exact ⟨rfl, hk'⟩
  · intro h
    unfold rowE at h ⊢
    rw [hx, Option.getD_some] at h
    rw [hy, Option.getD_some]
    have h1 : onB x 1 = true := by
      by_cases hq : onB x 1 = true
      · exact hq
      · exfalso
        rw [if_neg hq] at h
        split at h <;> simp at h
    rw [if_pos (onB_mono hs 1 h1)]
end Otp
end Go.Proofs.YtmiaabpnolebhaaGreatDoor

/-
  What a row answers.
-/
namespace Go.Proofs.YtmiaabpnolebhaaGreatDoor
open Go.RowKit

namespace Otp
open R1
/-- What Row answers: a row's key. -/
def rowD (vs : List Nat) (k : Nat) : List Nat := if rowE vs k = 0 then wordsB (rowKey vs k) else List.replicate 32 0
def RowOut (w : World) (D : List Nat) (E : Int) (e : Ending) (w' : World) : Prop := e = .returned (.tuple #[.agg (b8 D), .int .i64 E]) ∧ Below w.heap.size w w'
theorem dig_info : (Tryz.prog.info? 23).map (·.size) = some 32 := by kernel_rfl
end Otp
end Go.Proofs.YtmiaabpnolebhaaGreatDoor

/-
  copy onto bytes that lie in a block; an array's end as a slice; four bytes of a word.
-/
namespace Go.Proofs.YtmiaabpnolebhaaGreatDoor
open Go.RowKit

namespace Otp
open Fuse R1
/-- An array's end, as a slice. -/
theorem run_slice_arr_l {P : Program} (t e : TypeId) (N : Nat) (ht : P.underlying t = some (.array N e)) (hs : ∀ w, (sizeOf e).run P w = .ok 1 w) (b lo : Nat) (kl : IntKind) (l : Int) (hl : l = lo) (h3 : lo < N) (w : World) :
    (Instr.sliceAt t (.pointer (some ⟨b, 0, none⟩)) (some (.int kl l)) none none).run P w = .ok (.slice (some ⟨b, lo, none⟩) (N - lo) (N - lo)) w := by
  have hn : P.arrayLen t = N := by simp [Program.arrayLen, ht]
  have he : P.elem t = e := by simp [Program.elem, ht]
  have ht' : P.underlying t = some (.array (P.arrayLen t) (P.elem t)) := by rw [hn, he]; exact ht
  rw [run_sliceAt_array_l w t ⟨b, 0, none⟩ ht' kl l (by omega) (by rw [hn]; omega), he, hs, hn]
  subst hl
  have hne : ¬ N = lo := by omega
  simp [Result.andThen, slicedAt, hne, Go.WideShapes.add_plain]
theorem numB_four (x : Nat) (hm : x < 4294967296) : ((numB x 4).map fun y => Value.int .u8 ((y : Nat) : Int)) = [Value.int .u8 ((x : Int) / 16777216), Value.int .u8 ((x : Int) / 65536 % 256), Value.int .u8 ((x : Int) / 256 % 256), Value.int .u8 ((x : Int) % 256)] := by
  have e : x / 16777216 % 256 = x / 16777216 := Nat.mod_eq_of_lt (by omega)
  simp [numB, e]
theorem b8_list (l : List Nat) : (l.map fun y => Value.int .u8 ((y : Nat) : Int)).toArray = b8 l := rfl
theorem map_splice {α β : Type} (f : α → β) (L : List α) (o : Nat) (cs : List α) : (splice L o cs).map f = splice (L.map f) o (cs.map f) := by
  simp [splice, List.map_take, List.map_drop]
theorem wpList_copy_b8 {P : Program} {w : World} {ops : Array Oper} {rest : List Oper} {o : Oper} {a : Act} {Q : Exit → Act → World → Prop} (hgd : o.guard = none) (d s : Operand) (dT sT : TypeId)
    (ho : o.op = .call { callee := .builtin .copy, args := #[d, s], argTypes := #[dT, sT] }) (elem : TypeId) (hu : P.underlying dT = some (.slice elem)) (hsz : (P.info? elem).map (·.size) = some 1)
    (dp sp : Option Addr) (dLen dCap sLen sCap : Nat) (hd : a.eval d = .slice dp dLen dCap) (hs : a.eval s = .slice sp sLen sCap)
    (g off : Nat) (t : TypeId) (cur : List Nat) (hg : Blk w g t (b8 cur)) (cs : List Nat) (hn : cs.length = Nat.min sLen dLen)
    (hpos : 0 < cs.length → dp = some ⟨g, off, none⟩ ∧ ∃ ad, sp = some ad ∧ ∀ j (v : Value), (cs.map fun y => Value.int .u8 ((y : Nat) : Int))[j]? = some v → w.cell? (ad.add j) = some v)
    (hfit : off + cs.length ≤ cur.length) (B : Nat) (w0 : World) (hb : Below B w0 w) (hBg : B ≤ g)
    (h : ∀ w', Hid (Blk w' g t (b8 (splice cur off cs))) → Hid (Below B w0 w') → wpList P ops Q rest (a.put o.dst (goInt cs.length)) w') :
    wpList P ops Q (o :: rest) a w := by
  have hl : (cs.map fun y => Value.int .u8 ((y : Nat) : Int)).length = cs.length := by simp
  refine wpList_copy_splice hgd d s dT sT ho elem hu hsz dp sp dLen dCap sLen sCap hd hs g off (cur.map fun y => Value.int .u8 ((y : Nat) : Int)) t hg (cs.map fun y => Value.int .u8 ((y : Nat) : Int)) (by rw [hl]; exact hn) (by rw [hl]; exact hpos) (by rw [hl]; simpa using hfit) (fun v hv => ?_) B w0 hb hBg (fun w' h1 h2 => ?_)
  · obtain ⟨x, _, rfl⟩ := List.mem_map.1 hv
    rfl
  · have := h w' (Lib.hid (by unfold b8; rw [map_splice]; exact h1.out)) (Lib.hid h2)
    rw [hl]
    exact this
theorem splice_length {L : List Nat} {o : Nat} {cs : List Nat} (h : o + cs.length ≤ L.length) : (splice L o cs).length = L.length := length_splice L o cs h
/-- The next part, behind those that are there already. -/
theorem splice_next (a cs : List Nat) (n : Nat) (h : cs.length ≤ n) : splice (a ++ List.replicate n 0) a.length cs = (a ++ cs) ++ List.replicate (n - cs.length) 0 := by
  unfold splice
  rw [List.take_append_of_le_length (Nat.le_refl _), List.take_of_length_le (Nat.le_refl _), List.drop_append, List.drop_of_length_le (by omega), List.nil_append, List.drop_replicate, List.append_assoc]
  congr 3
  omega
end Otp
end Go.Proofs.YtmiaabpnolebhaaGreatDoor
