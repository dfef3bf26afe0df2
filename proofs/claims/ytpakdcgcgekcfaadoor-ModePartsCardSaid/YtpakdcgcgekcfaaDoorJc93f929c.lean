/-
  Texts of this claim, joined: RfG, RfX, EqDig, ModeAw, RfN, From, U8Ints, ModeRu, R1Same, R1JoinG.
-/
import Derived.Test.YtpakdcgcgekcfaaDoorJ4c623a78
import Derived.Test.YtpakdcgcgekcfaaDoorJ74515501
import Derived.Test.YtpakdcgcgekcfaaDoorJ2f1c4a9b
import Derived.Test.YtpakdcgcgekcfaaDoorProg
import Derived.Test.YtpakdcgcgekcfaaDoorJ52d9bedf
import Derived.ChangeKeysEq
import Derived.Laws.StructEq
import Derived.Test.YtpakdcgcgekcfaaDoorJ155f9c5c
import Derived.Deep.LoopGhost
import Derived.Test.YtpakdcgcgekcfaaDoorJ8b3fd3ea
import Derived.Deep.AppendLies
set_option linter.unusedVariables false
/-
  The reference's AES: Encrypt.
-/
set_option linter.unusedSimpArgs false
set_option linter.unusedVariables false
namespace Go.Proofs.YtpakdcgcgekcfaaDoor
open Go.RowKit

namespace Aes
open Otp R1 Fuse Sha
theorem round_at {key : List Nat} (hk : ∀ t ∈ kWords key, W4 t) {r j : Nat} (hr : 4 * r + 4 ≤ (kWords key).length) (hj : j < 16) : ∃ word a, (kWords key)[4 * r + j / 4]? = some word ∧ word.length = 4 ∧ word[j % 4]? = some a ∧ a < 256 ∧ (kRound key r)[j]? = some a := by
  obtain ⟨a, b, c, d, h0, ha, hb, hc, hd, e0, e1, e2, e3⟩ := round_word hk hr (i := j / 4) (by omega)
  rcases (by omega : j % 4 = 0 ∨ j % 4 = 1 ∨ j % 4 = 2 ∨ j % 4 = 3) with h | h | h | h
  · rw [show 4 * (j / 4) = j by omega] at e0
    exact ⟨_, a, h0, rfl, by rw [h]; rfl, ha, e0⟩
  · rw [show 4 * (j / 4) + 1 = j by omega] at e1
    exact ⟨_, b, h0, rfl, by rw [h]; rfl, hb, e1⟩
  · rw [show 4 * (j / 4) + 2 = j by omega] at e2
    exact ⟨_, c, h0, rfl, by rw [h]; rfl, hc, e2⟩
  · rw [show 4 * (j / 4) + 3 = j by omega] at e3
    exact ⟨_, d, h0, rfl, by rw [h]; rfl, hd, e3⟩
def NewC (B : Nat) (v : Value) (W : World) : Prop := ∃ g, v = .pointer (some ⟨g, 0, none⟩) ∧ B ≤ g ∧ Blk W g 161 (b8 [0, 0, 0, 0])
theorem NewC.grow {B : Nat} : ∀ v W W', Rel.Grow W W' → NewC B v W → NewC B v W' := fun _ _ _ h ⟨g, h1, h2, h3⟩ => ⟨g, h1, h2, h3.next h rfl⟩
theorem rel_newC {o : Oper} {a : Act} {B : Nat} {W : World} (ho : o.op = .alloc 161) (hB : B ≤ W.heap.size) : RelG.relAt Tryd.prog o a W (NewC B) := by
  have hz := Tryd.zeroValue161
  have hs := Tryd.sizeOf161
  unfold RelG.relAt execOp
  simp only [ho]
  go_simp
  exact ⟨Rel.Grow.alloc _ _, W.heap.size, rfl, hB, Blk.new _ _ _⟩
theorem gm_one_all : ((List.range 256).all fun x => gm x 1 == x) = true := by decide +kernel
theorem gm_one {x : Nat} (hx : x < 256) : gm x 1 = x := by
  have := List.all_eq_true.1 gm_one_all x (List.mem_range.2 hx)
  simpa using this
theorem at0_lt {X : List Nat} (hX : ∀ x ∈ X, x < 256) (i : Nat) : at0 X i < 256 := by
  rw [at0]
  rcases h : X[i]? with - | x
  · simp
  · exact hX x (List.mem_of_getElem? h)
theorem mix_cell {X : List Nat} (hX : ∀ x ∈ X, x < 256) {c row : Nat} (hc : c < 4) (hw : row < 4) : (mix [2, 3, 1, 1] X)[4 * c + row]? = some (gm (at0 X (4 * c + row)) 2 ^^^ gm (at0 X (4 * c + (row + 1) % 4)) 3 ^^^ at0 X (4 * c + (row + 2) % 4) ^^^ at0 X (4 * c + (row + 3) % 4)) := by
  rw [mix_at _ _ (by omega)]
  show some (0 ^^^ gm (at0 X (4 * c + row - (4 * c + row) % 4 + (4 * c + row + 0) % 4)) 2 ^^^ gm (at0 X (4 * c + row - (4 * c + row) % 4 + (4 * c + row + 1) % 4)) 3 ^^^ gm (at0 X (4 * c + row - (4 * c + row) % 4 + (4 * c + row + 2) % 4)) 1 ^^^ gm (at0 X (4 * c + row - (4 * c + row) % 4 + (4 * c + row + 3) % 4)) 1) = _
  rw [gm_one (at0_lt hX _), gm_one (at0_lt hX _), Nat.zero_xor, show 4 * c + row - (4 * c + row) % 4 + (4 * c + row + 0) % 4 = 4 * c + row by omega, show 4 * c + row - (4 * c + row) % 4 + (4 * c + row + 1) % 4 = 4 * c + (row + 1) % 4 by omega, show 4 * c + row - (4 * c + row) % 4 + (4 * c + row + 2) % 4 = 4 * c + (row + 2) % 4 by omega, show 4 * c + row - (4 * c + row) % 4 + (4 * c + row + 3) % 4 = 4 * c + (row + 3) % 4 by omega]
set_option maxRecDepth 100000 in
set_option maxHeartbeats 4000000 in
theorem rencrypt_any (A : Option Addr) (len cap n : Nat) (key b : List Nat) (w : World) (hn : n = 4 ∨ n = 8) (hlen : len = 4 * n) (hl : key.length = len) (hc : len ≤ cap) (hz : Nats .u8 256 w w.heap.size A key) (hb : b.length = 16) (hbb : ∀ x ∈ b, x < 256) :
    Calls Tryd.prog 58 #[.slice A len cap, .agg (b8 b)] w (BkOut w (encB key b)) := by
  have hg : KeyG key := ⟨by omega, fun x hx => by
    obtain ⟨i, hi⟩ := List.mem_iff_getElem?.1 hx
    exact (hz i x hi).1⟩
  have HGD := wall hg
  have HWC := wall (fun W (h : Below w.heap.size w W) => show Calls Tryd.prog 93 #[.slice A len cap] W (WordsOut W (kWords key)) by
    have := rwords_any A len cap n key W hn hlen hl hc ((hz.below h).more h.size)
    rw [kWords_so (by omega) (by omega)] at this
    exact this)
  obtain ⟨R, hR⟩ : ∃ R, rounds key = R := ⟨_, rfl⟩
  have hR1 : 1 ≤ R ∧ R ≤ 14 := by unfold rounds at hR; omega
  have HWL := wall (show (kWords key).length = 4 * (R + 1) by rw [hg.count.1, hR])
  have HSS := wall (fun r (h : r ≤ R + 1) => sSt_ok hg.ok hb hbb r (by rw [hR]; exact h))
  have HSN := wall (fun r => show sSt key b (r + 1) = xorL (pre1 R r (sSt key b r)) (kRound key r) by rw [sSt, hR])
  have HSE := wall (show sSt key b (R + 1) = encB key b by rw [← hR]; exact sSt_end key b (by omega))
  have HS0 := wall (show sSt key b 0 = b from rfl)
  have HKW := wall (show ∀ t ∈ kWords key, W4 t from hg.words)
  have HKR := wall (fun r j (hr : r ≤ R) (hj : j < 16) => round_at hg.words (r := r) (j := j) (by rw [HWL.out]; omega) hj)
  have HKO := wall (fun r (h : r ≤ R) => (hg.ok.2 r (by rw [hR]; exact h)).1)
  have HSB := wall (fun (l : List Nat) (h : l.length = 16) => show (Tryd.prog.info? 90).map (·.size) = some (b8 l).size by rw [b8_size, h]; exact blk_info16)
  rw [← HSE.out]
  generalize sSt key b = SS at *
  generalize kWords key = ws at *
  obtain ⟨w1, hw1⟩ : ∃ W, W = (w.alloc (.cells (b8 b) 90)).alloc (.cells (b8 z16) 90) := ⟨_, rfl⟩
  have HW := wall hw1
  have HB1 := wall (show Below w.heap.size w w1 by rw [hw1]; exact ((Below.refl _ w).alloc (Nat.le_refl _) _).alloc (by simp) _)
  have HKI := wall (show Blk w1 w.heap.size 90 (b8 b) by rw [hw1]; exact (Blk.new _ _ _).alloc _)
  have HKQ := wall (show Blk w1 (w.heap.size + 1) 90 (b8 z16) by rw [hw1]; exact blk_new' (by simp))
  have HBL := wall hb
  clear hw1 hg hz hl hlen hR hb hbb hn
  go_enter Tryd.func58, Tryd.ntmps58
  go_upto_region 1 with fail
  change Code.wp _ _ _ _ ((w.alloc (.cells (b8 b) 90)).alloc (.cells (b8 z16) 90))
  rw [← HW.out]
  clear HW
  go_wp2_with fail
  (with_reducible refine (rboxes_any _).mono ?_); rintro e w2 ⟨gb, rfl, hgb, hK2, hB2⟩
  have HKI2 := wall (HKI.out.next hB2 rfl)
  have HKQ2 := wall (HKQ.out.next hB2 rfl)
  have HB2 := wall (below_then HB1.out hB2 (Nat.le_refl _))
  have HBX2 := wall hK2
  clear HKI HKQ HB1 hK2 hB2 hgb
  go_wp2_with fail
  (with_reducible refine (HWC.out _ HB2.out).mono ?_); rintro e w3 ⟨u, rfl, hR3, hB3⟩
  have HKI3 := wall (HKI2.out.next hB3 rfl)
  have HKQ3 := wall (HKQ2.out.next hB3 rfl)
  have HBX3 := wall (HBX2.out.next hB3 rfl)
  have HR3 := wall (show RwsO w3 w.heap.size ws u from by
    obtain ⟨vs, ⟨a, q⟩, c⟩ := hR3
    exact ⟨vs, ⟨a, fun k word hk => let ⟨v, h1, h2⟩ := q k word hk; ⟨v, h1, own_less h2 HB2.out.size⟩⟩, own_lessR c HB2.out.size⟩)
  have HB3 := wall (below_then HB2.out hB3 (Nat.le_refl _))
  clear HKI2 HKQ2 HBX2 HB2 hR3 hB3 HWC
  obtain ⟨w0, hw0⟩ : ∃ t, ws[0]? = some t := ⟨_, List.getElem?_eq_getElem (by rw [HWL.out]; omega)⟩
  obtain ⟨gu, cu, v0, rfl, hcu, hgu, -, -⟩ := HR3.out.row hw0
  rw [HWL.out] at hcu ⊢
  clear hw0 hgu
  obtain ⟨L, hL⟩ : ∃ L, 4 * (R + 1) = L := ⟨_, rfl⟩
  rw [hL] at hcu ⊢
  have HWL := wall (show ws.length = L by rw [HWL.out, hL])
  have HL := wall hL
  have hq1 : (L : Int).tdiv 4 = ((R + 1 : Nat) : Int) := by rw [Int.tdiv_eq_ediv_of_nonneg (by omega)]; omega
  have hq2 : (L : Int) / 4 = ((R + 1 : Nat) : Int) := by omega
  have hq3 : ((R + 1 : Nat) : Int) - 1 = (R : Int) := by omega
  clear hL
  go_upto_region 4 with fail
  clear hq1 hq2 hq3
  go_upto_region 5 with (first | refine wpList_load_row rfl 90 _ rfl w.heap.size rfl 90 (b8 b) (0, 0) _ HKI3.out Tryd.underlying90 rfl (HSB.out _ HBL.out) ?_ | (refine wpList_new_row rfl 90 (.tmp 8) (.tmp 24) rfl w3.heap.size (b8 b) rfl rfl 90 (b8 z16) (Blk.new _ _ _) (HSB.out _ HBL.out) (by rw [b8_size, b8_size, HBL.out]; rfl) (b8_one _) w3.heap.size w3 ((Below.refl _ w3).alloc (Nat.le_refl _) _) (Nat.le_refl _) ?_; intro w4 K4 B4))
  have HE4 := wall (show En w (w.heap.size + 1) gb w3.heap.size ws (.slice (some ⟨gu, 0, none⟩) L cu) (SS 0) w4 from ⟨HBX3.out.next B4.out rfl, by have := HR3.out.old B4.out; rw [HWL.out] at this; exact this, by rw [HS0.out]; exact K4.out, HKQ3.out.next B4.out rfl, below_then HB3.out B4.out (Nat.le_refl _), by omega, HKQ3.out.lt⟩)
  clear K4 B4 HBX3 HR3 HKQ3 HB3 HKI3
  generalize w3.heap.size = gs at *
  obtain ⟨gR, hgR⟩ : ∃ x, w.heap.size + 1 = x := ⟨_, rfl⟩
  rw [hgR] at HE4 ⊢
  clear hgR
  go_wp2_with fail
  go_loopg [9] (R + 1) (fun gm s9 wr => ∃ r : Nat, r + gm = R + 1 ∧ s9 = .int .i64 (r : Int) ∧ Wall (En w gR gb gs ws (.slice (some ⟨gu, 0, none⟩) L cu) (SS r) wr))
  case atStart => exact ⟨0, by omega, rfl, HE4⟩
  case round =>
    clear HE4
    obtain ⟨r, hg, rfl, HE⟩ := hrel
    have HG := wall hg
    have hr : r ≤ R + 1 := by omega
    clear hg
    have hsk := HSS.out r hr
    have hsn := HSN.out r
    obtain ⟨S, hS⟩ : ∃ S, SS r = S := ⟨_, rfl⟩
    rw [hS] at HE hsk hsn
    have HSK := wall hsk
    have HSN1 := wall hsn
    clear hsk hsn
    by_cases hlt : r ≤ R
    · have hri : (r : Int) ≤ (R : Int) := by omega
      have HPK := wall (pre1_ok R r HSK.out.1 HSK.out.2)
      clear hS
      go_upto_if 31 with fail
      go_cut [] (fun w' => Wall (En w gR gb gs ws (.slice (some ⟨gu, 0, none⟩) L cu) (pre1 R r S) w'))
      case first =>
        clear hri
        by_cases h0 : r = 0
        · have hr0 : ¬ (0 : Int) < (r : Int) := by omega
          have HP0 := wall (show pre1 R r S = S by rw [pre1, if_pos h0])
          clear h0 HPK HSN1
          go_wp2_with fail
          go_meet
          exact wall (by rw [HP0.out]; exact HE.out)
        · have hr0 : (0 : Int) < (r : Int) := by omega
          have HP1 := wall (show pre1 R r S = if r < R then mix [2, 3, 1, 1] (shiftF S) else shiftF S by rw [pre1, if_neg h0])
          have HR0 := wall h0
          have HLT := wall hlt
          obtain ⟨gO, rfl⟩ : ∃ q, q = gk := ⟨_, rfl⟩
          obtain ⟨wO, rfl⟩ : ∃ q, q = wr := ⟨_, rfl⟩
          clear h0 HSN1 hlt
          go_upto_region 10 with (first | refine wpList_load_row rfl 90 _ rfl gs rfl 90 (b8 S) (0, 0) _ HE.out.ks Tryd.underlying90 rfl (HSB.out _ HSK.out.1) ?_ | (refine wpList_new_row rfl 90 (.tmp 10) (.tmp 32) rfl wO.heap.size (b8 S) rfl rfl 90 (b8 z16) (Blk.new _ _ _) (HSB.out _ HSK.out.1) (by rw [b8_size, b8_size, HSK.out.1]; rfl) (b8_one _) wO.heap.size wO ((Below.refl _ wO).alloc (Nat.le_refl _) _) (Nat.le_refl _) ?_; intro w4 K4 B4))
          have HE4 := wall (HE.out.old B4.out)
          have HT4 := wall K4.out
          have hgt : gs < wO.heap.size := HE.out.ks.lt
          generalize wO.heap.size = gt at *
          clear K4 B4 HE
          have HX := wall (show (shiftF S).length = 16 from shiftF_length _)
          have HXB := wall (shiftF_byte S)
          have HXA := wall (fun c row (hc : c < 4) (hw : row < 4) => show (shiftF S)[4 * c + row]? = some (sb (at0 S (4 * ((c + row) % 4) + row))) by
            rw [shiftF, List.getElem?_map, List.getElem?_range (by omega)]
            show some (sb (at0 S ((4 * c + row + 4 * ((4 * c + row) % 4)) % 16))) = _
            rw [show (4 * c + row + 4 * ((4 * c + row) % 4)) % 16 = 4 * ((c + row) % 4) + row by omega])
          obtain ⟨X, hX⟩ : ∃ X, shiftF S = X := ⟨_, rfl⟩
          rw [hX] at HX HXB HXA HP1
          have HXE := wall hX
          clear hX
          go_wp2_with fail
          go_loopg [11] 4 (fun gm s11 wr => ∃ (c : Nat) (cur : List Nat), c + gm = 4 ∧ s11 = .int .i64 (c : Int) ∧ cur.length = 16 ∧ Wall (∀ k, k < 4 * c → cur[k]? = X[k]?) ∧ Wall (En w gR gb gs ws (.slice (some ⟨gu, 0, none⟩) L cu) S wr) ∧ Wall (Blk wr gt 90 (b8 cur)))
          case atStart => exact ⟨0, S, by omega, rfl, HSK.out.1, wall (fun k h => by omega), HE4, HT4⟩
          case round =>
            clear HE4 HT4
            obtain ⟨c, cur, hg, rfl, hcl, HCU, HE, HT⟩ := hrel
            have HGC := wall hg
            have hc : c ≤ 4 := by omega
            clear hg
            by_cases hc4 : c < 4
            · have hci : (c : Int) < 4 := by omega
              obtain ⟨gC, rfl⟩ : ∃ q, q = gk := ⟨_, rfl⟩
              obtain ⟨wC, rfl⟩ : ∃ q, q = wr := ⟨_, rfl⟩
              have HCL := wall hcl
              clear hcl
              go_wp2_with fail
              go_loopg [12] 4 (fun gm s12 wr => ∃ (row : Nat) (cur : List Nat), row + gm = 4 ∧ s12 = .int .i64 (row : Int) ∧ cur.length = 16 ∧ Wall (∀ k, k < 4 * c + row → cur[k]? = X[k]?) ∧ Wall (En w gR gb gs ws (.slice (some ⟨gu, 0, none⟩) L cu) S wr) ∧ Wall (Blk wr gt 90 (b8 cur)))
              case atStart => exact ⟨0, cur, by omega, rfl, HCL.out, HCU, HE, HT⟩
              case round =>
                clear HE HT HCU HCL
                obtain ⟨row, cur, hg, rfl, hcl, HCU, HE, HT⟩ := hrel
                have HGW := wall hg
                have hw : row ≤ 4 := by omega
                clear hg
                by_cases hw4 : row < 4
                · have hwi : (row : Int) < 4 := by omega
                  obtain ⟨d, hd⟩ : ∃ d, (c + row) % 4 = d := ⟨_, rfl⟩
                  have hdt : ((c : Int) + (row : Int)).tmod 4 = (d : Int) := by rw [Int.tmod_eq_emod_of_nonneg (by omega), ← hd]; omega
                  have hde : ((c : Int) + (row : Int)) % 4 = (d : Int) := by rw [← hd]; omega
                  have hd4 : d < 4 := by omega
                  have hxa := HXA.out c row hc4 hw4
                  rw [hd] at hxa
                  have hi1 : 4 * (c : Int) + (row : Int) = ((4 * c + row : Nat) : Int) := by omega
                  have hi2 : 4 * (d : Int) + (row : Int) = ((4 * d + row : Nat) : Int) := by omega
                  obtain ⟨k1, hk1⟩ : ∃ k, 4 * c + row = k := ⟨_, rfl⟩
                  obtain ⟨k2, hk2⟩ : ∃ k, 4 * d + row = k := ⟨_, rfl⟩
                  have hkl1 : k1 < 16 := by omega
                  have hkl2 : k2 < 16 := by omega
                  have hb4 : at0 S k2 < 256 := HSK.out.2 _ (List.mem_of_getElem? (at0_get (by rw [HSK.out.1]; exact hkl2)))
                  have hcS : wr.cell? ⟨gs, k2, none⟩ = some (.int .u8 (at0 S k2 : Int)) := by
                    rw [HE.out.ks.cell]
                    exact b8_at (at0_get (by rw [HSK.out.1]; exact hkl2))
                  have hcB : wr.cell? ⟨gb, at0 S k2, none⟩ = some (.int .u8 (sb (at0 S k2) : Int)) := by
                    rw [HE.out.bx.cell]
                    exact b8_at (sb_at hb4)
                  have hzT := HT.out.frozen k1
                  have hcT : wr.cell? ⟨gt, k1, none⟩ = some (.int .u8 (at0 cur k1 : Int)) := by
                    rw [HT.out.cell]
                    exact b8_at (at0_get (by rw [hcl]; exact hkl1))
                  rw [hk1] at hi1 hxa
                  rw [hk2] at hi2 hxa
                  generalize at0 S k2 = x at *
                  generalize sb x = y at *
                  obtain ⟨HE2, HT2⟩ := HE.out.setT HT.out hgt k1 y
                  have HE3 := wall HE2
                  have HT3 := wall HT2
                  have HCL2 := wall (show (cur.set k1 y).length = 16 by rw [List.length_set]; exact hcl)
                  have HCU2 := wall (show ∀ k, k < 4 * c + (row + 1) → (cur.set k1 y)[k]? = X[k]? from fun k h => by
                    rw [List.getElem?_set]
                    by_cases hk : k1 = k
                    · subst hk
                      rw [if_pos rfl, if_pos (by rw [hcl]; exact hkl1), hxa]
                    · rw [if_neg hk, HCU.out k (by omega)])
                  have hki1 : (k1 : Int) < 16 := by omega
                  have hki2 : (k2 : Int) < 16 := by omega
                  have hxi : (x : Int) < 256 := by omega
                  have lb := HE.out.bx.lt
                  have ls := HE.out.ks.lt
                  have lt := HT.out.lt
                  have hbl : (b8 sbox).size = 256 := by decide +kernel
                  clear hk1 hk2 HE2 HT2 HT HE HCU hxa hcl hd hd4 hb4 hde
                  go_wp2_with fail
                  go_light
                  go_roundg (4 - (row + 1))
                  case measure => have := HGW.out; omega
                  case rel => exact ⟨row + 1, cur.set k1 y, by omega, by go_num, HCL2.out, HCU2, HE3, HT3⟩
                · have hwe : row = 4 := by omega
                  have hwi : ¬ (row : Int) < 4 := by omega
                  have HWE := wall hwe
                  have HCL := wall hcl
                  clear hwe hcl
                  go_wp2_with fail
                  go_light
                  go_roundg (4 - (c + 1))
                  case measure => have := HGC.out; omega
                  case rel => exact ⟨c + 1, cur, by omega, by go_num, HCL.out, wall (fun k h => HCU.out k (by rw [HWE.out]; omega)), HE, HT⟩
            · have hce : c = 4 := by omega
              have hci : ¬ (c : Int) < 4 := by omega
              have hcX : cur = X := by
                apply List.ext_getElem?
                intro k
                by_cases hk : k < 4 * c
                · exact HCU.out k hk
                · rw [List.getElem?_eq_none (by rw [hcl]; omega), List.getElem?_eq_none (by rw [HX.out]; omega)]
              subst hcX
              clear hce HCU
              go_upto_region 17 with fail
              have lt := HT.out.lt
              go_upto_region 18 with (first | refine wpList_load_row rfl 90 _ rfl gt rfl 90 (b8 cur) (0, 0) _ HT.out Tryd.underlying90 rfl (HSB.out _ HX.out) ?_ | (refine wpList_set_row rfl 90 (.tmp 8) (.tmp 58) rfl gs (b8 cur) rfl rfl 90 (b8 S) HE.out.ks (HSB.out _ HX.out) (by rw [b8_size, b8_size, HX.out, HSK.out.1]) (b8_one _) ?_; intro w5 K5 F5))
              have HE5 := wall (HE.out.put F5.out K5.out)
              have HT5 := wall (HT.out.frm F5.out (by simp; omega))
              clear K5 F5 HE HT lt
              by_cases hrR : r < R
              · have hri : (r : Int) < (R : Int) := by omega
                rw [if_pos hrR] at HP1
                have HMX := wall (fun c row (hc : c < 4) (hw : row < 4) => mix_cell HXB.out (c := c) (row := row) hc hw)
                have HMO := wall (mixF_ok HX.out HXB.out).1
                obtain ⟨Y, hY⟩ : ∃ Y, mix [2, 3, 1, 1] cur = Y := ⟨_, rfl⟩
                rw [hY] at HP1 HMX HMO
                clear hY hrR
                go_wp2_with fail
                go_loopg [13] 4 (fun gm s13 wr => ∃ (c : Nat) (S2 : List Nat), c + gm = 4 ∧ s13 = .int .i64 (c : Int) ∧ S2.length = 16 ∧ Wall (∀ k, k < 4 * c → S2[k]? = Y[k]?) ∧ Wall (En w gR gb gs ws (.slice (some ⟨gu, 0, none⟩) L cu) S2 wr) ∧ Wall (Blk wr gt 90 (b8 cur)))
                case atStart => exact ⟨0, cur, by omega, rfl, HX.out, wall (fun k h => by omega), HE5, HT5⟩
                case round =>
                  clear HE5 HT5
                  obtain ⟨c, S2, hg, rfl, hcl, HCU, HE, HT⟩ := hrel
                  have HGC := wall hg
                  have hc : c ≤ 4 := by omega
                  clear hg
                  by_cases hc4 : c < 4
                  · have hci : (c : Int) < 4 := by omega
                    obtain ⟨gC, rfl⟩ : ∃ q, q = gk := ⟨_, rfl⟩
                    obtain ⟨wC, rfl⟩ : ∃ q, q = wr := ⟨_, rfl⟩
                    have HCL := wall hcl
                    have hat := fun q (h : q < 4) => show wC.cell? ⟨gt, 4 * c + q, none⟩ = some (.int .u8 (at0 cur (4 * c + q) : Int)) by
                      rw [HT.out.cell]
                      exact b8_at (at0_get (by rw [HX.out]; omega))
                    have a0 := hat 0 (by decide)
                    have a1 := hat 1 (by decide)
                    have a2 := hat 2 (by decide)
                    have a3 := hat 3 (by decide)
                    have HAB := wall (fun q => at0_lt HXB.out (4 * c + q))
                    have HMR := wall (fun row (hw : row < 4) => HMX.out c row hc4 hw)
                    obtain ⟨x, hx⟩ : ∃ x : Nat → Nat, (fun q => at0 cur (4 * c + q)) = x := ⟨_, rfl⟩
                    have hx' : ∀ q, at0 cur (4 * c + q) = x q := fun q => congrFun hx q
                    simp only [hx'] at a0 a1 a2 a3 HAB HMR
                    obtain ⟨k0, hk0⟩ : ∃ k, 4 * c + 0 = k := ⟨_, rfl⟩
                    obtain ⟨k1, hk1⟩ : ∃ k, 4 * c + 1 = k := ⟨_, rfl⟩
                    obtain ⟨k2, hk2⟩ : ∃ k, 4 * c + 2 = k := ⟨_, rfl⟩
                    obtain ⟨k3, hk3⟩ : ∃ k, 4 * c + 3 = k := ⟨_, rfl⟩
                    rw [hk0] at a0
                    rw [hk1] at a1
                    rw [hk2] at a2
                    rw [hk3] at a3
                    have i0 : 4 * (c : Int) = (k0 : Int) := by omega
                    have i1 : (k0 : Int) + 1 = (k1 : Int) := by omega
                    have i2 : (k0 : Int) + 2 = (k2 : Int) := by omega
                    have i3 : (k0 : Int) + 3 = (k3 : Int) := by omega
                    have j0 : (k0 : Int) < 16 := by omega
                    have j1 : (k1 : Int) < 16 := by omega
                    have j2 : (k2 : Int) < 16 := by omega
                    have j3 : (k3 : Int) < 16 := by omega
                    have w0' : IntKind.i64.wrap (4 * (c : Int)) = (k0 : Int) := by rw [IntKind.wrap_i64]; omega
                    have w1' : IntKind.i64.wrap ((k0 : Int) + 1) = (k1 : Int) := by rw [IntKind.wrap_i64]; omega
                    have w2' : IntKind.i64.wrap ((k0 : Int) + 2) = (k2 : Int) := by rw [IntKind.wrap_i64]; omega
                    have w3' : IntKind.i64.wrap ((k0 : Int) + 3) = (k3 : Int) := by rw [IntKind.wrap_i64]; omega
                    have lt := HT.out.lt
                    obtain ⟨x0, hx0⟩ : ∃ z, x 0 = z := ⟨_, rfl⟩
                    obtain ⟨x1, hx1⟩ : ∃ z, x 1 = z := ⟨_, rfl⟩
                    obtain ⟨x2, hx2⟩ : ∃ z, x 2 = z := ⟨_, rfl⟩
                    obtain ⟨x3, hx3⟩ : ∃ z, x 3 = z := ⟨_, rfl⟩
                    rw [hx0] at a0
                    rw [hx1] at a1
                    rw [hx2] at a2
                    rw [hx3] at a3
                    have HXX := wall (And.intro hx0 (And.intro hx1 (And.intro hx2 hx3)))
                    clear hcl hat hx hx' hk0 hk1 hk2 hk3 hx0 hx1 hx2 hx3
                    have r0 := fun d os => Go.cell_regrown (show wC.drew.cell? ⟨gt, k0, none⟩ = _ from a0) d os
                    have r1 := fun d os => Go.cell_regrown (show wC.drew.cell? ⟨gt, k1, none⟩ = _ from a1) d os
                    have r2 := fun d os => Go.cell_regrown (show wC.drew.cell? ⟨gt, k2, none⟩ = _ from a2) d os
                    have r3 := fun d os => Go.cell_regrown (show wC.drew.cell? ⟨gt, k3, none⟩ = _ from a3) d os
                    clear a0 a1 a2 a3
                    go_wp2_with fail
                    refine RelG.wp_region_rel 21 [(14, .any (NewC wC.drew.heap.size) NewC.grow)] (by kernel_rfl) (by kernel_rfl) ?_
                    simp only [List.take_succ_cons, List.take_zero, List.drop_succ_cons, List.drop_zero, Act.put, List.setIfInBounds_toArray, List.set_cons_zero, List.set_cons_succ]
                    repeat (refine RelG.tree_quiet rfl rfl rfl (fun K hK => ?_); go_big_quiet_op; refine hK _ ?_; clear hK K)
                    refine RelG.tree_rel rfl (NewC wC.drew.heap.size) NewC.grow rfl (fun W hW _ => rel_newC rfl (Below.size hW)) (fun v14 => ?_)
                    simp only [Act.put, List.setIfInBounds_toArray, List.set_cons_zero, List.set_cons_succ]
                    intro W hW hF
                    obtain ⟨gc, rfl, hgc, KC⟩ : NewC wC.drew.heap.size v14 W := hF 14
                    have HEW := wall (HE.out.old hW.undrew)
                    have HTW := wall (HT.out.next hW.undrew rfl)
                    have HKC := wall KC
                    have hgc : gt < gc := Nat.lt_of_lt_of_le lt hgc
                    clear hW HE HT hF KC r0 r1 r2 r3 i0 i1 i2 i3 w0' w1' w2' w3' j0 j1 j2 j3
                    obtain ⟨z0, z1, z2, z3⟩ := HXX.out
                    have HCI := wall (show (Tryd.prog.info? 161).map (·.size) = some (b8 [x0, x1, x2, x3]).size by kernel_rfl)
                    go_upto_region 22 with (refine wpList_set_row rfl 161 (.tmp 14) (.tmp 87) rfl gc (b8 [x0, x1, x2, x3]) rfl rfl 161 (b8 [0, 0, 0, 0]) HKC.out HCI.out rfl (b8_one _) ?_; intro w5 K5 F5)
                    have HEC := wall (HEW.out.far F5.out HKC.out (by decide) (by decide) (by omega))
                    have HTC := wall (HTW.out.frm F5.out (by simp; omega))
                    have HKC5 := wall K5.out
                    clear K5 F5 HKC HEW HTW lt HCI
                    have HXS := wall (fun q (h : q < 4) => show (b8 [x0, x1, x2, x3])[q]? = some (.int .u8 (x q : Int)) by
                      rcases (by omega : q = 0 ∨ q = 1 ∨ q = 2 ∨ q = 3) with rfl | rfl | rfl | rfl
                      · rw [z0]; rfl
                      · rw [z1]; rfl
                      · rw [z2]; rfl
                      · rw [z3]; rfl)
                    obtain ⟨COL, hCOL⟩ : ∃ l, b8 [x0, x1, x2, x3] = l := ⟨_, rfl⟩
                    rw [hCOL] at HKC5 HXS
                    clear hCOL z0 z1 z2 z3 HXX
                    go_wp2_with fail
                    go_loopg [15] 4 (fun gm s15 wr => ∃ (row : Nat) (S2 : List Nat), row + gm = 4 ∧ s15 = .int .i64 (row : Int) ∧ S2.length = 16 ∧ Wall (∀ k, k < 4 * c + row → S2[k]? = Y[k]?) ∧ Wall (En w gR gb gs ws (.slice (some ⟨gu, 0, none⟩) L cu) S2 wr) ∧ Wall (Blk wr gt 90 (b8 cur)) ∧ Wall (Blk wr gc 161 COL))
                    case atStart => exact ⟨0, S2, by omega, rfl, HCL.out, HCU, HEC, HTC, HKC5⟩
                    case round =>
                      clear HEC HTC HKC5 HCU HCL
                      obtain ⟨row, S2, hg, rfl, hcl, HCU, HE, HT, HC⟩ := hrel
                      have HGW := wall hg
                      have hw : row ≤ 4 := by omega
                      clear hg
                      by_cases hw4 : row < 4
                      · have hwi : (row : Int) < 4 := by omega
                        obtain ⟨d1, hd1⟩ : ∃ d, (row + 1) % 4 = d := ⟨_, rfl⟩
                        obtain ⟨d2, hd2⟩ : ∃ d, (row + 2) % 4 = d := ⟨_, rfl⟩
                        obtain ⟨d3, hd3⟩ : ∃ d, (row + 3) % 4 = d := ⟨_, rfl⟩
                        have m1 : ((row : Int) + 1).tmod 4 = (d1 : Int) := by rw [Int.tmod_eq_emod_of_nonneg (by omega), ← hd1]; omega
                        have m2 : ((row : Int) + 2).tmod 4 = (d2 : Int) := by rw [Int.tmod_eq_emod_of_nonneg (by omega), ← hd2]; omega
                        have m3 : ((row : Int) + 3).tmod 4 = (d3 : Int) := by rw [Int.tmod_eq_emod_of_nonneg (by omega), ← hd3]; omega
                        have l1 : d1 < 4 := by omega
                        have l2 : d2 < 4 := by omega
                        have l3 : d3 < 4 := by omega
                        have hmr := HMR.out row hw4
                        rw [hd1, hd2, hd3] at hmr
                        have cc := fun q (h : q < 4) => show wr.drew.cell? ⟨gc, q, none⟩ = some (.int .u8 (x q : Int)) by
                          rw [HC.out.drew.cell]
                          exact HXS.out q h
                        have r0 := fun d os => Go.cell_regrown (cc row hw4) d os
                        have r1 := fun d os => Go.cell_regrown (cc d1 l1) d os
                        have r2 := fun d os => Go.cell_regrown (cc d2 l2) d os
                        have r3 := fun d os => Go.cell_regrown (cc d3 l3) d os
                        have b0 := HAB.out row
                        have b1 := HAB.out d1
                        have b2 := HAB.out d2
                        have b3 := HAB.out d3
                        generalize x row = y0 at *
                        generalize x d1 = y1 at *
                        generalize x d2 = y2 at *
                        generalize x d3 = y3 at *
                        have HMA := wall (fun W => rmul_any (y0 : Int) 2 y0 2 W rfl rfl b0 (by decide))
                        have HMB := wall (fun W => rmul_any (y1 : Int) 3 y1 3 W rfl rfl b1 (by decide))
                        rw [rmul_gm b0 (by decide)] at HMA
                        rw [rmul_gm b1 (by decide)] at HMB
                        obtain ⟨g0, hg0⟩ : ∃ z, gm y0 2 = z := ⟨_, rfl⟩
                        obtain ⟨g1, hg1⟩ : ∃ z, gm y1 3 = z := ⟨_, rfl⟩
                        have gl0 : g0 < 256 := by rw [← hg0]; exact gm_lt b0 (by decide)
                        have gl1 : g1 < 256 := by rw [← hg1]; exact gm_lt b1 (by decide)
                        rw [hg0] at HMA hmr
                        rw [hg1] at HMB hmr
                        obtain ⟨e1, he1⟩ : ∃ z, g0 ^^^ g1 = z := ⟨_, rfl⟩
                        obtain ⟨e2, he2⟩ : ∃ z, e1 ^^^ y2 = z := ⟨_, rfl⟩
                        obtain ⟨e3, he3⟩ : ∃ z, e2 ^^^ y3 = z := ⟨_, rfl⟩
                        have el1 : e1 < 256 := by rw [← he1]; exact Nat.xor_lt_two_pow (n := 8) gl0 gl1
                        have el2 : e2 < 256 := by rw [← he2]; exact Nat.xor_lt_two_pow (n := 8) el1 b2
                        have q1 : bits .xor .u8 (g0 : Int) (g1 : Int) = (e1 : Int) := by rw [u8_xor_nat _ _ gl0 gl1, he1]
                        have q2 : bits .xor .u8 (e1 : Int) (y2 : Int) = (e2 : Int) := by rw [u8_xor_nat _ _ el1 b2, he2]
                        have q3 : bits .xor .u8 (e2 : Int) (y3 : Int) = (e3 : Int) := by rw [u8_xor_nat _ _ el2 b3, he3]
                        rw [he1, he2, he3] at hmr
                        obtain ⟨k, hk⟩ : ∃ k, 4 * c + row = k := ⟨_, rfl⟩
                        rw [hk] at hmr
                        have hki : 4 * (c : Int) + (row : Int) = (k : Int) := by omega
                        have hkl : k < 16 := by omega
                        have hkj : (k : Int) < 16 := by omega
                        have d1i : (d1 : Int) < 4 := by omega
                        have d2i : (d2 : Int) < 4 := by omega
                        have d3i : (d3 : Int) < 4 := by omega
                        have lc := HC.out.lt
                        have HHK := wall hk
                        have HMRK := wall hmr
                        have HCL := wall hcl
                        clear hd1 hd2 hd3 hg0 hg1 he1 he2 he3 cc hk hmr l1 l2 l3 b0 b1 b2 b3 gl0 gl1 el1 el2 hcl
                        go_wp2_with fail
                        refine RelG.wp_region_rel 27 [(99, .const (.int .u8 (g0 : Int))), (105, .const (.int .u8 (g1 : Int)))] (by kernel_rfl) (by kernel_rfl) ?_
                        simp only [List.take_succ_cons, List.take_zero, List.drop_succ_cons, List.drop_zero, Act.put, List.setIfInBounds_toArray, List.set_cons_zero, List.set_cons_succ]
                        repeat (refine RelG.tree_quiet rfl rfl rfl (fun K hK => ?_); go_big_quiet_op; refine hK _ ?_; clear hK K)
                        refine RelG.tree_const rfl (.int .u8 (g0 : Int)) rfl (fun W hW _ => ?_) ?_
                        · unfold RelG.relAt; go_simp; show Calls _ _ _ _ _
                          exact quiet_const (HMA.out W)
                        simp only [Act.put, List.setIfInBounds_toArray, List.set_cons_zero, List.set_cons_succ]
                        repeat (refine RelG.tree_quiet rfl rfl rfl (fun K hK => ?_); go_big_quiet_op; refine hK _ ?_; clear hK K)
                        refine RelG.tree_const rfl (.int .u8 (g1 : Int)) rfl (fun W hW _ => ?_) ?_
                        · unfold RelG.relAt; go_simp; show Calls _ _ _ _ _
                          exact quiet_const (HMB.out W)
                        simp only [Act.put, List.setIfInBounds_toArray, List.set_cons_zero, List.set_cons_succ]
                        repeat (refine RelG.tree_quiet rfl rfl rfl (fun K hK => ?_); go_big_quiet_op; refine hK _ ?_; clear hK K)
                        intro W hW _
                        have HEW := wall (HE.out.old hW.undrew)
                        have HTW := wall (HT.out.next hW.undrew rfl)
                        have HCW := wall (HC.out.next hW.undrew rfl)
                        have hzT := HEW.out.ks.frozen k
                        have hcT : W.cell? ⟨gs, k, none⟩ = some (.int .u8 (at0 S2 k : Int)) := by
                          rw [HEW.out.ks.cell]
                          exact b8_at (at0_get (by rw [HCL.out]; exact hkl))
                        have hgW : gs < W.heap.size := HEW.out.ks.lt
                        have HE3 := wall (HEW.out.set k e3)
                        have HT3 := wall (HTW.out.far' gs k (by omega) (.int .u8 (e3 : Int)))
                        have HC3 := wall (HCW.out.far' gs k (by omega) (.int .u8 (e3 : Int)))
                        have HCL2 := wall (show (S2.set k e3).length = 16 by rw [List.length_set]; exact HCL.out)
                        have HCU2 := wall (show ∀ k', k' < 4 * c + (row + 1) → (S2.set k e3)[k']? = Y[k']? from fun k' h => by
                          rw [List.getElem?_set]
                          by_cases hk : k = k'
                          · subst hk
                            rw [if_pos rfl, if_pos (by rw [HCL.out]; exact hkl), HMRK.out]
                          · rw [if_neg hk, HCU.out k' (by have := HHK.out; omega)])
                        clear hW HE HT HC HEW HTW HCW HCU HMA HMB r0 r1 r2 r3 q1 q2 q3 m1 m2 m3
                        go_wp2_with fail
                        go_light
                        go_roundg (4 - (row + 1))
                        case measure => have := HGW.out; omega
                        case rel => exact ⟨row + 1, S2.set k e3, by omega, by go_num, HCL2.out, HCU2, HE3, HT3, HC3⟩
                      · have hwe : row = 4 := by omega
                        have hwi : ¬ (row : Int) < 4 := by omega
                        have HWE := wall hwe
                        have HCL := wall hcl
                        clear hwe hcl
                        go_wp2_with fail
                        go_light
                        go_roundg (4 - (c + 1))
                        case measure => have := HGC.out; omega
                        case rel => exact ⟨c + 1, S2, by omega, by go_num, HCL.out, wall (fun k h => HCU.out k (by rw [HWE.out]; omega)), HE, HT⟩
                  · have hce : c = 4 := by omega
                    have hci : ¬ (c : Int) < 4 := by omega
                    have hcX : S2 = Y := by
                      apply List.ext_getElem?
                      intro k
                      by_cases hk : k < 4 * c
                      · exact HCU.out k hk
                      · rw [List.getElem?_eq_none (by rw [hcl]; omega), List.getElem?_eq_none (by rw [HMO.out]; omega)]
                    subst hcX
                    clear hce HCU
                    go_wp2_with fail
                    go_meet
                    exact wall (by rw [HP1.out]; exact HE.out)
              · have hri : ¬ (r : Int) < (R : Int) := by omega
                rw [if_neg hrR] at HP1
                clear hrR
                go_wp2_with fail
                go_loopg [13] 0 (fun gm s13 wr => s13 = .int .i64 0 ∧ Wall (En w gR gb gs ws (.slice (some ⟨gu, 0, none⟩) L cu) cur wr))
                case atStart => exact ⟨rfl, HE5⟩
                case round =>
                  clear HE5 HT5
                  obtain ⟨rfl, HE⟩ := hrel
                  go_wp2_with fail
                  go_meet
                  exact wall (by rw [HP1.out]; exact HE.out)
      case rest =>
        clear HE
        have HE := hcut
        clear hcut
        have HLR := wall hlt
        have hk16 := HKO.out r hlt
        have hka := fun j (h : j < 16) => HKR.out r j hlt h
        obtain ⟨P, hP⟩ : ∃ P, pre1 R r S = P := ⟨_, rfl⟩
        rw [hP] at HE HPK HSN1
        obtain ⟨Kr, hKr⟩ : ∃ K, kRound key r = K := ⟨_, rfl⟩
        simp only [hKr] at hk16 hka HSN1
        have HKA := wall hka
        have HK16 := wall hk16
        have HQL := wall (show (xorL P Kr).length = 16 from xorL_length HPK.out.1 hk16)
        have HQA := wall (fun j (h : j < 16) => show ∃ p, P[j]? = some p ∧ p < 256 from by
          have h1 : P[j]? = some (at0 P j) := at0_get (by rw [HPK.out.1]; exact h)
          exact ⟨_, h1, HPK.out.2 _ (List.mem_of_getElem? h1)⟩)
        have HQX := wall (fun j p a (h1 : P[j]? = some p) (h2 : Kr[j]? = some a) => show (xorL P Kr)[j]? = some (p ^^^ a) from xorL_at h1 h2)
        obtain ⟨Q, hQ⟩ : ∃ Q, xorL P Kr = Q := ⟨_, rfl⟩
        rw [hQ] at HSN1 HQL
        simp only [hQ] at HQX
        obtain ⟨gO, rfl⟩ : ∃ q, q = gk := ⟨_, rfl⟩
        obtain ⟨wO, rfl⟩ : ∃ q, q = wr := ⟨_, rfl⟩
        clear hP hKr hQ hka hk16 hlt hri
        go_wp2_with fail
        go_loopg [120] 16 (fun gm s120 wr => ∃ (j : Nat) (cur : List Nat), j + gm = 16 ∧ s120 = .int .i64 (j : Int) ∧ cur.length = 16 ∧ Wall (∀ k, cur[k]? = if k < j then Q[k]? else P[k]?) ∧ Wall (En w gR gb gs ws (.slice (some ⟨gu, 0, none⟩) L cu) cur wr))
        case atStart => exact ⟨0, P, by omega, rfl, HPK.out.1, wall (fun k => by simp), HE⟩
        case round =>
          clear HE
          obtain ⟨j, cur, hg, rfl, hcl, HCU, HE⟩ := hrel
          have HGJ := wall hg
          have HCL := wall hcl
          have hj : j ≤ 16 := by omega
          clear hg hcl
          by_cases hjl : j < 16
          · have hji : (j : Int) < 16 := by omega
            obtain ⟨word, a, hwd, hw4, hwa, ha8, hka⟩ := HKA.out j hjl
            obtain ⟨p, hp, hp8⟩ := HQA.out j hjl
            obtain ⟨gu2, cu2, vo, hue, -, hgu2, hco, hoo⟩ := HE.out.rows.row hwd
            have hwl : ws.length = L := HWL.out
            rw [hwl] at hue
            cases hue
            obtain ⟨go1, co1, rfl⟩ := own_slice hoo hw4 (by decide)
            obtain ⟨ho1, -, -, ho2⟩ := own_cell hoo
            have hob := ho2 _ _ hwa
            have hpc : cur[j]? = some p := by rw [HCU.out, if_neg (by omega)]; exact hp
            have hcs : wr.cell? ⟨gs, j, none⟩ = some (.int .u8 (p : Int)) := by
              rw [HE.out.ks.cell]
              exact b8_at hpc
            have hfz := HE.out.ks.frozen j
            have lgs := HE.out.ks.lt
            have hqx := HQX.out j p a hp hka
            have hxr := u8_xor_nat p a hp8 ha8
            obtain ⟨z, hz⟩ : ∃ z, p ^^^ a = z := ⟨_, rfl⟩
            rw [hz] at hxr hqx
            obtain ⟨e, he⟩ : ∃ e, j / 4 = e := ⟨_, rfl⟩
            obtain ⟨m, hm⟩ : ∃ m, j % 4 = m := ⟨_, rfl⟩
            rw [hm] at hob
            rw [he] at hco
            have t1 : (j : Int).tdiv 4 = (e : Int) := by rw [Int.tdiv_eq_ediv_of_nonneg (by omega)]; omega
            have t2 : (j : Int).tmod 4 = (m : Int) := by rw [Int.tmod_eq_emod_of_nonneg (by omega)]; omega
            have t1' : (j : Int) / 4 = (e : Int) := by omega
            have t2' : (j : Int) % 4 = (m : Int) := by omega
            obtain ⟨q, hq⟩ : ∃ q, 4 * r + e = q := ⟨_, rfl⟩
            rw [hq] at hco
            have s0 : IntKind.i64.wrap (4 * (r : Int)) = 4 * (r : Int) := by rw [IntKind.wrap_i64]; have := HLR.out; omega
            have s1 : IntKind.i64.wrap (4 * (r : Int) + (e : Int)) = (q : Int) := by rw [IntKind.wrap_i64]; have := HLR.out; omega
            have s2 : 4 * (r : Int) + (e : Int) = (q : Int) := by omega
            have s7 : IntKind.i64.wrap (q : Int) = (q : Int) := by rw [IntKind.wrap_i64]; have := HLR.out; omega
            have s3 : IntKind.i64.wrap (e : Int) = (e : Int) := by rw [IntKind.wrap_i64]; omega
            have s4 : IntKind.i64.wrap (m : Int) = (m : Int) := by rw [IntKind.wrap_i64]; omega
            have s5 : (q : Int) < (L : Int) := by have := HL.out; have := HLR.out; omega
            have s6 : (m : Int) < 4 := by omega
            have HE2 := wall ((HE.out.old (Below.drew (Below.refl _ wr))).set j z)
            have HCL2 := wall (show (cur.set j z).length = 16 by rw [List.length_set]; exact HCL.out)
            have HCU2 := wall (show ∀ k, (cur.set j z)[k]? = if k < j + 1 then Q[k]? else P[k]? from fun k => by
              rw [List.getElem?_set]
              by_cases h : j = k
              · subst h
                rw [if_pos rfl, if_pos (by rw [HCL.out]; exact hjl), if_pos (by omega), hqx]
              · rw [if_neg h, HCU.out k]
                by_cases hk : k < j
                · rw [if_pos hk, if_pos (by omega)]
                · rw [if_neg hk, if_neg (by omega)])
            clear hwd hw4 hwa hka hp hoo ho2 hpc hqx hz he hm hq HE HCU hwl
            go_wp2_with fail
            go_still_tail 17, (by kernel_rfl)
            change wpList _ _ _ _ _ wr.drew
            go_wp2_with fail
            go_light
            go_roundg (16 - (j + 1))
            case measure => have := HGJ.out; omega
            case rel => exact ⟨j + 1, cur.set j z, by omega, by go_num, HCL2.out, HCU2, HE2⟩
          · have hje : j = 16 := by omega
            have hji : ¬ (j : Int) < 16 := by omega
            have hcQ : cur = Q := by
              apply List.ext_getElem?
              intro k
              rw [HCU.out k]
              by_cases hk : k < j
              · rw [if_pos hk]
              · rw [if_neg hk, List.getElem?_eq_none (by rw [HPK.out.1]; omega), List.getElem?_eq_none (by rw [HQL.out]; omega)]
            subst hcQ
            have HLG := wall hje
            clear hje HCU
            go_wp2_with fail
            go_light
            go_roundg (R + 1 - (r + 1))
            case measure => have := HG.out; have := HLR.out; omega
            case rel => exact ⟨r + 1, by have := HLR.out; omega, by go_num, wall (by rw [HSN1.out]; exact HE.out)⟩
    · have HSR := wall hS
      have hrr : r = R + 1 := by omega
      have hri : ¬ (r : Int) ≤ (R : Int) := by omega
      have HRR := wall hrr
      have o1 := HE.out.o1
      clear hS hrr
      go_wp2_with (first | refine wpList_load_row rfl 90 _ rfl gs rfl 90 (b8 S) (0, 0) _ HE.out.ks Tryd.underlying90 rfl (HSB.out _ HSK.out.1) ?_ | (refine wpList_new_row rfl 90 (.tmp 4) (.tmp 141) rfl gR (b8 S) rfl rfl 90 (b8 z16) HE.out.kr (HSB.out _ HSK.out.1) (by rw [b8_size, b8_size, HSK.out.1]; rfl) (b8_one _) w.heap.size w HE.out.bel o1 ?_; intro w7 KD B7))
      go_light
      exact bodyPost_ret (v := .agg (b8 S)) (results_cell_row Tryd.results58 _ _ gR 90 (b8 S) (0, 0) _ rfl KD.out Tryd.underlying90 rfl (HSB.out _ HSK.out.1)) rfl ⟨by rw [← HSR.out, HRR.out], B7.out⟩
end Aes
end Go.Proofs.YtpakdcgcgekcfaaDoor

/-
  The reference's AES: Xor.
-/
set_option linter.unusedSimpArgs false
set_option linter.unusedVariables false
namespace Go.Proofs.YtpakdcgcgekcfaaDoor
open Go.RowKit

namespace Aes
open Otp R1 Fuse Sha
set_option maxRecDepth 100000 in
set_option maxHeartbeats 2000000 in
theorem rxor_any (a b : List Nat) (w : World) (ha : a.length = 16) (hb : b.length = 16) (hab : ∀ x ∈ a, x < 256) (hbb : ∀ x ∈ b, x < 256) : Calls Tryd.prog 59 #[.agg (b8 a), .agg (b8 b)] w (BkOut w (xorL a b)) := by
  obtain ⟨w1, hw1⟩ : ∃ W, W = ((w.alloc (.cells (b8 a) 90)).alloc (.cells (b8 b) 90)).alloc (.cells (b8 z16) 90) := ⟨_, rfl⟩
  have HW := wall hw1
  have HA1 := wall (show Ab w w.heap.size (w.heap.size + 1 + 1) a w1 by
    rw [hw1]
    exact ⟨((Blk.new _ _ _).alloc _).alloc _, blk_new' (by simp), (((Below.refl _ w).alloc (Nat.le_refl _) _).alloc (by simp) _).alloc (by simp; omega) _, Nat.le_refl _, by omega, by omega⟩)
  have HB1 := wall (show Blk w1 (w.heap.size + 1) 90 (b8 b) by rw [hw1]; exact (blk_new' (by simp)).alloc _)
  have HXL := wall (show (xorL a b).length = 16 from xorL_length ha hb)
  have HXA := wall (fun j (h : j < 16) => show ∃ x y, a[j]? = some x ∧ b[j]? = some y ∧ x < 256 ∧ y < 256 ∧ (xorL a b)[j]? = some (x ^^^ y) by
    have h1 : a[j]? = some (at0 a j) := at0_get (by rw [ha]; exact h)
    have h2 : b[j]? = some (at0 b j) := at0_get (by rw [hb]; exact h)
    exact ⟨_, _, h1, h2, hab _ (List.mem_of_getElem? h1), hbb _ (List.mem_of_getElem? h2), xorL_at h1 h2⟩)
  have HAL := wall ha
  obtain ⟨X, hX⟩ : ∃ X, xorL a b = X := ⟨_, rfl⟩
  rw [hX] at HXL HXA ⊢
  clear hw1 ha hb hab hbb hX
  go_enter Tryd.func59, Tryd.ntmps59
  go_upto_region 1 with fail
  change Code.wp _ _ _ _ (((w.alloc (.cells (b8 a) 90)).alloc (.cells (b8 b) 90)).alloc (.cells (b8 z16) 90))
  rw [← HW.out]
  clear HW
  obtain ⟨gB, hgB⟩ : ∃ x, x = w.heap.size + 1 := ⟨_, rfl⟩
  rw [← hgB] at HA1 HB1
  rw [← hgB]
  obtain ⟨gR, hgR⟩ : ∃ x, x = gB + 1 := ⟨_, rfl⟩
  rw [← hgR] at HA1
  rw [← hgR]
  have hlt : w.heap.size < gB := by omega
  clear hgR hgB
  go_wp2_with fail
  go_loopg [6] 16 (fun gm s6 wr => ∃ (j : Nat) (cur : List Nat), j + gm = 16 ∧ s6 = .int .i64 (j : Int) ∧ Wall (cur.length = 16) ∧ Wall (∀ k, cur[k]? = if k < j then X[k]? else a[k]?) ∧ Wall (Ab w w.heap.size gR cur wr) ∧ Wall (Blk wr gB 90 (b8 b)))
  case atStart => exact ⟨0, a, by omega, rfl, HAL, wall (fun k => by simp), HA1, HB1⟩
  case round =>
    clear HA1 HB1
    obtain ⟨j, cur, hg, rfl, HCL, HC, HA, HB⟩ := hrel
    have HG := wall hg
    have hj : j ≤ 16 := by omega
    clear hg
    by_cases hjl : j < 16
    · obtain ⟨x, y, hx, hy, hx8, hy8, hxy⟩ := HXA.out j hjl
      have hji : (j : Int) < 16 := by omega
      obtain ⟨z, hz⟩ : ∃ z, x ^^^ y = z := ⟨_, rfl⟩
      have ex : bits .xor .u8 (x : Int) (y : Int) = (z : Int) := by rw [u8_xor_nat _ _ hx8 hy8, hz]
      rw [hz] at hxy
      have HC2 := wall (fill_next HCL.out hjl HC.out hxy)
      have HCL2 := wall (show (cur.set j z).length = 16 by rw [List.length_set]; exact HCL.out)
      have hcj : cur[j]? = some x := by rw [HC.out j, if_neg (by omega)]; exact hx
      have HAD := wall (HA.out.old (Below.drew (Below.refl _ wr)))
      have HBD := wall (HB.out.next (Below.drew (Below.refl _ wr)) rfl)
      obtain ⟨-, -, -, HA2⟩ := HAD.out.put (y := z) hcj
      obtain ⟨cc, cf, cs, -⟩ := HA.out.put (y := z) hcj
      have HA3 := wall HA2.out
      have HB3 := wall (HBD.out.far' w.heap.size j (by omega) (.int .u8 (z : Int)))
      have cb : wr.cell? ⟨gB, j, none⟩ = some (.int .u8 (y : Int)) := by rw [HB.out.cell]; exact b8_at hy
      have lb := HB.out.lt
      clear hx hy hz hxy hcj HC HA HB HAD HBD HCL HA2
      go_wp2_with fail
      go_still_tail 8, (by kernel_rfl)
      change wpList _ _ _ _ _ wr.drew
      go_wp2_with fail
      go_light
      go_roundg (16 - (j + 1))
      case measure => have := HG.out; omega
      case rel => exact ⟨j + 1, _, by omega, by go_num, HCL2, HC2, HA3, HB3⟩
    · have h16 : j = 16 := by omega
      subst h16
      have hcur := fill_end HXL.out HAL.out HC.out
      subst hcur
      have HSZ := wall (show (Tryd.prog.info? 90).map (·.size) = some (b8 cur).size by rw [b8_size, HXL.out]; exact blk_info16)
      have HZZ := wall (show (b8 z16).size = (b8 cur).size by rw [b8_size, b8_size, HXL.out]; rfl)
      have o2 := HA.out.o2
      go_wp2_with (first | refine wpList_load_row rfl 90 _ rfl w.heap.size rfl 90 (b8 cur) (0, 0) _ HA.out.kb Tryd.underlying90 rfl HSZ.out ?_ | (refine wpList_new_row rfl 90 (.tmp 4) (.tmp 18) rfl gR (b8 cur) rfl rfl 90 (b8 z16) HA.out.kr HSZ.out HZZ.out (b8_one _) w.heap.size w HA.out.bel o2 ?_; intro w7 KD B7))
      go_light
      exact bodyPost_ret (v := .agg (b8 cur)) (results_cell_row Tryd.results59 _ _ gR 90 (b8 cur) (0, 0) _ rfl KD.out Tryd.underlying90 rfl HSZ.out) rfl ⟨rfl, B7.out⟩
end Aes
end Go.Proofs.YtpakdcgcgekcfaaDoor

/-
  Two digests by value are compared.
-/
set_option linter.unusedSimpArgs false
set_option linter.unusedVariables false
namespace Go.Proofs.YtpakdcgcgekcfaaDoor
open Go.RowKit

namespace Otp
theorem u8_plain : Tryd.prog.plainKey 5 = true := by kernel_rfl
theorem u8_under : Tryd.prog.underlying 5 = some (.int .u8) := by kernel_rfl
theorem run_eqItems_b8 (w : World) (d : Nat) (x y : List Nat) : ∀ is : List Nat, (∀ i ∈ is, i < x.length ∧ i < y.length) →
    (Op.eqItems (d + 1) 5 1 (b8 x) (b8 y) is).run Tryd.prog w = .ok (is.all fun i => decide (x[i]? = y[i]?)) w
  | [], _ => by simp [Op.eqItems]
  | i :: is, h => by
    obtain ⟨h1, h2⟩ := h i (by simp)
    have p1 : (part 5 (b8 x) (i * 1)).run Tryd.prog w = .ok (.int .u8 ((x[i] : Nat) : Int)) w := run_part_plain w u8_plain (by simp [b8, h1])
    have p2 : (part 5 (b8 y) (i * 1)).run Tryd.prog w = .ok (.int .u8 ((y[i] : Nat) : Int)) w := run_part_plain w u8_plain (by simp [b8, h2])
    have ih := run_eqItems_b8 w d x y is (fun j hj => h j (by simp [hj]))
    simp only [Op.eqItems, Sem.run_bind, p1, p2, Result.andThen_ok, run_equalIn_int w d 5 .u8 .u8 _ _ u8_under, List.all_cons]
    rw [List.getElem?_eq_getElem h1, List.getElem?_eq_getElem h2]
    by_cases e : x[i] = y[i]
    · simp only [e, beq_self_eq_true, Bool.not_true, Bool.false_eq_true, if_false, decide_true, Bool.true_and]
      exact ih
    · have e' : ¬ ((x[i] : Nat) : Int) = ((y[i] : Nat) : Int) := by omega
      simp [e, e']
theorem eq_arr (w : World) (n : Nat) (t : TypeId) (x y : List Nat) (hx : x.length = n) (hy : y.length = n) (hu : Tryd.prog.underlying t = some (.array n 5)) :
    (Op.equalIn 10000 t (.agg (b8 x)) (.agg (b8 y))).run Tryd.prog w = .ok (decide (x = y)) w := by
  have hs : (Tryd.prog.info? 5).isSome = true := by kernel_rfl
  obtain ⟨i, hi⟩ := Option.isSome_iff_exists.1 hs
  have hc : Tryd.prog.cellsOf 5 = 1 := by kernel_rfl
  have h1 := run_equalIn_array w 9999 (b8 x) (b8 y) hu hi
  rw [hc] at h1
  have h2 := run_eqItems_b8 w 9998 x y (List.range n) (fun j hj => by have := List.mem_range.1 hj; omega)
  refine (show _ = _ from h1).trans ((show _ = _ from h2).trans ?_)
  refine congrArg (fun b => Result.ok b w) ?_
  by_cases e : x = y
  · subst e
    simp
  · rw [decide_eq_false e]
    rw [Bool.eq_false_iff]
    intro h
    apply e
    apply List.ext_getElem?
    intro j
    rw [List.all_eq_true] at h
    rcases Nat.lt_or_ge j n with hj | hj
    · simpa using h j (List.mem_range.2 hj)
    · rw [List.getElem?_eq_none (by omega), List.getElem?_eq_none (by omega)]
end Otp
end Go.Proofs.YtpakdcgcgekcfaaDoor

/-
  law04: awake.
-/
set_option linter.unusedSimpArgs false
set_option linter.unusedVariables false
namespace Go.Proofs.YtpakdcgcgekcfaaDoor
open Go.RowKit

namespace Aes
open Otp R1 Fuse Sha
/-- The law's own key, blocks. -/
def kA : List Nat := List.replicate 16 0
def b7 : List Nat := 7 :: List.replicate 15 0
def b123 : List Nat := 1 :: 2 :: 3 :: List.replicate 13 0
def mA (back : Bool) : Md := ⟨kA, 1, back, b7⟩
theorem kA_good : KeyG kA := ⟨.inl rfl, by decide⟩
theorem mA_ok (back : Bool) : (mA back).Ok := ⟨kA_good, show (1 : Nat) ≤ 2 by decide, rfl, show ∀ x ∈ b7, x < 256 by decide⟩
theorem b123_ok : b123.length = 16 ∧ ∀ x ∈ b123, x < 256 := by decide
theorem b7_ok : b7.length = 16 ∧ ∀ x ∈ b7, x < 256 := by decide
/-- What the law's two steps hand on: forth, then back. -/
theorem mA_back : stepM (mA true) (encB kA (xorL b123 b7)) = (⟨kA, 1, true, encB kA (xorL b123 b7)⟩, b123) := by
  show ((⟨kA, 1, true, encB kA (xorL b123 b7)⟩ : Md), xorL (decB kA (encB kA (xorL b123 b7))) b7) = _
  rw [dec_enc kA_good.ok (xorL_length b123_ok.1 b7_ok.1) (xorL_byte b123_ok.2 b7_ok.2)]
  congr 1
theorem mA_step : stepM (mA false) b123 = (⟨kA, 1, false, encB kA (xorL b123 b7)⟩, encB kA (xorL b123 b7)) := rfl
set_option maxRecDepth 100000 in
set_option maxHeartbeats 4000000 in
theorem awake_any (w : World) : Calls Tryd.prog 53 #[] w (fun e w' => e = .returned (.bool true) ∧ Below w.heap.size w w') := by
  have hmk2 : ∀ w : World, (Instr.makeSlice 53 (.int .i64 16) (.int .i64 16)).run Tryd.prog w = .ok (.slice (some ⟨w.heap.size, 0, none⟩) 16 16) (w.alloc (.cells (b8 kA) 5)) := fun w => make_u8 16 (by decide) w
  go_enter Tryd.func53, Tryd.ntmps53
  go_upto_region 2 with fail
  clear hmk2
  obtain ⟨w1, hw1⟩ : ∃ W, W = w.alloc (.cells (b8 kA) 5) := ⟨_, rfl⟩
  have HB1 := wall (show Below w.heap.size w w1 by rw [hw1]; exact (Below.refl _ _).alloc (Nat.le_refl _) _)
  have HK1 := wall (show Blk w1 w.heap.size 5 (b8 kA) by rw [hw1]; exact Blk.new _ _ _)
  rw [← hw1]
  clear hw1
  have HM1 := wall (fun W (h : Blk W w.heap.size 5 (b8 kA)) => show Calls Tryd.prog 55 #[.int .i64 1, .bool false, .slice (some ⟨w.heap.size, 0, none⟩) 16 16, .agg #[.int .u8 7, .int .u8 0, .int .u8 0, .int .u8 0, .int .u8 0, .int .u8 0, .int .u8 0, .int .u8 0, .int .u8 0, .int .u8 0, .int .u8 0, .int .u8 0, .int .u8 0, .int .u8 0, .int .u8 0, .int .u8 0]] W (MnOut W (mA false)) from mnew_any (some ⟨w.heap.size, 0, none⟩) 16 16 1 (mA false) W (mA_ok false) rfl rfl (nats_b8 h (by decide)))
  obtain ⟨ZM, hZM⟩ : ∃ x, zM.toArray = x := ⟨_, rfl⟩
  have HZM := wall (show Tryd.zeroCells96 = ZM by rw [← hZM, zM_eq])
  have HMF := wall (fun A L c (m : Md) (h : m.v.length = 16) => show M2F ZM (mV A L c m) by rw [← hZM]; exact m2f A L c h)
  clear hZM
  go_wp2_with fail
  (with_reducible refine (HM1.out _ HK1.out).mono ?_); rintro e w2 ⟨A1, L1, c1, rfl, hV1, hB2⟩
  have HF1 := wall (HMF.out A1 L1 c1 (mA false) rfl)
  have HV1 := wall hV1
  have HB2 := wall (below_then HB1.out hB2 (Nat.le_refl _))
  have HK2 := wall (HK1.out.next hB2 rfl)
  obtain ⟨ML1, hML1⟩ : ∃ x, mV A1 L1 c1 (mA false) = x := ⟨_, rfl⟩
  rw [hML1] at HF1 ⊢
  have HML1 := wall hML1
  clear hV1 hB2 hML1 HM1 HK1 HB1
  go_upto_region 3 with (refine wpList_new_row rfl 96 (.tmp 2) (.tmp 15) rfl w2.heap.size ML1.toArray rfl rfl 96 ZM (by rw [← HZM.out]; exact Blk.new _ _ _) HF1.out.1 HF1.out.2.1 HF1.out.2.2 w2.heap.size w2 ((Below.refl _ w2).alloc (Nat.le_refl _) _) (Nat.le_refl _) ?_; intro w3 K3 B3)
  have HV3 := wall (HV1.out.next B3.out)
  have HB3 := wall (below_then HB2.out B3.out (Nat.le_refl _))
  have HK3 := wall (HK2.out.next B3.out rfl)
  have HP3 := wall K3.out
  have hg2 : w.heap.size < w2.heap.size := HK2.out.lt
  obtain ⟨g2, hg2'⟩ : ∃ x, w2.heap.size = x := ⟨_, rfl⟩
  rw [hg2'] at HP3 hg2 ⊢
  clear K3 B3 HV1 HK2 HB2 hg2'
  have HM2 := wall (fun W (h : Blk W w.heap.size 5 (b8 kA)) => show Calls Tryd.prog 55 #[.int .i64 1, .bool true, .slice (some ⟨w.heap.size, 0, none⟩) 16 16, .agg #[.int .u8 7, .int .u8 0, .int .u8 0, .int .u8 0, .int .u8 0, .int .u8 0, .int .u8 0, .int .u8 0, .int .u8 0, .int .u8 0, .int .u8 0, .int .u8 0, .int .u8 0, .int .u8 0, .int .u8 0, .int .u8 0]] W (MnOut W (mA true)) from mnew_any (some ⟨w.heap.size, 0, none⟩) 16 16 1 (mA true) W (mA_ok true) rfl rfl (nats_b8 h (by decide)))
  go_wp2_with fail
  (with_reducible refine (HM2.out _ HK3.out).mono ?_); rintro e w4 ⟨A2, L2, c2, rfl, hV2, hB4⟩
  have HF2 := wall (HMF.out A2 L2 c2 (mA true) rfl)
  have HV4 := wall (HV3.out.next hB4)
  have HP4 := wall (HP3.out.next hB4 rfl)
  have HV2 := wall hV2
  have HB4 := wall (below_then HB3.out hB4 (Nat.le_refl _))
  have HK4 := wall (HK3.out.next hB4 rfl)
  obtain ⟨ML2, hML2⟩ : ∃ x, mV A2 L2 c2 (mA true) = x := ⟨_, rfl⟩
  rw [hML2] at HF2 ⊢
  have HML2 := wall hML2
  clear hV2 hB4 hML2 HM2 HK3 HB3 HV3 HP3
  go_upto_region 4 with (refine wpList_new_row rfl 96 (.tmp 4) (.tmp 21) rfl w4.heap.size ML2.toArray rfl rfl 96 ZM (by rw [← HZM.out]; exact Blk.new _ _ _) HF2.out.1 HF2.out.2.1 HF2.out.2.2 w4.heap.size w4 ((Below.refl _ w4).alloc (Nat.le_refl _) _) (Nat.le_refl _) ?_; intro w5 K5 B5)
  have HV5 := wall (HV4.out.next B5.out)
  have HU5 := wall (HV2.out.next B5.out)
  have HB5 := wall (below_then HB4.out B5.out (Nat.le_refl _))
  have HK5 := wall (HK4.out.next B5.out rfl)
  have HP5 := wall (HP4.out.next B5.out rfl)
  have HQ5 := wall K5.out
  have hg4 : g2 < w4.heap.size := HP4.out.lt
  obtain ⟨g4, hg4'⟩ : ∃ x, w4.heap.size = x := ⟨_, rfl⟩
  rw [hg4'] at HQ5 hg4 ⊢
  clear K5 B5 HV4 HV2 HK4 HB4 HP4 hg4'
  obtain ⟨E1, hE1⟩ : ∃ x, encB kA (xorL b123 b7) = x := ⟨_, rfl⟩
  have hE1k : E1.length = 16 ∧ ∀ x ∈ E1, x < 256 := by
    rw [← hE1]
    exact encB_ok kA_good.ok _
  have HEK := wall hE1k
  have HS1 := wall (fun W (h : KeyV W W.heap.size kA A1 L1 c1) => show Calls Tryd.prog 63 #[.agg ML1.toArray, .agg #[.int .u8 1, .int .u8 2, .int .u8 3, .int .u8 0, .int .u8 0, .int .u8 0, .int .u8 0, .int .u8 0, .int .u8 0, .int .u8 0, .int .u8 0, .int .u8 0, .int .u8 0, .int .u8 0, .int .u8 0, .int .u8 0]] W (StepOut W A1 L1 c1 (⟨kA, 1, false, E1⟩, E1)) from by
    have := step_any A1 L1 c1 (mA false) b123 W (mA_ok false) h b123_ok.1 b123_ok.2
    rw [mA_step, hE1, HML1.out] at this
    exact this)
  have HS2 := wall (fun W (h : KeyV W W.heap.size kA A2 L2 c2) => show Calls Tryd.prog 63 #[.agg ML2.toArray, .agg (b8 E1)] W (StepOut W A2 L2 c2 (⟨kA, 1, true, E1⟩, b123)) from by
    have := step_any A2 L2 c2 (mA true) E1 W (mA_ok true) h hE1k.1 hE1k.2
    rw [← hE1, mA_back, hE1, HML2.out] at this
    exact this)
  have HE1 := wall hE1
  clear hE1 hE1k HML1 HML2
  go_wp2_with (refine wpList_load_row rfl 96 _ rfl g2 rfl 96 ML1.toArray (0, 0) _ HP5.out Tryd.underlying96 rfl HF1.out.1 ?_)
  (with_reducible refine (HS1.out _ HV5.out).mono ?_); rintro e w6 ⟨rfl, hB6⟩
  have HX1 := wall (HMF.out A1 L1 c1 ⟨kA, 1, false, E1⟩ HEK.out.1)
  obtain ⟨MX1, hMX1⟩ : ∃ x, mV A1 L1 c1 ⟨kA, 1, false, E1⟩ = x := ⟨_, rfl⟩
  simp only [hMX1] at HX1 ⊢
  have HU6 := wall (HU5.out.next hB6)
  have HQ6 := wall (HQ5.out.next hB6 rfl)
  have HK6 := wall (HK5.out.next hB6 rfl)
  have HB6 := wall (below_then HB5.out hB6 (Nat.le_refl _))
  have HSZ := wall (show (Tryd.prog.info? 90).map (·.size) = some (b8 E1).size by rw [b8_size, HEK.out.1]; exact blk_info16)
  have HZZ := wall (show (b8 z16).size = (b8 E1).size by rw [b8_size, b8_size, HEK.out.1]; rfl)
  clear hMX1 hB6 HU5 HQ5 HK5 HB5 HS1 HV5 HP5
  go_wp2_with (refine wpList_set_row rfl 96 (.tmp 6) (.tmp 27) rfl w6.heap.size MX1.toArray rfl rfl 96 ZM (by rw [← HZM.out]; exact (Blk.new _ _ _).alloc _) HX1.out.1 HX1.out.2.1 HX1.out.2.2 ?_; intro w7 K7 F7; refine Sha.Wall.out (?_ : Wall _))
  refine ⟨?_⟩
  have hf7 := F7.out
  have HK7 := wall (show Blk w7 (w6.heap.size + 1) 90 (b8 z16) from (blk_new' (by simp)).frm hf7 (by simp))
  have HB7 := wall (show Below w6.heap.size w6 w7 from Below.frm (((Below.refl _ w6).alloc (Nat.le_refl _) _).alloc (by simp) _) hf7 (Nat.le_refl _) (fun x hx => by simp at hx; omega))
  clear hf7 K7 F7
  go_upto_region 5 with (refine wpList_new_row rfl 90 (.tmp 7) (.tmp 28) rfl (w6.heap.size + 1) (b8 E1) rfl rfl 90 (b8 z16) HK7.out HSZ.out HZZ.out (b8_one _) w6.heap.size w6 HB7.out (by omega) ?_; intro w8 K8 B8)
  have HU8 := wall (HU6.out.next B8.out)
  have HQ8 := wall (HQ6.out.next B8.out rfl)
  have HB8 := wall (below_then HB6.out B8.out (Nat.le_refl _))
  have HK8 := wall (HK6.out.next B8.out rfl)
  have HP8 := wall K8.out
  clear HU6 HQ6 HB6 HK6 K8 B8 HK7 HB7
  obtain ⟨g7, hg7'⟩ : ∃ x, w6.heap.size + 1 = x := ⟨_, rfl⟩
  rw [hg7'] at HP8 ⊢
  clear hg7' HX1
  go_wp2_with (first | refine wpList_load_row rfl 96 _ rfl g4 rfl 96 ML2.toArray (0, 0) _ HQ8.out Tryd.underlying96 rfl HF2.out.1 ?_ | refine wpList_load_row rfl 90 _ rfl g7 rfl 90 (b8 E1) (0, 0) _ HP8.out Tryd.underlying90 rfl HSZ.out ?_)
  (with_reducible refine (HS2.out _ HU8.out).mono ?_); rintro e w9 ⟨rfl, hB9⟩
  have HX2 := wall (HMF.out A2 L2 c2 ⟨kA, 1, true, E1⟩ HEK.out.1)
  obtain ⟨MX2, hMX2⟩ : ∃ x, mV A2 L2 c2 ⟨kA, 1, true, E1⟩ = x := ⟨_, rfl⟩
  simp only [hMX2] at HX2 ⊢
  have HP9 := wall (HP8.out.next hB9 rfl)
  have HK9 := wall (HK8.out.next hB9 rfl)
  have HB9 := wall (below_then HB8.out hB9 (Nat.le_refl _))
  have HSY := wall (show (Tryd.prog.info? 90).map (·.size) = some (b8 b123).size by rw [b8_size, b123_ok.1]; exact blk_info16)
  have HZY := wall (show (b8 z16).size = (b8 b123).size by rw [b8_size, b8_size, b123_ok.1]; rfl)
  clear hMX2 hB9 HU8 HQ8 HK8 HB8 HS2 HP8
  go_wp2_with (refine wpList_set_row rfl 96 (.tmp 8) (.tmp 33) rfl w9.heap.size MX2.toArray rfl rfl 96 ZM (by rw [← HZM.out]; exact (Blk.new _ _ _).alloc _) HX2.out.1 HX2.out.2.1 HX2.out.2.2 ?_; intro w10 K10 F10; refine Sha.Wall.out (?_ : Wall _))
  refine ⟨?_⟩
  have hf10 := F10.out
  have HK10 := wall (show Blk w10 (w9.heap.size + 1) 90 (b8 z16) from (blk_new' (by simp)).frm hf10 (by simp))
  have HB10 := wall (show Below w9.heap.size w9 w10 from Below.frm (((Below.refl _ w9).alloc (Nat.le_refl _) _).alloc (by simp) _) hf10 (Nat.le_refl _) (fun x hx => by simp at hx; omega))
  clear hf10 K10 F10
  go_upto_region 6 with (refine wpList_new_row rfl 90 (.tmp 9) (.tmp 34) rfl (w9.heap.size + 1) (b8 b123) rfl rfl 90 (b8 z16) HK10.out HSY.out HZY.out (b8_one _) w9.heap.size w9 HB10.out (by omega) ?_; intro w11 K11 B11)
  have HB11 := wall (below_then HB9.out B11.out (Nat.le_refl _))
  have HK11 := wall (HK9.out.next B11.out rfl)
  have HP11 := wall (HP9.out.next B11.out rfl)
  have HQ11 := wall K11.out
  clear HB9 HK9 K11 B11 HK10 HB10 HP9
  have HNE := wall (show E1 ≠ b123 by rw [← HE1.out]; decide +kernel)
  have he1 : ∀ W : World, (Op.equalIn 10000 90 (.agg (b8 b123)) (.agg #[.int .u8 1, .int .u8 2, .int .u8 3, .int .u8 0, .int .u8 0, .int .u8 0, .int .u8 0, .int .u8 0, .int .u8 0, .int .u8 0, .int .u8 0, .int .u8 0, .int .u8 0, .int .u8 0, .int .u8 0, .int .u8 0])).run Tryd.prog W = .ok true W := fun W => by
    have := eq_arr W 16 90 b123 b123 rfl rfl Tryd.underlying90
    rw [decide_eq_true rfl] at this
    exact this
  have he2 : ∀ W : World, (Op.equalIn 10000 90 (.agg (b8 E1)) (.agg (b8 b123))).run Tryd.prog W = .ok false W := fun W => by
    have := eq_arr W 16 90 E1 b123 HEK.out.1 rfl Tryd.underlying90
    rwa [decide_eq_false HNE.out] at this
  have he3 : ∀ W : World, (Op.equalIn 10000 90 (.agg (b8 E1)) (.agg (b8 E1))).run Tryd.prog W = .ok true W := fun W => by
    have := eq_arr W 16 90 E1 E1 HEK.out.1 HEK.out.1 Tryd.underlying90
    rw [decide_eq_true rfl] at this
    exact this
  refine RelG.wp_region_rel 26 [(56, .const (.agg (b8 (xorL b123 b7)))), (57, .const (.agg (b8 E1)))] (by kernel_rfl) (by kernel_rfl) ?_
  simp only [List.take_succ_cons, List.take_zero, List.drop_succ_cons, List.drop_zero, Act.put, List.setIfInBounds_toArray, List.set_cons_zero, List.set_cons_succ]
  repeat (first | (refine RelG.tree_quiet rfl rfl rfl (fun K hK => ?_); go_big_quiet_op; refine hK _ ?_; clear hK K) | (refine RelG.tree_pure rfl rfl rfl (.agg (b8 b123)) (fun W hW _ => Rel.exec_load _ _ rfl (w9.heap.size + 1) 0 rfl _ _ (Blk.range (hW.blk HQ11.out.drew)) Tryd.underlying90 rfl HSY.out) ?_; simp only [Act.put, List.setIfInBounds_toArray, List.set_cons_zero, List.set_cons_succ]) | (refine RelG.tree_pure rfl rfl rfl (.agg (b8 E1)) (fun W hW _ => Rel.exec_load _ _ rfl g7 0 rfl _ _ (Blk.range (hW.blk HP11.out.drew)) Tryd.underlying90 rfl HSZ.out) ?_; simp only [Act.put, List.setIfInBounds_toArray, List.set_cons_zero, List.set_cons_succ]))
  refine RelG.tree_const rfl (.agg (b8 (xorL b123 b7))) rfl (fun W hW _ => ?_) ?_
  · unfold RelG.relAt; go_simp; show Calls _ _ _ _ _
    exact const_call (rxor_any b123 b7 W rfl rfl b123_ok.2 b7_ok.2)
  simp only [Act.put, List.setIfInBounds_toArray, List.set_cons_zero, List.set_cons_succ]
  refine RelG.tree_const rfl (.agg (b8 E1)) rfl (fun W hW _ => ?_) ?_
  · have hk := nats_b8 (hW.blk HK11.out.drew) kA_good.2
    unfold RelG.relAt; go_simp; show Calls _ _ _ _ _
    have := rencrypt_any (some ⟨w.heap.size, 0, none⟩) 16 16 4 kA (xorL b123 b7) W (.inl rfl) rfl rfl (Nat.le_refl _) hk (xorL_length b123_ok.1 b7_ok.1) (xorL_byte b123_ok.2 b7_ok.2)
    unfold BkOut at this
    rw [HE1.out] at this
    exact const_call this
  simp only [Act.put, List.setIfInBounds_toArray, List.set_cons_zero, List.set_cons_succ]
  repeat (refine RelG.tree_quiet rfl rfl rfl (fun K hK => ?_); go_big_quiet_op; refine hK _ ?_; clear hK K)
  intro W hW _
  have HW := wall (below_then HB11.out hW.undrew (Nat.le_refl _))
  clear hW he1 he2 he3
  go_wp2_with fail
  go_light
  go_ret
  exact ⟨rfl, HW.out⟩
end Aes
end Go.Proofs.YtpakdcgcgekcfaaDoor

/-
  The reference's AES: Next.
-/
set_option linter.unusedSimpArgs false
set_option linter.unusedVariables false
namespace Go.Proofs.YtpakdcgcgekcfaaDoor
open Go.RowKit

namespace Aes
open Otp R1 Fuse Sha
theorem nxS_stay {b : List Nat} (hb : b.length = 16) (hbb : ∀ x ∈ b, x < 256) {s : Nat} (h0 : (nxS b s).2 = 0) : ∀ t, s + t ≤ 16 → nxS b (s + t) = ((nxS b s).1, 0)
  | 0, _ => by rw [Nat.add_zero, ← h0]
  | t + 1, h => by
    have ih := nxS_stay hb hbb h0 t (by omega)
    have h1 := nxS_ok hb hbb (s + t) (by omega)
    have hx := at0_get (b := b) (i := 15 - (s + t)) (by omega)
    have hx8 : at0 b (15 - (s + t)) < 256 := hbb _ (List.mem_of_getElem? hx)
    have h4 := h1.2.2.2 (15 - (s + t)) (by omega)
    have hl := h1.1
    rw [ih] at h4 hl
    rw [← Nat.add_assoc, nxS, ih]
    simp only [Nat.zero_add]
    rw [Nat.mod_eq_of_lt hx8, Nat.div_eq_of_lt hx8]
    congr 1
    apply List.ext_getElem?
    intro k
    rw [List.getElem?_set]
    split
    · rename_i hk
      subst hk
      rw [if_pos (by simp only at hl; omega), h4, hx]
    · rfl
theorem nxS_stop {b : List Nat} (hb : b.length = 16) (hbb : ∀ x ∈ b, x < 256) {s : Nat} (hs : s ≤ 16) (h0 : (nxS b s).2 = 0) : nextB b = (nxS b s).1 := by
  have := nxS_stay hb hbb h0 (16 - s) (by omega)
  rw [show s + (16 - s) = 16 by omega] at this
  rw [nextB, this]
theorem rnext_any (b : List Nat) (w : World) (hb : b.length = 16) (hbb : ∀ x ∈ b, x < 256) : Calls Tryd.prog 60 #[.agg (b8 b)] w (BkOut w (nextB b)) := by
  obtain ⟨w1, hw1⟩ : ∃ W, W = (w.alloc (.cells (b8 b) 90)).alloc (.cells (b8 z16) 90) := ⟨_, rfl⟩
  have HW := wall hw1
  have HA1 := wall (show Ab w w.heap.size (w.heap.size + 1) b w1 by
    rw [hw1]
    exact ⟨(Blk.new _ _ _).alloc _, blk_new' (by simp), ((Below.refl _ w).alloc (Nat.le_refl _) _).alloc (by simp) _, Nat.le_refl _, by omega, by omega⟩)
  have HOK := wall (fun s (h : s ≤ 16) => nxS_ok hb hbb s h)
  have HBX := wall (fun s (h : s < 16) => show at0 b (15 - s) < 256 ∧ b[15 - s]? = some (at0 b (15 - s)) by
    have := at0_get (b := b) (i := 15 - s) (by omega)
    exact ⟨hbb _ (List.mem_of_getElem? this), this⟩)
  have HNX := wall (fun s => show nxS b (s + 1) = ((nxS b s).1.set (15 - s) (((nxS b s).2 + at0 b (15 - s)) % 256), ((nxS b s).2 + at0 b (15 - s)) / 256) from rfl)
  have HE := wall (show nextB b = (nxS b 16).1 from rfl)
  have HST := wall (fun s (hs : s ≤ 16) (h0 : (nxS b s).2 = 0) => nxS_stop hb hbb hs h0)
  have H0 := wall (show nxS b 0 = (b, 1) from rfl)
  obtain ⟨NB, hNB⟩ : ∃ x, nextB b = x := ⟨_, rfl⟩
  rw [hNB] at HE HST ⊢
  generalize nxS b = nx at *
  clear hw1 hb hbb hNB
  go_enter Tryd.func60, Tryd.ntmps60
  go_upto_region 1 with fail
  change Code.wp _ _ _ _ ((w.alloc (.cells (b8 b) 90)).alloc (.cells (b8 z16) 90))
  rw [← HW.out]
  clear HW
  obtain ⟨gR, hgR⟩ : ∃ x, x = w.heap.size + 1 := ⟨_, rfl⟩
  rw [← hgR] at HA1
  rw [← hgR]
  clear hgR
  go_wp2_with fail
  go_loopg [3] 16 (fun gm s3 wr => ∃ s : Nat, s + gm = 16 ∧ (nx s).2 = 1 ∧ s3 = .int .i64 (15 - (s : Int)) ∧ Wall (Ab w w.heap.size gR (nx s).1 wr))
  case atStart => exact ⟨0, by omega, by rw [H0.out], by go_num, by rw [H0.out]; exact HA1⟩
  case round =>
    clear HA1
    obtain ⟨s, hg, hcy, rfl, HA⟩ := hrel
    have HG := wall hg
    have hs : s ≤ 16 := by omega
    clear hg
    obtain ⟨k1, k2, k3, k4⟩ := HOK.out s hs
    have HNXs := HNX.out s
    obtain ⟨p, hp⟩ : ∃ p, nx s = p := ⟨_, rfl⟩
    rw [hp] at HA k1 k2 k3 k4 HNXs hcy
    obtain ⟨cur, cy⟩ := p
    simp only at HA k1 k2 k3 k4 HNXs hcy
    subst hcy
    by_cases hlt : s < 16
    · obtain ⟨x8, hbx⟩ := HBX.out s hlt
      have hcx := (k4 (15 - s) (by omega)).trans hbx
      generalize at0 b (15 - s) = x at *
      obtain ⟨j, hj⟩ : ∃ j : Nat, 15 - s = j := ⟨_, rfl⟩
      rw [hj] at hcx HNXs
      have hjs : (15 : Int) - (s : Int) = (j : Int) := by omega
      have hj16 : j < 16 := by omega
      obtain ⟨y, hy⟩ : ∃ y, (1 + x) % 256 = y := ⟨_, rfl⟩
      rw [hy] at HNXs
      obtain ⟨cc, cf, cs, HA2⟩ := HA.out.put (y := y) hcx
      have e2 : IntKind.u8.wrap ((x : Int) + 1) = (y : Int) := by rw [IntKind.wrap_u8]; omega
      have HA3 := wall HA2.out
      have k1' : (cur.set j y).length = 16 := by rw [List.length_set]; exact k1
      have HN2 := wall HNXs
      have hjn : (15 : Int) - ((s : Int) + 1) = (j : Int) - 1 := by omega
      rw [hjs]
      by_cases hy0 : y = 0
      · have hyn : ((y : Int) == 0) = true := by rw [beq_iff_eq]; omega
        have HC := wall (show (1 + x) / 256 = 1 by omega)
        clear k1 k2 k3 k4 hbx hcx HNXs HA hp hj hy k1'
        go_wp2_with fail
        go_light
        go_roundg (16 - (s + 1))
        case measure => have := HG.out; omega
        case rel => exact ⟨s + 1, by omega, by rw [HN2.out]; exact HC.out, by go_num, by rw [HN2.out]; rw [hy0] at HA3; rw [hy0]; exact HA3⟩
      · have hyn : ((y : Int) == 0) = false := by rw [beq_eq_false_iff_ne]; omega
        have HC := wall (show (1 + x) / 256 = 0 by omega)
        have HNB := wall (show NB = cur.set j y by rw [HST.out (s + 1) (by omega) (by rw [HN2.out]; exact HC.out), HN2.out])
        obtain ⟨CU, hCU⟩ : ∃ c, cur.set j y = c := ⟨_, rfl⟩
        rw [hCU] at HNB k1'
        have HCU := wall hCU
        have HSZ := wall (show (Tryd.prog.info? 90).map (·.size) = some (b8 CU).size by rw [b8_size, k1']; exact blk_info16)
        have HZZ := wall (show (b8 z16).size = (b8 CU).size by rw [b8_size, b8_size, k1']; rfl)
        have o2 := HA3.out.o2
        clear k1 k2 k3 k4 hbx hcx HNXs HA hp hj hy k1' hCU
        go_upto_region 6 with fail
        rw [HCU.out] at HA3
        generalize wr.setCell ⟨w.heap.size, j, none⟩ (.int .u8 (y : Int)) = w6 at *
        go_wp2_with (first | refine wpList_load_row rfl 90 _ rfl w.heap.size rfl 90 (b8 CU) (0, 0) _ HA3.out.kb Tryd.underlying90 rfl HSZ.out ?_ | (refine wpList_new_row rfl 90 (.tmp 2) (.tmp 17) rfl gR (b8 CU) rfl rfl 90 (b8 z16) HA3.out.kr HSZ.out HZZ.out (b8_one _) w.heap.size w HA3.out.bel o2 ?_; intro w7 KD B7))
        go_light
        exact bodyPost_ret (v := .agg (b8 CU)) (results_cell_row Tryd.results60 _ _ gR 90 (b8 CU) (0, 0) _ rfl KD.out Tryd.underlying90 rfl HSZ.out) rfl ⟨by rw [HNB.out], B7.out⟩
    · have hs16 : s = 16 := by omega
      subst hs16
      have HP := wall hp
      have hjn : ¬ (0 : Int) ≤ 15 - ((16 : Nat) : Int) := by omega
      have HSZ := wall (show (Tryd.prog.info? 90).map (·.size) = some (b8 cur).size by rw [b8_size, k1]; exact blk_info16)
      have HZZ := wall (show (b8 z16).size = (b8 cur).size by rw [b8_size, b8_size, k1]; rfl)
      have o2 := HA.out.o2
      clear k1 k2 k3 k4 HNXs hp
      go_wp2_with (first | refine wpList_load_row rfl 90 _ rfl w.heap.size rfl 90 (b8 cur) (0, 0) _ HA.out.kb Tryd.underlying90 rfl HSZ.out ?_ | (refine wpList_new_row rfl 90 (.tmp 2) (.tmp 17) rfl gR (b8 cur) rfl rfl 90 (b8 z16) HA.out.kr HSZ.out HZZ.out (b8_one _) w.heap.size w HA.out.bel o2 ?_; intro w7 KD B7))
      go_light
      exact bodyPost_ret (v := .agg (b8 cur)) (results_cell_row Tryd.results60 _ _ gR 90 (b8 cur) (0, 0) _ rfl KD.out Tryd.underlying90 rfl HSZ.out) rfl ⟨by rw [HE.out, HP.out], B7.out⟩
end Aes
end Go.Proofs.YtpakdcgcgekcfaaDoor

/-
  What stands from a world on, under growth.
-/
set_option linter.unusedSimpArgs false
set_option linter.unusedVariables false
namespace Go.Proofs.YtpakdcgcgekcfaaDoor
open Go.RowKit

/-- What is told of each world that has grown out of w. -/
def From (w : World) (F : World → Prop) : Prop := ∀ W, Below w.heap.size w W → F W
section
variable {w w' : World} {F G : World → Prop}
theorem From.now (h : From w F) : F w := h w (Below.refl _ _)
theorem From.at (h : From w F) {W : World} (hb : Below w.heap.size w W) : F W := h W hb
theorem From.next (h : From w F) (hB : Below w.heap.size w w') : From w' F := fun W k => h W (below_then hB k (Nat.le_refl _))
theorem From.and (h : From w F) (g : From w G) : From w (fun W => F W ∧ G W) := fun W k => ⟨h W k, g W k⟩
theorem From.mono (h : From w F) (g : ∀ W, F W → G W) : From w G := fun W k => g W (h W k)
theorem From.below {B : Nat} {w0 : World} (h : Below B w0 w) (hB : B ≤ w0.heap.size) : From w (fun W => Below B w0 W) := fun _ k => below_then h k hB
theorem From.blk {g : Nat} {t : TypeId} {cs : Array Value} (h : Blk w g t cs) : From w (fun W => Blk W g t cs) := fun _ k => h.next k rfl
theorem From.nats {k : IntKind} {M : Nat} {A : Option Addr} {l : List Nat} (h : Nats k M w w.heap.size A l) : From w (fun W => Nats k M W W.heap.size A l) := fun _ hB => (h.below hB).more hB.size
theorem range_frm {S : List Nat} {g o : Nat} {l : List Value} (h : w.rangeAt g o l) (hf : Frm S w w') (hg : g < w.heap.size) (hS : g ∉ S) : w'.rangeAt g o l := fun j v hv => by
  rw [← h j v hv]
  exact World.cell?_of_block (hf.block g hg hS)
end
end Go.Proofs.YtpakdcgcgekcfaaDoor

/-
  Bytes as the law's frame gives them.
-/
set_option linter.unusedSimpArgs false
set_option linter.unusedVariables false
namespace Go.Proofs.YtpakdcgcgekcfaaDoor
open Go.RowKit

namespace Slot
open Otp
theorem u8_ints (zs : List Int) (h : ∀ z ∈ zs, (Lit.int .u8 z).wf = true) : (zs.map (Value.int .u8)).toArray = b8 (zs.map Int.toNat) ∧ ∀ x ∈ zs.map Int.toNat, x < 256 := by
  refine ⟨?_, fun x hx => ?_⟩
  · unfold b8
    rw [List.map_map]
    congr 1
    exact List.map_congr_left fun z hz => by
      have := bounds_u8 (h z hz)
      simp only [Function.comp_apply, Int.toNat_of_nonneg this.1]
  · obtain ⟨z, hz, rfl⟩ := List.mem_map.1 hx
    have := bounds_u8 (h z hz)
    omega
end Slot
end Go.Proofs.YtpakdcgcgekcfaaDoor

/-
  ModeRuns.
-/
set_option linter.unusedSimpArgs false
set_option linter.unusedVariables false
namespace Go.Proofs.YtpakdcgcgekcfaaDoor
open Go.RowKit

namespace Aes
open Otp R1 Fuse Sha
/-- The law's key, its blocks, its mode. -/
theorem kb_good {k : List Nat} {long : Bool} (hk : k.length = 32) (hb : ∀ x ∈ k, x < 256) : KeyG (k.take (if long then 32 else 16)) :=
  ⟨by cases long <;> simp [hk], fun x hx => hb x (List.mem_of_mem_take hx)⟩
theorem whole_length {p : List Nat} {n : Nat} (h : p.length = n) (k : Nat) : (p.take (16 * min (n / 16) k)).length = 16 * min (n / 16) k := by
  rw [List.length_take]
  omega
theorem hows (kd : Nat) : ((kd : Int).tmod 3 = ((kd % 3 : Nat) : Int)) ∧ ((kd : Int) % 3 = ((kd % 3 : Nat) : Int)) := ⟨by rw [Int.tmod_eq_emod_of_nonneg (by omega)]; omega, by omega⟩
/-- A block out of a slice of bytes. -/
theorem blk_part {w : World} {A : Option Addr} {n c : Nat} {p : List Nat} (h : Nats .u8 256 w w.heap.size A p) (hp : p.length = n) (hc : n ≤ c) {i : Nat} (hi : 16 * i + 16 ≤ n) :
    ∃ b off c', (∀ (z : Int) (hz : z = 16 * i) (W : World), (Instr.sliceAt 53 (.slice A n c) (some (.int .i64 z)) (some (.int .i64 (z + 16))) none).run Tryd.prog W = .ok (.slice (some ⟨b, off, none⟩) 16 c') W) ∧ b < w.heap.size ∧ w.rangeAt b off (b8 (blkAt p i)).toList := by
  obtain ⟨b, off, h1, h2, h3⟩ := nats_range (nats_slA (i := 16 * i) (cap := c) h (by omega)) 16 (by decide) (by rw [List.length_drop]; omega)
  refine ⟨b, off, c - 16 * i, fun z hz W => ?_, h2, h3⟩
  have := run_slice_lh1 (P := Tryd.prog) 53 5 Tryd.underlying53 (fun _ => by kernel_rfl) A n c (16 * i) (16 * i + 16) .i64 .i64 z (z + 16) (by omega) (by omega) (by omega) (by omega) W
  rw [h1, show 16 * i + 16 - 16 * i = 16 by omega] at this
  exact this
set_option maxRecDepth 100000 in
set_option maxHeartbeats 4000000 in
theorem runs_any (k : List Nat) (long : Bool) (st : List Nat) (A : Option Addr) (n c : Nat) (p : List Nat) (kd : Nat) (w : World) (hkl : k.length = 32) (hkb : ∀ x ∈ k, x < 256) (hsl : st.length = 16) (hsb : ∀ x ∈ st, x < 256) (hpn : p.length = n) (hnm : n ≤ maxLen) (hz : Nats .u8 256 w w.heap.size A p) (hkd : kd < 256) :
    Calls Tryd.prog 10 #[.agg (b8 k), .bool long, .agg (b8 st), .slice A n c, .int .u8 (kd : Int)] w (TrueBelow w) := by
  have HZ := wall hz
  have HPN := wall (And.intro hpn hnm)
  have HSB := wall (show (Tryd.prog.info? 90).map (·.size) = some (b8 st).size by rw [b8_size, hsl]; exact blk_info16)
  have HKI := wall (show (Tryd.prog.info? 22).map (·.size) = some (b8 k).size by rw [b8_size, hkl]; kernel_rfl)
  have HSL := wall (And.intro hsl hsb)
  have HKL := wall (And.intro hkl hkb)
  obtain ⟨w1, hw1⟩ : ∃ W, W = (w.alloc (.cells (b8 k) 22)).alloc (.cells (b8 st) 90) := ⟨_, rfl⟩
  have HW := wall hw1
  have HF := wall (show From w1 (fun W => (Below w.heap.size w W ∧ Blk W w.heap.size 22 (b8 k)) ∧ Blk W (w.heap.size + 1) 90 (b8 st)) by
    rw [hw1]
    exact ((From.below (((Below.refl _ w).alloc (Nat.le_refl _) _).alloc (by simp) _) (Nat.le_refl _)).and (From.blk ((Blk.new _ _ _).alloc _))).and (From.blk (blk_new' (by simp))))
  clear hw1 hz hpn hnm hsl hsb hkl hkb
  obtain ⟨hw, hh⟩ : ∃ h, kd % 3 = h := ⟨_, rfl⟩
  have hm1 := (hows kd).1
  have hm2 := (hows kd).2
  rw [hh] at hm1 hm2
  have hh2 : hw ≤ 2 := by omega
  go_enter Tryd.func10, Tryd.ntmps10
  go_upto_region 1 with fail
  rw [← HW.out]
  clear HW
  go_wp2_with fail
  (with_reducible refine (awake_any _).mono ?_); rintro e w2 ⟨rfl, hB2⟩
  replace HF := wall (HF.out.next hB2)
  clear hB2
  go_wp2_with (refine wpList_load_row rfl 22 _ rfl w.heap.size rfl 22 (b8 k) (0, 0) _ HF.out.now.1.2 Tryd.underlying22 rfl HKI.out ?_)
  (with_reducible refine (key_any k long w2 HKL.out.1 HKL.out.2).mono ?_); rintro e w3 ⟨v3, rfl, hO3, hB3⟩
  have HG := wall (kb_good (long := long) HKL.out.1 HKL.out.2)
  obtain ⟨kb, hkb⟩ : ∃ x, k.take (if long then 32 else 16) = x := ⟨_, rfl⟩
  rw [hkb] at HG hO3
  obtain ⟨A3, c3, rfl, hc3, -, hN3⟩ := own_cut hO3 HG.out.2
  replace HF := wall ((HF.out.next hB3).and (From.nats hN3))
  obtain ⟨L, hL⟩ : ∃ x, kb.length = x := ⟨_, rfl⟩
  rw [hL] at hc3 ⊢
  have HLL := wall (And.intro hL hc3)
  clear hB3 hkb hO3 hN3 hL hc3
  go_wp2_with fail
  (with_reducible refine (whole_any A n c p 5 5 w3 HPN.out.1 HPN.out.2 rfl (by decide) ((HZ.out.below HF.out.now.1.1.1).more HF.out.now.1.1.1.size)).mono ?_); rintro e w4 ⟨v4, rfl, hO4, hB4⟩
  have hpb : ∀ x ∈ p.take (16 * min (n / 16) 5), x < 256 := cut_byte HZ.out _
  have hpl : (p.take (16 * min (n / 16) 5)).length = 16 * min (n / 16) 5 := whole_length HPN.out.1 5
  obtain ⟨nb, hnb⟩ : ∃ x, min (n / 16) 5 = x := ⟨_, rfl⟩
  have hnb5 : nb ≤ 5 := by omega
  rw [hnb] at hpb hpl hO4
  obtain ⟨p', hp'⟩ : ∃ x, p.take (16 * nb) = x := ⟨_, rfl⟩
  rw [hp'] at hpb hpl hO4
  obtain ⟨A4, c4, rfl, hc4, -, hN4⟩ := own_cut hO4 hpb
  rw [hpl] at hc4 ⊢
  replace HF := wall ((HF.out.next hB4).and (From.nats hN4))
  have HPL := wall (And.intro hpl hpb)
  obtain ⟨n', hn'⟩ : ∃ x, 16 * nb = x := ⟨_, rfl⟩
  have HN := wall hn'.symm
  rw [hn'] at hc4 HPL ⊢
  have HC4 := wall hc4
  have HNM := wall (show n' ≤ 1000000 by omega)
  clear hB4 hnb hp' hO4 hN4 hpb hpl hn' hc4
  have hok : (⟨kb, hw, false, st⟩ : Md).Ok := ⟨HG.out, hh2, HSL.out.1, HSL.out.2⟩
  obtain ⟨m, hm⟩ : ∃ m, (⟨kb, hw, false, st⟩ : Md) = m := ⟨_, rfl⟩
  have HM := wall hm
  rw [hm] at hok
  have HOK := wall hok
  have HNEW := wall (fun W (q : Nats .u8 256 W W.heap.size A3 kb) => show Calls Tryd.prog 55 #[.int .i64 (hw : Int), .bool false, .slice A3 L c3, .agg (b8 st)] W (MnOut W m) from by
    have := mnew_any A3 L c3 (hw : Int) m W HOK.out (by rw [← HM.out]) (by rw [← HM.out]; exact HLL.out.1.symm) (by rw [← HM.out]; exact q)
    rw [← HM.out] at this
    rw [← HM.out]
    exact this)
  clear hm hok
  obtain ⟨ZM, hZM⟩ : ∃ x, zM.toArray = x := ⟨_, rfl⟩
  have HZM := wall (show Tryd.zeroCells96 = ZM by rw [← hZM, zM_eq])
  have HMF := wall (fun A L c (m : Md) (h : m.v.length = 16) => show M2F ZM (mV A L c m) by rw [← hZM]; exact m2f A L c h)
  clear hZM
  go_wp2_with (refine wpList_load_row rfl 90 _ rfl (w.heap.size + 1) rfl 90 (b8 st) (0, 0) _ HF.out.now.1.1.2 Tryd.underlying90 rfl HSB.out ?_)
  (with_reducible refine (HNEW.out _ HF.out.now.1.2).mono ?_); rintro e w5 ⟨A1, L1, c1, rfl, hV1, hB5⟩
  replace HF := wall (((HF.out.next hB5)).and (G := fun W => KeyV W W.heap.size m.key A1 L1 c1) (fun W hW => hV1.next hW))
  have HF1 := wall (HMF.out A1 L1 c1 m HOK.out.len)
  have HRUN := wall (fun W (q : KeyV W W.heap.size m.key A1 L1 c1) (r : Nats .u8 256 W W.heap.size A4 p') => run_any A1 L1 c1 m A4 n' nb c4 p' W HOK.out q HPL.out.1 HN.out HNM.out HC4.out r)
  unfold RunOut at HRUN
  have HRK := wall (runM_ok HOK.out HPL.out.2 nb (by rw [HPL.out.1, HN.out]; exact Nat.le_refl _))
  have HF2 := wall (HMF.out A1 L1 c1 (runM m p' nb).1 HRK.out.1.len)
  obtain ⟨ML1, hML1⟩ : ∃ x, mV A1 L1 c1 m = x := ⟨_, rfl⟩
  obtain ⟨ML2, hML2⟩ : ∃ x, mV A1 L1 c1 (runM m p' nb).1 = x := ⟨_, rfl⟩
  have HML1 := wall hML1
  have HML2 := wall hML2
  rw [hML1] at HF1 HRUN ⊢
  rw [hML2] at HF2 HRUN
  clear hV1 hB5 HNEW hML1 hML2
  go_upto_region 6 with (refine wpList_new_row rfl 96 (.tmp 13) (.tmp 37) rfl w5.heap.size ML1.toArray rfl rfl 96 ZM (by rw [← HZM.out]; exact Blk.new _ _ _) HF1.out.1 HF1.out.2.1 HF1.out.2.2 w5.heap.size w5 ((Below.refl _ w5).alloc (Nat.le_refl _) _) (Nat.le_refl _) ?_; intro w6 K6 B6)
  replace HF := wall (((HF.out.next B6.out)).and (From.blk K6.out))
  clear K6 B6
  obtain ⟨g6, hg6⟩ : ∃ x, w5.heap.size = x := ⟨_, rfl⟩
  rw [hg6] at HF ⊢
  clear hg6
  go_wp2_with (refine wpList_load_row rfl 96 _ rfl g6 rfl 96 ML1.toArray (0, 0) _ HF.out.now.2 Tryd.underlying96 rfl HF1.out.1 ?_)
  (with_reducible refine (HRUN.out _ HF.out.now.1.2 HF.out.now.1.1.2).mono ?_); rintro e w7 ⟨v7, rfl, hO7, hB7⟩
  obtain ⟨out, hout⟩ : ∃ x, (runM m p' nb).2 = x := ⟨_, rfl⟩
  have HO := wall hout
  have hol := HRK.out.2.2.2.2
  rw [hout] at hO7 hol
  rw [← HN.out] at hol
  have HOL := wall hol
  obtain ⟨A7, c7, rfl, hc7, -, hN7⟩ := own_cut hO7 hol.2
  rw [hol.1] at hc7 ⊢
  have HC7 := wall hc7
  replace HF := wall (((HF.out.next hB7)).and (From.nats hN7))
  clear hout hol hO7 hB7 hc7 hN7
  go_upto_region 7 with (refine wpList_new_row rfl 96 (.tmp 15) (.tmp 43) rfl w7.heap.size ML2.toArray rfl rfl 96 ZM (by rw [← HZM.out]; exact Blk.new _ _ _) HF2.out.1 HF2.out.2.1 HF2.out.2.2 w7.heap.size w7 ((Below.refl _ w7).alloc (Nat.le_refl _) _) (Nat.le_refl _) ?_; intro w8 K8 B8)
  replace HF := wall (((HF.out.next B8.out)).and (From.blk K8.out))
  clear K8 B8
  obtain ⟨g7, hg7⟩ : ∃ x, w7.heap.size = x := ⟨_, rfl⟩
  rw [hg7] at HF ⊢
  clear hg7 HRUN HMF
  have HZB := wall (show (b8 z16).size = (b8 st).size by rw [b8_size, b8_size, HSL.out.1]; rfl)
  go_upto_region 10 with (first | refine wpList_load_row rfl 90 _ rfl (w.heap.size + 1) rfl 90 (b8 st) (0, 0) _ HF.out.now.1.1.1.1.1.1.2 Tryd.underlying90 rfl HSB.out ?_ | (refine wpList_new_row rfl 90 (.tmp 18) (.tmp 59) rfl w8.heap.size (b8 st) rfl rfl 90 (b8 z16) (Blk.new _ _ _) HSB.out HZB.out (b8_one _) w8.heap.size w8 ((Below.refl _ w8).alloc (Nat.le_refl _) _) (Nat.le_refl _) ?_; intro w9 K9 B9))
  have HV9 := wall K9.out
  have HB9 := wall B9.out
  clear K9 B9
  obtain ⟨gv, hgv⟩ : ∃ x, w8.heap.size = x := ⟨_, rfl⟩
  rw [hgv] at HV9 ⊢
  have HGV := wall hgv
  have HOB := wall (fun j (h : j < nb) => show blkAt out j = (stepM (runM m p' j).1 (blkAt p' j)).2 by
    rw [← HO.out]
    exact blkAt_out HOK.out HPL.out.2 nb (by rw [HPL.out.1, HN.out]; exact Nat.le_refl _) j h)
  have HST := wall (fun j (h : j < nb) => show (runM m p' (j + 1)).1 = (stepM (runM m p' j).1 (blkAt p' j)).1 from rfl)
  have HRO := wall (fun j (h : j ≤ nb) => runM_ok HOK.out HPL.out.2 j (by rw [HPL.out.1, HN.out]; omega))
  have HBK := wall (fun j (h : j < nb) => blkAt_ok HPL.out.2 (i := j) (by rw [HPL.out.1, HN.out]; omega))
  have HMK := wall (show m.key = kb ∧ m.kind = hw ∧ m.back = false ∧ m.v = st by rw [← HM.out]; exact ⟨rfl, rfl, rfl, rfl⟩)
  clear hgv
  have HG1 := wall HG.out
  have HENC := wall (fun W (b : List Nat) (q : Nats .u8 256 W W.heap.size A3 kb) (hb : b.length = 16) (hbb : ∀ x ∈ b, x < 256) => show Calls Tryd.prog 58 #[.slice A3 L c3, .agg (b8 b)] W (BkOut W (encB kb b)) from
    rencrypt_any A3 L c3 (L / 4) kb b W (by have := HG.out.1; have := HLL.out.1; omega) (by have := HG.out.1; have := HLL.out.1; omega) HLL.out.1 HLL.out.2 q hb hbb)
  have HVI := wall (fun (l : List Nat) (h : l.length = 16) => show (Tryd.prog.info? 90).map (·.size) = some (b8 l).size by rw [b8_size, h]; exact blk_info16)
  have HVS := wall (fun (l : List Nat) (h : l.length = 16) => show (b8 z16).size = (b8 l).size by rw [b8_size, b8_size, h]; rfl)
  have HVV := wall (fun (l l' : List Nat) (h : l.length = 16) (h' : l'.length = 16) => show (b8 l).size = (b8 l').size by rw [b8_size, b8_size, h, h'])
  go_wp2_with fail
  go_loopg [19] nb (fun gm s19 wr => ∃ (i : Nat) (z : Int), i + gm = nb ∧ z = 16 * i ∧ s19 = .int .i64 z ∧ Wall (Blk wr gv 90 (b8 (runM m p' i).1.v)) ∧ Wall (Below w8.heap.size w8 wr))
  case atStart => exact ⟨0, 0, by omega, by omega, rfl, by rw [runM, HMK.out.2.2.2]; exact HV9, HB9⟩
  case round =>
    clear HV9 HB9
    obtain ⟨i, z, hg, hz, rfl, HV, HB⟩ := hrel
    have HG := wall hg
    have HZI := wall hz
    have hi : i ≤ nb := by omega
    clear hg
    by_cases hlt : i < nb
    · have hlt' : z < (n' : Int) := by have := HN.out; omega
      have hz0 : 0 ≤ z := by omega
      have hz1 : z ≤ 1000 := by omega
      obtain ⟨b, hb⟩ : ∃ b, blkAt p' i = b := ⟨_, rfl⟩
      have hbk := HBK.out i hlt
      have hob := HOB.out i hlt
      have hst := HST.out i hlt
      obtain ⟨hmi, hmk, hmd, hmb, -, -⟩ := HRO.out i hi
      obtain ⟨sb, so, sc, hsl, hsb, hrg⟩ := blk_part HF.out.now.1.1.1.1.2 HPL.out.1 HC4.out (i := i) (by have := HN.out; omega)
      obtain ⟨tb, tf, tc, htl, htb, htg⟩ := blk_part HF.out.now.1.2 HOL.out.1 HC7.out (i := i) (by have := HN.out; omega)
      rw [hb] at hbk hob hst hrg
      obtain ⟨mi, hmi'⟩ : ∃ x, (runM m p' i).1 = x := ⟨_, rfl⟩
      rw [hmi'] at hob hst hmi hmk hmd hmb HV
      have hsz := hsl z hz
      have har := fun W => run_arrayAt (P := Tryd.prog) W 90 5 16 (some ⟨sb, so, none⟩) 16 sc Tryd.underlying90 (Nat.le_refl _)
      have hat := fun W => run_arrayAt (P := Tryd.prog) W 90 5 16 (some ⟨tb, tf, none⟩) 16 tc Tryd.underlying90 (Nat.le_refl _)
      have htz := htl z hz
      have HRG := wall (range_below hrg hsb HB.out)
      have HTG := wall (show wr.rangeAt tb tf (b8 (blkAt out i)).toList from range_below htg htb HB.out)
      rw [hob] at HTG
      have HBK1 := wall hbk
      have HMI := wall hmi
      have HMK1 := wall (show mi.key = kb ∧ mi.kind = hw ∧ mi.back = false from ⟨hmk.trans HMK.out.1, hmd.trans HMK.out.2.1, hmb.trans HMK.out.2.2.1⟩)
      have HSB1 := wall (show (Tryd.prog.info? 90).map (·.size) = some (b8 b).size by rw [b8_size, hbk.1]; exact blk_info16)
      have HZB1 := wall (show (b8 z16).size = (b8 b).size by rw [b8_size, b8_size, hbk.1]; rfl)
      have HNX := wall hst
      have hsbr : sb < wr.heap.size := Nat.lt_of_lt_of_le hsb HB.out.size
      have htbr : tb < wr.heap.size := Nat.lt_of_lt_of_le htb HB.out.size
      have hgvr : gv < wr.heap.size := HV.out.lt
      have HTL := wall (show tb < gv by rw [← HGV.out]; exact htb)
      clear hbk hob hst hmi hmk hmd hmb hsl hrg htl htg hb hmi' hz
      go_upto_region 14 with (first | refine wpList_load_arr rfl 90 _ rfl sb so rfl (b8 b) _ HRG.out Tryd.underlying90 rfl HSB1.out ?_ | (refine wpList_new_row rfl 90 (.tmp 20) (.tmp 72) rfl wr.heap.size (b8 b) rfl rfl 90 (b8 z16) (Blk.new _ _ _) HSB1.out HZB1.out (b8_one _) wr.heap.size wr ((Below.refl _ wr).alloc (Nat.le_refl _) _) (Nat.le_refl _) ?_; intro w11 K11 B11))
      have HKB := wall K11.out
      have HB11 := wall (below_then HB.out B11.out (by rw [HGV.out]; exact Nat.le_refl _))
      have HV11 := wall (HV.out.next B11.out rfl)
      have HTG11 := wall (range_below HTG.out htbr B11.out)
      have hgb := HKB.out.lt
      clear K11 B11 HRG HTG HV HB hsz har
      go_upto_region 15 with fail
      change Code.wp _ _ _ _ (w11.alloc (.cells (b8 z16) 90))
      obtain ⟨w12, hw12⟩ : ∃ W, W = w11.alloc (.cells (b8 z16) 90) := ⟨_, rfl⟩
      have hB12 : Below w11.heap.size w11 w12 := by rw [hw12]; exact (Below.refl _ _).alloc (Nat.le_refl _) _
      have HKC := wall (show Blk w12 w11.heap.size 90 (b8 z16) by rw [hw12]; exact Blk.new _ _ _)
      have HKB12 := wall (HKB.out.next hB12 rfl)
      have HV12 := wall (HV11.out.next hB12 rfl)
      have HTG12 := wall (range_below HTG11.out (Nat.lt_of_lt_of_le htbr (Nat.le_of_lt (Nat.lt_of_le_of_lt (Nat.le_refl _) hgb))) hB12)
      have HB12 := wall (below_then HB11.out hB12 (by rw [HGV.out]; exact Nat.le_refl _))
      rw [← hw12]
      clear hw12 hB12 HKB HV11 HTG11 HB11
      obtain ⟨gb, hgb'⟩ : ∃ x, wr.heap.size = x := ⟨_, rfl⟩
      obtain ⟨gc, hgc'⟩ : ∃ x, w11.heap.size = x := ⟨_, rfl⟩
      rw [hgb'] at hsbr htbr hgvr hgb HKB12 ⊢
      rw [hgc'] at HKC hgb ⊢
      clear hgb' hgc'
      rcases (show (hw : Int) = 0 ∨ (hw : Int) = 1 ∨ (hw : Int) = 2 by omega) with h0 | h0 | h0
      · have hxs : stepM mi b = (mi, encB kb b) := by
          obtain ⟨e1, e2, e3⟩ := HMK1.out
          unfold stepM
          rw [if_neg (by omega), if_neg (by omega), e3, e1]
          rfl
        obtain ⟨X, hX⟩ : ∃ X, encB kb b = X := ⟨_, rfl⟩
        have HXL := wall (show X.length = 16 ∧ ∀ x ∈ X, x < 256 by rw [← hX]; exact encB_ok HG1.out.ok _)
        rw [hX] at hxs
        have HXS := wall hxs
        have HXE := wall hX
        rw [hxs] at HTG12
        have e0 : ((hw : Int) == 0) = true := by rw [h0]; rfl
        have f0 : decide ((hw : Int) = 0) = true := decide_eq_true h0
        clear hX hxs h0 hm1 hm2 hh hh2
        go_wp2_with (refine wpList_load_row rfl 90 _ rfl gb rfl 90 (b8 b) (0, 0) _ HKB12.out Tryd.underlying90 rfl HSB1.out ?_)
        (with_reducible refine (HENC.out _ b (HF.out.at HB12.out).1.1.1.1.1.2 HBK1.out.1 HBK1.out.2).mono ?_); rintro e w13 ⟨rfl, hB13⟩
        rw [HXE.out]
        have HKC13 := wall (HKC.out.next hB13 rfl)
        have HV13 := wall (HV12.out.next hB13 rfl)
        have HTG13 := wall (range_below HTG12.out (Nat.lt_trans htbr (Nat.lt_trans hgb HKC.out.lt)) hB13)
        have HB13 := wall (below_then HB12.out hB13 (by rw [HGV.out]; exact Nat.le_refl _))
        clear hB13 HKC HV12 HTG12 HB12 HKB12
        go_upto_region 23 with (refine wpList_set_row rfl 90 (.tmp 21) (.tmp 85) rfl gc (b8 X) rfl rfl 90 (b8 z16) HKC13.out (HVI.out _ HXL.out.1) (HVS.out _ HXL.out.1) (b8_one _) ?_; intro w14 K14 F14)
        have HKCZ := wall K14.out
        have HVZ := wall (HV13.out.frm F14.out (by simp; omega))
        have HTGZ := wall (range_frm HTG13.out F14.out (Nat.lt_trans htbr (Nat.lt_trans hgb HKC13.out.lt)) (by simp; omega))
        have HBZ := wall (Below.frm HB13.out F14.out (by rw [HGV.out]; exact Nat.le_refl _) (fun x hx => by have := HGV.out; simp at hx; omega))
        have htbz : tb < w14.heap.size := Nat.lt_trans htbr (Nat.lt_trans hgb HKCZ.out.lt)
        clear K14 F14 HKC13 HV13 HTG13 HB13
        have heq := fun W => eq_arr W 16 90 X X HXL.out.1 HXL.out.1 Tryd.underlying90
        rw [decide_eq_true rfl] at heq
        have HXI := wall (HVI.out X HXL.out.1)
        refine RelG.wp_region_rel 9 [] (by kernel_rfl) (by kernel_rfl) ?_
        simp only [List.take_succ_cons, List.take_zero, List.drop_succ_cons, List.drop_zero, Act.put, List.setIfInBounds_toArray, List.set_cons_zero, List.set_cons_succ]
        repeat (first | (refine RelG.tree_quiet rfl rfl rfl (fun K hK => ?_); go_big_quiet_op; refine hK _ ?_; clear hK K) | (refine RelG.tree_pure rfl rfl rfl (.slice (some ⟨tb, tf, none⟩) 16 tc) (fun W hW _ => Rel.exec_slice _ _ _ _ rfl _ (htz W)) ?_; simp only [Act.put, List.setIfInBounds_toArray, List.set_cons_zero, List.set_cons_succ]) | (refine RelG.tree_pure rfl rfl rfl (.pointer (some ⟨tb, tf, none⟩)) (fun W hW _ => Rel.exec_arr _ _ _ rfl 16 _ 16 tc rfl Tryd.underlying90 (Nat.le_refl _)) ?_; simp only [Act.put, List.setIfInBounds_toArray, List.set_cons_zero, List.set_cons_succ]) | (refine RelG.tree_pure rfl rfl rfl (.agg (b8 X)) (fun W hW _ => Rel.exec_load _ _ rfl tb tf rfl _ _ (range_below HTGZ.out htbz hW.undrew) Tryd.underlying90 rfl HXI.out) ?_; simp only [Act.put, List.setIfInBounds_toArray, List.set_cons_zero, List.set_cons_succ]) | (refine RelG.tree_pure rfl rfl rfl (.agg (b8 X)) (fun W hW _ => Rel.exec_load _ _ rfl gc 0 rfl _ _ (Blk.range (hW.blk HKCZ.out.drew)) Tryd.underlying90 rfl HXI.out) ?_; simp only [Act.put, List.setIfInBounds_toArray, List.set_cons_zero, List.set_cons_succ]))
        intro W hW _
        have HVW := wall (HVZ.out.next hW.undrew rfl)
        have HBW := wall (below_then HBZ.out hW.undrew (by rw [HGV.out]; exact Nat.le_refl _))
        clear hW heq HVZ HBZ HKCZ HTGZ
        go_wp2_with fail
        go_light
        go_roundg (nb - (i + 1))
        case measure => have := HG.out; omega
        case rel => exact ⟨i + 1, z + 16, by omega, by have := HZI.out; omega, rfl, by rw [HNX.out, HXS.out]; exact HVW, HBW⟩
      · have hxs : stepM mi b = (⟨mi.key, mi.kind, mi.back, encB kb (xorL b mi.v)⟩, encB kb (xorL b mi.v)) := by
          obtain ⟨e1, e2, e3⟩ := HMK1.out
          unfold stepM
          rw [if_neg (by omega), if_pos (by omega), e3, e1]
          rfl
        obtain ⟨X, hX⟩ : ∃ X, encB kb (xorL b mi.v) = X := ⟨_, rfl⟩
        have HXL := wall (show X.length = 16 ∧ ∀ x ∈ X, x < 256 by rw [← hX]; exact encB_ok HG1.out.ok _)
        rw [hX] at hxs
        have HXS := wall hxs
        have HXE := wall hX
        rw [hxs] at HTG12
        have e0 : ((hw : Int) == 0) = false := by rw [h0]; rfl
        have f0 : decide ((hw : Int) = 0) = false := by rw [h0]; rfl
        have e1 : ((hw : Int) == 1) = true := by rw [h0]; rfl
        have f1 : decide ((hw : Int) = 1) = true := decide_eq_true h0
        obtain ⟨v, hv⟩ : ∃ v, mi.v = v := ⟨_, rfl⟩
        have hvl := HMI.out.len
        have hvb := HMI.out.byte
        rw [hv] at hvl hvb HV12 HXE
        have HVL := wall (And.intro hvl hvb)
        clear hX hxs h0 hm1 hm2 hh hh2 hv hvl hvb
        have HVI1 := wall (HVI.out v HVL.out.1)
        go_wp2_with (first | refine wpList_load_row rfl 90 _ rfl gb rfl 90 (b8 b) (0, 0) _ HKB12.out Tryd.underlying90 rfl HSB1.out ?_ | refine wpList_load_row rfl 90 _ rfl gv rfl 90 (b8 v) (0, 0) _ HV12.out Tryd.underlying90 rfl HVI1.out ?_)
        (with_reducible refine (rxor_any b v _ HBK1.out.1 HVL.out.1 HBK1.out.2 HVL.out.2).mono ?_); rintro e w13 ⟨rfl, hB13⟩
        have HKC13 := wall (HKC.out.next hB13 rfl)
        have HV13 := wall (HV12.out.next hB13 rfl)
        have HTG13 := wall (range_below HTG12.out (Nat.lt_trans htbr (Nat.lt_trans hgb HKC.out.lt)) hB13)
        have HB13 := wall (below_then HB12.out hB13 (by rw [HGV.out]; exact Nat.le_refl _))
        clear hB13 HKC HV12 HTG12 HB12 HKB12
        go_wp2_with fail
        (with_reducible refine (HENC.out _ (xorL b v) (HF.out.at HB13.out).1.1.1.1.1.2 (xorL_length HBK1.out.1 HVL.out.1) (xorL_byte HBK1.out.2 HVL.out.2)).mono ?_); rintro e w14 ⟨rfl, hB14⟩
        rw [HXE.out]
        have HKC14 := wall (HKC13.out.next hB14 rfl)
        have HV14 := wall (HV13.out.next hB14 rfl)
        have HTG14 := wall (range_below HTG13.out (Nat.lt_trans htbr (Nat.lt_trans hgb HKC13.out.lt)) hB14)
        have HB14 := wall (below_then HB13.out hB14 (by rw [HGV.out]; exact Nat.le_refl _))
        clear hB14 HKC13 HV13 HTG13 HB13
        go_upto_region 22 with (refine wpList_set_row rfl 90 (.tmp 21) (.tmp 92) rfl gc (b8 X) rfl rfl 90 (b8 z16) HKC14.out (HVI.out _ HXL.out.1) (HVS.out _ HXL.out.1) (b8_one _) ?_; intro w15 K15 F15)
        have HKC15 := wall K15.out
        have HV15 := wall (HV14.out.frm F15.out (by simp; omega))
        have HTG15 := wall (range_frm HTG14.out F15.out (Nat.lt_trans htbr (Nat.lt_trans hgb HKC14.out.lt)) (by simp; omega))
        have HB15 := wall (Below.frm HB14.out F15.out (by rw [HGV.out]; exact Nat.le_refl _) (fun x hx => by have := HGV.out; simp at hx; omega))
        clear K15 F15 HKC14 HV14 HTG14 HB14
        go_upto_region 23 with (first | refine wpList_load_row rfl 90 _ rfl gc rfl 90 (b8 X) (0, 0) _ HKC15.out Tryd.underlying90 rfl (HVI.out _ HXL.out.1) ?_ | (refine wpList_set_row rfl 90 (.tmp 18) (.tmp 93) rfl gv (b8 X) rfl rfl 90 (b8 v) HV15.out (HVI.out _ HXL.out.1) (HVV.out _ _ HVL.out.1 HXL.out.1) (b8_one _) ?_; intro w16 K16 F16))
        have HVZ := wall K16.out
        have HKCZ := wall (HKC15.out.frm F16.out (by simp; omega))
        have HTGZ := wall (range_frm HTG15.out F16.out (Nat.lt_trans htbr (Nat.lt_trans hgb HKC15.out.lt)) (by have := HGV.out; have := HTL.out; simp; omega))
        have HBZ := wall (Below.frm HB15.out F16.out (by rw [HGV.out]; exact Nat.le_refl _) (fun x hx => by have := HGV.out; simp at hx; omega))
        have htbz : tb < w16.heap.size := Nat.lt_trans htbr (Nat.lt_trans hgb HKCZ.out.lt)
        clear K16 F16 HKC15 HV15 HTG15 HB15
        have heq := fun W => eq_arr W 16 90 X X HXL.out.1 HXL.out.1 Tryd.underlying90
        rw [decide_eq_true rfl] at heq
        have HXI := wall (HVI.out X HXL.out.1)
        refine RelG.wp_region_rel 9 [] (by kernel_rfl) (by kernel_rfl) ?_
        simp only [List.take_succ_cons, List.take_zero, List.drop_succ_cons, List.drop_zero, Act.put, List.setIfInBounds_toArray, List.set_cons_zero, List.set_cons_succ]
        repeat (first | (refine RelG.tree_quiet rfl rfl rfl (fun K hK => ?_); go_big_quiet_op; refine hK _ ?_; clear hK K) | (refine RelG.tree_pure rfl rfl rfl (.slice (some ⟨tb, tf, none⟩) 16 tc) (fun W hW _ => Rel.exec_slice _ _ _ _ rfl _ (htz W)) ?_; simp only [Act.put, List.setIfInBounds_toArray, List.set_cons_zero, List.set_cons_succ]) | (refine RelG.tree_pure rfl rfl rfl (.pointer (some ⟨tb, tf, none⟩)) (fun W hW _ => Rel.exec_arr _ _ _ rfl 16 _ 16 tc rfl Tryd.underlying90 (Nat.le_refl _)) ?_; simp only [Act.put, List.setIfInBounds_toArray, List.set_cons_zero, List.set_cons_succ]) | (refine RelG.tree_pure rfl rfl rfl (.agg (b8 X)) (fun W hW _ => Rel.exec_load _ _ rfl tb tf rfl _ _ (range_below HTGZ.out htbz hW.undrew) Tryd.underlying90 rfl HXI.out) ?_; simp only [Act.put, List.setIfInBounds_toArray, List.set_cons_zero, List.set_cons_succ]) | (refine RelG.tree_pure rfl rfl rfl (.agg (b8 X)) (fun W hW _ => Rel.exec_load _ _ rfl gc 0 rfl _ _ (Blk.range (hW.blk HKCZ.out.drew)) Tryd.underlying90 rfl HXI.out) ?_; simp only [Act.put, List.setIfInBounds_toArray, List.set_cons_zero, List.set_cons_succ]))
        intro W hW _
        have HVW := wall (HVZ.out.next hW.undrew rfl)
        have HBW := wall (below_then HBZ.out hW.undrew (by rw [HGV.out]; exact Nat.le_refl _))
        clear hW heq HVZ HBZ HKCZ HTGZ
        go_wp2_with fail
        go_light
        go_roundg (nb - (i + 1))
        case measure => have := HG.out; omega
        case rel => exact ⟨i + 1, z + 16, by omega, by have := HZI.out; omega, rfl, by rw [HNX.out, HXS.out]; exact HVW, HBW⟩
      · have hxs : stepM mi b = (⟨mi.key, mi.kind, mi.back, nextB mi.v⟩, xorL b (encB kb mi.v)) := by
          obtain ⟨e1, e2, e3⟩ := HMK1.out
          unfold stepM
          rw [if_pos (by omega), e1]
        have hek := encB_ok HG1.out.ok mi.v
        obtain ⟨X, hX⟩ : ∃ X, xorL b (encB kb mi.v) = X := ⟨_, rfl⟩
        have HXL := wall (show X.length = 16 ∧ ∀ x ∈ X, x < 256 by rw [← hX]; exact ⟨xorL_length HBK1.out.1 hek.1, xorL_byte HBK1.out.2 hek.2⟩)
        rw [hX] at hxs
        have HXS := wall hxs
        have HXE := wall hX
        rw [hxs] at HTG12
        have e0 : ((hw : Int) == 0) = false := by rw [h0]; rfl
        have f0 : decide ((hw : Int) = 0) = false := by rw [h0]; rfl
        have e1 : ((hw : Int) == 1) = false := by rw [h0]; rfl
        have f1 : decide ((hw : Int) = 1) = false := by rw [h0]; rfl
        obtain ⟨v, hv⟩ : ∃ v, mi.v = v := ⟨_, rfl⟩
        have hvl := HMI.out.len
        have hvb := HMI.out.byte
        rw [hv] at hvl hvb HV12 HXE hek HXS
        have HVL := wall (And.intro hvl hvb)
        have HEK := wall hek
        clear hX hxs h0 hm1 hm2 hh hh2 hv hvl hvb hek
        have HVI1 := wall (HVI.out v HVL.out.1)
        go_upto_region 16 with fail
        refine RelG.wp_region_rel 5 [(77, .const (.agg (b8 (encB kb v)))), (78, .const (.agg (b8 X)))] (by kernel_rfl) (by kernel_rfl) ?_
        simp only [List.take_succ_cons, List.take_zero, List.drop_succ_cons, List.drop_zero, Act.put, List.setIfInBounds_toArray, List.set_cons_zero, List.set_cons_succ]
        repeat (first | (refine RelG.tree_quiet rfl rfl rfl (fun K hK => ?_); go_big_quiet_op; refine hK _ ?_; clear hK K) | (refine RelG.tree_pure rfl rfl rfl (.agg (b8 b)) (fun W hW _ => Rel.exec_load _ _ rfl gb 0 rfl _ _ (Blk.range (hW.blk HKB12.out.drew)) Tryd.underlying90 rfl HSB1.out) ?_; simp only [Act.put, List.setIfInBounds_toArray, List.set_cons_zero, List.set_cons_succ]) | (refine RelG.tree_pure rfl rfl rfl (.agg (b8 v)) (fun W hW _ => Rel.exec_load _ _ rfl gv 0 rfl _ _ (Blk.range (hW.blk HV12.out.drew)) Tryd.underlying90 rfl HVI1.out) ?_; simp only [Act.put, List.setIfInBounds_toArray, List.set_cons_zero, List.set_cons_succ]))
        refine RelG.tree_const rfl (.agg (b8 (encB kb v))) rfl (fun W hW _ => ?_) ?_
        · have hq := (HF.out.at (below_then HB12.out hW.undrew (by rw [HGV.out]; exact Nat.le_refl _))).1.1.1.1.1.2
          unfold RelG.relAt; go_simp; show Calls _ _ _ _ _
          exact const_call (HENC.out W v hq HVL.out.1 HVL.out.2)
        simp only [Act.put, List.setIfInBounds_toArray, List.set_cons_zero, List.set_cons_succ]
        refine RelG.tree_const rfl (.agg (b8 X)) rfl (fun W hW _ => ?_) ?_
        · have hq := rxor_any b (encB kb v) W HBK1.out.1 HEK.out.1 HBK1.out.2 HEK.out.2
          rw [HXE.out] at hq
          unfold RelG.relAt; go_simp; show Calls _ _ _ _ _
          exact const_call hq
        simp only [Act.put, List.setIfInBounds_toArray, List.set_cons_zero, List.set_cons_succ]
        intro W hW _
        have HKC14 := wall (HKC.out.next hW.undrew rfl)
        have HV14 := wall (HV12.out.next hW.undrew rfl)
        have HTG14 := wall (range_below HTG12.out (Nat.lt_trans htbr (Nat.lt_trans hgb HKC.out.lt)) hW.undrew)
        have HB14 := wall (below_then HB12.out hW.undrew (by rw [HGV.out]; exact Nat.le_refl _))
        clear hW HKC HV12 HTG12 HB12 HKB12
        go_upto_region 17 with (refine wpList_set_row rfl 90 (.tmp 21) (.tmp 78) rfl gc (b8 X) rfl rfl 90 (b8 z16) HKC14.out (HVI.out _ HXL.out.1) (HVS.out _ HXL.out.1) (b8_one _) ?_; intro w15 K15 F15)
        have HKC15 := wall K15.out
        have HV15 := wall (HV14.out.frm F15.out (by simp; omega))
        have HTG15 := wall (range_frm HTG14.out F15.out (Nat.lt_trans htbr (Nat.lt_trans hgb HKC14.out.lt)) (by simp; omega))
        have HB15 := wall (Below.frm HB14.out F15.out (by rw [HGV.out]; exact Nat.le_refl _) (fun x hx => by have := HGV.out; simp at hx; omega))
        clear K15 F15 HKC14 HV14 HTG14 HB14
        go_wp2_with (refine wpList_load_row rfl 90 _ rfl gv rfl 90 (b8 v) (0, 0) _ HV15.out Tryd.underlying90 rfl HVI1.out ?_)
        (with_reducible refine (rnext_any v _ HVL.out.1 HVL.out.2).mono ?_); rintro e w16 ⟨rfl, hB16⟩
        have hnl := nextB_ok HVL.out.1 HVL.out.2
        have HNL := wall hnl
        have HKC16 := wall (HKC15.out.next hB16 rfl)
        have HV16 := wall (HV15.out.next hB16 rfl)
        have HTG16 := wall (range_below HTG15.out (Nat.lt_trans htbr (Nat.lt_trans hgb HKC15.out.lt)) hB16)
        have HB16 := wall (below_then HB15.out hB16 (by rw [HGV.out]; exact Nat.le_refl _))
        clear hB16 HKC15 HV15 HTG15 HB15 hnl
        go_upto_region 23 with (refine wpList_set_row rfl 90 (.tmp 18) (.tmp 80) rfl gv (b8 (nextB v)) rfl rfl 90 (b8 v) HV16.out (HVI.out _ HNL.out.1) (HVV.out _ _ HVL.out.1 HNL.out.1) (b8_one _) ?_; intro w17 K17 F17)
        have HVZ := wall K17.out
        have HKCZ := wall (HKC16.out.frm F17.out (by simp; omega))
        have HTGZ := wall (range_frm HTG16.out F17.out (Nat.lt_trans htbr (Nat.lt_trans hgb HKC16.out.lt)) (by have := HGV.out; have := HTL.out; simp; omega))
        have HBZ := wall (Below.frm HB16.out F17.out (by rw [HGV.out]; exact Nat.le_refl _) (fun x hx => by have := HGV.out; simp at hx; omega))
        have htbz : tb < w17.heap.size := Nat.lt_trans htbr (Nat.lt_trans hgb HKCZ.out.lt)
        clear K17 F17 HKC16 HV16 HTG16 HB16
        have heq := fun W => eq_arr W 16 90 X X HXL.out.1 HXL.out.1 Tryd.underlying90
        rw [decide_eq_true rfl] at heq
        have HXI := wall (HVI.out X HXL.out.1)
        refine RelG.wp_region_rel 9 [] (by kernel_rfl) (by kernel_rfl) ?_
        simp only [List.take_succ_cons, List.take_zero, List.drop_succ_cons, List.drop_zero, Act.put, List.setIfInBounds_toArray, List.set_cons_zero, List.set_cons_succ]
        repeat (first | (refine RelG.tree_quiet rfl rfl rfl (fun K hK => ?_); go_big_quiet_op; refine hK _ ?_; clear hK K) | (refine RelG.tree_pure rfl rfl rfl (.slice (some ⟨tb, tf, none⟩) 16 tc) (fun W hW _ => Rel.exec_slice _ _ _ _ rfl _ (htz W)) ?_; simp only [Act.put, List.setIfInBounds_toArray, List.set_cons_zero, List.set_cons_succ]) | (refine RelG.tree_pure rfl rfl rfl (.pointer (some ⟨tb, tf, none⟩)) (fun W hW _ => Rel.exec_arr _ _ _ rfl 16 _ 16 tc rfl Tryd.underlying90 (Nat.le_refl _)) ?_; simp only [Act.put, List.setIfInBounds_toArray, List.set_cons_zero, List.set_cons_succ]) | (refine RelG.tree_pure rfl rfl rfl (.agg (b8 X)) (fun W hW _ => Rel.exec_load _ _ rfl tb tf rfl _ _ (range_below HTGZ.out htbz hW.undrew) Tryd.underlying90 rfl HXI.out) ?_; simp only [Act.put, List.setIfInBounds_toArray, List.set_cons_zero, List.set_cons_succ]) | (refine RelG.tree_pure rfl rfl rfl (.agg (b8 X)) (fun W hW _ => Rel.exec_load _ _ rfl gc 0 rfl _ _ (Blk.range (hW.blk HKCZ.out.drew)) Tryd.underlying90 rfl HXI.out) ?_; simp only [Act.put, List.setIfInBounds_toArray, List.set_cons_zero, List.set_cons_succ]))
        intro W hW _
        have HVW := wall (HVZ.out.next hW.undrew rfl)
        have HBW := wall (below_then HBZ.out hW.undrew (by rw [HGV.out]; exact Nat.le_refl _))
        clear hW heq HVZ HBZ HKCZ HTGZ
        go_wp2_with fail
        go_light
        go_roundg (nb - (i + 1))
        case measure => have := HG.out; omega
        case rel => exact ⟨i + 1, z + 16, by omega, by have := HZI.out; omega, rfl, by rw [HNX.out, HXS.out]; exact HVW, HBW⟩
    · have hin : i = nb := by omega
      subst hin
      obtain ⟨v, hv⟩ : ∃ v, (runM m p' i).1.v = v := ⟨_, rfl⟩
      have hvl := (HRO.out i (Nat.le_refl _)).1.len
      have HAT2 := wall (fun W => show Calls Tryd.prog 61 #[.agg ML2.toArray] W (BkOut W v) from by
        rw [← hv, ← HML2.out]
        exact mat_any _ A1 L1 c1 _ W (mvF A1 L1 c1 _ hvl) hvl)
      have HAT1 := wall (fun W => show Calls Tryd.prog 61 #[.agg ML1.toArray] W (BkOut W st) from by
        have := mat_any _ A1 L1 c1 m W (mvF A1 L1 c1 m HOK.out.len) HOK.out.len
        rw [HMK.out.2.2.2] at this
        rw [← HML1.out]
        exact this)
      rw [hv] at HV hvl
      have HVI1 := wall (HVI.out v hvl)
      have he1 := fun W => eq_arr W 16 90 v v hvl hvl Tryd.underlying90
      have he2 := fun W => eq_arr W 16 90 st st HSL.out.1 HSL.out.1 Tryd.underlying90
      have hnx := nextB_ok HSL.out.1 HSL.out.2
      have he3 := fun W => eq_arr W 16 90 (nextB st) (nextB st) hnx.1 hnx.1 Tryd.underlying90
      have HN1 := wall (fun W => next_any st W HSL.out.1 HSL.out.2)
      have HN2 := wall (fun W => rnext_any st W HSL.out.1 HSL.out.2)
      obtain ⟨ns, hns⟩ : ∃ x, nextB st = x := ⟨_, rfl⟩
      rw [hns] at HN1 HN2 hnx he3
      rw [decide_eq_true rfl] at he1 he2 he3
      have hlt' : ¬ z < (n' : Int) := by have := HN.out; omega
      clear hv hvl hnx hlt HG hns
      go_wp2_with fail
      refine RelG.wp_region_rel 17 [(104, .const (.agg (b8 v))), (109, .const (.agg (b8 st))), (115, .const (.agg (b8 ns))), (117, .const (.agg (b8 ns)))] (by kernel_rfl) (by kernel_rfl) ?_
      simp only [List.take_succ_cons, List.take_zero, List.drop_succ_cons, List.drop_zero, Act.put, List.setIfInBounds_toArray, List.set_cons_zero, List.set_cons_succ]
      repeat (first | (refine RelG.tree_quiet rfl rfl rfl (fun K hK => ?_); go_big_quiet_op; refine hK _ ?_; clear hK K) | (refine RelG.tree_pure rfl rfl rfl (.agg ML2.toArray) (fun W hW _ => Rel.exec_load _ _ rfl g7 0 rfl _ _ (Blk.range (HF.out.at (below_then HB.out hW.undrew (by rw [HGV.out]; exact Nat.le_refl _))).2) Tryd.underlying96 rfl HF2.out.1) ?_; simp only [Act.put, List.setIfInBounds_toArray, List.set_cons_zero, List.set_cons_succ]) | (refine RelG.tree_pure rfl rfl rfl (.agg ML1.toArray) (fun W hW _ => Rel.exec_load _ _ rfl g6 0 rfl _ _ (Blk.range (HF.out.at (below_then HB.out hW.undrew (by rw [HGV.out]; exact Nat.le_refl _))).1.1.2) Tryd.underlying96 rfl HF1.out.1) ?_; simp only [Act.put, List.setIfInBounds_toArray, List.set_cons_zero, List.set_cons_succ]) | (refine RelG.tree_pure rfl rfl rfl (.agg (b8 st)) (fun W hW _ => Rel.exec_load _ _ rfl (w.heap.size + 1) 0 rfl _ _ (Blk.range (HF.out.at (below_then HB.out hW.undrew (by rw [HGV.out]; exact Nat.le_refl _))).1.1.1.1.1.1.2) Tryd.underlying90 rfl HSB.out) ?_; simp only [Act.put, List.setIfInBounds_toArray, List.set_cons_zero, List.set_cons_succ]) | (refine RelG.tree_pure rfl rfl rfl (.agg (b8 v)) (fun W hW _ => Rel.exec_load _ _ rfl gv 0 rfl _ _ (Blk.range (hW.blk HV.out.drew)) Tryd.underlying90 rfl HVI1.out) ?_; simp only [Act.put, List.setIfInBounds_toArray, List.set_cons_zero, List.set_cons_succ]) | (refine RelG.tree_const rfl (.agg (b8 v)) rfl (fun W hW _ => by (unfold RelG.relAt; go_simp; show Calls _ _ _ _ _; exact const_call (HAT2.out W))) ?_; simp only [Act.put, List.setIfInBounds_toArray, List.set_cons_zero, List.set_cons_succ]) | (refine RelG.tree_const rfl (.agg (b8 st)) rfl (fun W hW _ => by (unfold RelG.relAt; go_simp; show Calls _ _ _ _ _; exact const_call (HAT1.out W))) ?_; simp only [Act.put, List.setIfInBounds_toArray, List.set_cons_zero, List.set_cons_succ]) | (refine RelG.tree_const rfl (.agg (b8 ns)) rfl (fun W hW _ => by (unfold RelG.relAt; go_simp; show Calls _ _ _ _ _; exact const_call (HN1.out W))) ?_; simp only [Act.put, List.setIfInBounds_toArray, List.set_cons_zero, List.set_cons_succ]) | (refine RelG.tree_const rfl (.agg (b8 ns)) rfl (fun W hW _ => by (unfold RelG.relAt; go_simp; show Calls _ _ _ _ _; exact const_call (HN2.out W))) ?_; simp only [Act.put, List.setIfInBounds_toArray, List.set_cons_zero, List.set_cons_succ]))
      intro W hW _
      have HW := wall (HF.out.at (below_then HB.out hW.undrew (by rw [HGV.out]; exact Nat.le_refl _))).1.1.1.1.1.1.1.1
      clear hW he1 he2 he3
      go_wp2_with fail
      go_light
      go_ret
      exact ⟨rfl, HW.out⟩
theorem runs_frame (zk : List Int) (long : Bool) (zs : List Int) (A : Option Addr) (n c : Nat) (p : List Nat) (kd : Int) (w : World) (hkl : zk.length = 32) (hkb : ∀ z ∈ zk, (Lit.int .u8 z).wf = true) (hsl : zs.length = 16) (hsb : ∀ z ∈ zs, (Lit.int .u8 z).wf = true) (hk : (Lit.int .u8 kd).wf = true) (hpn : p.length = n) (hnm : n ≤ maxLen) (hz : Nats .u8 256 w w.heap.size A p) :
    Calls Tryd.prog 10 #[.agg (zk.map (Value.int .u8)).toArray, .bool long, .agg (zs.map (Value.int .u8)).toArray, .slice A n c, .int .u8 kd] w (TrueBelow w) := by
  obtain ⟨h1, h2⟩ := Slot.u8_ints zk hkb
  obtain ⟨h3, h4⟩ := Slot.u8_ints zs hsb
  have hb := bounds_u8 hk
  obtain ⟨d, hd⟩ : ∃ d : Nat, kd = (d : Int) := ⟨kd.toNat, by omega⟩
  subst hd
  rw [h1, h3]
  exact runs_any _ long _ A n c p d w (by rw [List.length_map]; exact hkl) h2 (by rw [List.length_map]; exact hsl) h4 hpn hnm hz (by omega)
end Aes
end Go.Proofs.YtpakdcgcgekcfaaDoor

/-
  The references' Same.
-/
set_option linter.unusedSimpArgs false
set_option linter.unusedVariables false
namespace Go.Proofs.YtpakdcgcgekcfaaDoor
open Go.RowKit

namespace R1
def SameOut (w : World) (v : Bool) (e : Ending) (w' : World) : Prop := e = .returned (.bool v) ∧ ∃ n, w' = w.drewN n
theorem Nats.drewN {k : IntKind} {M : Nat} {w : World} {B : Nat} {a : Option Addr} {zs : List Nat} (h : Nats k M w B a zs) (n : Nat) : Nats k M (w.drewN n) B a zs := h
theorem drewN_drewN (w : World) (a b : Nat) : (w.drewN a).drewN b = w.drewN (a + b) := by
  simp [World.drewN, Nat.add_assoc]
set_option maxHeartbeats 1000000 in
theorem same_any (A B : Option Addr) (la lb ca cb : Nat) (x y : List Nat) (v : Bool) (w : World) (BA BB : Nat) (hx : x.length = la) (hy : y.length = lb) (hma : la ≤ maxLen) (hmb : lb ≤ maxLen) (hA : Nats .u8 256 w BA A x) (hB : Nats .u8 256 w BB B y) (hv : decide (x = y) = v) :
    Calls Tryd.prog 29 #[.slice A la ca, .slice B lb cb] w (SameOut w v) := by
  have HA := Lib.hid hA
  have HB := Lib.hid hB
  have HV := Lib.hid hv
  simp only [maxLen] at hma hmb
  clear hA hB hv
  subst hx hy
  by_cases hl : x.length = y.length
  · have HL := Lib.hid hl
    have e1 : ((x.length : Int) != (y.length : Int)) = false := by simp [hl]
    clear hl
    go_enter Tryd.func29, Tryd.ntmps29
    go_wp2_with fail
    go_loopg [5, 13] x.length (fun g s5 s13 wr => ∃ i : Nat, i + g = x.length ∧ s13 = .int .i64 (i : Int) ∧ Hid (x.take i = y.take i) ∧ ∃ n, wr = w.drewN n)
    case atStart => exact ⟨0, by omega, rfl, Lib.hid rfl, 0, rfl⟩
    case round =>
      obtain ⟨i, hg, rfl, HT, n, rfl⟩ := hrel
      have HG := Lib.hid hg
      have hi : i ≤ x.length := by omega
      clear hg
      by_cases hlt : i < x.length
      · obtain ⟨a, ha⟩ : ∃ a, x[i]? = some a := ⟨_, List.getElem?_eq_getElem hlt⟩
        obtain ⟨b, hb⟩ : ∃ b, y[i]? = some b := ⟨_, List.getElem?_eq_getElem (by have := HL.out; omega)⟩
        obtain ⟨haM, ga, oa, rfl, hga, hca⟩ := HA.out i a ha
        obtain ⟨hbM, gb, ob, rfl, hgb, hcb⟩ := HB.out i b hb
        have hlt2 : i < y.length := by have := HL.out; omega
        by_cases hab : a = b
        · subst hab
          have HS := Lib.hid (show x.take (i + 1) = y.take (i + 1) by rw [take_snoc ha, take_snoc hb, HT.out])
          clear ha hb
          go_wp2_with fail
          go_quiet (fail)
          go_wp2_with fail
          go_light
          go_roundg (x.length - (i + 1))
          case measure => have := HG.out; omega
          case rel => exact ⟨i + 1, by have := HG.out; omega, by go_num, HS, _, rfl⟩
        · have hne : ((a : Int) != (b : Int)) = true := by rw [bne_iff_ne]; omega
          have HF := Lib.hid (show v = false by
            rw [← HV.out, decide_eq_false_iff_not]
            intro e
            rw [e, hb] at ha
            exact hab (Option.some.inj ha).symm)
          clear ha hb
          go_wp2_with fail
          go_quiet (fail)
          go_wp2_with fail
          go_light
          go_ret
          obtain rfl := HF.out
          exact ⟨rfl, _, drewN_drewN _ _ _⟩
      · have : i = x.length := by omega
        subst this
        have HE := Lib.hid (show v = true by
          rw [← HV.out, decide_eq_true_eq]
          have := HT.out
          rw [List.take_length, HL.out, List.take_length] at this
          exact this)
        go_wp2_with fail
        go_light
        go_ret
        obtain rfl := HE.out
        exact ⟨rfl, n, rfl⟩
  · have e1 : ((x.length : Int) != (y.length : Int)) = true := by rw [bne_iff_ne]; omega
    have HF := Lib.hid (show v = false by
      rw [← HV.out, decide_eq_false_iff_not]
      intro e
      exact hl (by rw [e]))
    clear hl
    go_enter Tryd.func29, Tryd.ntmps29
    go_wp2_with fail
    go_light
    go_ret
    obtain rfl := HF.out
    exact ⟨rfl, 0, rfl⟩
end R1
end Go.Proofs.YtpakdcgcgekcfaaDoor

/-
  The reference's Join (curtilageref01), its parts nil or not.
-/
set_option linter.unusedSimpArgs false
set_option linter.unusedVariables false
namespace Go.Proofs.YtpakdcgcgekcfaaDoor
open Go.RowKit

namespace R1
/-- A part: where it lies, its capacity, its bytes. -/
structure Pt where
  A : Option Addr
  c : Nat
  l : List Nat
def joinP (ps : List Pt) : List Nat := ps.flatMap (·.l)
theorem joinP_le : ∀ (ps : List Pt) (n : Nat), (∀ p ∈ ps, p.l.length ≤ n) → (joinP ps).length ≤ n * ps.length
  | [], _, _ => by simp [joinP]
  | p :: ps, n, h => by
    have h1 := joinP_le ps n (fun q hq => h q (by simp [hq]))
    have h2 := h p (by simp)
    simp only [joinP, List.flatMap_cons, List.length_append, List.length_cons, Nat.mul_succ] at h1 ⊢
    omega
theorem joinP_snoc (ps : List Pt) (p : Pt) : joinP (ps ++ [p]) = joinP ps ++ p.l := by simp [joinP]
set_option maxRecDepth 100000 in
set_option maxHeartbeats 1000000 in
theorem join_gen (J jo len cap : Nat) (ps : List Pt) (w : World) (hlen : ps.length = len) (hl : len ≤ 8) (hJ : J < w.heap.size)
    (hc : ∀ (i : Nat) (p : Pt), ps[i]? = some p → w.cell? ⟨J, jo + i, none⟩ = some (.slice p.A p.l.length p.c))
    (hn : ∀ p ∈ ps, p.l.length ≤ 1000 ∧ (p.A = none → p.c = 0) ∧ Nats .u8 256 w w.heap.size p.A p.l) :
    Calls Tryd.prog 31 #[.slice (some ⟨J, jo, none⟩) len cap] w (BytesOut w (joinP ps)) := by
  have HN := Lib.hid hn
  have HC := Lib.hid hc
  subst hlen
  clear hn hc
  go_enter Tryd.func31, Tryd.ntmps31
  go_wp2_with fail
  go_loopg [3, 8] ps.length (fun g s3 s8 wr => ∃ i : Nat, i + g = ps.length ∧ s8 = .int .i64 (i : Int) ∧ OwnB wr w.heap.size s3 (joinP (ps.take i)) ∧ Below w.heap.size w wr)
  case atStart => exact ⟨0, by omega, rfl, World.ownsRow_nil _ _ _ _, Below.refl _ _⟩
  case round =>
    obtain ⟨i, hg, rfl, hO, hB⟩ := hrel
    have HG := Lib.hid hg
    have hig : i ≤ ps.length := by omega
    have HB := Lib.hid hB
    have HO := Lib.hid hO
    have hwl : w.heap.size ≤ wr.heap.size := hB.size
    clear hg hB hO
    by_cases hlt : i < ps.length
    · obtain ⟨p, hx⟩ : ∃ p, ps[i]? = some p := ⟨_, List.getElem?_eq_getElem hlt⟩
      have hcx := (HB.out.cell (p := ⟨J, jo + i, none⟩) hJ).trans (HC.out i p hx)
      obtain ⟨hp64, hpz, hpn⟩ := HN.out p (List.mem_of_getElem? hx)
      have HS := Lib.hid (hpn.below HB.out)
      have HZ := Lib.hid hpz
      have HT := Lib.hid (take_snoc hx)
      have hlen : (joinP (ps.take i)).length ≤ 1000 * i := by
        have := joinP_le (ps.take i) 1000 (fun q hq => (HN.out q (List.mem_of_mem_take hq)).1)
        rw [List.length_take] at this
        omega
      have HL := Lib.hid hlen
      obtain ⟨pA, pc, pl⟩ := p
      simp only [] at hcx hp64 HS HZ HT
      obtain ⟨pn, hpn'⟩ : ∃ n, pl.length = n := ⟨_, rfl⟩
      have HPN := Lib.hid hpn'
      rw [hpn'] at hcx hp64
      clear hx hlen hpn hpz hpn'
      go_wp2_with (at_builtin; refine wpList_append_bytes rfl (.tmp 12) (.tmp 13) rfl w.heap.size _ _ rfl HO.out pA pn pc pl rfl HPN.out ⟨_, HS.out⟩ HZ.out (by have := HL.out; omega) hwl ?_; intro v2 w2 hO2 hB2)
      have HB2 := Lib.hid (HB.out.trans hB2)
      have HO2 := Lib.hid hO2
      clear hO2 hB2
      go_wp2_with fail
      go_light
      go_roundg (ps.length - (i + 1))
      case measure => have := HG.out; omega
      case rel =>
        refine ⟨i + 1, by omega, by go_num, ?_, HB2.out⟩
        have h2 := HO2.out
        rw [HT.out, joinP_snoc]
        exact h2
    · have : i = ps.length := by omega
      subst this
      have HT := Lib.hid (show ps.take ps.length = ps from List.take_length)
      go_wp2_with fail
      go_light
      go_ret
      have hOO := HO.out
      rw [HT.out] at hOO
      exact ⟨_, rfl, hOO, HB.out⟩
end R1
end Go.Proofs.YtpakdcgcgekcfaaDoor
