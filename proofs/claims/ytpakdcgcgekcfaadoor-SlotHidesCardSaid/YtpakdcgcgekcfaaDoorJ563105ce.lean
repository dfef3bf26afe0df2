/-
  Texts of this claim, joined: HidG, HidH, HidI, HidJ, HidP, HidQ, HidS, U8Ints, HidR, EqDig, SlotAw, ShaTab, SlotCi.
-/
import Derived.Test.YtpakdcgcgekcfaaDoorJ9e03ded5
import Derived.Test.YtpakdcgcgekcfaaDoorJ756a6ad9
import Derived.Test.YtpakdcgcgekcfaaDoorJ80332cc5
import Derived.Test.YtpakdcgcgekcfaaDoorJ81216201
import Derived.Test.YtpakdcgcgekcfaaDoorProg
import Derived.ChangeKeysEq
import Derived.Laws.StructEq
import Derived.Deep.DeepCutAuto
import Derived.Test.YtpakdcgcgekcfaaDoorJ80e8084e
import Derived.Lib.LaidTab
set_option linter.unusedVariables false
/-
  SlotHides: the reference's Do: deriving.
-/
set_option linter.unusedSimpArgs false
set_option linter.unusedVariables false
namespace Go.Proofs.YtpakdcgcgekcfaaDoor
open Go.RowKit

namespace Slot
open Otp R1 Sha Aes
def derR (x : Xs) (h t : Int) : Nat := if x.dd then 17 else if inR h = false ∨ inR t = false then 1 else if hasE x h ≠ 0 then hasE x h else if kx x t ≠ 0 then 13 else 0
def derK (x : Xs) (h t : Int) : List Int := if derR x h t = 0 then x.ks.set t.toNat 2 else x.ks
def DerS (b g o : Nat) (t lb p : Value) (W : World) : Prop := W.cell? ⟨b, 2, none⟩ = some t ∧ W.cell? ⟨b, 36, none⟩ = some lb ∧ W.cell? ⟨b, 37, none⟩ = some p ∧ W.there g o 32
theorem DerS.grow {b g o : Nat} {t lb p : Value} {W W' : World} (h : DerS b g o t lb p W) (hb : Below W.heap.size W W') : DerS b g o t lb p W' := by
  obtain ⟨h1, h2, h3, h4⟩ := h
  have hbl : b < W.heap.size := World.block_lt_of_cell? W _ h1
  refine ⟨(hb.cell (p := ⟨b, 2, none⟩) hbl).trans h1, (hb.cell (p := ⟨b, 36, none⟩) hbl).trans h2, (hb.cell (p := ⟨b, 37, none⟩) hbl).trans h3, fun j hj => ?_⟩
  obtain ⟨a1, a2⟩ := h4 j hj
  obtain ⟨u, hu⟩ := Option.isSome_iff_exists.1 a1
  have hgl : g < W.heap.size := World.block_lt_of_cell? W _ hu
  exact ⟨by rw [hb.cell (p := ⟨g, o + j, none⟩) hgl]; exact a1, by rw [hb.frozen (p := ⟨g, o + j, none⟩) hgl]; exact a2⟩
theorem DerS.set {b g o i : Nat} {t lb p u : Value} {W : World} (hne : g ≠ b) (h : DerS b g o t lb p W) : DerS b g o t lb p (W.setCell ⟨g, i, none⟩ u) := by
  obtain ⟨h1, h2, h3, h4⟩ := h
  have hc : ∀ j, (W.setCell ⟨g, i, none⟩ u).cell? ⟨b, j, none⟩ = W.cell? ⟨b, j, none⟩ := fun j => World.cell?_setCell_other _ _ _ _ (fun e => hne (congrArg Addr.block e))
  refine ⟨(hc 2).trans h1, (hc 36).trans h2, (hc 37).trans h3, fun j hj => ?_⟩
  obtain ⟨a1, a2⟩ := h4 j hj
  exact ⟨World.isSome_setCells g [u] i W _ a1, (World.frozen?_setCells g [u] i W ⟨g, o + j, none⟩).trans a2⟩
theorem DerS.sets {b g o o' : Nat} {t lb p : Value} {vs : List Value} {W : World} (hne : g ≠ b) (h : DerS b g o t lb p W) : DerS b g o t lb p (W.setCells g o' vs) := by
  obtain ⟨h1, h2, h3, h4⟩ := h
  have hc : ∀ j, (W.setCells g o' vs).cell? ⟨b, j, none⟩ = W.cell? ⟨b, j, none⟩ := fun j => World.cell?_setCells_out g vs o' W ⟨b, j, none⟩ (fun hb _ => absurd hb.symm hne)
  exact ⟨(hc 2).trans h1, (hc 36).trans h2, (hc 37).trans h3, World.there_setCells h4 _ _ _⟩
set_option maxRecDepth 100000 in
set_option maxHeartbeats 4000000 in
theorem do_der (g : Nat) (x : Xs) (a : Ac) (p : List Nat) (w : World) (hS : Sx w g x) (hk : a.key.length = 32) (hm : a.d % 7 = 2) (hlb : a.lb.size ≤ 100000) (hp : p.length = a.n) (hpm : p.length ≤ 1000) (hc : a.n ≤ a.c) (hnil : a.A = none → a.c = 0) (hz : Nats .u8 256 w w.heap.size a.A p) :
    Calls Tryd.prog 45 #[.pointer (some ⟨g, 0, none⟩), .agg (acL a).toArray] w (DoOut w g (derR x a.h a.t) (derK x a.h a.t) x.lk x.dd) := by
  obtain ⟨AL, hAL⟩ : ∃ y, (acL a).toArray = y := ⟨_, rfl⟩
  obtain ⟨W1, hW1⟩ : ∃ W, W = (w.alloc (.cells AL 81)).alloc (.cells (b8 z32) 23) := ⟨_, rfl⟩
  have HW1 := wall hW1
  have HD := wall (show Dw w g x a z32 W1 by rw [hW1, ← hAL]; exact Dw.start hS)
  have HZI := wall z32_info
  have hac := acb_of HD.out.act hk
  have hcd := hac.d
  have hch := hac.h
  have hct := hac.t
  obtain ⟨e1, e2⟩ := mod7 a.d 2 hm
  have HKL := wall hk
  have HLB := wall hlb
  have HP := wall (And.intro hp (And.intro hpm (And.intro hc hnil)))
  have HB1 := wall (show Below w.heap.size w W1 by rw [hW1]; exact ((Below.refl _ w).alloc (Nat.le_refl _) _).alloc (by simp) _)
  have HZ := wall hz
  have hdd := HD.out.sx.cellAt HD.out.sx.ok.deadAt
  have hgl := HD.out.sx.blk.lt
  rw [hAL]
  obtain ⟨d, h, t, k, key, lb, A, n, c⟩ := a
  simp only at hcd hch hct e1 e2 HKL HP HZ HLB ⊢
  clear hW1 hAL hS hk hm hac hp hpm hc hnil hz hlb
  by_cases h1 : x.dd = true
  · have HE := wall (show derR x h t = 17 by rw [derR, if_pos h1])
    have HL := wall (show derK x h t = x.ks by rw [derK, HE.out]; rfl)
    rw [HE.out, HL.out]
    rw [h1] at hdd
    clear h1 HE HL
    go_enter Tryd.func45, Tryd.ntmps45
    go_upto_region 1 with fail
    change Code.wp _ _ _ _ ((w.alloc (.cells AL 81)).alloc (.cells (b8 z32) 23))
    rw [← HW1.out]
    go_wp2_with (refine wpList_set_row rfl 23 (.tmp 4) (.tmp 23) rfl (w.heap.size + 1) (b8 z32) rfl rfl 23 (b8 z32) HD.out.res HZI.out rfl (b8_one _) ?_; intro w3 K3 F3)
    have HD3 := wall (HD.out.put F3 K3)
    clear K3 F3 HD
    go_light
    exact do_end 17 HD3.out z32_ok.1 rfl rfl
  · rw [Bool.not_eq_true] at h1
    have h1' : ¬ x.dd = true := by rw [h1]; decide
    have H1 := wall h1'
    rw [h1] at hdd
    clear h1 h1'
    by_cases h2 : inR h = false ∨ inR t = false
    · have HE := wall (show derR x h t = 1 by rw [derR, if_neg H1.out, if_pos h2])
      have HL := wall (show derK x h t = x.ks by rw [derK, HE.out]; rfl)
      rw [HE.out, HL.out]
      clear HE HL
      by_cases h3 : inR h = false
      · have HI := wall h3
        clear h2 h3
        go_enter Tryd.func45, Tryd.ntmps45
        go_upto_region 1 with fail
        change Code.wp _ _ _ _ ((w.alloc (.cells AL 81)).alloc (.cells (b8 z32) 23))
        rw [← HW1.out]
        go_wp2_with fail
        (with_reducible refine (in_any h W1).mono ?_); rintro e w2 ⟨rfl, rfl⟩
        rw [HI.out]
        go_wp2_with (refine wpList_set_row rfl 23 (.tmp 4) (.tmp 35) rfl (w.heap.size + 1) (b8 z32) rfl rfl 23 (b8 z32) HD.out.res HZI.out rfl (b8_one _) ?_; intro w3 K3 F3)
        have HD3 := wall (HD.out.put F3 K3)
        clear K3 F3 HD
        go_light
        exact do_end 1 HD3.out z32_ok.1 rfl rfl
      · have HJ := wall (h2.resolve_left h3)
        rw [Bool.not_eq_false] at h3
        have HI := wall h3
        clear h2 h3
        go_enter Tryd.func45, Tryd.ntmps45
        go_upto_region 1 with fail
        change Code.wp _ _ _ _ ((w.alloc (.cells AL 81)).alloc (.cells (b8 z32) 23))
        rw [← HW1.out]
        go_wp2_with fail
        (with_reducible refine (in_any h W1).mono ?_); rintro e w2 ⟨rfl, rfl⟩
        rw [HI.out]
        go_wp2_with fail
        (with_reducible refine (in_any t W1).mono ?_); rintro e w2 ⟨rfl, rfl⟩
        rw [HJ.out]
        go_wp2_with (refine wpList_set_row rfl 23 (.tmp 4) (.tmp 35) rfl (w.heap.size + 1) (b8 z32) rfl rfl 23 (b8 z32) HD.out.res HZI.out rfl (b8_one _) ?_; intro w3 K3 F3)
        have HD3 := wall (HD.out.put F3 K3)
        clear K3 F3 HD
        go_light
        exact do_end 1 HD3.out z32_ok.1 rfl rfl
    · have HI := wall (show inR h = true by cases e : inR h; exact absurd (.inl e) h2; rfl)
      have HJ := wall (show inR t = true by cases e : inR t; exact absurd (.inr e) h2; rfl)
      have htr : 0 ≤ t ∧ t < 8 := of_decide_eq_true HJ.out
      obtain ⟨j, rfl⟩ : ∃ j : Nat, t = j := ⟨t.toNat, by omega⟩
      have hj : j < 8 := by omega
      have hj8 : (j : Int) < 8 := by omega
      have HH := wall (fun W (q : Sx W g x) => has_any g x h W q)
      have HER := wall (show derR x h (j : Int) = if hasE x h ≠ 0 then hasE x h else if kx x (j : Int) ≠ 0 then 13 else 0 by rw [derR, if_neg H1.out, if_neg h2])
      have HEK := wall (show derK x h (j : Int) = if derR x h (j : Int) = 0 then x.ks.set j 2 else x.ks from rfl)
      obtain ⟨E, hE⟩ : ∃ E, hasE x h = E := ⟨_, rfl⟩
      rw [hE] at HH HER
      obtain ⟨R, hR⟩ : ∃ R, derR x h (j : Int) = R := ⟨_, rfl⟩
      rw [hR] at HER HEK ⊢
      obtain ⟨KS, hKS⟩ : ∃ y, derK x h (j : Int) = y := ⟨_, rfl⟩
      rw [hKS] at HEK ⊢
      clear hE h2 htr hR hKS
      go_enter Tryd.func45, Tryd.ntmps45
      go_upto_region 1 with fail
      change Code.wp _ _ _ _ ((w.alloc (.cells AL 81)).alloc (.cells (b8 z32) 23))
      rw [← HW1.out]
      go_wp2_with fail
      (with_reducible refine (in_any h W1).mono ?_); rintro e w2 ⟨rfl, rfl⟩
      rw [HI.out]
      go_wp2_with fail
      (with_reducible refine (in_any (j : Int) W1).mono ?_); rintro e w2 ⟨rfl, rfl⟩
      rw [HJ.out]
      go_wp2_with fail
      (with_reducible refine (HH.out W1 HD.out.sx).mono ?_); rintro e w2 ⟨D, rfl, hDl, hDb, hB2⟩
      have HD2 := wall (HD.out.old hB2)
      have HB2 := wall (below_then HB1.out hB2 (Nat.le_refl _))
      have HDL := wall (And.intro hDl hDb)
      have HDI := wall (show (Tryd.prog.info? 23).map (·.size) = some (b8 D).size by rw [b8_size, hDl]; exact dig_info)
      have HDZ := wall (show (b8 z32).size = (b8 D).size by rw [b8_size, b8_size, z32_ok.1, hDl])
      clear hB2 hDl hDb HD HB1 hcd hch hct HW1 hdd
      go_upto_region 8 with (refine wpList_new_row rfl 23 (.tmp 6) (.tmp 41) rfl w2.heap.size (b8 D) rfl rfl 23 (b8 z32) (Blk.new _ _ _) HDI.out HDZ.out (b8_one _) w2.heap.size w2 ((Below.refl _ w2).alloc (Nat.le_refl _) _) (Nat.le_refl _) ?_; intro w3 K3 B3)
      have HD3 := wall (HD2.out.old B3.out)
      have HB3 := wall (below_then HB2.out B3.out (Nat.le_refl _))
      have HK3 := wall K3.out
      clear K3 B3 HD2 HB2
      by_cases h0 : E = 0
      · subst h0
        have hck := HD3.out.sx.cellAt (HD3.out.sx.ok.kindAt hj)
        have hct := (acb_of HD3.out.act HKL.out).t
        by_cases h5 : kx x (j : Int) = 0
        · have hR0 : R = 0 := by
            have := HER.out
            rw [if_neg (by decide), if_neg (by rw [h5]; decide)] at this
            exact this
          have hKS : KS = x.ks.set j 2 := by
            have := HEK.out
            rw [if_pos hR0] at this
            exact this
          subst hR0
          subst hKS
          have H5 := wall h5
          rw [h5] at hck
          clear HER HEK h5 hck hct
          go_upto_region 10 with fail
          refine RelG.wp_region_rel 8 [(52, .const (.pointer (some ⟨g, 0, none⟩)))] (by kernel_rfl) (by kernel_rfl) ?_
          simp only [List.take_succ_cons, List.take_zero, List.drop_succ_cons, List.drop_zero, Act.put, List.setIfInBounds_toArray, List.set_cons_zero, List.set_cons_succ]
          repeat (first | (refine RelG.tree_quiet rfl rfl rfl (fun K hK => ?_); go_big_quiet_op; refine hK _ ?_; clear hK K) | (refine RelG.tree_const rfl (.pointer (some ⟨g, 0, none⟩)) rfl (fun W hW _ => by (unfold RelG.relAt; go_simp; exact ⟨Rel.Grow.refl _, rfl⟩)) ?_; simp only [Act.put, List.setIfInBounds_toArray, List.set_cons_zero, List.set_cons_succ]) | (refine RelG.tree_pure rfl rfl rfl (.int .i64 (j : Int)) (fun W hW _ => Rel.exec_load1 _ _ rfl w.heap.size 2 rfl _ (fun _ => by kernel_rfl) (acb_of (HD3.out.old hW.undrew).act HKL.out).t) ?_; simp only [Act.put, List.setIfInBounds_toArray, List.set_cons_zero, List.set_cons_succ]) | (refine RelG.tree_pure rfl rfl rfl (.int .i64 0) (fun W hW _ => Rel.exec_load1 _ _ rfl g j rfl _ (fun _ => by kernel_rfl) (H5.out ▸ (HD3.out.old hW.undrew).sx.cellAt ((HD3.out.old hW.undrew).sx.ok.kindAt hj))) ?_; simp only [Act.put, List.setIfInBounds_toArray, List.set_cons_zero, List.set_cons_succ]))
          intro W hW _
          have HD4 := wall (HD3.out.old hW.undrew)
          have HB4 := wall (below_then HB3.out hW.undrew (Nat.le_refl _))
          have HK4 := wall (hW.blk HK3.out.drew)
          clear hW HD3 HB3 HK3
          obtain ⟨M, hM⟩ : ∃ M, deriveB D (sB lb) [p] = M := ⟨_, rfl⟩
          have HML := wall (show M.length = 32 ∧ ∀ y ∈ M, y < 256 by rw [← hM]; exact ⟨deriveB_length _ _ _, deriveB_byte _ _ _⟩)
          obtain ⟨W5, hW5⟩ : ∃ V, V = (W.alloc (.cells #[.slice A n c] 53)).drew := ⟨_, rfl⟩
          have hB5 : Below W.heap.size W W5 := by rw [hW5]; exact ((Below.refl _ W).alloc (Nat.le_refl _) _).drew
          have hN5 : Nats .u8 256 W W.heap.size A p := (HZ.out.below HB4.out).more HB4.out.size
          have hP5 : Parts W5 W5.heap.size (some ⟨W.heap.size, 0, none⟩) [p] := by
            have := parts_new (t := 53) W [.slice A n c] [p] rfl (fun i q v hq hv => by
              match i, hq, hv with
              | 0, hq, hv =>
                obtain rfl : p = q := by simpa using hq
                obtain rfl : _ = v := by simpa using hv
                exact BytesN.of HP.out.1 HP.out.2.2.1 HP.out.2.2.2 hN5)
            rw [hW5]
            exact this
          have hac4 := acb_of HD4.out.act HKL.out
          have hs0 : DerS w.heap.size g (8 + j * 32) (.int .i64 (j : Int)) (.string lb) (.slice A n c) W := ⟨hac4.t, hac4.lb, hac4.p, fun q hq => by
            refine ⟨?_, HD4.out.sx.blk.frozen _⟩
            rw [HD4.out.sx.blk.cell]
            rw [List.getElem?_toArray, List.getElem?_eq_getElem (by rw [HD4.out.sx.ok.size]; omega)]
            rfl⟩
          have HS5 := wall (hs0.grow hB5)
          have HDER := wall (show Calls Tryd.prog 38 #[.slice (some ⟨w2.heap.size, 0, none⟩) 32 32, .string lb, .slice (some ⟨W.heap.size, 0, none⟩) 1 1] W5 (fun e w' => e = .returned (.agg (v8 M).toArray) ∧ Below W5.heap.size W5 w' ∧ DerS w.heap.size g (8 + j * 32) (.int .i64 (j : Int)) (.string lb) (.slice A n c) w' ∧ w'.cell? ⟨g, j, none⟩ = some (.int .i64 (kx x (j : Int))) ∧ w'.frozen? ⟨g, j, none⟩ = false) from by
            have hsx5 := HD4.out.sx.old hB5
            have hn := nats_b8 (HK4.out.next hB5 rfl) HDL.out.2
            have := Mac.r2derive_any D (some ⟨w2.heap.size, 0, none⟩) 32 32 lb [p] (some ⟨W.heap.size, 0, none⟩) 1 1 W5 HDL.out.1 (by decide) hn HLB.out rfl (by decide) hP5 (by have := HP.out.2.1; simp; omega)
            rw [hM] at this
            exact Calls.mono this fun e w' ⟨h1, h2⟩ => ⟨h1, h2, HS5.out.grow h2, (hsx5.old h2).cellAt ((hsx5.old h2).ok.kindAt hj), (hsx5.old h2).blk.frozen _⟩)
          have HSW := wall hs0
          have HB5 := wall hB5
          have HW5 := wall hW5
          have hsl := run_slice_arr_all' (P := Tryd.prog) 23 5 32 Tryd.underlying23 (fun _ => by kernel_rfl) w2.heap.size 0 (by decide)
          have hu := Tryd.underlying23
          have hii : (Tryd.prog.info? 23).map (·.size) = some (v8 M).length := by rw [v8_length, HML.out.1]; kernel_rfl
          have hil : (v8 M).length = 32 := by rw [v8_length, HML.out.1]
          have hio : ∀ v ∈ v8 M, v.oneCell' = true := fun v hv => by
            obtain ⟨_, _, rfl⟩ := List.mem_map.1 hv
            rfl
          have hgk := HD4.out.sx.cellAt (HD4.out.sx.ok.kindAt hj)
          have hgf := HD4.out.sx.blk.frozen j
          have hgb : g ≠ w.heap.size := by have := HD4.out.lt; omega
          have hc2 := hs0.1
          have hc36 := hs0.2.1
          have hc37 := hs0.2.2.1
          have hth := hs0.2.2.2
          clear hM hB5 hN5 hP5 hac4 hs0 hW5
          go_wp2_with fail
          have HSA := wall (show DerS w.heap.size g (8 + j * 32) (.int .i64 (j : Int)) (.string lb) (.slice A n c) (W.alloc (.cells #[.slice A n c] 53)).drew by rw [← HW5.out]; exact HS5.out)
          go_region_held3 (fun w' => w'.cell? ⟨w.heap.size, 2, none⟩ = some (.int .i64 (j : Int)) ∧ w'.cell? ⟨w.heap.size, 36, none⟩ = some (.string lb) ∧ w'.cell? ⟨w.heap.size, 37, none⟩ = some (.slice A n c) ∧ w'.there g (8 + j * 32) 32) (first | exact HSA.out | exact HSW.out | exact hS6 | exact DerS.set hgb hS6 | exact DerS.sets hgb (DerS.set hgb hS6)) ((go_at_call 38; rw [← HW5.out]; (with_reducible refine HDER.out.mono ?_); rintro e w6 ⟨rfl, hB6, hS6, hgk6, hgf6⟩))
          have HD6 := wall (HD4.out.old (below_then HB5.out hB6 (Nat.le_refl _)))
          have hk1 := HD6.out.sx.ok.setK hj 2
          have hb1' : Blk (w6.setCell ⟨g, j, none⟩ (.int .i64 2)) g 78 (xsL { x with ks := x.ks.set j 2 }).toArray := by
            have := HD6.out.sx.blk.set j (.int .i64 2)
            simp only [List.setIfInBounds_toArray] at this
            rw [hk1.1] at this
            exact this
          have hk2 := hk1.2.setY hj HML.out.1 HML.out.2
          have hb2' : Blk ((w6.setCell ⟨g, j, none⟩ (.int .i64 2)).setCells g (8 + j * 32) (v8 M)) g 78 (xsL { x with ks := x.ks.set j 2, ys := splice x.ys (32 * j) M }).toArray := by
            have := blk_setCells (v8 M) (8 + j * 32) (xsL { x with ks := x.ks.set j 2 }) _ hb1' (by rw [hil, hk1.2.size]; omega)
            rw [hk2.1] at this
            exact this
          have HD7 := wall (HD6.out.set (x' := { x with ks := x.ks.set j 2, ys := splice x.ys (32 * j) M }) (show Frm [g] w6 ((w6.setCell ⟨g, j, none⟩ (.int .i64 2)).setCells g (8 + j * 32) (v8 M)) from
            frm_setCells (v8 M) (8 + j * 32) w6 _ _ ((Frm.refl _ w6).setCell (p := ⟨g, j, none⟩) (.inl (by simp)) _) (.inl (by simp))) ⟨hk2.2, hb2'⟩)
          generalize (w6.setCell ⟨g, j, none⟩ (.int .i64 2)).setCells g (8 + j * 32) (v8 M) = W8 at *
          clear HD4 HD6 hk1 hb1' hk2 hb2' hgk hgf hgk6 hgf6 hS6 hB6 hth hu hii hil hio hc2 hc36 hc37 hsl HSA HSW HS5 HDER HW5 HB5 HK4 HB4
          go_wp2_with (refine wpList_set_row rfl 23 (.tmp 4) (.tmp 77) rfl (w.heap.size + 1) (b8 z32) rfl rfl 23 (b8 z32) HD7.out.res HZI.out rfl (b8_one _) ?_; intro w9 K9 F9)
          have HD9 := wall (HD7.out.put F9 K9)
          clear K9 F9 HD7
          go_light
          exact do_end 0 HD9.out z32_ok.1 rfl rfl
        · have hR0 : R = 13 := by
            have := HER.out
            rw [if_neg (by decide), if_pos h5] at this
            exact this
          have hKS : KS = x.ks := by
            have := HEK.out
            rw [if_neg (by rw [hR0]; decide)] at this
            exact this
          subst hR0
          subst hKS
          have hne : (kx x (j : Int) != 0) = true := by rw [bne_iff_ne]; exact h5
          clear HER HEK hck hct
          go_upto_region 10 with fail
          refine RelG.wp_region_rel 8 [(52, .const (.pointer (some ⟨g, 0, none⟩)))] (by kernel_rfl) (by kernel_rfl) ?_
          simp only [List.take_succ_cons, List.take_zero, List.drop_succ_cons, List.drop_zero, Act.put, List.setIfInBounds_toArray, List.set_cons_zero, List.set_cons_succ]
          repeat (first | (refine RelG.tree_quiet rfl rfl rfl (fun K hK => ?_); go_big_quiet_op; refine hK _ ?_; clear hK K) | (refine RelG.tree_const rfl (.pointer (some ⟨g, 0, none⟩)) rfl (fun W hW _ => by (unfold RelG.relAt; go_simp; exact ⟨Rel.Grow.refl _, rfl⟩)) ?_; simp only [Act.put, List.setIfInBounds_toArray, List.set_cons_zero, List.set_cons_succ]) | (refine RelG.tree_pure rfl rfl rfl (.int .i64 (j : Int)) (fun W hW _ => Rel.exec_load1 _ _ rfl w.heap.size 2 rfl _ (fun _ => by kernel_rfl) (acb_of (HD3.out.old hW.undrew).act HKL.out).t) ?_; simp only [Act.put, List.setIfInBounds_toArray, List.set_cons_zero, List.set_cons_succ]) | (refine RelG.tree_pure rfl rfl rfl (.int .i64 (kx x (j : Int))) (fun W hW _ => Rel.exec_load1 _ _ rfl g j rfl _ (fun _ => by kernel_rfl) ((HD3.out.old hW.undrew).sx.cellAt ((HD3.out.old hW.undrew).sx.ok.kindAt hj))) ?_; simp only [Act.put, List.setIfInBounds_toArray, List.set_cons_zero, List.set_cons_succ]))
          intro W hW _
          have HD4 := wall (HD3.out.old hW.undrew)
          clear hW HD3
          go_wp2_with (refine wpList_set_row rfl 23 (.tmp 4) (.tmp 57) rfl (w.heap.size + 1) (b8 z32) rfl rfl 23 (b8 z32) HD4.out.res HZI.out rfl (b8_one _) ?_; intro w5 K5 F5)
          have HD5 := wall (HD4.out.put F5 K5)
          clear K5 F5 HD4
          go_light
          exact do_end 13 HD5.out z32_ok.1 rfl rfl
      · have hR0 : R = E := by
          have := HER.out
          rw [if_pos h0] at this
          exact this
        have hKS : KS = x.ks := by
          have := HEK.out
          rw [if_neg (by rw [hR0]; exact h0)] at this
          exact this
        subst hR0
        subst hKS
        have hne : (((R : Nat) : Int) != 0) = true := by rw [bne_iff_ne]; omega
        clear HER HEK
        go_wp2_with (refine wpList_set_row rfl 23 (.tmp 4) (.tmp 46) rfl (w.heap.size + 1) (b8 z32) rfl rfl 23 (b8 z32) HD3.out.res HZI.out rfl (b8_one _) ?_; intro w5 K5 F5)
        have HD5 := wall (HD3.out.put F5 K5)
        clear K5 F5 HD3
        go_light
        exact do_end (R : Int) HD5.out z32_ok.1 rfl rfl
end Slot
end Go.Proofs.YtpakdcgcgekcfaaDoor

/-
  SlotHides: apply.
-/
set_option linter.unusedSimpArgs false
set_option linter.unusedVariables false
namespace Go.Proofs.YtpakdcgcgekcfaaDoor
open Go.RowKit

namespace Slot
open Otp R1 Sha Aes
/-- What apply hands back. -/
def ApOut (w : World) (g : Nat) (D : List Nat) (E : Int) (s : Slt) (e : Ending) (w' : World) : Prop := e = .returned (.tuple #[.agg (b8 D), .int .i64 E]) ∧ Sl w' g s ∧ Frm [g] w w'
/-- apply under way. -/
structure Da (W : World) (g : Nat) (s : Slt) (a : Ac) (R : List Nat) (w : World) : Prop where
  act : Blk w W.heap.size 81 (acL a).toArray
  res : Blk w (W.heap.size + 1) 23 (b8 R)
  sl : Sl w g s
  frm : Frm [g] W w
  lt : g < W.heap.size
section
variable {W w w' : World} {g : Nat} {s : Slt} {a : Ac} {R : List Nat}
theorem Da.old (h : Da W g s a R w) (hb : Below w.heap.size w w') : Da W g s a R w' := ⟨h.act.next hb rfl, h.res.next hb rfl, h.sl.old hb, h.frm.trans' (Frm.of_below (S := []) hb) (fun _ hx => by simp at hx), h.lt⟩
theorem Da.start (hS : Sl W g s) : Da W g s a z32 ((W.alloc (.cells (acL a).toArray 81)).alloc (.cells (b8 z32) 23)) := by
  have hb : Below W.heap.size W ((W.alloc (.cells (acL a).toArray 81)).alloc (.cells (b8 z32) 23)) := ((Below.refl _ W).alloc (Nat.le_refl _) _).alloc (by simp) _
  exact ⟨(Blk.new _ _ _).alloc _, blk_new' (by simp), hS.old hb, Frm.of_below hb, hS.blk.lt⟩
theorem Da.put (h : Da W g s a R w) {D : List Nat} (hf : Frm [W.heap.size + 1] w w') (hk : Blk w' (W.heap.size + 1) 23 (b8 D)) : Da W g s a D w' := by
  have := h.lt
  exact ⟨h.act.frm hf (by simp), hk, h.sl.frm hf (by simp; omega), h.frm.trans' hf (fun x hx hl => by simp at hx; omega), h.lt⟩
theorem Da.set (h : Da W g s a R w) {s' : Slt} (hf : Frm [g] w w') (hk : Sl w' g s') : Da W g s' a R w' := by
  have := h.lt
  exact ⟨h.act.frm hf (by simp; omega), h.res.frm hf (by simp; omega), hk, h.frm.trans' hf (fun x hx _ => hx), h.lt⟩
end
theorem ap_end {W w : World} {g : Nat} {s : Slt} {a : Ac} {D : List Nat} {tmps : Array Value} (E : Int) (h : Da W g s a D w) (hl : D.length = 32) (h1 : tmps.getD 4 undef = .pointer (some ⟨W.heap.size + 1, 0, none⟩)) (h2 : tmps.getD 5 undef = .int .i64 E) :
    bodyPost Tryd.prog Tryd.f46 (ApOut W g D E s) .ret ⟨tmps, []⟩ w :=
  bodyPost_ret (v := .tuple #[.agg (b8 D), .int .i64 E]) (dig_end Tryd.results46 (W.heap.size + 1) E D h1 h2 h.res hl) rfl ⟨rfl, h.sl, h.frm⟩
set_option maxRecDepth 100000 in
set_option maxHeartbeats 1000000 in
theorem ap_lock (g : Nat) (s : Slt) (a : Ac) (w : World) (hS : Sl w g s) (hk : a.key.length = 32) (hm : a.d % 7 = 5) :
    Calls Tryd.prog 46 #[.pointer (some ⟨g, 0, none⟩), .agg (acL a).toArray] w (ApOut w g z32 0 { s with lk := true }) := by
  obtain ⟨AL, hAL⟩ : ∃ y, (acL a).toArray = y := ⟨_, rfl⟩
  obtain ⟨W1, hW1⟩ : ∃ W, W = (w.alloc (.cells AL 81)).alloc (.cells (b8 z32) 23) := ⟨_, rfl⟩
  have HW1 := wall hW1
  have HD := wall (show Da w g s a z32 W1 by rw [hW1, ← hAL]; exact Da.start hS)
  have HZI := wall z32_info
  have hcd := (acb_of HD.out.act hk).d
  obtain ⟨e1, e2⟩ := mod7 a.d 5 hm
  rw [hAL]
  clear hW1 hAL hS hk hm
  go_enter Tryd.func46, Tryd.ntmps46
  go_upto_region 1 with fail
  change Code.wp _ _ _ _ ((w.alloc (.cells AL 81)).alloc (.cells (b8 z32) 23))
  rw [← HW1.out]
  go_wp2_with fail
  (with_reducible refine (lock_any g s W1 HD.out.sl).mono ?_); rintro e w2 ⟨rfl, hs2, hf2⟩
  have HD2 := wall (HD.out.set hf2 hs2)
  clear HD hs2 hf2 hcd HW1
  go_wp2_with (refine wpList_set_row rfl 23 (.tmp 4) (.tmp 53) rfl (w.heap.size + 1) (b8 z32) rfl rfl 23 (b8 z32) HD2.out.res HZI.out rfl (b8_one _) ?_; intro w3 K3 F3)
  have HD3 := wall (HD2.out.put F3 K3)
  clear K3 F3 HD2
  go_light
  exact ap_end 0 HD3.out z32_ok.1 rfl rfl
set_option maxRecDepth 100000 in
set_option maxHeartbeats 1000000 in
theorem ap_kill (g : Nat) (s : Slt) (a : Ac) (w : World) (hS : Sl w g s) (hk : a.key.length = 32) (hm : a.d % 7 = 6) :
    Calls Tryd.prog 46 #[.pointer (some ⟨g, 0, none⟩), .agg (acL a).toArray] w (ApOut w g z32 0 (killSt s)) := by
  obtain ⟨AL, hAL⟩ : ∃ y, (acL a).toArray = y := ⟨_, rfl⟩
  obtain ⟨W1, hW1⟩ : ∃ W, W = (w.alloc (.cells AL 81)).alloc (.cells (b8 z32) 23) := ⟨_, rfl⟩
  have HW1 := wall hW1
  have HD := wall (show Da w g s a z32 W1 by rw [hW1, ← hAL]; exact Da.start hS)
  have HZI := wall z32_info
  have hcd := (acb_of HD.out.act hk).d
  obtain ⟨e1, e2⟩ := mod7 a.d 6 hm
  rw [hAL]
  clear hW1 hAL hS hk hm
  go_enter Tryd.func46, Tryd.ntmps46
  go_upto_region 1 with fail
  change Code.wp _ _ _ _ ((w.alloc (.cells AL 81)).alloc (.cells (b8 z32) 23))
  rw [← HW1.out]
  go_wp2_with fail
  (with_reducible refine (kill_any g s W1 HD.out.sl).mono ?_); rintro e w2 ⟨rfl, hs2, hf2⟩
  have HD2 := wall (HD.out.set hf2 hs2)
  clear HD hs2 hf2 hcd HW1
  go_wp2_with (refine wpList_set_row rfl 23 (.tmp 4) (.tmp 58) rfl (w.heap.size + 1) (b8 z32) rfl rfl 23 (b8 z32) HD2.out.res HZI.out rfl (b8_one _) ?_; intro w3 K3 F3)
  have HD3 := wall (HD2.out.put F3 K3)
  clear K3 F3 HD2
  go_light
  exact ap_end 0 HD3.out z32_ok.1 rfl rfl
set_option maxRecDepth 100000 in
set_option maxHeartbeats 1000000 in
theorem ap_wipe (g : Nat) (s : Slt) (a : Ac) (w : World) (hS : Sl w g s) (hk : a.key.length = 32) (hm : a.d % 7 = 4) (hh : wfI a.h) (ht : wfI a.t) :
    Calls Tryd.prog 46 #[.pointer (some ⟨g, 0, none⟩), .agg (acL a).toArray] w (ApOut w g z32 ((wipeL s [a.h, a.t]).2 : Nat) (wipeL s [a.h, a.t]).1) := by
  obtain ⟨AL, hAL⟩ : ∃ y, (acL a).toArray = y := ⟨_, rfl⟩
  obtain ⟨W1, hW1⟩ : ∃ W, W = (w.alloc (.cells AL 81)).alloc (.cells (b8 z32) 23) := ⟨_, rfl⟩
  have HW1 := wall hW1
  have HD := wall (show Da w g s a z32 W1 by rw [hW1, ← hAL]; exact Da.start hS)
  have HZI := wall z32_info
  have hac := acb_of HD.out.act hk
  have hcd := hac.d
  have hch := hac.h
  have hct := hac.t
  obtain ⟨e1, e2⟩ := mod7 a.d 4 hm
  have HIT := wall (ints_two W1 a.h a.t hh ht)
  rw [hAL]
  obtain ⟨res, hres⟩ : ∃ y, wipeL s [a.h, a.t] = y := ⟨_, rfl⟩
  have HWI := wall (fun W g' (q : Sl W g s) (hz : Ints .i64 W W.heap.size (some ⟨g', 0, none⟩) [a.h, a.t]) (hne : g' ≠ g) => swipe_any g s (some ⟨g', 0, none⟩) [a.h, a.t] 2 2 W q rfl (by decide) hz (fun ad had => by cases had; exact hne))
  rw [hres] at HWI ⊢
  clear hW1 hAL hS hk hm hac hh ht hres
  obtain ⟨d, h, t, k, key, lb, A, n, c⟩ := a
  simp only at hcd hch hct e1 e2 HIT HWI ⊢
  obtain ⟨ad, had⟩ : ∃ y : Ac, ⟨d, h, t, k, key, lb, A, n, c⟩ = y := ⟨_, rfl⟩
  rw [had] at HD
  clear had
  go_enter Tryd.func46, Tryd.ntmps46
  go_upto_region 1 with fail
  change Code.wp _ _ _ _ ((w.alloc (.cells AL 81)).alloc (.cells (b8 z32) 23))
  rw [← HW1.out]
  go_wp2_with fail
  obtain ⟨W2, hW2⟩ : ∃ V, V = W1.alloc (.cells #[.int .i64 h, .int .i64 t] 3) := ⟨_, rfl⟩
  have HD2 := wall (show Da w g s ad z32 W2 from HD.out.old (by rw [hW2]; exact (Below.refl _ _).alloc (Nat.le_refl _) _))
  have hit := HIT.out
  rw [← hW2] at hit ⊢
  have HI2 := wall hit
  have hne : W1.heap.size ≠ g := by have := HD.out.sl.blk.lt; omega
  (with_reducible refine (HWI.out W2 W1.heap.size HD2.out.sl HI2.out hne).mono ?_); rintro e w2 ⟨rfl, hs2, hf2⟩
  have HD3 := wall (HD2.out.set hf2 hs2)
  clear HD HD2 hs2 hf2 hcd hch hct HW1 hW2 hit HI2 HIT hne
  go_wp2_with (refine wpList_set_row rfl 23 (.tmp 4) (.tmp 41) rfl (w.heap.size + 1) (b8 z32) rfl rfl 23 (b8 z32) HD3.out.res HZI.out rfl (b8_one _) ?_; intro w3 K3 F3)
  have HD4 := wall (HD3.out.put F3 K3)
  clear K3 F3 HD3
  go_light
  exact ap_end _ HD4.out z32_ok.1 rfl rfl
end Slot
end Go.Proofs.YtpakdcgcgekcfaaDoor

/-
  SlotHides: apply: laying, deriving, sums.
-/
set_option linter.unusedSimpArgs false
set_option linter.unusedVariables false
namespace Go.Proofs.YtpakdcgcgekcfaaDoor
open Go.RowKit

namespace Slot
open Otp R1 Sha Aes
set_option maxRecDepth 100000 in
set_option maxHeartbeats 1000000 in
theorem ap_lay (g : Nat) (s : Slt) (a : Ac) (w : World) (hS : Sl w g s) (hk : a.key.length = 32) (hkb : ∀ y ∈ a.key, y < 256) (hm : a.d % 7 < 2) (hh : wfI a.h) :
    Calls Tryd.prog 46 #[.pointer (some ⟨g, 0, none⟩), .agg (acL a).toArray] w (ApOut w g z32 (layE s a.h a.k) (laySt s a.h a.k a.key)) := by
  obtain ⟨AL, hAL⟩ : ∃ y, (acL a).toArray = y := ⟨_, rfl⟩
  obtain ⟨W1, hW1⟩ : ∃ W, W = (w.alloc (.cells AL 81)).alloc (.cells (b8 z32) 23) := ⟨_, rfl⟩
  have HW1 := wall hW1
  have HD := wall (show Da w g s a z32 W1 by rw [hW1, ← hAL]; exact Da.start hS)
  have HZI := wall z32_info
  have hac := acb_of HD.out.act hk
  have hcd := hac.d
  have hch := hac.h
  have hck := hac.k
  have HKY := wall hac.key
  obtain ⟨m, hmm⟩ : ∃ m, a.d % 7 = m := ⟨_, rfl⟩
  obtain ⟨e1, e2⟩ := mod7 a.d m hmm
  have n2 : ((m : Int) == 2) = false := by rw [beq_eq_false_iff_ne]; omega
  have n3 : ((m : Int) == 3) = false := by rw [beq_eq_false_iff_ne]; omega
  have n4 : ((m : Int) == 4) = false := by rw [beq_eq_false_iff_ne]; omega
  have n5 : ((m : Int) == 5) = false := by rw [beq_eq_false_iff_ne]; omega
  have n6 : ((m : Int) == 6) = false := by rw [beq_eq_false_iff_ne]; omega
  have HLY := wall (fun W (q : Sl W g s) => lay_any g s a.h a.k a.key W q hh hk hkb)
  have HKI := wall (show (Tryd.prog.info? 23).map (·.size) = some (b8 a.key).size by rw [b8_size, hk]; exact dig_info)
  obtain ⟨E, hE⟩ : ∃ y, layE s a.h a.k = y := ⟨_, rfl⟩
  obtain ⟨s', hs'⟩ : ∃ y, laySt s a.h a.k a.key = y := ⟨_, rfl⟩
  rw [hE, hs'] at HLY
  rw [hAL, hE, hs']
  clear hW1 hAL hS hk hm hac hh hkb hmm hE hs'
  obtain ⟨d, h, t, k, key, lb, A, n, c⟩ := a
  simp only at hcd hch hck e1 e2 HKY HKI HLY ⊢
  obtain ⟨ad, had⟩ : ∃ y : Ac, ⟨d, h, t, k, key, lb, A, n, c⟩ = y := ⟨_, rfl⟩
  rw [had] at HD
  clear had
  go_enter Tryd.func46, Tryd.ntmps46
  go_upto_region 1 with fail
  change Code.wp _ _ _ _ ((w.alloc (.cells AL 81)).alloc (.cells (b8 z32) 23))
  rw [← HW1.out]
  go_wp2_with (refine wpList_load_arr rfl 23 _ rfl w.heap.size 4 rfl (b8 key) _ HKY.out Tryd.underlying23 rfl HKI.out ?_)
  (with_reducible refine (HLY.out W1 HD.out.sl).mono ?_); rintro e w2 ⟨rfl, hs2, hf2⟩
  have HD2 := wall (HD.out.set hf2 hs2)
  clear HD hs2 hf2 hcd hch hck HW1 HKY
  go_wp2_with (refine wpList_set_row rfl 23 (.tmp 4) (.tmp 59) rfl (w.heap.size + 1) (b8 z32) rfl rfl 23 (b8 z32) HD2.out.res HZI.out rfl (b8_one _) ?_; intro w3 K3 F3)
  have HD3 := wall (HD2.out.put F3 K3)
  clear K3 F3 HD2
  go_light
  exact ap_end _ HD3.out z32_ok.1 rfl rfl
theorem parts_one {w W : World} {A : Option Addr} {n c : Nat} {p : List Nat} (hp : p.length = n) (hc : n ≤ c) (hnil : A = none → c = 0) (hz : Nats .u8 256 w w.heap.size A p) (hW : W = w.alloc (.cells #[.slice A n c] 53)) : Parts W W.heap.size (some ⟨w.heap.size, 0, none⟩) [p] := by
  have := parts_new (t := 53) w [.slice A n c] [p] rfl (fun i q v hq hv => by
    match i, hq, hv with
    | 0, hq, hv =>
      obtain rfl : p = q := by simpa using hq
      obtain rfl : _ = v := by simpa using hv
      exact BytesN.of hp hc hnil hz)
  rw [hW]
  exact this
set_option maxRecDepth 100000 in
set_option maxHeartbeats 1000000 in
theorem ap_mac (g : Nat) (s : Slt) (a : Ac) (p : List Nat) (w : World) (hT : STab w) (hS : Sl w g s) (hk : a.key.length = 32) (hm : a.d % 7 = 3) (hh : wfI a.h) (hp : p.length = a.n) (hpm : p.length ≤ 1000) (hc : a.n ≤ a.c) (hnil : a.A = none → a.c = 0) (hz : Nats .u8 256 w w.heap.size a.A p) :
    Calls Tryd.prog 46 #[.pointer (some ⟨g, 0, none⟩), .agg (acL a).toArray] w (ApOut w g (macD s a.h [p]) (keyE s a.h) s) := by
  obtain ⟨AL, hAL⟩ : ∃ y, (acL a).toArray = y := ⟨_, rfl⟩
  obtain ⟨W1, hW1⟩ : ∃ W, W = (w.alloc (.cells AL 81)).alloc (.cells (b8 z32) 23) := ⟨_, rfl⟩
  have HW1 := wall hW1
  have hB1 : Below w.heap.size w W1 := by rw [hW1]; exact ((Below.refl _ w).alloc (Nat.le_refl _) _).alloc (by simp) _
  have HD := wall (show Da w g s a z32 W1 by rw [hW1, ← hAL]; exact Da.start hS)
  have HZI := wall z32_info
  have hac := acb_of HD.out.act hk
  have hcd := hac.d
  have hch := hac.h
  have hcp := hac.p
  obtain ⟨e1, e2⟩ := mod7 a.d 3 hm
  obtain ⟨W2, hW2⟩ : ∃ V, V = W1.alloc (.cells #[.slice a.A a.n a.c] 53) := ⟨_, rfl⟩
  have hB2 : Below W1.heap.size W1 W2 := by rw [hW2]; exact (Below.refl _ _).alloc (Nat.le_refl _) _
  have HP2 := wall (parts_one hp hc hnil ((hz.below hB1).more hB1.size) hW2)
  have HT2 := wall (hT.old (below_then hB1 hB2 (Nat.le_refl _)))
  have HD2 := wall (HD.out.old hB2)
  have HMC := wall (smac_any g s a.h [p] (some ⟨W1.heap.size, 0, none⟩) 1 1 W2 HT2.out HD2.out.sl hh rfl (by decide) HP2.out (by simp; omega))
  have hDl : (macD s a.h [p]).length = 32 := by
    unfold macD
    split
    · exact macB_length _ _
    · rw [List.length_replicate]
  obtain ⟨E, hE⟩ : ∃ y, keyE s a.h = y := ⟨_, rfl⟩
  obtain ⟨D, hD⟩ : ∃ y, macD s a.h [p] = y := ⟨_, rfl⟩
  rw [hE, hD] at HMC
  rw [hD] at hDl
  rw [hAL, hE, hD]
  have HDL := wall hDl
  have HDI := wall (show (Tryd.prog.info? 23).map (·.size) = some (b8 D).size by rw [b8_size, hDl]; exact dig_info)
  have HDZ := wall (show (b8 z32).size = (b8 D).size by rw [b8_size, b8_size, z32_ok.1, hDl])
  have HW2 := wall hW2
  clear hW1 hAL hS hk hm hac hh hp hpm hc hnil hz hE hD hDl hT hB1 hB2 hW2 HP2 HT2
  obtain ⟨d, h, t, k, key, lb, A, n, c⟩ := a
  simp only at hcd hch hcp e1 e2 HMC HW2 ⊢
  obtain ⟨ad, had⟩ : ∃ y : Ac, ⟨d, h, t, k, key, lb, A, n, c⟩ = y := ⟨_, rfl⟩
  rw [had] at HD HD2
  clear had HD
  go_enter Tryd.func46, Tryd.ntmps46
  go_upto_region 1 with fail
  change Code.wp _ _ _ _ ((w.alloc (.cells AL 81)).alloc (.cells (b8 z32) 23))
  rw [← HW1.out]
  go_wp2_with fail
  rw [← HW2.out]
  (with_reducible refine HMC.out.mono ?_); rintro e w3 ⟨rfl, hB3⟩
  have HD3 := wall (HD2.out.old hB3)
  clear hB3 HD2 hcd hch hcp HW1 HW2 HMC
  go_upto_region 6 with (refine wpList_new_row rfl 23 (.tmp 6) (.tmp 35) rfl w3.heap.size (b8 D) rfl rfl 23 (b8 z32) (Blk.new _ _ _) HDI.out HDZ.out (b8_one _) w3.heap.size w3 ((Below.refl _ w3).alloc (Nat.le_refl _) _) (Nat.le_refl _) ?_; intro w4 K4 B4)
  have HD4 := wall (HD3.out.old B4.out)
  have HK4 := wall K4.out
  clear K4 B4 HD3
  go_wp2_with (first | refine wpList_load_row rfl 23 _ rfl w3.heap.size rfl 23 (b8 D) (0, 0) _ HK4.out Tryd.underlying23 rfl HDI.out ?_ | (refine wpList_set_row rfl 23 (.tmp 4) (.tmp 37) rfl (w.heap.size + 1) (b8 D) rfl rfl 23 (b8 z32) HD4.out.res HDI.out HDZ.out (b8_one _) ?_; intro w5 K5 F5))
  have HD5 := wall (HD4.out.put F5 K5)
  clear K5 F5 HD4
  go_light
  exact ap_end _ HD5.out HDL.out rfl rfl
set_option maxRecDepth 100000 in
set_option maxHeartbeats 1000000 in
theorem ap_der (g : Nat) (s : Slt) (a : Ac) (p : List Nat) (w : World) (hT : STab w) (hS : Sl w g s) (hk : a.key.length = 32) (hm : a.d % 7 = 2) (hh : wfI a.h) (ht : wfI a.t) (hlb : a.lb.size ≤ 100000) (hp : p.length = a.n) (hpm : p.length ≤ 1000) (hc : a.n ≤ a.c) (hnil : a.A = none → a.c = 0) (hz : Nats .u8 256 w w.heap.size a.A p) :
    Calls Tryd.prog 46 #[.pointer (some ⟨g, 0, none⟩), .agg (acL a).toArray] w (ApOut w g z32 (derE s a.h a.t) (derSt s a.h a.t (sB a.lb) [p])) := by
  obtain ⟨AL, hAL⟩ : ∃ y, (acL a).toArray = y := ⟨_, rfl⟩
  obtain ⟨W1, hW1⟩ : ∃ W, W = (w.alloc (.cells AL 81)).alloc (.cells (b8 z32) 23) := ⟨_, rfl⟩
  have HW1 := wall hW1
  have hB1 : Below w.heap.size w W1 := by rw [hW1]; exact ((Below.refl _ w).alloc (Nat.le_refl _) _).alloc (by simp) _
  have HD := wall (show Da w g s a z32 W1 by rw [hW1, ← hAL]; exact Da.start hS)
  have HZI := wall z32_info
  have hac := acb_of HD.out.act hk
  have hcd := hac.d
  have hch := hac.h
  have hct := hac.t
  have hcl := hac.lb
  have hcp := hac.p
  obtain ⟨e1, e2⟩ := mod7 a.d 2 hm
  obtain ⟨W2, hW2⟩ : ∃ V, V = W1.alloc (.cells #[.slice a.A a.n a.c] 53) := ⟨_, rfl⟩
  have hB2 : Below W1.heap.size W1 W2 := by rw [hW2]; exact (Below.refl _ _).alloc (Nat.le_refl _) _
  have HP2 := wall (parts_one hp hc hnil ((hz.below hB1).more hB1.size) hW2)
  have HT2 := wall (hT.old (below_then hB1 hB2 (Nat.le_refl _)))
  have HD2 := wall (HD.out.old hB2)
  have HDV := wall (sderive_any g s a.h a.t a.lb [p] (some ⟨W1.heap.size, 0, none⟩) 1 1 W2 HT2.out HD2.out.sl hh ht hlb rfl (by decide) HP2.out (by simp; omega))
  obtain ⟨E, hE⟩ : ∃ y, derE s a.h a.t = y := ⟨_, rfl⟩
  obtain ⟨s', hs'⟩ : ∃ y, derSt s a.h a.t (sB a.lb) [p] = y := ⟨_, rfl⟩
  rw [hE, hs'] at HDV
  rw [hAL, hE, hs']
  have HW2 := wall hW2
  clear hW1 hAL hS hk hm hac hh ht hlb hp hpm hc hnil hz hE hs' hT hB1 hB2 hW2 HP2 HT2
  obtain ⟨d, h, t, k, key, lb, A, n, c⟩ := a
  simp only at hcd hch hct hcl hcp e1 e2 HDV HW2 ⊢
  obtain ⟨ad, had⟩ : ∃ y : Ac, ⟨d, h, t, k, key, lb, A, n, c⟩ = y := ⟨_, rfl⟩
  rw [had] at HD HD2
  clear had HD
  go_enter Tryd.func46, Tryd.ntmps46
  go_upto_region 1 with fail
  change Code.wp _ _ _ _ ((w.alloc (.cells AL 81)).alloc (.cells (b8 z32) 23))
  rw [← HW1.out]
  go_wp2_with fail
  rw [← HW2.out]
  (with_reducible refine HDV.out.mono ?_); rintro e w3 ⟨rfl, hs3, hf3⟩
  have HD3 := wall (HD2.out.set hf3 hs3)
  clear hs3 hf3 HD2 hcd hch hct hcl hcp HW1 HW2 HDV
  go_wp2_with (refine wpList_set_row rfl 23 (.tmp 4) (.tmp 13) rfl (w.heap.size + 1) (b8 z32) rfl rfl 23 (b8 z32) HD3.out.res HZI.out rfl (b8_one _) ?_; intro w4 K4 F4)
  have HD4 := wall (HD3.out.put F4 K4)
  clear K4 F4 HD3
  go_light
  exact ap_end _ HD4.out z32_ok.1 rfl rfl
end Slot
end Go.Proofs.YtpakdcgcgekcfaaDoor

/-
  SlotHides: Do and apply, all acts.
-/
set_option linter.unusedSimpArgs false
set_option linter.unusedVariables false
namespace Go.Proofs.YtpakdcgcgekcfaaDoor
open Go.RowKit

namespace Slot
open Otp R1 Sha Aes
def doE (x : Xs) (a : Ac) : Nat :=
  if a.d % 7 = 2 then derR x a.h a.t else if a.d % 7 = 3 then hasE x a.h else if a.d % 7 = 4 then (wS x a.h a.t 2).2
  else if a.d % 7 = 5 then 0 else if a.d % 7 = 6 then 0 else layR x a.h a.k
def doK (x : Xs) (a : Ac) : List Int :=
  if a.d % 7 = 2 then derK x a.h a.t else if a.d % 7 = 3 then x.ks else if a.d % 7 = 4 then (wS x a.h a.t 2).1.ks
  else if a.d % 7 = 5 then x.ks else if a.d % 7 = 6 then z8 else layK x a.h a.k
/-- What holds of an act that few has cut. -/
structure Ac.Ok (a : Ac) (p : List Nat) : Prop where
  kl : a.key.length = 32
  kb : ∀ y ∈ a.key, y < 256
  wh : wfI a.h
  wt : wfI a.t
  lb : a.lb.size ≤ 100000
  pl : p.length = a.n
  pm : p.length ≤ 1000
  c : a.n ≤ a.c
  nil : a.A = none → a.c = 0
theorem do_any (g : Nat) (x : Xs) (a : Ac) (p : List Nat) (w : World) (hS : Sx w g x) (ha : a.Ok p) (hz : Nats .u8 256 w w.heap.size a.A p) :
    Calls Tryd.prog 45 #[.pointer (some ⟨g, 0, none⟩), .agg (acL a).toArray] w (DoOut w g (doE x a) (doK x a) (if a.d % 7 = 5 then true else x.lk) (if a.d % 7 = 6 then true else x.dd)) := by
  unfold doE doK
  have h7 : a.d % 7 < 7 := Nat.mod_lt _ (by decide)
  by_cases h2 : a.d % 7 = 2
  · rw [if_pos h2, if_pos h2, if_neg (by omega), if_neg (by omega)]
    exact do_der g x a p w hS ha.kl h2 ha.lb ha.pl ha.pm ha.c ha.nil hz
  · rw [if_neg h2, if_neg h2]
    by_cases h3 : a.d % 7 = 3
    · rw [if_pos h3, if_pos h3, if_neg (by omega), if_neg (by omega)]
      exact do_mac g x a p w hS ha.kl h3 ha.pl ha.pm ha.c ha.nil hz
    · rw [if_neg h3, if_neg h3]
      by_cases h4 : a.d % 7 = 4
      · rw [if_pos h4, if_pos h4, if_neg (by omega), if_neg (by omega)]
        exact do_wipe g x a w hS ha.kl h4
      · rw [if_neg h4, if_neg h4]
        by_cases h5 : a.d % 7 = 5
        · rw [if_pos h5, if_pos h5, if_pos h5, if_neg (by omega)]
          exact do_lock g x a w hS ha.kl h5
        · rw [if_neg h5, if_neg h5, if_neg h5]
          by_cases h6 : a.d % 7 = 6
          · rw [if_pos h6, if_pos h6, if_pos h6]
            exact do_kill g x a w hS ha.kl h6
          · rw [if_neg h6, if_neg h6, if_neg h6]
            exact do_lay g x a w hS ha.kl ha.kb (by omega)
def apE (s : Slt) (a : Ac) : Nat :=
  if a.d % 7 = 2 then derE s a.h a.t else if a.d % 7 = 3 then keyE s a.h else if a.d % 7 = 4 then (wipeL s [a.h, a.t]).2
  else if a.d % 7 = 5 then 0 else if a.d % 7 = 6 then 0 else layE s a.h a.k
def apD (s : Slt) (a : Ac) (p : List Nat) : List Nat := if a.d % 7 = 3 then macD s a.h [p] else z32
def apS (s : Slt) (a : Ac) (p : List Nat) : Slt :=
  if a.d % 7 = 2 then derSt s a.h a.t (sB a.lb) [p] else if a.d % 7 = 3 then s else if a.d % 7 = 4 then (wipeL s [a.h, a.t]).1
  else if a.d % 7 = 5 then { s with lk := true } else if a.d % 7 = 6 then killSt s else laySt s a.h a.k a.key
theorem ap_any (g : Nat) (s : Slt) (a : Ac) (p : List Nat) (w : World) (hT : STab w) (hS : Sl w g s) (ha : a.Ok p) (hz : Nats .u8 256 w w.heap.size a.A p) :
    Calls Tryd.prog 46 #[.pointer (some ⟨g, 0, none⟩), .agg (acL a).toArray] w (ApOut w g (apD s a p) (apE s a) (apS s a p)) := by
  unfold apE apD apS
  have h7 : a.d % 7 < 7 := Nat.mod_lt _ (by decide)
  by_cases h2 : a.d % 7 = 2
  · rw [if_pos h2, if_pos h2, if_neg (by omega)]
    exact ap_der g s a p w hT hS ha.kl h2 ha.wh ha.wt ha.lb ha.pl ha.pm ha.c ha.nil hz
  · rw [if_neg h2, if_neg h2]
    by_cases h3 : a.d % 7 = 3
    · rw [if_pos h3, if_pos h3, if_pos h3]
      exact ap_mac g s a p w hT hS ha.kl h3 ha.wh ha.pl ha.pm ha.c ha.nil hz
    · rw [if_neg h3, if_neg h3, if_neg h3]
      by_cases h4 : a.d % 7 = 4
      · rw [if_pos h4, if_pos h4]
        exact ap_wipe g s a w hS ha.kl h4 ha.wh ha.wt
      · rw [if_neg h4, if_neg h4]
        by_cases h5 : a.d % 7 = 5
        · rw [if_pos h5, if_pos h5]
          exact ap_lock g s a w hS ha.kl h5
        · rw [if_neg h5, if_neg h5]
          by_cases h6 : a.d % 7 = 6
          · rw [if_pos h6, if_pos h6]
            exact ap_kill g s a w hS ha.kl h6
          · rw [if_neg h6, if_neg h6]
            exact ap_lay g s a w hS ha.kl ha.kb (by omega) ha.wh
end Slot
end Go.Proofs.YtpakdcgcgekcfaaDoor

/-
  SlotHides: the plain law.
-/
set_option linter.unusedSimpArgs false
set_option linter.unusedVariables false
namespace Go.Proofs.YtpakdcgcgekcfaaDoor
open Go.RowKit

namespace Slot
open Otp R1 Sha Aes
def rk (s : Slt) (i : Nat) : Nat := (s.rs[i]?.getD (0, [])).1
def ry (s : Slt) (i : Nat) : List Nat := (s.rs[i]?.getD (0, [])).2
/-- Slots and the reference's, alike but for the keys. -/
structure Kx (s : Slt) (x : Xs) : Prop where
  so : s.Ok
  xo : x.Ok
  kk : ∀ i : Nat, i < 8 → kx x (i : Int) = (rk s i : Int)
  lk : x.lk = s.lk
  dd : x.dd = s.dd
  dz : s.dd = true → ∀ i : Nat, i < 8 → rk s i = 0
section
variable {s t : Slt} {x : Xs}
theorem in_nat {h : Int} (hh : inR h = true) : ∃ i : Nat, h = i ∧ i < 8 := by
  have : 0 ≤ h ∧ h < 8 := of_decide_eq_true hh
  exact ⟨h.toNat, by omega, by omega⟩
theorem in_not {h : Int} (hh : inR h = false) : ¬ (0 ≤ h ∧ h < 8) := of_decide_eq_false hh
theorem Kx.kind (k : Kx s x) (h : Int) (hh : inR h = true) : (kindE s h : Int) = kx x h := by
  obtain ⟨i, rfl, hi⟩ := in_nat hh
  rw [k.kk i hi]
  unfold kindE
  by_cases hd : s.dd = true
  · rw [if_neg (by unfold mayE; rw [if_pos hd]; decide), k.dz hd i hi]
  · rw [Bool.not_eq_true] at hd
    rw [if_pos (mayE_in hd hi), Int.toNat_natCast]
    rfl
theorem Kx.lay (k : Kx s x) (h kind : Int) : layE s h kind = layR x h kind := by
  unfold layE layR
  have hm : mayE s [h] = if s.dd then 17 else if inR h = true then 0 else 1 := by
    unfold mayE
    simp
  rw [hm, k.dd]
  by_cases hd : s.dd = true
  · rw [hd]; rfl
  · rw [Bool.not_eq_true] at hd
    rw [hd]
    simp only [Bool.false_eq_true, if_false]
    by_cases hh : inR h = true
    · rw [if_pos hh, hh]
      simp only [ne_eq, not_true_eq_false, if_false, Bool.true_eq_false, false_or]
      have e : kindE s h = 0 ↔ kx x h = 0 := by rw [← k.kind h hh]; omega
      simp only [k.lk, e]
    · rw [if_neg hh]
      rw [Bool.not_eq_true] at hh
      rw [if_pos (by decide), if_pos (.inl hh)]
theorem Kx.has (k : Kx s x) (h : Int) : keyE s h = hasE x h := by
  unfold keyE hasE
  have hm : mayE s [h] = if s.dd then 17 else if inR h = true then 0 else 1 := by
    unfold mayE
    simp
  rw [hm, k.dd]
  by_cases hd : s.dd = true
  · rw [hd]; rfl
  · rw [Bool.not_eq_true] at hd
    rw [hd]
    simp only [Bool.false_eq_true, if_false]
    by_cases hh : inR h = true
    · rw [if_pos hh, hh]
      simp only [ne_eq, not_true_eq_false, if_false, Bool.true_eq_false]
      have := k.kind h hh
      by_cases h0 : kindE s h = 0
      · rw [if_pos h0, if_pos (by rw [← this, h0]; rfl)]
      · rw [if_neg h0, if_neg (by rw [← this]; omega)]
    · rw [if_neg hh]
      rw [Bool.not_eq_true] at hh
      rw [if_pos (by decide), if_pos hh]
theorem Kx.der (k : Kx s x) (a b : Int) : derE s a b = derR x a b := by
  unfold derE derR
  have hm : mayE s [a, b] = if s.dd then 17 else if inR a = true ∧ inR b = true then 0 else 1 := by
    unfold mayE
    simp
  rw [hm, k.dd, k.has]
  by_cases hd : s.dd = true
  · rw [hd]; rfl
  · rw [Bool.not_eq_true] at hd
    rw [hd]
    simp only [Bool.false_eq_true, if_false]
    by_cases hh : inR a = true ∧ inR b = true
    · rw [if_pos hh]
      have e : kindE s b = 0 ↔ kx x b = 0 := by rw [← k.kind b hh.2]; omega
      simp only [hh.1, hh.2, ne_eq, not_true_eq_false, if_false, Bool.true_eq_false, or_self, e]
    · rw [if_neg hh, if_pos (by decide), if_pos (by
        by_cases h1 : inR a = true
        · exact .inr (by rw [← Bool.not_eq_true]; exact fun h2 => hh ⟨h1, h2⟩)
        · exact .inl (by rw [← Bool.not_eq_true]; exact h1))]
theorem rk_put (hs : s.Ok) {i : Nat} (hi : i < 8) (p : Nat × List Nat) (j : Nat) : rk (s.put i p) j = (if i = j then p.1 else rk s j) ∧ ry (s.put i p) j = (if i = j then p.2 else ry s j) := by
  unfold rk ry
  rw [row_put hs hi p j]
  constructor <;> split <;> rfl
theorem kx_set {ks : List Int} (hl : ks.length = 8) {i : Nat} (hi : i < 8) (v : Int) (ys : List Nat) (a b : Bool) (j : Nat) : kx ⟨ks.set i v, ys, a, b⟩ (j : Int) = if i = j then v else kx ⟨ks, ys, a, b⟩ (j : Int) := by
  unfold kx
  simp only [Int.toNat_natCast]
  rw [List.getElem?_set]
  split
  · rw [if_pos (by omega)]; rfl
  · rfl
/-- One place is written in both. -/
theorem Kx.put (k : Kx s x) {i : Nat} (hi : i < 8) (hd : s.dd = false) {p : Nat × List Nat} (h1 : p.2.length = 32) (h2 : ∀ y ∈ p.2, y < 256) (h3 : p.1 ≤ 3) {x' : Xs} (xo : x'.Ok) (hk : x'.ks = x.ks.set i (p.1 : Int)) (hl : x'.lk = x.lk) (hdd : x'.dd = x.dd) : Kx (s.put i p) x' := by
  refine ⟨k.so.put i h1 h2 h3, xo, fun j hj => ?_, hl.trans k.lk, hdd.trans k.dd, fun h => ?_⟩
  · rw [(rk_put k.so hi p j).1]
    have := kx_set k.xo.kl hi (p.1 : Int) x'.ys x'.lk x'.dd j
    obtain ⟨ks, ys, a, b⟩ := x'
    simp only at hk this
    rw [hk, this]
    split
    · rfl
    · exact k.kk j hj
  · have : s.dd = true := h
    rw [hd] at this
    cases this
theorem Kx.stay (k : Kx s x) {x' : Xs} (xo : x'.Ok) (hk : x'.ks = x.ks) (hl : x'.lk = x.lk) (hd : x'.dd = x.dd) : Kx s x' := by
  refine ⟨k.so, xo, fun j hj => ?_, hl.trans k.lk, hd.trans k.dd, k.dz⟩
  rw [← k.kk j hj]
  unfold kx
  rw [hk]
theorem derR_zero {h b : Int} (e : derR x h b = 0) : x.dd = false ∧ inR h = true ∧ inR b = true ∧ kx x h ≠ 0 ∧ kx x b = 0 := by
  unfold derR at e
  by_cases hd : x.dd = true
  · rw [if_pos hd] at e; cases e
  · rw [if_neg hd] at e
    by_cases hr : inR h = false ∨ inR b = false
    · rw [if_pos hr] at e; cases e
    · rw [if_neg hr] at e
      have h1 : inR h = true := by cases q : inR h; exact absurd (.inl q) hr; rfl
      have h2 : inR b = true := by cases q : inR b; exact absurd (.inr q) hr; rfl
      by_cases hh : hasE x h ≠ 0
      · rw [if_pos hh] at e; exact absurd e hh
      · rw [if_neg hh] at e
        by_cases hk : kx x b ≠ 0
        · rw [if_pos hk] at e; cases e
        · refine ⟨by rw [← Bool.not_eq_true]; exact hd, h1, h2, fun hz => hh ?_, by simpa using hk⟩
          unfold hasE
          rw [if_neg hd, if_neg (by rw [h1]; decide), if_pos hz]
          decide
theorem layR_zero {h k : Int} (e : layR x h k = 0) : x.dd = false ∧ inR h = true ∧ 1 ≤ k ∧ k ≤ 3 ∧ kx x h = 0 := by
  unfold layR at e
  by_cases hd : x.dd = true
  · rw [if_pos hd] at e; cases e
  · rw [if_neg hd] at e
    by_cases hr : inR h = false ∨ k < 1 ∨ 3 < k
    · rw [if_pos hr] at e; cases e
    · rw [if_neg hr] at e
      by_cases hl : x.lk = true ∧ k = 1
      · rw [if_pos hl] at e; cases e
      · rw [if_neg hl] at e
        by_cases hk : kx x h ≠ 0
        · rw [if_pos hk] at e; cases e
        · refine ⟨by rw [← Bool.not_eq_true]; exact hd, by cases q : inR h; exact absurd (.inl q) hr; rfl, by omega, by omega, by simpa using hk⟩
theorem Kx.wipe (k : Kx s x) (h : Int) : Kx (wipeOne s h) (wpK x h) ∧ (if kindE s h = 0 then 0 else 1) = wpN x h := by
  unfold wipeOne wpK wpN
  by_cases h0 : kindE s h = 0
  · have hn : ¬ (inR h = true ∧ kx x h ≠ 0) := fun ⟨a, b⟩ => b (by rw [← k.kind h a, h0]; rfl)
    rw [if_pos h0, if_pos h0, if_neg hn, if_neg hn]
    exact ⟨k, rfl⟩
  · obtain ⟨hd, h1, h2⟩ := kindE_ok h0
    have hi : inR h = true := inR_t h1 h2
    have hp : inR h = true ∧ kx x h ≠ 0 := ⟨hi, by rw [← k.kind h hi]; omega⟩
    rw [if_neg h0, if_neg h0, if_pos hp, if_pos hp]
    exact ⟨k.put (by omega) hd zRow_ok.1 zRow_ok.2.1 zRow_ok.2.2 (k.xo.setK (by omega) 0).2 rfl rfl rfl, rfl⟩
theorem kx_step (k : Kx s x) {a : Ac} {p : List Nat} (ha : a.Ok p) : apE s a = doE x a ∧ ∀ x' : Xs, x'.Ok → x'.ks = doK x a → x'.lk = (if a.d % 7 = 5 then true else x.lk) → x'.dd = (if a.d % 7 = 6 then true else x.dd) → Kx (apS s a p) x' := by
  unfold apE doE doK apS
  by_cases h2 : a.d % 7 = 2
  · simp only [if_pos h2, if_neg (show ¬ a.d % 7 = 5 by omega), if_neg (show ¬ a.d % 7 = 6 by omega)]
    refine ⟨k.der _ _, fun x' xo hk hl hd => ?_⟩
    unfold derSt
    unfold derK at hk
    rw [k.der]
    by_cases h0 : derR x a.h a.t = 0
    · rw [if_pos h0] at hk ⊢
      obtain ⟨d0, _, i0, _, _⟩ := derR_zero h0
      obtain ⟨i, hi, hi8⟩ := in_nat i0
      rw [hi, Int.toNat_natCast] at hk
      rw [hi, Int.toNat_natCast]
      exact k.put hi8 (k.dd.symm.trans d0) (deriveB_length _ _ _) (deriveB_byte _ _ _) (show 2 ≤ 3 by decide) xo hk hl hd
    · rw [if_neg h0] at hk ⊢
      exact k.stay xo hk hl hd
  · simp only [if_neg h2]
    by_cases h3 : a.d % 7 = 3
    · simp only [if_pos h3, if_neg (show ¬ a.d % 7 = 5 by omega), if_neg (show ¬ a.d % 7 = 6 by omega)]
      exact ⟨k.has _, fun x' xo hk hl hd => k.stay xo hk hl hd⟩
    · simp only [if_neg h3]
      by_cases h4 : a.d % 7 = 4
      · simp only [if_pos h4, if_neg (show ¬ a.d % 7 = 5 by omega), if_neg (show ¬ a.d % 7 = 6 by omega)]
        obtain ⟨k1, n1⟩ := k.wipe a.h
        obtain ⟨k2, n2⟩ := k1.wipe a.t
        refine ⟨?_, fun x' xo hk hl hd => ?_⟩
        · show 0 + (if kindE s a.h = 0 then 0 else 1) + (if kindE (wipeOne s a.h) a.t = 0 then 0 else 1) = 0 + wpN x a.h + wpN (wpK x a.h) a.t
          rw [n1, n2]
        · have hf := wS_flags x a.h a.t 2
          exact k2.stay xo hk (hl.trans hf.1.symm) (hd.trans hf.2.symm)
      · simp only [if_neg h4]
        by_cases h5 : a.d % 7 = 5
        · simp only [if_pos h5, if_neg (show ¬ a.d % 7 = 6 by omega)]
          refine ⟨trivial, fun x' xo hk hl hd => ?_⟩
          have := k.stay (x' := { x' with lk := x.lk }) ⟨xo.kl, xo.yl, xo.yb⟩ hk rfl hd
          exact ⟨k.so.flags _ _, xo, this.kk, hl, this.dd, this.dz⟩
        · simp only [if_neg h5]
          by_cases h6 : a.d % 7 = 6
          · simp only [if_pos h6]
            refine ⟨trivial, fun x' xo hk hl hd => ⟨zRows_ok _ _, xo, fun i hi => ?_, hl.trans k.lk, hd, fun _ i hi => ?_⟩⟩
            · have hz : kx x' (i : Int) = 0 := by
                unfold kx
                rw [hk, Int.toNat_natCast, z8, List.getElem?_replicate, if_pos hi]
                rfl
              rw [hz]
              unfold rk killSt zRows
              rw [List.getElem?_replicate, if_pos hi]
              rfl
            · unfold rk killSt zRows
              rw [List.getElem?_replicate, if_pos hi]
              rfl
          · simp only [if_neg h6]
            refine ⟨k.lay _ _, fun x' xo hk hl hd => ?_⟩
            unfold laySt
            unfold layK at hk
            rw [k.lay]
            by_cases h0 : layR x a.h a.k = 0
            · rw [if_pos h0] at hk ⊢
              obtain ⟨d0, i0, k1, k3, _⟩ := layR_zero h0
              obtain ⟨i, hi, hi8⟩ := in_nat i0
              rw [hi, Int.toNat_natCast] at hk
              rw [hi, Int.toNat_natCast]
              exact k.put hi8 (k.dd.symm.trans d0) ha.kl ha.kb (show a.k.toNat ≤ 3 by omega) xo (by rw [hk]; congr 1; show a.k = ((a.k.toNat : Nat) : Int); omega) hl hd
            · rw [if_neg h0] at hk ⊢
              exact k.stay xo hk hl hd
end
end Slot
end Go.Proofs.YtpakdcgcgekcfaaDoor

/-
  SlotHides: the plain law, a round.
-/
set_option linter.unusedSimpArgs false
set_option linter.unusedVariables false
namespace Go.Proofs.YtpakdcgcgekcfaaDoor
open Go.RowKit

namespace Slot
open Otp R1 Sha Aes
structure Jv (s t : Slt) (x : Xs) (sec : List Bool) : Prop where
  ks : Kx s x
  kt : Kx t x
  sl : sec.length = 8
  ky : ∀ i : Nat, i < 8 → sec[i]? = some false → kx x (i : Int) ≠ 0 → ry s i = ry t i
  se : ∀ i : Nat, i < 8 → kx x (i : Int) = 0 → sec[i]? = some false
def sec1 (sec : List Bool) (x : Xs) (a : Ac) : List Bool := if doE x a = 0 ∧ a.d % 7 = 2 ∧ sec[a.h.toNat]? = some true then sec.set a.t.toNat true else sec
def secA (sec : List Bool) (x x' : Xs) (a : Ac) (i : Nat) : Bool := if kx x' (i : Int) = 0 then false else if kx x (i : Int) = 0 ∧ a.d % 7 < 2 then decide (a.k = 1) else (sec1 sec x a)[i]?.getD false
def secN (sec : List Bool) (x x' : Xs) (a : Ac) : List Bool := (List.range 8).map (secA sec x x' a)
theorem secN_at (sec : List Bool) (x x' : Xs) (a : Ac) {i : Nat} (hi : i < 8) : (secN sec x x' a)[i]? = some (secA sec x x' a i) := by
  unfold secN
  rw [List.getElem?_map, List.getElem?_range hi]
  rfl
section
variable {s t : Slt} {x : Xs} {sec : List Bool}
theorem sec1_length (h : sec.length = 8) (a : Ac) : (sec1 sec x a).length = 8 := by
  unfold sec1
  split
  · rw [List.length_set]; exact h
  · exact h
theorem ry_get (s : Slt) {i : Nat} : keyOf s (i : Int) = ry s i := by
  unfold keyOf ry
  rw [Int.toNat_natCast]
theorem wipe_ry (hs : s.Ok) (h : Int) {i : Nat} (h0 : rk (wipeOne s h) i ≠ 0) : ry (wipeOne s h) i = ry s i ∧ rk (wipeOne s h) i = rk s i := by
  unfold wipeOne at h0 ⊢
  by_cases e : kindE s h = 0
  · rw [if_pos e]
    exact ⟨rfl, rfl⟩
  · obtain ⟨_, h1, h2⟩ := kindE_ok e
    have hh : h.toNat < 8 := by omega
    rw [if_neg e] at h0 ⊢
    rw [(rk_put hs hh zRow i).1] at h0
    rw [(rk_put hs hh zRow i).1, (rk_put hs hh zRow i).2]
    by_cases hm : h.toNat = i
    · rw [if_pos hm] at h0; exact absurd rfl h0
    · rw [if_neg hm, if_neg hm]
      exact ⟨rfl, rfl⟩
theorem wipe_two (hs : s.Ok) (h k : Int) {i : Nat} (h0 : rk (wipeOne (wipeOne s h) k) i ≠ 0) : ry (wipeOne (wipeOne s h) k) i = ry s i ∧ rk (wipeOne (wipeOne s h) k) i = rk s i := by
  obtain ⟨a1, a2⟩ := wipe_ry (wipeOne_ok hs h) k h0
  rw [a2] at h0
  obtain ⟨b1, b2⟩ := wipe_ry hs h h0
  exact ⟨a1.trans b1, a2.trans b2⟩
/-- What one act leaves of the keys. -/
theorem ry_step (j : Jv s t x sec) {a : Ac} {key2 : List Nat} {p : List Nat} (ok : a.Ok p) (ok2 : Ac.Ok { a with key := key2 } p) (hkey : a.k ≠ 1 → key2 = a.key) (hsk : ¬ (a.d % 7 = 3 ∧ inR a.h = true ∧ sec[a.h.toNat]? = some true)) {x' : Xs} (kS : Kx (apS s a p) x') (kT : Kx (apS t { a with key := key2 } p) x') {i : Nat} (hi : i < 8)
    (hs : secA sec x x' a i = false) (h0 : kx x' (i : Int) ≠ 0) : ry (apS s a p) i = ry (apS t { a with key := key2 } p) i := by
  have hold : (sec1 sec x a)[i]?.getD false = false → kx x (i : Int) ≠ 0 → ry s i = ry t i := fun h1 h2 => by
    refine j.ky i hi ?_ h2
    obtain ⟨b, hb⟩ : ∃ b, sec[i]? = some b := ⟨_, List.getElem?_eq_getElem (by rw [j.sl]; exact hi)⟩
    rw [hb]
    cases b with
    | false => rfl
    | true =>
      exfalso
      unfold sec1 at h1
      split at h1
      · rw [List.getElem?_set] at h1
        split at h1
        · rw [if_pos (by rw [j.sl]; omega)] at h1; cases h1
        · rw [hb] at h1; cases h1
      · rw [hb] at h1; cases h1
  have hsa : kx x (i : Int) ≠ 0 → (sec1 sec x a)[i]?.getD false = false := fun h => by
    unfold secA at hs
    rw [if_neg h0, if_neg (fun q => h q.1)] at hs
    exact hs
  have hk := kS.kk i hi
  have hkt := kT.kk i hi
  unfold apS at hk hkt ⊢
  by_cases h2 : a.d % 7 = 2
  · simp only [if_pos h2] at hk ⊢
    unfold derSt at hk ⊢
    rw [j.ks.der] at hk ⊢
    rw [j.kt.der]
    by_cases e : derR x a.h a.t = 0
    · rw [if_pos e] at hk
      rw [if_pos e, if_pos e]
      obtain ⟨d0, ih, it, kh, kt0⟩ := derR_zero e
      obtain ⟨m, hm, hm8⟩ := in_nat it
      obtain ⟨q, hq, hq8⟩ := in_nat ih
      rw [hm, Int.toNat_natCast] at hk ⊢
      rw [(rk_put j.ks.so hm8 _ i).2, (rk_put j.kt.so hm8 _ i).2]
      by_cases hmi : m = i
      · rw [if_pos hmi, if_pos hmi]
        have hsec : sec[q]? = some false := by
          obtain ⟨b, hb⟩ : ∃ b, sec[q]? = some b := ⟨_, List.getElem?_eq_getElem (by rw [j.sl]; exact hq8)⟩
          cases b with
          | false => exact hb
          | true =>
            exfalso
            unfold secA at hs
            rw [if_neg h0, if_neg (fun w => by omega)] at hs
            unfold sec1 at hs
            rw [if_pos ⟨by unfold doE; rw [if_pos h2]; exact e, h2, by rw [hq, Int.toNat_natCast]; exact hb⟩, hm, Int.toNat_natCast, hmi, List.getElem?_set_self (by rw [j.sl]; exact hi)] at hs
            cases hs
        have := j.ky q hq8 hsec (by rw [← hq]; exact kh)
        rw [hq, ry_get, ry_get, this]
      · rw [if_neg hmi, if_neg hmi]
        rw [(rk_put j.ks.so hm8 _ i).1, if_neg hmi] at hk
        have hx : kx x (i : Int) ≠ 0 := by rw [j.ks.kk i hi, ← hk]; exact h0
        exact hold (hsa hx) hx
    · rw [if_neg e] at hk
      rw [if_neg e, if_neg e]
      have hx : kx x (i : Int) ≠ 0 := by rw [j.ks.kk i hi, ← hk]; exact h0
      exact hold (hsa hx) hx
  · simp only [if_neg h2] at hk ⊢
    by_cases h3 : a.d % 7 = 3
    · simp only [if_pos h3] at hk ⊢
      have hx : kx x (i : Int) ≠ 0 := by rw [j.ks.kk i hi, ← hk]; exact h0
      exact hold (hsa hx) hx
    · simp only [if_neg h3] at hk ⊢
      by_cases h4 : a.d % 7 = 4
      · simp only [if_neg h2, if_neg h3, if_pos h4] at hk hkt ⊢
        obtain ⟨a1, a2⟩ := wipe_two j.ks.so a.h a.t (i := i) (fun q => h0 (by rw [hk]; exact congrArg Nat.cast q))
        obtain ⟨b1, b2⟩ := wipe_two j.kt.so a.h a.t (i := i) (fun q => h0 (by rw [hkt]; exact congrArg Nat.cast q))
        have hx : kx x (i : Int) ≠ 0 := by rw [j.ks.kk i hi]; exact fun q => h0 (by rw [hk]; exact (congrArg Nat.cast a2).trans q)
        exact a1.trans ((hold (hsa hx) hx).trans b1.symm)
      · simp only [if_neg h4] at hk ⊢
        by_cases h5 : a.d % 7 = 5
        · simp only [if_pos h5] at hk ⊢
          have hx : kx x (i : Int) ≠ 0 := by rw [j.ks.kk i hi]; exact fun q => h0 (hk.trans q)
          exact hold (hsa hx) hx
        · simp only [if_neg h5] at hk ⊢
          by_cases h6 : a.d % 7 = 6
          · simp only [if_pos h6] at hk ⊢
            exact rfl
          · simp only [if_neg h6] at hk ⊢
            unfold laySt at hk ⊢
            rw [j.ks.lay] at hk ⊢
            rw [j.kt.lay]
            by_cases e : layR x a.h a.k = 0
            · rw [if_pos e] at hk
              rw [if_pos e, if_pos e]
              obtain ⟨d0, ih, k1, k3, kh0⟩ := layR_zero e
              obtain ⟨m, hm, hm8⟩ := in_nat ih
              rw [hm, Int.toNat_natCast] at hk ⊢
              rw [(rk_put j.ks.so hm8 _ i).2, (rk_put j.kt.so hm8 _ i).2]
              by_cases hmi : m = i
              · rw [if_pos hmi, if_pos hmi]
                have : a.k ≠ 1 := fun q => by
                  unfold secA at hs
                  rw [if_neg h0, if_pos ⟨by rw [← hmi, ← hm]; exact kh0, by omega⟩, decide_eq_true q] at hs
                  cases hs
                exact (hkey this).symm
              · rw [if_neg hmi, if_neg hmi]
                rw [(rk_put j.ks.so hm8 _ i).1, if_neg hmi] at hk
                have hx : kx x (i : Int) ≠ 0 := by rw [j.ks.kk i hi, ← hk]; exact h0
                exact hold (hsa hx) hx
            · rw [if_neg e] at hk
              rw [if_neg e, if_neg e]
              have hx : kx x (i : Int) ≠ 0 := by rw [j.ks.kk i hi, ← hk]; exact h0
              exact hold (hsa hx) hx
/-- A round of the law. -/
theorem round (j : Jv s t x sec) {a : Ac} {key2 : List Nat} {p : List Nat} (ok : a.Ok p) (ok2 : Ac.Ok { a with key := key2 } p) (hkey : a.k ≠ 1 → key2 = a.key) (hsk : ¬ (a.d % 7 = 3 ∧ inR a.h = true ∧ sec[a.h.toNat]? = some true)) :
    apD s a p = apD t { a with key := key2 } p ∧ apE s a = apE t { a with key := key2 } ∧ ∀ x' : Xs, x'.Ok → x'.ks = doK x a → x'.lk = (if a.d % 7 = 5 then true else x.lk) → x'.dd = (if a.d % 7 = 6 then true else x.dd) → Jv (apS s a p) (apS t { a with key := key2 } p) x' (secN sec x x' a) := by
  obtain ⟨e1, f1⟩ := kx_step j.ks ok
  obtain ⟨e2, f2⟩ := kx_step j.kt ok2
  refine ⟨?_, e1.trans e2.symm, fun x' xo hk hl hd => ?_⟩
  · unfold apD
    by_cases h3 : a.d % 7 = 3
    · rw [if_pos h3, if_pos h3]
      unfold macD
      rw [j.ks.has, j.kt.has]
      by_cases h0 : hasE x a.h = 0
      · rw [if_pos h0, if_pos h0]
        have hin : inR a.h = true ∧ kx x a.h ≠ 0 := by
          unfold hasE at h0
          by_cases hd : x.dd = true
          · rw [if_pos hd] at h0; cases h0
          · rw [if_neg hd] at h0
            by_cases hi : inR a.h = false
            · rw [if_pos hi] at h0; cases h0
            · rw [if_neg hi] at h0
              by_cases hz : kx x a.h = 0
              · rw [if_pos hz] at h0; cases h0
              · exact ⟨by rw [← Bool.not_eq_false]; exact hi, hz⟩
        obtain ⟨q, hq, hq8⟩ := in_nat hin.1
        have hsec : sec[q]? = some false := by
          obtain ⟨b, hb⟩ : ∃ b, sec[q]? = some b := ⟨_, List.getElem?_eq_getElem (by rw [j.sl]; exact hq8)⟩
          cases b with
          | false => exact hb
          | true => exact absurd ⟨h3, hin.1, by rw [hq, Int.toNat_natCast]; exact hb⟩ hsk
        have := j.ky q hq8 hsec (by rw [← hq]; exact hin.2)
        rw [hq, ry_get, ry_get, this]
      · rw [if_neg h0, if_neg h0]
    · rw [if_neg h3, if_neg h3]
  · have kS := f1 x' xo hk hl hd
    have kT := f2 x' xo hk hl hd
    refine ⟨kS, kT, by simp [secN], fun i hi hs h0 => ?_, fun i hi h0 => ?_⟩
    · rw [secN_at _ _ _ _ hi] at hs
      exact ry_step j ok ok2 hkey hsk kS kT hi (Option.some.inj hs) h0
    · rw [secN_at _ _ _ _ hi]
      unfold secA
      rw [if_pos h0]
theorem Jv.count (j : Jv s t x sec) : cntE s 8 = cntE t 8 := by
  have h : ∀ n, n ≤ 8 → cntE s n = cntE t n := fun n hn => by
    induction n with
    | zero => rfl
    | succ n ih =>
      unfold cntE
      rw [ih (by omega)]
      have e : kindE s (n : Int) = kindE t (n : Int) := by
        have hi : inR (n : Int) = true := inR_t (by omega) (by omega)
        have a := j.ks.kind n hi
        have b := j.kt.kind n hi
        omega
      rw [e]
  exact h 8 (Nat.le_refl _)
end
end Slot
end Go.Proofs.YtpakdcgcgekcfaaDoor

/-
  SlotHides: a round of the main walk, its blocks.
-/
set_option linter.unusedSimpArgs false
set_option linter.unusedVariables false
namespace Go.Proofs.YtpakdcgcgekcfaaDoor
open Go.RowKit

namespace Slot
open Otp R1 Sha Aes
def bL (sec : List Bool) : List Value := sec.map Value.bool
/-- A round's blocks: both slots, the reference's, what is secret, the act. -/
structure Rd (w2 : World) (gs gt gx gc gA : Nat) (s t : Slt) (x : Xs) (sec : List Bool) (a : Ac) (p : List Nat) (w : World) : Prop where
  ss : Sl w gs s
  st : Sl w gt t
  sx : Sx w gx x
  sc : Blk w gc 79 (bL sec).toArray
  act : Blk w gA 81 (acL a).toArray
  nat : Nats .u8 256 w w.heap.size a.A p
  ge : ∀ ad : Addr, a.A = some ad → gA < ad.block
  bel : Below w2.heap.size w2 w
  o0 : w2.heap.size = gs
  o1 : gs < gt
  o2 : gt < gx
  o3 : gx < gc
  o4 : gc < gA
section
variable {w2 w w' : World} {gs gt gx gc gA : Nat} {s t s' : Slt} {x x' : Xs} {sec sec' : List Bool} {a a' : Ac} {p : List Nat}
theorem Rd.old (h : Rd w2 gs gt gx gc gA s t x sec a p w) (hb : Below w.heap.size w w') : Rd w2 gs gt gx gc gA s t x sec a p w' :=
  ⟨h.ss.old hb, h.st.old hb, h.sx.old hb, h.sc.next hb rfl, h.act.next hb rfl, (h.nat.below hb).more hb.size, h.ge, below_then h.bel hb (Nat.le_refl _), h.o0, h.o1, h.o2, h.o3, h.o4⟩
theorem Rd.nat' (h : Rd w2 gs gt gx gc gA s t x sec a p w) {g : Nat} (hf : Frm [g] w w') (hg : g ≤ gA) : Nats .u8 256 w' w'.heap.size a.A p :=
  (nats_other h.nat (Nat.le_refl _) hf (fun ad had q => by have := h.ge ad had; simp only [List.mem_singleton] at q; omega)).more hf.size
theorem Rd.bel' (h : Rd w2 gs gt gx gc gA s t x sec a p w) {g : Nat} (hf : Frm [g] w w') (hg : gs ≤ g) : Below w2.heap.size w2 w' :=
  Below.frm h.bel hf (Nat.le_refl _) (fun y hy => by have := h.o0; simp only [List.mem_singleton] at hy; omega)
theorem Rd.setA (h : Rd w2 gs gt gx gc gA s t x sec a p w) (hf : Frm [gA] w w') (hk : Blk w' gA 81 (acL a').toArray) (hA : a'.A = a.A) : Rd w2 gs gt gx gc gA s t x sec a' p w' := by
  have o0 := h.o0; have o1 := h.o1; have o2 := h.o2; have o3 := h.o3; have o4 := h.o4
  exact ⟨h.ss.frm hf (by simp; omega), h.st.frm hf (by simp; omega), h.sx.frm hf (by simp; omega), h.sc.frm hf (by simp; omega), hk, by rw [hA]; exact h.nat' hf (Nat.le_refl _), by rw [hA]; exact h.ge, h.bel' hf (by omega), o0, o1, o2, o3, o4⟩
theorem Rd.setX (h : Rd w2 gs gt gx gc gA s t x sec a p w) (hf : Frm [gx] w w') (hk : Sx w' gx x') : Rd w2 gs gt gx gc gA s t x' sec a p w' := by
  have o0 := h.o0; have o1 := h.o1; have o2 := h.o2; have o3 := h.o3; have o4 := h.o4
  exact ⟨h.ss.frm hf (by simp; omega), h.st.frm hf (by simp; omega), hk, h.sc.frm hf (by simp; omega), h.act.frm hf (by simp; omega), h.nat' hf (by omega), h.ge, h.bel' hf (by omega), o0, o1, o2, o3, o4⟩
theorem Rd.setS (h : Rd w2 gs gt gx gc gA s t x sec a p w) (hf : Frm [gs] w w') (hk : Sl w' gs s') : Rd w2 gs gt gx gc gA s' t x sec a p w' := by
  have o0 := h.o0; have o1 := h.o1; have o2 := h.o2; have o3 := h.o3; have o4 := h.o4
  exact ⟨hk, h.st.frm hf (by simp; omega), h.sx.frm hf (by simp; omega), h.sc.frm hf (by simp; omega), h.act.frm hf (by simp; omega), h.nat' hf (by omega), h.ge, h.bel' hf (by omega), o0, o1, o2, o3, o4⟩
theorem Rd.setT (h : Rd w2 gs gt gx gc gA s t x sec a p w) (hf : Frm [gt] w w') (hk : Sl w' gt s') : Rd w2 gs gt gx gc gA s s' x sec a p w' := by
  have o0 := h.o0; have o1 := h.o1; have o2 := h.o2; have o3 := h.o3; have o4 := h.o4
  exact ⟨h.ss.frm hf (by simp; omega), hk, h.sx.frm hf (by simp; omega), h.sc.frm hf (by simp; omega), h.act.frm hf (by simp; omega), h.nat' hf (by omega), h.ge, h.bel' hf (by omega), o0, o1, o2, o3, o4⟩
theorem Rd.setC (h : Rd w2 gs gt gx gc gA s t x sec a p w) (hf : Frm [gc] w w') (hk : Blk w' gc 79 (bL sec').toArray) : Rd w2 gs gt gx gc gA s t x sec' a p w' := by
  have o0 := h.o0; have o1 := h.o1; have o2 := h.o2; have o3 := h.o3; have o4 := h.o4
  exact ⟨h.ss.frm hf (by simp; omega), h.st.frm hf (by simp; omega), h.sx.frm hf (by simp; omega), hk, h.act.frm hf (by simp; omega), h.nat' hf (by omega), h.ge, h.bel' hf (by omega), o0, o1, o2, o3, o4⟩
theorem Rd.setC1 (h : Rd w2 gs gt gx gc gA s t x sec a p w) (i : Nat) (b : Bool) : Rd w2 gs gt gx gc gA s t x (sec.set i b) a p (w.setCell ⟨gc, i, none⟩ (.bool b)) := by
  refine h.setC ((Frm.refl _ w).setCell (p := ⟨gc, i, none⟩) (.inl (by simp)) _) ?_
  have := h.sc.set i (.bool b)
  simp only [List.setIfInBounds_toArray] at this
  unfold bL
  rw [List.map_set]
  exact this
theorem Rd.secCell (h : Rd w2 gs gt gx gc gA s t x sec a p w) {i : Nat} {b : Bool} (hb : sec[i]? = some b) : w.cell? ⟨gc, i, none⟩ = some (.bool b) := by
  rw [h.sc.cell i]
  simp [bL, hb]
theorem Rd.acb (h : Rd w2 gs gt gx gc gA s t x sec a p w) (hk : a.key.length = 32) : Acb w gA a := acb_of h.act hk
end
theorem int8_info : (Tryd.prog.info? 75).map (·.size) = some 8 := by kernel_rfl
theorem splice_key {a : Ac} {k2 : List Nat} (h : a.key.length = 32) (h2 : k2.length = 32) : splice (acL a) 4 (v8 k2) = acL { a with key := k2 } := by
  show [Value.int .u8 (a.d : Int), Value.int .i64 a.h, Value.int .i64 a.t, Value.int .i64 a.k] ++ v8 k2 ++ ((acL a).drop (4 + (v8 k2).length)) = _
  rw [v8_length, h2]
  show [Value.int .u8 (a.d : Int), Value.int .i64 a.h, Value.int .i64 a.t, Value.int .i64 a.k] ++ v8 k2 ++ ((v8 a.key ++ [Value.string a.lb, Value.slice a.A a.n a.c]).drop 32) = _
  rw [List.drop_left' (by rw [v8_length, h])]
  simp [acL]
theorem sec1_no {sec : List Bool} {x : Xs} {a : Ac} (h : ¬ (doE x a = 0 ∧ a.d % 7 = 2)) : sec1 sec x a = sec := by
  unfold sec1
  rw [if_neg (fun q => h ⟨q.1, q.2.1⟩)]
theorem sec1_not {sec : List Bool} {x : Xs} {a : Ac} (h : sec[a.h.toNat]? = some false) : sec1 sec x a = sec := by
  unfold sec1
  rw [if_neg (fun q => by rw [h] at q; cases q.2.2)]
theorem sec1_yes {sec : List Bool} {x : Xs} {a : Ac} (h1 : doE x a = 0) (h2 : a.d % 7 = 2) (h : sec[a.h.toNat]? = some true) : sec1 sec x a = sec.set a.t.toNat true := by
  unfold sec1
  rw [if_pos ⟨h1, h2, h⟩]
theorem der_in {x : Xs} {a : Ac} (h1 : doE x a = 0) (h2 : a.d % 7 = 2) : (0 ≤ a.h ∧ a.h < 8) ∧ 0 ≤ a.t ∧ a.t < 8 := by
  unfold doE at h1
  rw [if_pos h2] at h1
  obtain ⟨_, i1, i2, _, _⟩ := derR_zero h1
  exact ⟨of_decide_eq_true i1, of_decide_eq_true i2⟩
theorem Rd.ks {w2 w : World} {gs gt gx gc gA : Nat} {s t : Slt} {x : Xs} {sec : List Bool} {a : Ac} {p : List Nat} (h : Rd w2 gs gt gx gc gA s t x sec a p w) {KS : List Value} (hKS : x.ks.map (Value.int .i64) = KS) : w.rangeAt gx 0 KS.toArray.toList :=
  h.sx.blk.rangeAt 0 KS (fun j v hv => by
    rw [Nat.zero_add]
    unfold xsL
    rw [List.getElem?_append_left (by rw [← hKS] at hv; exact (List.getElem?_eq_some_iff.1 hv).1), hKS]
    exact hv)
theorem kx_at {x : Xs} {KS : List Value} (hx : x.Ok) (hKS : x.ks.map (Value.int .i64) = KS) {j : Nat} (hj : j < 8) : KS.toArray[j]? = some (.int .i64 (kx x (j : Int))) := by
  rw [← hKS]
  obtain ⟨k, hk⟩ : ∃ k, x.ks[j]? = some k := ⟨_, List.getElem?_eq_getElem (by rw [hx.kl]; exact hj)⟩
  unfold kx
  simp [hk]
theorem apD_length (s : Slt) (a : Ac) (p : List Nat) : (apD s a p).length = 32 := by
  unfold apD
  split
  · unfold macD
    split
    · exact macB_length _ _
    · rw [List.length_replicate]
  · exact z32_ok.1
/-- The kinds of a round, gone through up to j. -/
def secU (sec : List Bool) (x x' : Xs) (a : Ac) (j : Nat) : List Bool := (List.range 8).map fun i => if i < j then secA sec x x' a i else (sec1 sec x a)[i]?.getD false
theorem secU_zero {sec : List Bool} (h : sec.length = 8) (x x' : Xs) (a : Ac) : secU sec x x' a 0 = sec1 sec x a := by
  have hl := sec1_length (x := x) h a
  unfold secU
  refine List.ext_getElem? fun i => ?_
  rw [List.getElem?_map]
  rcases Nat.lt_or_ge i 8 with hi | hi
  · rw [List.getElem?_range hi]
    obtain ⟨b, hb⟩ : ∃ b, (sec1 sec x a)[i]? = some b := ⟨_, List.getElem?_eq_getElem (by omega)⟩
    simp [hb]
  · rw [List.getElem?_eq_none (by simpa using hi), List.getElem?_eq_none (by omega)]
    rfl
theorem secU_eight (sec : List Bool) (x x' : Xs) (a : Ac) : secU sec x x' a 8 = secN sec x x' a := by
  unfold secU secN
  refine List.map_congr_left fun i hi => ?_
  rw [if_pos (List.mem_range.1 hi)]
theorem secU_next (sec : List Bool) (x x' : Xs) (a : Ac) {j : Nat} (hj : j < 8) : (secU sec x x' a j).set j (secA sec x x' a j) = secU sec x x' a (j + 1) := by
  refine List.ext_getElem? fun i => ?_
  rw [List.getElem?_set]
  unfold secU
  simp only [List.length_map, List.length_range, List.getElem?_map]
  rcases Nat.lt_or_ge i 8 with hi | hi
  · rw [List.getElem?_range hi]
    by_cases e : j = i
    · subst e
      simp [hj]
    · rw [if_neg e]
      simp only [Option.map_some]
      congr 1
      by_cases h1 : i < j
      · rw [if_pos h1, if_pos (by omega)]
      · rw [if_neg h1, if_neg (by omega)]
  · rw [List.getElem?_eq_none (by simpa using hi)]
    simp
    omega
theorem secU_at (sec : List Bool) (x x' : Xs) (a : Ac) {j : Nat} (hj : j < 8) : (secU sec x x' a j)[j]? = some ((sec1 sec x a)[j]?.getD false) := by
  unfold secU
  rw [List.getElem?_map, List.getElem?_range hj]
  simp
theorem secU_put {sec : List Bool} {x x' : Xs} {a : Ac} {j : Nat} (hj : j < 8) {v : Bool} (h : secA sec x x' a j = v) : secU sec x x' a (j + 1) = (secU sec x x' a j).set j v := by rw [← secU_next _ _ _ _ hj, h]
/-- A kind that stays as it was. -/
theorem secU_stay (sec : List Bool) (x x' : Xs) (a : Ac) {j : Nat} (hj : j < 8) (h : secA sec x x' a j = (sec1 sec x a)[j]?.getD false) : secU sec x x' a j = secU sec x x' a (j + 1) := by
  rw [← secU_next _ _ _ _ hj, h]
  refine List.ext_getElem? fun i => ?_
  rw [List.getElem?_set]
  split
  · rename_i e
    subst e
    rw [secU_at _ _ _ _ hj, if_pos (by simp [secU]; exact hj)]
  · rfl
end Slot
end Go.Proofs.YtpakdcgcgekcfaaDoor

/-
  Bytes as the law's frame gives them.
-/
set_option linter.unusedSimpArgs false
set_option linter.unusedVariables false
namespace Go.Proofs.YtpakdcgcgekcfaaDoor
open Go.RowKit

namespace Slot
open Otp
theorem u8_ints (zs : List Int) (h : ∀ z ∈ zs, (Lit.int .u8 z).wf = true) : (zs.map (Value.int .u8)).toArray = b8 (zs.map Int.toNat) ∧ ∀ x ∈ zs.map Int.toNat, x < 256 := by
  refine ⟨?_, fun x hx => ?_⟩
  · unfold b8
    rw [List.map_map]
    congr 1
    exact List.map_congr_left fun z hz => by
      have := bounds_u8 (h z hz)
      simp only [Function.comp_apply, Int.toNat_of_nonneg this.1]
  · obtain ⟨z, hz, rfl⟩ := List.mem_map.1 hx
    have := bounds_u8 (h z hz)
    omega
end Slot
end Go.Proofs.YtpakdcgcgekcfaaDoor

/-
  SlotHides: the acts that came in.
-/
set_option linter.unusedSimpArgs false
set_option linter.unusedVariables false
namespace Go.Proofs.YtpakdcgcgekcfaaDoor
open Go.RowKit

namespace Slot
open Otp R1 Sha Aes
/-- What an act's cells read as. -/
structure ActF (w : World) (B : Nat) (a : Ac) (p : List Nat) : Prop where
  kl : a.key.length = 32
  kb : ∀ y ∈ a.key, y < 256
  wh : wfI a.h
  wt : wfI a.t
  lb : a.lb.size ≤ maxLen
  pl : p.length = a.n
  pm : a.n ≤ maxLen
  nats : Nats .u8 256 w B a.A p
theorem act_of {w : World} {r : List Value} (h : FitsW w ([.int .u8, .int .i64, .int .i64, .int .i64] ++ List.replicate 32 (.int .u8) ++ [.str, .sl .u8]) r) : ∃ (a : Ac) (p : List Nat), r = acL a ∧ ActF w w.heap.size a p := by
  obtain ⟨r1, r2, rfl, h1, h2⟩ := FitsW.split h
  obtain ⟨r3, r4, rfl, h3, h4⟩ := FitsW.split h1
  obtain ⟨v0, q0, rfl, ⟨z0, rfl, w0⟩, f0⟩ := FitsW.cons h3
  obtain ⟨v1, q1, rfl, ⟨z1, rfl, w1⟩, f1⟩ := FitsW.cons f0
  obtain ⟨v2, q2, rfl, ⟨z2, rfl, w2⟩, f2⟩ := FitsW.cons f1
  obtain ⟨v3, q3, rfl, ⟨z3, rfl, w3⟩, f3⟩ := FitsW.cons f2
  obtain rfl := FitsW.nil f3
  obtain ⟨zs, rfl, hl, hw⟩ := FitsW.all_int h4
  obtain ⟨v4, q4, rfl, ⟨lb, rfl, hlb⟩, f4⟩ := FitsW.cons h2
  obtain ⟨v5, q5, rfl, ⟨A, n, c, ps, rfl, hpl, hc, hm, hi⟩, f5⟩ := FitsW.cons f4
  obtain rfl := FitsW.nil f5
  obtain ⟨e1, e2⟩ := u8_ints zs hw
  have b0 := bounds_u8 w0
  have e3 : zs.map (Value.int .u8) = v8 (zs.map Int.toNat) := by
    have := congrArg Array.toList e1
    simpa [b8, v8] using this
  refine ⟨⟨z0.toNat, z1, z2, z3, zs.map Int.toNat, lb, A, n, c⟩, ps.map Int.toNat, ?_, by rw [List.length_map]; exact hl, e2, w1, w2, hlb, by rw [List.length_map]; exact hpl, Nat.le_trans hc hm, ints_nats (fun z hz => by have := bounds_u8 hz; omega) hi⟩
  unfold acL
  simp only [List.cons_append, List.nil_append]
  rw [← e3, show ((z0.toNat : Nat) : Int) = z0 by omega]
/-- Acts in a slice. -/
def ActsIn (w : World) (B : Nat) (A : Option Addr) (qs : List (Ac × List Nat)) : Prop := ∀ (i : Nat) (q : Ac × List Nat), qs[i]? = some q → ActF w B q.1 q.2 ∧ ∃ b off, A = some ⟨b, off, none⟩ ∧ b < B ∧ w.rangeAt b (off + i * 38) (acL q.1)
theorem acts_of {w : World} {A : Option Addr} {len cap : Nat} {rows : List (List Value)} (h : RowsW w 38 ([.int .u8, .int .i64, .int .i64, .int .i64] ++ List.replicate 32 (.int .u8) ++ [.str, .sl .u8]) A len cap rows) : ∃ qs : List (Ac × List Nat), qs.length = len ∧ len ≤ maxLen ∧ ActsIn w w.heap.size A qs := by
  obtain ⟨h1, h2, h3, h4⟩ := h
  have hone : ∀ i, ∃ q : Ac × List Nat, i < len → ActF w w.heap.size q.1 q.2 ∧ ∃ b off, A = some ⟨b, off, none⟩ ∧ b < w.heap.size ∧ w.rangeAt b (off + i * 38) (acL q.1) := fun i => by
    rcases Nat.lt_or_ge i len with hi | hi
    · obtain ⟨hf, b, off, e, hc⟩ := h4 i (rows[i]'(by omega)) (List.getElem?_eq_getElem _)
      obtain ⟨a, p, er, ha⟩ := act_of hf
      refine ⟨(a, p), fun _ => ⟨ha, b, off, e, ?_, fun j v hv => ?_⟩⟩
      · exact (hc 0 (.int .u8 (a.d : Int)) (by rw [er]; rfl)).1
      · have := (hc j v (by rw [er]; exact hv)).2
        rw [show off + i * 38 + j = off + (i * 38 + j) by omega]
        exact this
    · exact ⟨(⟨0, 0, 0, 0, [], ByteArray.empty, none, 0, 0⟩, []), fun h' => absurd h' (by omega)⟩
  refine ⟨(List.range len).map fun i => Classical.choose (hone i), by simp, Nat.le_trans h2 h3, fun i q hq => ?_⟩
  have hi : i < len := by have := (List.getElem?_eq_some_iff.1 hq).1; simpa using this
  rw [List.getElem?_map, List.getElem?_range hi] at hq
  obtain rfl := Option.some.inj hq
  exact Classical.choose_spec (hone i) hi
end Slot
end Go.Proofs.YtpakdcgcgekcfaaDoor

/-
  Two digests by value are compared.
-/
set_option linter.unusedSimpArgs false
set_option linter.unusedVariables false
namespace Go.Proofs.YtpakdcgcgekcfaaDoor
open Go.RowKit

namespace Otp
theorem u8_plain : Tryd.prog.plainKey 5 = true := by kernel_rfl
theorem u8_under : Tryd.prog.underlying 5 = some (.int .u8) := by kernel_rfl
theorem run_eqItems_b8 (w : World) (d : Nat) (x y : List Nat) : ∀ is : List Nat, (∀ i ∈ is, i < x.length ∧ i < y.length) →
    (Op.eqItems (d + 1) 5 1 (b8 x) (b8 y) is).run Tryd.prog w = .ok (is.all fun i => decide (x[i]? = y[i]?)) w
  | [], _ => by simp [Op.eqItems]
  | i :: is, h => by
    obtain ⟨h1, h2⟩ := h i (by simp)
    have p1 : (part 5 (b8 x) (i * 1)).run Tryd.prog w = .ok (.int .u8 ((x[i] : Nat) : Int)) w := run_part_plain w u8_plain (by simp [b8, h1])
    have p2 : (part 5 (b8 y) (i * 1)).run Tryd.prog w = .ok (.int .u8 ((y[i] : Nat) : Int)) w := run_part_plain w u8_plain (by simp [b8, h2])
    have ih := run_eqItems_b8 w d x y is (fun j hj => h j (by simp [hj]))
    simp only [Op.eqItems, Sem.run_bind, p1, p2, Result.andThen_ok, run_equalIn_int w d 5 .u8 .u8 _ _ u8_under, List.all_cons]
    rw [List.getElem?_eq_getElem h1, List.getElem?_eq_getElem h2]
    by_cases e : x[i] = y[i]
    · simp only [e, beq_self_eq_true, Bool.not_true, Bool.false_eq_true, if_false, decide_true, Bool.true_and]
      exact ih
    · have e' : ¬ ((x[i] : Nat) : Int) = ((y[i] : Nat) : Int) := by omega
      simp [e, e']
theorem eq_arr (w : World) (n : Nat) (t : TypeId) (x y : List Nat) (hx : x.length = n) (hy : y.length = n) (hu : Tryd.prog.underlying t = some (.array n 5)) :
    (Op.equalIn 10000 t (.agg (b8 x)) (.agg (b8 y))).run Tryd.prog w = .ok (decide (x = y)) w := by
  have hs : (Tryd.prog.info? 5).isSome = true := by kernel_rfl
  obtain ⟨i, hi⟩ := Option.isSome_iff_exists.1 hs
  have hc : Tryd.prog.cellsOf 5 = 1 := by kernel_rfl
  have h1 := run_equalIn_array w 9999 (b8 x) (b8 y) hu hi
  rw [hc] at h1
  have h2 := run_eqItems_b8 w 9998 x y (List.range n) (fun j hj => by have := List.mem_range.1 hj; omega)
  refine (show _ = _ from h1).trans ((show _ = _ from h2).trans ?_)
  refine congrArg (fun b => Result.ok b w) ?_
  by_cases e : x = y
  · subst e
    simp
  · rw [decide_eq_false e]
    rw [Bool.eq_false_iff]
    intro h
    apply e
    apply List.ext_getElem?
    intro j
    rw [List.all_eq_true] at h
    rcases Nat.lt_or_ge j n with hj | hj
    · simpa using h j (List.mem_range.2 hj)
    · rw [List.getElem?_eq_none (by omega), List.getElem?_eq_none (by omega)]
end Otp
end Go.Proofs.YtpakdcgcgekcfaaDoor

/-
  Layer 15 awake: the document's example. A chain of keys, in memory.
-/
set_option linter.unusedSimpArgs false
set_option linter.unusedVariables false
namespace Go.Proofs.YtpakdcgcgekcfaaDoor
open Go.RowKit

namespace Slot
open Otp R1 Sha Mac
/-- A chain in memory. -/
structure Chm (w : World) (g n : Nat) (k : List Nat) : Prop where
  ex : ∃ s, Sl w g s ∧ Chn s n k
theorem Chm.old {w w' : World} {g n : Nat} {k : List Nat} (h : Chm w g n k) (hb : Below w.heap.size w w') : Chm w' g n k := let ⟨s, h1, h2⟩ := h.ex; ⟨s, h1.old hb, h2⟩
theorem Chm.frm {w w' : World} {g n : Nat} {k : List Nat} {S : List Nat} (h : Chm w g n k) (hb : Frm S w w') (hg : g ∉ S) : Chm w' g n k := let ⟨s, h1, h2⟩ := h.ex; ⟨s, h1.frm hb hg, h2⟩
theorem Chm.lt {w : World} {g n : Nat} {k : List Nat} (h : Chm w g n k) : g < w.heap.size := let ⟨_, h1, _⟩ := h.ex; h1.lt
theorem Chm.key {w : World} {g n : Nat} {k : List Nat} (h : Chm w g n k) : k.length = 32 ∧ ∀ x ∈ k, x < 256 := let ⟨_, _, h2⟩ := h.ex; ⟨h2.len, h2.byte⟩
def NewOut (w : World) (e : Ending) (w' : World) : Prop := e = .returned (.pointer (some ⟨w.heap.size, 0, none⟩)) ∧ Sl w' w.heap.size newSt ∧ Below w.heap.size w w'
theorem snew_out (w : World) : Calls Tryd.prog 34 #[] w (NewOut w) := (snew_any w).mono fun _ _ h => h
def ChOut (w : World) (g n : Nat) (k : List Nat) (e : Ending) (w' : World) : Prop := e = .returned (.int .i64 0) ∧ Chm w' g n k ∧ Frm [g] w w'
theorem ch_lay (g : Nat) (key : List Nat) (w : World) (hS : Sl w g newSt) (hl : key.length = 32) (hb : ∀ x ∈ key, x < 256) :
    Calls Tryd.prog 35 #[.pointer (some ⟨g, 0, none⟩), .int .i64 0, .int .i64 1, .agg (b8 key)] w (ChOut w g 0 key) := by
  have := lay_any g newSt 0 1 key w hS (wfI_small (by decide) (by decide)) hl hb
  rw [(lay_new key).1, (lay_new key).2] at this
  exact this.mono fun _ _ ⟨h1, h2, h3⟩ => ⟨h1, ⟨_, h2, chn_start hl hb⟩, h3⟩
theorem ch_derive (g n : Nat) (k : List Nat) (a b : Int) (lb : ByteArray) (ps : List (List Nat)) (PA : Option Addr) (pn pc : Nat) (w : World) (hT : STab w) (hC : Chm w g n k) (hn : n < 7) (ha : a = n) (hb : b = ((n + 1 : Nat) : Int))
    (hlb : lb.size ≤ 100000) (hpn : ps.length = pn) (hpm : pn ≤ 1000) (hP : Parts w w.heap.size PA ps) (hm : ps.flatten.length ≤ 100000) :
    Calls Tryd.prog 37 #[.pointer (some ⟨g, 0, none⟩), .int .i64 a, .int .i64 b, .string lb, .slice PA pn pc] w (ChOut w g (n + 1) (deriveB k (sB lb) ps)) := by
  subst ha hb
  obtain ⟨s, hS, hc⟩ := hC.ex
  obtain ⟨hE, s', hs', hc'⟩ := hc.der hn (sB lb) ps
  have := sderive_any g s n ((n + 1 : Nat) : Int) lb ps PA pn pc w hT hS (wfI_small (by omega) (by omega)) (wfI_small (by omega) (by omega)) hlb hpn hpm hP hm
  rw [hE, hs'] at this
  exact this.mono fun _ _ ⟨h1, h2, h3⟩ => ⟨h1, ⟨_, h2, hc'⟩, h3⟩
theorem ch_mac (g n : Nat) (k : List Nat) (a : Int) (ps : List (List Nat)) (PA : Option Addr) (pn pc : Nat) (w : World) (hT : STab w) (hC : Chm w g n k) (ha : a = n) (hpn : ps.length = pn) (hpm : pn ≤ 1000) (hP : Parts w w.heap.size PA ps) (hm : ps.flatten.length ≤ 100000) :
    Calls Tryd.prog 39 #[.pointer (some ⟨g, 0, none⟩), .int .i64 a, .slice PA pn pc] w (DigErr w (macB k ps.flatten) 0) := by
  subst ha
  obtain ⟨s, hS, hc⟩ := hC.ex
  have hn := hc.le
  have := smac_any g s n ps PA pn pc w hT hS (wfI_small (by omega) (by omega)) hpn hpm hP hm
  rw [hc.mac, hc.keyE (Nat.le_refl _)] at this
  exact this
theorem ch_kind (g n : Nat) (k : List Nat) (a : Int) (w : World) (hC : Chm w g n k) (ha : a = n) (h1 : 1 ≤ n) : Calls Tryd.prog 41 #[.pointer (some ⟨g, 0, none⟩), .int .i64 a] w (IntBelow w 2) := by
  subst ha
  obtain ⟨s, hS, hc⟩ := hC.ex
  have hn := hc.le
  have := kind_any g s n w hS (wfI_small (by omega) (by omega))
  rw [hc.two h1] at this
  exact this
theorem bytesN_mark {t : TypeId} (w : World) (l : List Nat) (hb : ∀ x ∈ l, x < 256) (fr : Nat × Nat) : BytesN (w.alloc (.cells (b8 l) t fr)) (w.alloc (.cells (b8 l) t fr)).heap.size l (.slice (some ⟨w.heap.size, 0, none⟩) l.length l.length) := by
  refine ⟨_, _, rfl, Nat.le_refl _, (fun h => by cases h), fun i z hz => ⟨hb z (List.mem_of_getElem? hz), w.heap.size, 0, rfl, by simp, ?_⟩⟩
  have h0 : (w.alloc (.cells (b8 l) t fr)).heap[w.heap.size]? = some (.cells (b8 l) t fr) := Rel.alloc_at _ _
  unfold World.cell?
  rw [h0, Nat.zero_add]
  simp [b8, hz]
/-- One part: a constant text. -/
theorem part_const {t u : TypeId} (w : World) (l : List Nat) (hb : ∀ x ∈ l, x < 256) (fr : Nat × Nat) (W : World) (hW : W = (w.alloc (.cells (b8 l) t fr)).alloc (.cells #[.slice (some ⟨w.heap.size, 0, none⟩) l.length l.length] u)) :
    Parts W W.heap.size (some ⟨w.heap.size + 1, 0, none⟩) [l] ∧ Below w.heap.size w W := by
  subst hW
  refine ⟨?_, ((Below.refl _ w).alloc (Nat.le_refl _) _).alloc (by simp) _⟩
  have := parts_new (t := u) (w.alloc (.cells (b8 l) t fr)) [.slice (some ⟨w.heap.size, 0, none⟩) l.length l.length] [l] rfl (fun i p v hp hv => by
    have hi : i = 0 := by have := (List.getElem?_eq_some_iff.1 hp).1; simpa using this
    subst hi
    simp only [List.getElem?_cons_zero, Option.some.injEq] at hp hv
    subst hp hv
    exact bytesN_mark w l hb fr)
  have e : (w.alloc (.cells (b8 l) t fr)).heap.size = w.heap.size + 1 := by simp
  rw [e] at this
  exact this
theorem bytesN_lit8 {B : Nat} {t : TypeId} {v : Value} {W : World} (l : List Nat) (hb : ∀ x ∈ l, x < 256) (h : Rel.Lit8 B t (l.map fun x => Value.int .u8 ((x : Nat) : Int)) v W) : ∃ g, v = .slice (some ⟨g, 0, none⟩) l.length l.length ∧ BytesN W W.heap.size l (.slice (some ⟨g, 0, none⟩) l.length l.length) := by
  obtain ⟨g, rfl, _, hlt, _, hc⟩ := h
  rw [List.length_map]
  refine ⟨g, rfl, _, _, rfl, Nat.le_refl _, (fun h => by cases h), fun i z hz => ⟨hb z (List.mem_of_getElem? hz), g, 0, rfl, hlt, ?_⟩⟩
  rw [Nat.zero_add]
  exact hc i _ (by simp [hz])
def k5 : List Nat := 5 :: List.replicate 31 0
theorem k5_ok : k5.length = 32 ∧ ∀ x ∈ k5, x < 256 := by decide
set_option maxRecDepth 100000 in
set_option maxHeartbeats 4000000 in
theorem awake_any (w : World) (hT : STab w) : Calls Tryd.prog 33 #[] w (TrueBelow w) := by
  have HT := Lib.hid hT
  have HSK := Lib.hid (show (Tryd.prog.info? 23).map (·.size) = some (b8 k5).size by kernel_rfl)
  obtain ⟨k1, hk1⟩ : ∃ k1, deriveB k5 (sB ⟨#[120]⟩) [] = k1 := ⟨_, rfl⟩
  obtain ⟨D, hD⟩ : ∃ D, macB k1 [109] = D := ⟨_, rfl⟩
  have HK1 := Lib.hid hk1
  have HD := Lib.hid hD
  clear hT hk1 hD
  go_enter Tryd.func33, Tryd.ntmps33
  go_wp2_with fail
  (with_reducible refine (snew_out _).mono ?_); rintro e w1 ⟨rfl, hS1, hB1⟩
  have HS1 := Lib.hid hS1
  have HB1 := Lib.hid hB1
  clear hS1 hB1
  generalize hg : w.heap.size = g at *
  go_upto_region 3 with (refine wpList_new_row rfl 23 (.tmp 2) (.tmp 7) rfl w1.heap.size (b8 k5) rfl (by kernel_rfl) 23 (b8 (List.replicate 32 0)) (Blk.new _ _ _) HSK.out rfl (b8_one _) w1.heap.size w1 ((Below.refl _ w1).alloc (Nat.le_refl _) _) (Nat.le_refl _) ?_; intro w2 K2 B2)
  have hlt : g < w1.heap.size := HS1.out.lt
  have HS2 := Lib.hid (HS1.out.old B2.out)
  have HB2 := Lib.hid (below_then HB1.out B2.out (by omega))
  have HLY := Lib.hid (ch_lay g k5 w2 HS2.out k5_ok.1 k5_ok.2)
  obtain ⟨gK, hgK⟩ : ∃ x, x = w1.heap.size := ⟨_, rfl⟩
  rw [← hgK] at K2 hlt
  rw [← hgK]
  have HGK := Lib.hid hlt
  clear B2 HS1 HB1 HS2 hgK
  go_wp2_with (refine load_row_g (by rfl) 23 _ rfl gK rfl 23 (b8 k5) _ K2.out Tryd.underlying23 rfl HSK.out ?_)
  (with_reducible refine HLY.out.mono ?_); rintro e w3 ⟨rfl, hC3, hF3⟩
  have K3 := Lib.hid (K2.out.frm hF3 (by simp; have := HGK.out; omega))
  have HB3 := Lib.hid (HB2.out.trans (Frm.below hF3 (by rw [← hg]; exact HB2.out.size) (fun x hx => by simp at hx; omega)))
  have HC3 := Lib.hid hC3
  have HDV := Lib.hid (ch_derive g 0 k5 0 1 ⟨#[120]⟩ [] none 0 0 w3 (HT.out.old (by rw [hg]; exact HB3.out)) hC3 (by decide) rfl rfl (by decide) rfl (by decide) (Parts.nil _ _ _) (by decide))
  rw [HK1.out] at HDV
  clear hC3 hF3 HLY K2 HB2
  go_wp2_with fail
  (with_reducible refine HDV.out.mono ?_); rintro e w4 ⟨rfl, hC4, hF4⟩
  have K4 := Lib.hid (K3.out.frm hF4 (by simp; have := HGK.out; omega))
  have HB4 := Lib.hid (HB3.out.trans (Frm.below hF4 (by rw [← hg]; exact HB3.out.size) (fun x hx => by simp at hx; omega)))
  have HC4 := Lib.hid hC4
  have HK1B := Lib.hid hC4.key
  clear hC4 hF4 HC3 HDV K3 HB3
  obtain ⟨W5, hW5⟩ : ∃ W, W = (w4.alloc (.cells (b8 [109]) 5 (1, 2))).alloc (.cells #[.slice (some ⟨w4.heap.size, 0, none⟩) 1 1] 53) := ⟨_, rfl⟩
  have HW5 := Lib.hid hW5
  obtain ⟨hP5, hB5⟩ := part_const w4 [109] (by decide) (1, 2) W5 hW5
  have HB45 := Lib.hid hB5
  have HB5 := Lib.hid (below_then HB4.out hB5 (Nat.le_of_eq hg.symm))
  have HM := Lib.hid (ch_mac g 1 k1 1 [[109]] (some ⟨w4.heap.size + 1, 0, none⟩) 1 1 W5 (HT.out.old (by rw [hg]; exact HB5.out)) (HC4.out.old hB5) rfl rfl (by decide) hP5 (by decide))
  rw [show [[109]].flatten = [109] from rfl, HD.out] at HM
  clear hW5 hP5 hB5
  have kc := fun (w : World) (C : Array Value) (n c : Nat) => Lib.run_convert_bytes_const (P := Tryd.prog) w 53 5 C n c Tryd.underlying53 Tryd.underlying5
  go_wp2_with fail
  change Calls _ _ _ ((w4.alloc (.cells (b8 [109]) 5 (1, 2))).alloc (.cells #[.slice (some ⟨w4.heap.size, 0, none⟩) 1 1] 53)) _
  rw [← HW5.out]
  (with_reducible refine HM.out.mono ?_); rintro e w6 ⟨rfl, hB6⟩
  have K6 := Lib.hid ((K4.out.next HB45.out rfl).next hB6 rfl)
  have HB6 := Lib.hid (below_then HB5.out hB6 (Nat.le_of_eq hg.symm))
  clear kc HM HW5 hB6 HB45 HB5 HC4 K4
  have HDL := Lib.hid (show D.length = 32 by rw [← HD.out]; exact macB_length _ _)
  have HSD := Lib.hid (show (Tryd.prog.info? 23).map (·.size) = some (b8 D).size by rw [b8_size, HDL.out]; exact dig_info)
  have HZD := Lib.hid (show (b8 (List.replicate 32 0)).size = (b8 D).size by rw [b8_size, b8_size, HDL.out]; rfl)
  have HS1 := Lib.hid (show (Tryd.prog.info? 23).map (·.size) = some (b8 k1).size by rw [b8_size, HK1B.out.1]; exact dig_info)
  have HZ1 := Lib.hid (show (b8 (List.replicate 32 0)).size = (b8 k1).size by rw [b8_size, b8_size, HK1B.out.1]; rfl)
  have hsl := fun b => run_slice_arr_all (P := Tryd.prog) 23 5 32 Tryd.underlying23 (fun _ => by kernel_rfl) b 0 (by decide)
  go_upto_region 6 with (refine wpList_new_row rfl 23 (.tmp 3) (.tmp 27) rfl w6.heap.size (b8 D) rfl rfl 23 (b8 (List.replicate 32 0)) (Blk.new _ _ _) HSD.out HZD.out (b8_one _) w6.heap.size w6 ((Below.refl _ w6).alloc (Nat.le_refl _) _) (Nat.le_refl _) ?_; intro w7 KD B7)
  have K7 := Lib.hid (K6.out.next B7.out rfl)
  have HB7 := Lib.hid (below_then HB6.out B7.out (Nat.le_of_eq hg.symm))
  obtain ⟨gD, hgD⟩ : ∃ x, x = w6.heap.size := ⟨_, rfl⟩
  rw [← hgD] at KD
  rw [← hgD]
  have HDR := Lib.hid (r2derive_any k5 (some ⟨gK, 0, none⟩) 32 32 ⟨#[120]⟩ [] none 0 0 w7 rfl (by decide) (nats_b8 K7.out (fun x hx => k5_ok.2 x hx)) (by decide) rfl (by decide) (Parts.nil _ _ _) (by decide))
  rw [HK1.out] at HDR
  clear B7 HB6 K6 hgD
  go_wp2_with fail
  (with_reducible refine HDR.out.mono ?_); rintro e w8 ⟨rfl, hB8⟩
  have KD8 := Lib.hid (KD.out.next hB8 rfl)
  have HB8 := Lib.hid (below_then HB7.out hB8 (Nat.le_of_eq hg.symm))
  clear HDR hB8 KD K7 HB7
  go_upto_region 7 with (refine wpList_new_row rfl 23 (.tmp 5) (.tmp 30) rfl w8.heap.size (b8 k1) rfl rfl 23 (b8 (List.replicate 32 0)) (Blk.new _ _ _) HS1.out HZ1.out (b8_one _) w8.heap.size w8 ((Below.refl _ w8).alloc (Nat.le_refl _) _) (Nat.le_refl _) ?_; intro w9 KX B9)
  have KD9 := Lib.hid (KD8.out.next B9.out rfl)
  have HB9 := Lib.hid (below_then HB8.out B9.out (Nat.le_of_eq hg.symm))
  have HT9 := Lib.hid (HT.out.old (by rw [hg]; exact HB9.out))
  obtain ⟨gX, hgX⟩ : ∃ x, x = w8.heap.size := ⟨_, rfl⟩
  rw [← hgX] at KX
  rw [← hgX]
  clear B9 HB8 KD8 hgX
  have heq := fun W => eq_arr W 32 23 D D HDL.out HDL.out Tryd.underlying23
  simp only [decide_true] at heq
  refine Rel.wp_region_rel 11 [(36, .any (Rel.Lit8 w9.drew.heap.size 5 [.int .u8 109]) Rel.Lit8.soft), (37, .any (Rel.Lit8 w9.drew.heap.size 5 [.int .u8 109]) Rel.Lit8.soft), (38, .const (.agg (b8 D)))] (by kernel_rfl) (by kernel_rfl) ?_
  simp only [List.take_succ_cons, List.take_zero, List.drop_succ_cons, List.drop_zero, Act.put, List.setIfInBounds_toArray, List.set_cons_zero, List.set_cons_succ]
  repeat (refine Rel.tree_quiet rfl rfl rfl (fun K hK => ?_); go_big_quiet_op; refine hK _ ?_; clear hK K)
  refine Rel.tree_pure rfl rfl rfl (.agg (b8 D)) (fun W hW _ => Rel.exec_load _ _ rfl gD 0 rfl _ _ (Blk.range (hW.blk KD9.out.drew)) Tryd.underlying23 rfl HSD.out) ?_
  simp only [Act.put, List.setIfInBounds_toArray, List.set_cons_zero, List.set_cons_succ]
  (refine Rel.tree_quiet rfl rfl rfl (fun K hK => ?_); go_big_quiet_op; refine hK _ ?_; clear hK K)
  refine Rel.tree_rel rfl (Rel.Lit8 w9.drew.heap.size 5 [.int .u8 109]) Rel.Lit8.soft rfl (fun W hW _ => ?_) (fun v36 => ?_)
  · unfold Rel.relAt
    go_simp
    exact ⟨Rel.Grow.alloc _ _, Rel.lit8_new [.int .u8 109] hW.size⟩
  simp only [Act.put, List.setIfInBounds_toArray, List.set_cons_zero, List.set_cons_succ]
  refine Rel.tree_step rfl (Rel.Lit8 w9.drew.heap.size 5 [.int .u8 109]) Rel.Lit8.soft rfl (fun W hW hF => Rel.stepAt_const rfl Tryd.underlying53 Tryd.underlying5 v36 rfl (hF 36 (by decide))) (fun v37 => ?_)
  simp only [Act.put, List.setIfInBounds_toArray, List.set_cons_zero, List.set_cons_succ]
  refine Rel.tree_const rfl (.agg (b8 D)) rfl (fun W hW hF => ?_) ?_
  · have h37 := hF 37 (by decide)
    obtain ⟨g7, rfl, hp7⟩ := bytesN_lit8 [109] (by decide) h37
    have hK := nats_b8 (hW.blk KX.out.drew) HK1B.out.2
    have hS := r2sum_any k1 [109] (some ⟨gX, 0, none⟩) 32 32 (some ⟨g7, 0, none⟩) 1 1 W HK1B.out.1 (by decide) hK hp7 (by decide)
    rw [HD.out] at hS
    clear hF h37
    unfold Rel.relAt; go_simp; show Calls _ _ _ _ _
    exact const_call hS
  simp only [Act.put, List.setIfInBounds_toArray, List.set_cons_zero, List.set_cons_succ]
  repeat (refine Rel.tree_quiet rfl rfl rfl (fun K hK => ?_); go_big_quiet_op; refine hK _ ?_; clear hK K)
  intro W hW _
  have HW := Lib.hid (HB9.out.trans (hW.undrew.mono (by rw [← hg]; exact HB9.out.size)))
  clear hW
  go_wp2_with fail
  go_light
  go_ret
  exact ⟨rfl, by rw [hg]; exact HW.out⟩
end Slot
end Go.Proofs.YtpakdcgcgekcfaaDoor

/-
  What a row's list gives: the tables of package sha in their variables.
-/
set_option linter.unusedSimpArgs false
set_option linter.unusedVariables false
namespace Go.Proofs.YtpakdcgcgekcfaaDoor
open Go.RowKit

theorem tabIs_of_vars {P : Program} {W : World} {name : String} {k : IntKind} {zs : List Int} {g : Nat} {t e : TypeId} {n : Nat}
    (hg : P.globalNamed name = some g) (hty : (P.globals[g]?).map (·.type) = some t) (ht : P.underlying t = some (.array n e)) (he : P.underlying e = some (.int k)) (hce : P.cellsOf e = 1) (hct : P.cellsOf t = n) :
    ∀ (laid : List (String × DataW Unit)) (ps : List MemPlace), DataW.LaidVars P W laid ps → (name, Lib.tabData k zs) ∈ laid → Lib.TabIs P W name k zs
  | [], _, _, hm => by cases hm
  | x :: rest, ps, h, hm => by
    obtain ⟨g', t', cs, fuel, p, q, hg', ht', hvar, hd, hr, _⟩ := h
    rcases List.mem_cons.1 hm with rfl | hm
    · obtain rfl := Option.some.inj (hg.symm.trans hg')
      obtain rfl := Option.some.inj (hty.symm.trans ht')
      unfold Lib.TabIs
      rw [hvar, ← Lib.cells_of_tab ht he hce hct hd]
    · exact tabIs_of_vars hg hty ht he hce hct rest q hr hm
namespace Sha
open Otp R1
theorem gFirst : Tryd.prog.globalNamed "curtilage/sha.first" = some 2 := by kernel_rfl
theorem gFirstType : (Tryd.prog.globals[2]?).map (·.type) = some 118 := by kernel_rfl
theorem gFirstCells : Tryd.prog.cellsOf 118 = 8 := by kernel_rfl
theorem gRounds : Tryd.prog.globalNamed "curtilage/sha.rounds" = some 3 := by kernel_rfl
theorem gRoundsType : (Tryd.prog.globals[3]?).map (·.type) = some 44 := by kernel_rfl
theorem gRoundsCells : Tryd.prog.cellsOf 44 = 64 := by kernel_rfl
theorem u32Cells : Tryd.prog.cellsOf 43 = 1 := by kernel_rfl
def zI (l : List Nat) : List Int := l.map fun x => ((x : Nat) : Int)
theorem range_of {W : World} {name : String} {l : List Nat} {g : Nat} (h : Lib.TabIs Tryd.prog W name .u32 (zI l)) (hg : Tryd.prog.globalNamed name = some g) : W.rangeAt g 0 (c32 l).toList := fun j v hv => by
  have hv' : (l.map fun x => Value.int .u32 ((x : Nat) : Int))[j]? = some v := by simpa [c32] using hv
  rw [List.getElem?_map] at hv'
  cases hx : l[j]? with
  | none => rw [hx] at hv'; cases hv'
  | some x =>
    rw [hx] at hv'
    obtain rfl := Option.some.inj hv'
    have hj := (List.getElem?_eq_some_iff.1 hx).1
    have := h.cell hg j (by simpa [zI] using hj)
    rw [Nat.zero_add, this]
    simp [zI, List.getD, hx]
theorem stab_of {W : World} {laid : List (String × DataW Unit)} (h : laidMet Tryd.prog laid W) (h1 : ("curtilage/sha.first", Lib.tabData .u32 (zI rH)) ∈ laid) (h2 : ("curtilage/sha.rounds", Lib.tabData .u32 (zI rK)) ∈ laid) : STab W := by
  obtain ⟨ps, hv, _⟩ := h
  exact ⟨range_of (tabIs_of_vars gRounds gRoundsType Tryd.underlying44 Tryd.underlying43 u32Cells gRoundsCells _ _ hv h2) gRounds, range_of (tabIs_of_vars gFirst gFirstType Tryd.underlying118 Tryd.underlying43 u32Cells gFirstCells _ _ hv h1) gFirst⟩
def errLarge : DataW Unit := .iface "*errors.errorString" (.ptr (.agg [.lit (.string [98, 121, 116, 101, 115, 46, 66, 117, 102, 102, 101, 114, 58, 32, 116, 111, 111, 32, 108, 97, 114, 103, 101])]))
theorem stab2 {W : World} (h : laidMetH Tryd.prog [("curtilage/sha.first", Lib.tabData .u32 (zI rH)), ("curtilage/sha.rounds", Lib.tabData .u32 (zI rK))] W) : STab W :=
  stab_of (laid := [("curtilage/sha.first", Lib.tabData .u32 (zI rH)), ("curtilage/sha.rounds", Lib.tabData .u32 (zI rK))]) h (by simp) (by simp)
theorem stab3 {W : World} (h : laidMetH Tryd.prog [("bytes.ErrTooLarge", errLarge), ("curtilage/sha.first", Lib.tabData .u32 (zI rH)), ("curtilage/sha.rounds", Lib.tabData .u32 (zI rK))] W) : STab W :=
  stab_of (laid := [("bytes.ErrTooLarge", errLarge), ("curtilage/sha.first", Lib.tabData .u32 (zI rH)), ("curtilage/sha.rounds", Lib.tabData .u32 (zI rK))]) h (by simp) (by simp)
end Sha
end Go.Proofs.YtpakdcgcgekcfaaDoor

/-
  Package slot: Cipher.
-/
set_option linter.unusedSimpArgs false
set_option linter.unusedVariables false
namespace Go.Proofs.YtpakdcgcgekcfaaDoor
open Go.RowKit

namespace Slot
open Otp R1 Sha Aes
def ciE (K : Nat) (kind : Int) (n : Nat) : Nat := if K ≠ 0 then K else if kind < 0 ∨ 2 < kind ∨ n % 16 ≠ 0 then 1 else 0
def ciM (key : List Nat) (kind : Int) (back : Bool) (st : List Nat) : Md := ⟨key, kind.toNat, back, st⟩
def ciO (K : Nat) (key : List Nat) (kind : Int) (back : Bool) (st p : List Nat) : List Nat := if ciE K kind p.length = 0 then (runM (ciM key kind back st) p (p.length / 16)).2 else []
def CipOut (w : World) (out : List Nat) (E : Nat) (e : Ending) (w' : World) : Prop := ∃ v, e = .returned (.tuple #[v, .int .i64 (E : Int)]) ∧ OwnB w' w.heap.size v out ∧ Below w.heap.size w w'
theorem ciM_ok {key : List Nat} {kind : Int} {back : Bool} {st : List Nat} (hk : key.length = 32) (hkb : ∀ x ∈ key, x < 256) (h1 : 0 ≤ kind) (h2 : kind ≤ 2) (hs : st.length = 16) (hsb : ∀ x ∈ st, x < 256) : (ciM key kind back st).Ok := ⟨⟨.inr hk, hkb⟩, by show kind.toNat ≤ 2; omega, hs, hsb⟩
set_option maxRecDepth 100000 in
set_option maxHeartbeats 4000000 in
theorem cipher_of (q : Value) (h kind : Int) (back : Bool) (st : List Nat) (PA : Option Addr) (n pc : Nat) (p : List Nat) (K : Nat) (key : List Nat) (w : World) (HK : ∀ W, Below w.heap.size w W → Calls Tryd.prog 82 #[q, .int .i64 h] W (KeyOut W K key)) (hkb : K = 0 → ∀ x ∈ key, x < 256)
    (hs : st.length = 16) (hsb : ∀ x ∈ st, x < 256) (hpl : p.length = n) (hnm : n ≤ 1000000) (hpc : n ≤ pc) (hz : Nats .u8 256 w w.heap.size PA p) :
    Calls Tryd.prog 48 #[q, .int .i64 h, .int .i64 kind, .bool back, .agg (b8 st), .slice PA n pc] w (CipOut w (ciO K key kind back st p) (ciE K kind p.length)) := by
  have HKY := wall HK
  have HSB := wall (show (Tryd.prog.info? 90).map (·.size) = some (b8 st).size by rw [b8_size, hs]; exact blk_info16)
  have HZ := wall hz
  have HZM := wall zM_eq.symm
  have HMF := wall (fun A L c (m : Md) (h : m.v.length = 16) => m2f A L c h)
  have HZF := wall zM_f
  have HPL := wall hpl
  obtain ⟨ZM, hZM⟩ : ∃ x, zM.toArray = x := ⟨_, rfl⟩
  obtain ⟨ZL, hZL⟩ : ∃ x, zM = x := ⟨_, rfl⟩
  have HZL := wall (show ZL.toArray = ZM by rw [← hZL]; exact hZM)
  have HZ0 := wall hZM
  rw [hZM] at HMF HZM
  rw [hZM, hZL] at HZF
  obtain ⟨w1, hw1⟩ : ∃ W, W = w.alloc (.cells (b8 st) 90) := ⟨_, rfl⟩
  have HW := wall hw1
  have HB1 := wall (show Below w.heap.size w w1 by rw [hw1]; exact (Below.refl _ w).alloc (Nat.le_refl _) _)
  have HS1 := wall (show Blk w1 w.heap.size 90 (b8 st) by rw [hw1]; exact Blk.new _ _ _)
  have HST := wall (And.intro hs hsb)
  have HKB := wall hkb
  clear hw1 hs hsb hpl hz hZM hZL HK hkb
  go_enter Tryd.func48, Tryd.ntmps48
  go_upto_region 1 with fail
  rw [← HW.out]
  clear HW
  go_wp2_with fail
  (with_reducible refine (HKY.out _ HB1.out).mono ?_); rintro e w2 ⟨KA, kn, kc, rfl, hk0, hB2⟩
  have HS2 := wall (HS1.out.next hB2 rfl)
  have HB2 := wall (below_then HB1.out hB2 (Nat.le_refl _))
  have HK0 := wall hk0
  clear hB2 hk0 HS1 HB1 HKY
  by_cases hK : K = 0
  · obtain ⟨rfl, hkc, hkl, hkn⟩ := HK0.out hK
    have HKN := wall hkn
    have HKL := wall (And.intro hkl (HKB.out hK))
    subst hK
    clear hkl hkn HK0 HKB
    by_cases hkd : kind < 0 ∨ 2 < kind
    · have HCE := wall (show ciE 0 kind p.length = 1 by rw [ciE, if_neg (by simp), if_pos (by omega)])
      have HCO := wall (show ciO 0 key kind back st p = [] by rw [ciO, HCE.out]; rfl)
      have HCN := wall (fun W (h : Below w2.heap.size w2 W) => show Calls Tryd.prog 55 #[.int .i64 kind, .bool back, .slice KA 32 kc, .agg (b8 st)] W (fun e w' => e = .returned (.tuple #[.agg ZM, .int .i64 1]) ∧ Below W.heap.size W w') by
        rw [← HZ0.out]
        exact mnew_badkind KA 32 kc key kind back st W ⟨.inr HKL.out.1, HKL.out.2⟩ HKL.out.1.symm ((HKN.out.below h).more h.size) hkd HST.out.1)
      have HZQ := wall (show (Tryd.prog.info? 96).map (·.size) = some ZM.size ∧ ZM.all (·.oneCell') = true by have h := HZF.out; rw [M2F, HZL.out] at h; exact ⟨h.1, h.2.2⟩)
      clear hkd
      go_wp2_with (refine wpList_load_row rfl 90 _ rfl w.heap.size rfl 90 (b8 st) (0, 0) _ HS2.out Tryd.underlying90 rfl HSB.out ?_)
      (with_reducible refine (HCN.out _ (Below.refl _ _)).mono ?_); rintro e w3 ⟨rfl, hB3⟩
      have HB3 := wall (below_then HB2.out hB3 (Nat.le_refl _))
      clear hB3 HCN HS2
      go_upto_region 5 with (refine wpList_new_row rfl 96 (.tmp 16) (.tmp 34) rfl w3.heap.size ZM rfl rfl 96 ZM (by rw [← HZM.out]; exact Blk.new _ _ _) HZQ.out.1 rfl HZQ.out.2 w3.heap.size w3 ((Below.refl _ w3).alloc (Nat.le_refl _) _) (Nat.le_refl _) ?_; intro w4 K4 B4)
      have HB4 := wall (below_then HB3.out B4.out (Nat.le_refl _))
      clear K4 B4
      go_wp2_with fail
      go_light
      go_ret2
      exact ⟨.slice none 0 0, by rw [HCE.out]; rfl, by rw [HCO.out]; exact World.ownsRow_nil _ _ _ _, HB4.out⟩
    · have hkk : kind = ((ciM key kind back st).kind : Nat) := by show kind = (kind.toNat : Int); omega
      have hok : (ciM key kind back st).Ok := ciM_ok HKL.out.1 HKL.out.2 (by omega) (by omega) HST.out.1 HST.out.2
      have HCN := wall (fun W (h : Below w2.heap.size w2 W) => show Calls Tryd.prog 55 #[.int .i64 kind, .bool back, .slice KA 32 kc, .agg (b8 st)] W (MnOut W (ciM key kind back st)) from mnew_any KA 32 kc kind (ciM key kind back st) W hok hkk HKL.out.1.symm ((HKN.out.below h).more h.size))
      have HCE0 := wall (show ciE 0 kind p.length = if p.length % 16 = 0 then 0 else 1 by
        rw [ciE, if_neg (by simp)]
        by_cases h16 : p.length % 16 = 0
        · rw [if_neg (by omega), if_pos h16]
        · rw [if_pos (by omega), if_neg h16])
      have HCO0 := wall (show ciO 0 key kind back st p = if p.length % 16 = 0 then (runM (ciM key kind back st) p (p.length / 16)).2 else [] by
        rw [ciO, HCE0.out]
        by_cases h16 : p.length % 16 = 0
        · rw [if_pos h16, if_pos rfl, if_pos h16]
        · rw [if_neg h16, if_neg (by decide), if_neg h16])
      obtain ⟨m, hm⟩ : ∃ m, ciM key kind back st = m := ⟨_, rfl⟩
      rw [hm] at HCN HCO0 hok
      have HOK := wall hok
      clear hkd hkk hm hok
      go_wp2_with (refine wpList_load_row rfl 90 _ rfl w.heap.size rfl 90 (b8 st) (0, 0) _ HS2.out Tryd.underlying90 rfl HSB.out ?_)
      (with_reducible refine (HCN.out _ (Below.refl _ _)).mono ?_); rintro e w3 ⟨MA, L, Mc, rfl, hkv, hB3⟩
      have HB3 := wall (below_then HB2.out hB3 (Nat.le_refl _))
      have HM1 := wall (HMF.out MA L Mc m HOK.out.len)
      have HKV := wall hkv
      have HRN := wall (fun W (h : Below w3.heap.size w3 W) (hd : p.length % 16 = 0) => run_any MA L Mc m PA n (p.length / 16) pc p W HOK.out ((HKV.out.below h).more h.size) HPL.out (by have := HPL.out; omega) hnm hpc ((HZ.out.below (HB3.out.trans (h.mono HB3.out.size))).more (Nat.le_trans HB3.out.size h.size)))
      have HRB := wall (fun W (hd : n % 16 ≠ 0) => run_bad MA L Mc m PA n pc W HOK.out.len hd (by simp only [maxLen]; omega))
      have HRO := wall (fun (hd : p.length % 16 = 0) => HMF.out MA L Mc (runM m p (p.length / 16)).1 (runM_ok HOK.out (p := p) (fun x hx => by
        obtain ⟨i, hi⟩ := List.mem_iff_getElem?.1 hx
        exact (HZ.out i x hi).1) (p.length / 16) (by omega)).1.len)
      unfold RunOut at HRN
      unfold RunBad at HRB
      obtain ⟨CL, hCL⟩ : ∃ x, mV MA L Mc m = x := ⟨_, rfl⟩
      rw [hCL] at HM1 HRN HRB ⊢
      clear hB3 HCN HS2 hkv hCL
      go_upto_region 5 with (refine wpList_new_row rfl 96 (.tmp 16) (.tmp 34) rfl w3.heap.size CL.toArray rfl rfl 96 ZM (by rw [← HZM.out]; exact Blk.new _ _ _) HM1.out.1 HM1.out.2.1 HM1.out.2.2 w3.heap.size w3 ((Below.refl _ w3).alloc (Nat.le_refl _) _) (Nat.le_refl _) ?_; intro w4 K4 B4)
      have HK4 := wall K4.out
      have HB4 := wall B4.out
      clear K4 B4
      by_cases h16 : n % 16 = 0
      · have hp16 : p.length % 16 = 0 := by rw [HPL.out]; exact h16
        have hcall := HRN.out _ HB4.out hp16
        have hro := HRO.out hp16
        have hce := HCE0.out
        have hco := HCO0.out
        rw [if_pos hp16] at hce hco
        obtain ⟨⟨q, out⟩, hqo⟩ : ∃ x, runM m p (p.length / 16) = x := ⟨_, rfl⟩
        rw [hqo] at hcall hro hco
        simp only at hcall hro hco
        obtain ⟨CQ, hCQ⟩ : ∃ x, mV MA L Mc q = x := ⟨_, rfl⟩
        rw [hCQ] at hcall hro
        have HCALL := wall hcall
        have HQ := wall hro
        have HCE := wall hce
        have HCO := wall hco
        clear hcall hro hqo hCQ hce hco hp16 HRN HRB HRO HKV
        go_wp2_with (refine wpList_load_row rfl 96 _ rfl w3.heap.size rfl 96 CL.toArray (0, 0) _ HK4.out Tryd.underlying96 rfl HM1.out.1 ?_)
        (with_reducible refine (HCALL.out).mono ?_); rintro e w5 ⟨v5, rfl, hO5, hB5⟩
        have HO5 := wall (show OwnB w5 w.heap.size v5 out from own_less hO5 (Nat.le_trans HB3.out.size HB4.out.size))
        have HB5 := wall (show Below w.heap.size w w5 from HB3.out.trans ((HB4.out.trans (hB5.mono HB4.out.size)).mono HB3.out.size))
        clear hO5 hB5 HB3 HB4 HK4 HCALL
        go_upto_region 8 with (refine wpList_new_row rfl 96 (.tmp 17) (.tmp 43) rfl w5.heap.size CQ.toArray rfl rfl 96 ZM (by rw [← HZM.out]; exact Blk.new _ _ _) HQ.out.1 HQ.out.2.1 HQ.out.2.2 w5.heap.size w5 ((Below.refl _ w5).alloc (Nat.le_refl _) _) (Nat.le_refl _) ?_; intro w6 K6 B6)
        have HO6 := wall (show OwnB w6 w.heap.size v5 out from own_frm HO5.out (Frm.of_below (S := []) B6.out) (fun x hx => by simp at hx))
        have HB6 := wall (show Below w.heap.size w w6 from HB5.out.trans (B6.out.mono HB5.out.size))
        clear K6 B6 HO5 HB5
        go_wp2_with fail
        go_light
        go_ret2
        exact ⟨v5, by rw [HCE.out]; rfl, by rw [HCO.out]; exact HO6.out, HB6.out⟩
      · have hp16 : ¬ p.length % 16 = 0 := by rw [HPL.out]; exact h16
        have hcall := HRB.out w4 h16
        have hce := HCE0.out
        have hco := HCO0.out
        rw [if_neg hp16] at hce hco
        have HCALL := wall hcall
        have HCE := wall hce
        have HCO := wall hco
        clear hcall hce hco hp16 HRN HRB HRO HKV
        go_wp2_with (refine wpList_load_row rfl 96 _ rfl w3.heap.size rfl 96 CL.toArray (0, 0) _ HK4.out Tryd.underlying96 rfl HM1.out.1 ?_)
        (with_reducible refine (HCALL.out).mono ?_); rintro e w5 ⟨rfl, hB5⟩
        have HB5 := wall (show Below w.heap.size w w5 from HB3.out.trans ((HB4.out.trans (hB5.mono HB4.out.size)).mono HB3.out.size))
        clear hB5 HB3 HB4 HK4 HCALL
        go_upto_region 8 with (refine wpList_new_row rfl 96 (.tmp 17) (.tmp 43) rfl w5.heap.size CL.toArray rfl rfl 96 ZM (by rw [← HZM.out]; exact Blk.new _ _ _) HM1.out.1 HM1.out.2.1 HM1.out.2.2 w5.heap.size w5 ((Below.refl _ w5).alloc (Nat.le_refl _) _) (Nat.le_refl _) ?_; intro w6 K6 B6)
        have HB6 := wall (show Below w.heap.size w w6 from HB5.out.trans (B6.out.mono HB5.out.size))
        clear K6 B6 HB5
        go_wp2_with fail
        go_light
        go_ret2
        exact ⟨.slice none 0 0, by rw [HCE.out]; rfl, by rw [HCO.out]; exact World.ownsRow_nil _ _ _ _, HB6.out⟩
  · have HCE := wall (show ciE K kind p.length = K by rw [ciE, if_pos hK])
    have HCO := wall (show ciO K key kind back st p = [] by rw [ciO, HCE.out, if_neg hK])
    have hKne : ((K : Int) != 0) = true := by rw [bne_iff_ne]; omega
    go_wp2_with fail
    go_light
    go_ret2
    exact ⟨.slice none 0 0, by rw [HCE.out]; rfl, by rw [HCO.out]; exact World.ownsRow_nil _ _ _ _, HB2.out⟩
end Slot
end Go.Proofs.YtpakdcgcgekcfaaDoor
