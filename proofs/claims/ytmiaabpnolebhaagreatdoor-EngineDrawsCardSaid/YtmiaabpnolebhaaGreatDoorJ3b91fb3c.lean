/-
  Texts of this claim, joined: EngE, EngF.
-/
import Derived.Test.YtmiaabpnolebhaaGreatDoorJbb4f952e
import Derived.Test.YtmiaabpnolebhaaGreatDoorJ77e99bb7
set_option linter.unusedSimpArgs false
set_option linter.unusedVariables false
/-
  Package engine: uses, Do of whatever is made.
-/
namespace Go.Proofs.YtmiaabpnolebhaaGreatDoor
open Go.RowKit

namespace Eng
open Otp Sha R1 Slot Spc Grant
theorem fu_len (vs : List Nat) (ls : List Bool) (off n : Nat) (h : (fuR vs ls off n).1 = 0) : (fuR vs ls off n).2.length = n ∧ ∀ x ∈ (fuR vs ls off n).2, x < 256 := by
  unfold fuR at h ⊢
  split at h
  · cases h
  · rename_i hn
    rw [if_neg hn]
    refine ⟨by simp, fun x hx => ?_⟩
    obtain ⟨j, _, rfl⟩ := List.mem_map.1 hx
    exact fuB_lt _ _
theorem ld_len {v : SpV} {F vs : List Nat} {ls : List Bool} {who : Int} {a n : Nat} (hv : v.Ok) (hF : F.length = 10240) (hb : ∀ x ∈ F, x < 256) (h : (ldR v F vs ls who a n).1 = 0) : (ldR v F vs ls who a n).2.length = n ∧ ∀ x ∈ (ldR v F vs ls who a n).2, x < 256 := by
  unfold ldR at h ⊢
  by_cases h0 : n = 0
  · rw [if_pos h0]; subst h0; exact ⟨rfl, fun x hx => by simp at hx⟩
  · rw [if_neg h0] at h ⊢
    by_cases he : (wth who v.st a n false).2.2 ≠ 0
    · rw [if_pos he] at h; exact absurd h he
    · rw [if_neg he] at h ⊢
      obtain ⟨hr, hi⟩ := wth_in (who := who) (st := v.st) (a := a) (n := n) (wr := false) (by omega)
      obtain ⟨⟨r, o, e⟩, hre⟩ : ∃ y, wth who v.st a n false = y := ⟨_, rfl⟩
      rw [hre] at hr hi h ⊢
      simp only at hr hi h ⊢
      by_cases h3 : r = 3
      · rw [if_pos h3]
        subst h3
        have hi' : o + n ≤ 10240 := hi
        exact ⟨by simp only [List.length_take, List.length_drop]; omega, fun x hx => hb x (List.mem_of_mem_drop (List.mem_of_mem_take hx))⟩
      · rw [if_neg h3] at h ⊢
        by_cases h5 : r = 5
        · rw [if_pos h5] at h ⊢; exact fu_len vs ls o n h
        · rw [if_neg h5]
          have hr3 : r = 1 ∨ r = 2 ∨ r = 4 := by omega
          have hl := memB_len hv hr3
          have hs : regS r = (memO r).2.1 := by rcases hr3 with rfl | rfl | rfl <;> rfl
          rw [hs] at hi
          refine ⟨by simp only [List.length_take, List.length_drop]; omega, fun x hx => ?_⟩
          have hm : x ∈ memB v r := List.mem_of_mem_drop (List.mem_of_mem_take hx)
          rcases hr3 with rfl | rfl | rfl
          · exact hv.rb x (List.mem_of_mem_take hm)
          · exact hv.rb x (List.mem_of_mem_drop hm)
          · exact hv.pb x hm
theorem dma_reg (a n st : Nat) (hst : st = 0 ∨ st = 1 ∨ st = 2) (h : (wth 2 (st : Int) a n true).2.2 = 0) : (wth 2 (st : Int) a n true).1 = 1 ∨ (wth 2 (st : Int) a n true).1 = 2 ∨ (wth 2 (st : Int) a n true).1 = 4 := by
  have hr := (wth_in h).1
  have hc : (chk 2 (st : Int) a 1 true false).2.2 = 0 := by
    unfold wth at h
    simp only at h
    by_cases h2 : (chk 2 (st : Int) a 1 true false).2.2 = 0
    · exact h2
    · rw [if_pos h2] at h; exact absurd h h2
  have he : (wth 2 (st : Int) a n true).1 = (chk 2 (st : Int) a 1 true false).1 := by
    unfold wth at h ⊢
    simp only at h ⊢
    rw [if_neg (by simpa using hc)] at h ⊢
    split
    · rename_i h3; rw [if_pos h3] at h; cases h
    · rfl
  rw [he] at hr ⊢
  unfold chk at hc hr ⊢
  by_cases h1 : formB 2 (st : Int) 1 true false = false
  · rw [if_pos h1] at hc; cases hc
  · rw [if_neg h1] at hc hr ⊢
    by_cases h2 : a % (1 : Int).toNat ≠ 0
    · rw [if_pos h2] at hc; cases hc
    · rw [if_neg h2] at hc hr ⊢
      by_cases h3 : (whereN a).1 = 0
      · rw [if_pos h3] at hc; cases hc
      · rw [if_neg h3] at hc hr ⊢
        by_cases h4 : hasB (mayW 2 (st : Int) (whereN a).1) (letB true false) = false
        · rw [if_pos h4] at hc; cases hc
        · rw [if_neg h4] at hr ⊢
          rcases hr with e | e | e | e | e
          · exact .inl e
          · exact .inr (.inl e)
          · rw [show (whereN a).1 = 3 from e] at h4
            rcases hst with rfl | rfl | rfl
            · exact absurd (by decide +kernel) h4
            · exact absurd (by decide +kernel) h4
            · exact absurd (by decide +kernel) h4
          · exact .inr (.inr e)
          · rw [show (whereN a).1 = 5 from e] at h4
            rcases hst with rfl | rfl | rfl
            · exact absurd (by decide +kernel) h4
            · exact absurd (by decide +kernel) h4
            · exact absurd (by decide +kernel) h4

set_option maxHeartbeats 1000000 in
theorem uses_any (k : Nat) (w : World) : Calls Tryz.prog 122 #[.int .u8 (k : Int)] w (fun e w' => e = .returned (.bool (decide (k = 2 ∨ k = 3 ∨ k = 4 ∨ k = 6))) ∧ w = w') := by
  obtain ⟨b, hb⟩ : ∃ b, decide (k = 2 ∨ k = 3 ∨ k = 4 ∨ k = 6) = b := ⟨_, rfl⟩
  rw [hb]
  have HBB := wall hb
  clear hb
  go_enter Tryz.func122, Tryz.ntmps122
  go_wp2_with fail
  all_goals go_light
  all_goals go_ret
  all_goals refine ⟨congrArg (fun q => Ending.returned (Value.bool q)) ?_, rfl⟩
  all_goals rw [← HBB.out]
  all_goals first | exact (decide_eq_true (by omega)).symm | (rw [Bool.eq_iff_iff]; simp; omega)
/-- What a job does, of what is made: the error, the space, the engine then. -/
def doR (v : SpV) (F vs : List Nat) (ls : List Bool) (ev : EnV) (j : Jb) (R : Nat × List Nat × EnV) : Nat × SpV × EnV :=
  if rightE j ≠ 0 then (rightE j, v, ev)
  else if (inpR v F vs ls j).1 ≠ 0 then ((inpR v F vs ls j).1, v, ev)
  else if R.1 ≠ 0 then (R.1, v, R.2.2)
  else ((stR v 2 j.d R.2.1).1, (stR v 2 j.d R.2.1).2, if (stR v 2 j.d R.2.1).1 = 0 ∧ keyedJ j = true then { R.2.2 with k := R.2.2.k + 1 } else R.2.2)
def DoE (g ge s : Nat) (X : Nat × SpV × EnV) (w : World) (e : Ending) (w' : World) : Prop := e = .returned (.int .i64 (X.1 : Int)) ∧ Sp w' g X.2.1 ∧ Eg w' ge s X.2.2 ∧ Frm [g, ge, s] w w'
/-- What must not be the space's, nor the engine's. -/
structure Far (g f pf c p b ge s : Nat) : Prop where
  g : g ≠ ge ∧ g ≠ s
  f : f ≠ ge ∧ f ≠ s
  pf : pf ≠ ge ∧ pf ≠ s
  c : c ≠ ge ∧ c ≠ s
  p : p ≠ ge ∧ p ≠ s
  b : b ≠ ge ∧ b ≠ s
  v : 3 ≠ ge ∧ 3 ≠ s
theorem sw_frm {w w' : World} {g f pf c p b ge s : Nat} {v : SpV} {F vs : List Nat} {ls : List Bool} {sd : Bool} (h : Sw w g f pf c p b v F vs ls sd) (hf : Frm [ge, s] w w') (ha : Far g f pf c p b ge s) : Sw w' g f pf c p b v F vs ls sd := by
  obtain ⟨T, k1, k2⟩ := h.hF
  exact ⟨h.ok, Blk.frm h.sp hf (by simp; exact ha.g), h.fl, h.ch, ⟨T, k1.frm hf (by simp; exact ha.f), k2.frm hf (by simp; exact ha.pf)⟩, h.fb, h.fn, h.hC.frm hf (by simp; exact ha.c) (by simp; exact ha.p) (by simp; exact ha.b)⟩
theorem inp_ok {v : SpV} {F vs : List Nat} {ls : List Bool} {j : Jb} (hv : v.Ok) (hF : F.length = 10240) (hb : ∀ x ∈ F, x < 256) (hn : j.n ≤ 1024) (h : (inpR v F vs ls j).1 = 0) : (inpR v F vs ls j).2.1.length ≤ 1024 ∧ (inpR v F vs ls j).2.2.length = 16 ∧ (∀ x ∈ (inpR v F vs ls j).2.1, x < 256) ∧ ∀ x ∈ (inpR v F vs ls j).2.2, x < 256 := by
  have hz : ∀ x ∈ zb, x < 256 := fun x hx => by rw [List.eq_of_mem_replicate hx]; decide
  unfold inpR at h ⊢
  split
  · exact ⟨Nat.zero_le _, rfl, fun x hx => (by simp at hx), hz⟩
  · rename_i h8
    rw [if_neg h8] at h
    split
    · rename_i h3
      rw [if_pos h3] at h
      have := ld_len (who := 2) hv hF hb h
      exact ⟨by rw [this.1]; exact hn, rfl, this.2, hz⟩
    · rename_i h3
      rw [if_neg h3] at h
      have h0 : (ldR v F vs ls 2 j.s j.n).1 = 0 := by omega
      have h1 := ld_len (who := 2) hv hF hb h0
      split
      · rename_i h4
        rw [if_pos h4] at h
        exact absurd h h4
      · rename_i h4
        have h2 := ld_len (who := 2) (vs := vs) (ls := ls) (a := j.a) (n := 16) hv hF hb (by omega)
        exact ⟨by rw [h1.1]; exact hn, h2.1, h1.2, h2.2⟩
theorem ld_byte {v : SpV} {F vs : List Nat} {ls : List Bool} {who : Int} {a n : Nat} (hv : v.Ok) (hF : F.length = 10240) (hb : ∀ x ∈ F, x < 256) : ∀ x ∈ (ldR v F vs ls who a n).2, x < 256 := by
  by_cases h : (ldR v F vs ls who a n).1 = 0
  · exact (ld_len hv hF hb h).2
  · have : (ldR v F vs ls who a n).2 = [] := by
      unfold ldR at h ⊢
      split
      · rfl
      · rename_i h0
        rw [if_neg h0] at h
        split
        · rfl
        · rename_i h1
          rw [if_neg h1] at h
          split
          · rename_i h2; rw [if_pos h2] at h; exact absurd rfl h
          · rename_i h2
            rw [if_neg h2] at h
            split
            · rename_i h3
              rw [if_pos h3] at h
              unfold fuR at h ⊢
              split
              · rfl
              · rename_i h4; rw [if_neg h4] at h; exact absurd rfl h
            · rename_i h3; rw [if_neg h3] at h; exact absurd rfl h
    rw [this]
    simp
end Eng
end Go.Proofs.YtmiaabpnolebhaaGreatDoor

/-
  Package engine: Do of whatever is made.
-/
namespace Go.Proofs.YtmiaabpnolebhaaGreatDoor
open Go.RowKit

namespace Eng
open Otp Sha R1 Slot Spc Grant
theorem inp_vb {v : SpV} {F vs : List Nat} {ls : List Bool} (j : Jb) (h : (inpR v F vs ls j).1 ≠ 0) : (inpR v F vs ls j).2.2.length = 16 := by
  unfold inpR at h ⊢
  (repeat' split)
  · rfl
  · rfl
  · rfl
  · rename_i h1 h2 h3
    rw [if_neg h1, if_neg h2, if_neg h3] at h
    exact absurd rfl h
theorem own_nil {w : World} {B : Nat} {A : Option Addr} {n c : Nat} {l : List Nat} (h : OwnB w B (.slice A n c) l) : A = none → c = 0 := by
  rintro rfl
  rcases h.2 with hn | ⟨q, cap, cur, hv, _⟩
  · simp at hn; omega
  · cases hv
set_option maxRecDepth 100000 in
set_option maxHeartbeats 4000000 in
theorem do_of (g f pf c p b : Nat) (v : SpV) (F vs : List Nat) (ls : List Bool) (sd : Bool) (ge s : Nat) (ev : EnV) (j : Jb) (R : Nat × List Nat × EnV) (w : World) (hT : STab w) (hS : Spans w) (h : Sw w g f pf c p b v F vs ls sd) (he : Eg w ge s ev) (hj : j.Ok) (hst : v.st = 0 ∨ v.st = 1 ∨ v.st = 2) (ha : Far g f pf c p b ge s) (hrl : R.2.1.length ≤ 1000000) (hrk : R.2.2.k ≤ 1000)
    (hm : rightE j = 0 → (inpR v F vs ls j).1 = 0 → ∀ W A n cc, STab W → Eg W ge s ev → (inpR v F vs ls j).2.1.length = n → n ≤ cc → (A = none → cc = 0) → n ≤ 1024 → Nats .u8 256 W W.heap.size A (inpR v F vs ls j).2.1 → (inpR v F vs ls j).2.2.length = 16 → (∀ x ∈ (inpR v F vs ls j).2.2, x < 256) → Calls Tryz.prog 121 #[.pointer (some ⟨ge, 0, none⟩), .agg (jbC j), .slice A n cc, .agg (b8 (inpR v F vs ls j).2.2)] W (MadeOut W ge s R)) :
    Calls Tryz.prog 51 #[.pointer (some ⟨ge, 0, none⟩), .pointer (some ⟨g, 0, none⟩), .agg (jbC j)] w (DoE g ge s (doR v F vs ls ev j R) w) := by
  obtain ⟨J, hJ⟩ : ∃ J, jbC j = J := ⟨_, rfl⟩
  have HJ := wall hJ
  obtain ⟨W1, hW1⟩ : ∃ W, W = w.alloc (.cells J 130) := ⟨_, rfl⟩
  have HW1 := wall hW1
  have HB1 := wall (show Below w.heap.size w W1 by rw [hW1]; exact (Below.refl _ w).alloc (Nat.le_refl _) _)
  have KJ1 := wall (show Blk W1 w.heap.size 130 J by rw [hW1]; exact Blk.new w _ _)
  have HSI := wall (show (Tryz.prog.info? 130).map (·.size) = some J.size by rw [← hJ]; kernel_rfl)
  have HRI := wall (fun W => right_any j W hj)
  have H1 := wall (h.old HB1.out)
  have HE1 := wall (he.old HB1.out)
  have HT1 := wall (hT.old HB1.out)
  have HS1 := wall (hS.old HB1.out)
  have HJO := wall hj
  have HA := wall ha
  have HLT := wall (And.intro he.lt (show g < w.heap.size from Blk.lt h.sp))
  have hwf : (Lit.int .i64 v.st).wf = true := by rcases hst with e | e | e <;> rw [e] <;> decide
  have HIN := wall (fun (hr : rightE j = 0) W (q : Sw W g f pf c p b v F vs ls sd) (qs : Spans W) => input_any g f pf c p b v F vs ls sd j W q hj (by
    unfold rightE at hr
    (repeat' (split at hr)) <;> omega) hwf qs (fun a e => (ld_len q.ok q.fn q.fb e).1) (fun a n => ld_byte q.ok q.fn q.fb))
  have HIO := wall (fun (hr : rightE j = 0) (e : (inpR v F vs ls j).1 = 0) => inp_ok (j := j) h.ok h.fn h.fb (by
    unfold rightE at hr
    (repeat' (split at hr)) <;> omega) e)
  have HM := wall hm
  have HRL := wall (And.intro hrl hrk)
  have HVL := wall (show (inpR v F vs ls j).1 ≠ 0 → (inpR v F vs ls j).2.2.length = 16 from fun q => inp_vb j q)
  have HST := wall (fun W A n cc q (ok : v.Ok) (k : Sp W g v) (hl : q.length = n) (hn : n ≤ 1000000) (hp : Nats .u8 256 W W.heap.size A q) (qs : Spans W) => store_any g v 2 (j.d : Int) j.d A n cc q W ok k rfl (by have := hj.d; omega) hl hn hp (by decide) hwf qs (fun e0 => by
    rcases hst with e | e | e <;> rw [e] at e0 ⊢
    · exact dma_reg j.d n 0 (.inl rfl) e0
    · exact dma_reg j.d n 1 (.inr (.inl rfl)) e0
    · exact dma_reg j.d n 2 (.inr (.inr rfl)) e0))
  obtain ⟨X, hX⟩ : ∃ X, doR v F vs ls ev j R = X := ⟨_, rfl⟩
  have HX := wall hX
  unfold doR at HX
  rw [hX, hJ]
  rw [hJ] at HRI HIN HM
  unfold RightOut at HRI
  unfold InpOut at HIN
  obtain ⟨⟨E, Y, VB⟩, hI⟩ : ∃ y, inpR v F vs ls j = y := ⟨_, rfl⟩
  rw [hI] at HIN HIO HM HX HVL
  simp only at HIN HIO HM HX HVL
  obtain ⟨ER, hER⟩ : ∃ y, rightE j = y := ⟨_, rfl⟩
  rw [hER] at HRI HIN HIO HM HX
  clear hJ hW1 hT hS h he hj hst ha hm hwf hrl hrk hX hI hER
  go_enter Tryz.func51, Tryz.ntmps51
  go_upto_region 1 with fail
  change Code.wp _ _ _ _ (w.alloc (.cells J 130))
  rw [← HW1.out]
  go_wp2_with (refine wpList_load_row rfl 130 _ rfl w.heap.size rfl 130 J (0, 0) _ KJ1.out Tryz.underlying130 rfl HSI.out ?_)
  (with_reducible refine (HRI.out _).mono ?_); rintro e w2 ⟨rfl, hB2⟩
  have HB2 := wall (below_then HB1.out hB2 (Nat.le_refl _))
  have KJ2 := wall (KJ1.out.next hB2 rfl)
  have H2 := wall (H1.out.old hB2)
  have HE2 := wall (HE1.out.old hB2)
  have HT2 := wall (HT1.out.old hB2)
  have HS2 := wall (HS1.out.old hB2)
  clear hB2 HRI HW1 HB1 KJ1 H1 HE1 HT1 HS1
  try simp only [Act.put, List.setIfInBounds_toArray, List.set_cons_zero, List.set_cons_succ]
  by_cases h0 : ER = 0
  · subst h0
    have HX2 := wall (show (if E ≠ 0 then (E, v, ev) else if R.1 ≠ 0 then (R.1, v, R.2.2) else ((stR v 2 j.d R.2.1).1, (stR v 2 j.d R.2.1).2, if (stR v 2 j.d R.2.1).1 = 0 ∧ keyedJ j = true then { R.2.2 with k := R.2.2.k + 1 } else R.2.2)) = X by have := HX.out; rw [if_neg (by decide)] at this; exact this)
    have HIN2 := wall (HIN.out rfl _ H2.out HS2.out)
    clear HX HIN
    go_wp2_with (refine wpList_load_row rfl 130 _ rfl w.heap.size rfl 130 J (0, 0) _ KJ2.out Tryz.underlying130 rfl HSI.out ?_)
    (with_reducible refine (HIN2.out).mono ?_); rintro e w3 ⟨u, rfl, hO3, hB3⟩
    have HB3 := wall (below_then HB2.out hB3 (Nat.le_refl _))
    have KJ3 := wall (KJ2.out.next hB3 rfl)
    have H3 := wall (H2.out.old hB3)
    have HE3 := wall (HE2.out.old hB3)
    have HT3 := wall (HT2.out.old hB3)
    have HS3 := wall (HS2.out.old hB3)
    have HO3 := wall hO3
    clear hB3 hO3 HIN2 HB2 KJ2 H2 HE2 HT2 HS2
    try simp only [Act.put, List.setIfInBounds_toArray, List.set_cons_zero, List.set_cons_succ]
    by_cases hE : E = 0
    · subst hE
      have HI := wall (HIO.out (by simp) rfl)
      have HX3 := wall (show (if R.1 ≠ 0 then (R.1, v, R.2.2) else ((stR v 2 j.d R.2.1).1, (stR v 2 j.d R.2.1).2, if (stR v 2 j.d R.2.1).1 = 0 ∧ keyedJ j = true then { R.2.2 with k := R.2.2.k + 1 } else R.2.2)) = X by have := HX2.out; rw [if_neg (by decide)] at this; exact this)
      have HM2 := wall (HM.out (by simp) rfl)
      have HVS := wall (show (Tryz.prog.info? 120).map (·.size) = some (b8 VB).size by rw [b8_size, HI.out.2.1]; exact blk_info)
      have HVZ := wall (show (b8 zb).size = (b8 VB).size by rw [b8_size, b8_size, HI.out.2.1]; rfl)
      clear HX2 HM HIO
      obtain ⟨A3, c3, rfl, hc3, hN3, hA3⟩ := own_nats HO3.out HI.out.2.2.1
      obtain ⟨n, hn⟩ : ∃ y, Y.length = y := ⟨_, rfl⟩
      rw [hn] at hc3 ⊢
      have HNL := wall hn
      have HNIL := wall (own_nil HO3.out)
      have HN3 := wall (And.intro hc3 hN3)
      clear hn hc3 hN3 hA3
      go_upto_region 7 with (refine wpList_new_row rfl 120 (.tmp 9) (.tmp 28) rfl w3.heap.size (b8 VB) rfl rfl 120 (b8 zb) (Blk.new _ _ _) HVS.out HVZ.out (b8_one _) w3.heap.size w3 ((Below.refl _ w3).alloc (Nat.le_refl _) _) (Nat.le_refl _) ?_; intro w4 K4 B4)
      have HB4 := wall (below_then HB3.out B4.out (Nat.le_refl _))
      have KJ4 := wall (KJ3.out.next B4.out rfl)
      have H4 := wall (H3.out.old B4.out)
      have HE4 := wall (HE3.out.old B4.out)
      have HT4 := wall (HT3.out.old B4.out)
      have HS4 := wall (HS3.out.old B4.out)
      have HN4 := wall (nats_step HN3.out.2 B4.out)
      have hnc : A3 = none → c3 = 0 := HNIL.out
      have HM4 := wall (HM2.out w4 A3 n c3 HT4.out HE4.out HNL.out HN3.out.1 hnc (by rw [← HNL.out]; exact HI.out.1) HN4.out HI.out.2.1 HI.out.2.2.2)
      unfold MadeOut at HM4
      clear B4 HB3 KJ3 H3 HE3 HT3 HS3 HN3 HM2 hnc
      try simp only [Act.put, List.setIfInBounds_toArray, List.set_cons_zero, List.set_cons_succ]
      go_wp2_with (first | refine wpList_load_row rfl 130 _ rfl w.heap.size rfl 130 J (0, 0) _ KJ4.out Tryz.underlying130 rfl HSI.out ?_ | refine wpList_load_row rfl 120 _ rfl w3.heap.size rfl 120 (b8 VB) (0, 0) _ K4.out Tryz.underlying120 rfl HVS.out ?_)
      (with_reducible refine (HM4.out).mono ?_); rintro e w5 ⟨A5, n5, c5, rfl, hq5, hE5, hF5⟩
      have HQ5 := wall hq5
      have HE5 := wall hE5
      have H5 := wall (sw_frm H4.out hF5 HA.out)
      have HS5 := wall (show Spans w5 by obtain ⟨ty, k⟩ := HS4.out; exact ⟨ty, k.frm hF5 (by simp; exact HA.out.v)⟩)
      have HJ5 := wall (show Blk w5 w.heap.size 130 J from KJ4.out.frm hF5 (by have := HLT.out; simp; omega))
      have HF5 := wall (show Frm [g, ge, s] w w5 from (Frm.of_below HB4.out).trans (hF5.mono (fun x hx _ => List.mem_cons_of_mem _ hx)))
      clear hq5 hE5 hF5 HM4 H4 HE4 HS4 KJ4 HB4 K4 HN4 HT4
      try simp only [Act.put, List.setIfInBounds_toArray, List.set_cons_zero, List.set_cons_succ]
      by_cases hR : R.1 = 0
      · have HX4 := wall (show ((stR v 2 j.d R.2.1).1, (stR v 2 j.d R.2.1).2, if (stR v 2 j.d R.2.1).1 = 0 ∧ keyedJ j = true then { R.2.2 with k := R.2.2.k + 1 } else R.2.2) = X by have := HX3.out; rw [if_neg (by rw [hR]; decide)] at this; exact this)
        obtain ⟨hl5, hc5, -, hN5⟩ := HQ5.out hR
        have hR' : ((R.1 : Nat) : Int) = 0 := by omega
        have HST5 := wall (HST.out w5 A5 n5 c5 R.2.1 H5.out.ok H5.out.sp hl5 (by have := HRL.out.1; omega) hN5 HS5.out)
        unfold StOut at HST5
        obtain ⟨⟨E6, v6⟩, hS6⟩ : ∃ y, stR v 2 j.d R.2.1 = y := ⟨_, rfl⟩
        rw [hS6] at HST5 HX4
        simp only at HST5 HX4
        obtain ⟨-, -, -, -, -, k5, -, -, -⟩ := jb_cells HJ.out HJ5.out
        clear HX3 hR hl5 hc5 hN5 hS6 HST HQ5
        go_wp2_with fail
        (with_reducible refine (HST5.out).mono ?_); rintro e w6 ⟨rfl, hS6, hF6⟩
        have HE6 := wall (show Eg w6 ge s R.2.2 from HE5.out.frm hF6 (by simp; exact fun e => HA.out.g.1 e.symm) (by simp; exact fun e => HA.out.g.2 e.symm))
        have HJ6 := wall (show Blk w6 w.heap.size 130 J from HJ5.out.frm hF6 (by have := HLT.out; simp; omega))
        have HF6 := wall (show Frm [g, ge, s] w w6 from HF5.out.trans (hF6.mono (fun x hx _ => by obtain rfl := List.mem_singleton.1 hx; exact List.mem_cons_self)))
        have HS6 := wall hS6
        obtain ⟨k0, -, -, -, -, -, -, -, -⟩ := jb_cells HJ.out HJ6.out
        clear hS6 hF6 HST5 HE5 H5 HS5 HJ5 HF5 k5
        try simp only [Act.put, List.setIfInBounds_toArray, List.set_cons_zero, List.set_cons_succ]
        by_cases h6 : E6 = 0
        · subst h6
          have HU := wall (fun W => uses_any j.k W)
          obtain ⟨u, hu⟩ : ∃ u, decide (j.k = 2 ∨ j.k = 3 ∨ j.k = 4 ∨ j.k = 6) = u := ⟨_, rfl⟩
          have HX5 := wall (show (0, v6, if u = true then { R.2.2 with k := R.2.2.k + 1 } else R.2.2) = X by
            have h := HX4.out
            unfold keyedJ at h
            rw [hu] at h
            simpa using h)
          rw [hu] at HU
          have kk := HE6.out.keyed
          have fk := HE6.out.blk.frozen 161
          clear HX4 hu
          go_wp2_with fail
          (with_reducible refine (HU.out _).mono ?_); rintro e w7 ⟨rfl, rfl⟩
          clear HU
          try simp only [Act.put, List.setIfInBounds_toArray, List.set_cons_zero, List.set_cons_succ]
          cases u with
          | true =>
            have hk1 : ((R.2.2.k : Nat) : Int) ≤ 1000 := by have := HRL.out.2; omega
            have hge : ge < w6.heap.size := HE6.out.lt.1
            go_wp2_with fail
            go_light
            go_ret
            rw [← HX5.out]
            have hp := HE6.out.put_k (R.2.2.k + 1)
            have hf : Frm [g, ge, s] w (w6.setCell ⟨ge, 161, none⟩ (.int .i64 ((R.2.2.k + 1 : Nat) : Int))) := HF6.out.setCell (p := ⟨ge, 161, none⟩) (.inl (by simp)) _
            have hs : Sp (w6.setCell ⟨ge, 161, none⟩ (.int .i64 ((R.2.2.k + 1 : Nat) : Int))) g v6 := Blk.far' HS6.out ge 161 HA.out.g.1 _
            exact ⟨rfl, hs, hp, hf⟩
          | false =>
            go_wp2_with fail
            go_light
            go_ret
            rw [← HX5.out]
            exact ⟨rfl, HS6.out, HE6.out, HF6.out⟩
        · have HXX := wall (show X = (E6, v6, R.2.2) by have := HX4.out; rw [if_neg (fun q => h6 q.1)] at this; exact this.symm)
          have hne : ((E6 : Int) == 0) = false := by rw [beq_eq_false_iff_ne]; omega
          have hne' : ¬ (E6 : Int) = 0 := by omega
          clear HX4 h6
          go_wp2_with fail
          go_light
          go_ret
          rw [HXX.out]
          exact ⟨rfl, HS6.out, HE6.out, HF6.out⟩
      · have HXX := wall (show X = (R.1, v, R.2.2) by have := HX3.out; rw [if_pos hR] at this; exact this.symm)
        have hne : ((R.1 : Int) != 0) = true := by rw [bne_iff_ne]; omega
        have hne' : ¬ (R.1 : Int) = 0 := by omega
        clear HX3 hR
        go_wp2_with fail
        go_light
        go_ret
        rw [HXX.out]
        exact ⟨rfl, H5.out.sp, HE5.out, HF5.out⟩
    · have HXX := wall (show X = (E, v, ev) by have := HX2.out; rw [if_pos hE] at this; exact this.symm)
      have hne : ((E : Int) != 0) = true := by rw [bne_iff_ne]; omega
      have hne' : ¬ (E : Int) = 0 := by omega
      have HVS := wall (show (Tryz.prog.info? 120).map (·.size) = some (b8 VB).size by rw [b8_size, HVL.out hE]; exact blk_info)
      have HVZ := wall (show (b8 zb).size = (b8 VB).size by rw [b8_size, b8_size, HVL.out hE]; rfl)
      clear HX2 hE HM HIO
      go_upto_region 7 with (refine wpList_new_row rfl 120 (.tmp 9) (.tmp 28) rfl w3.heap.size (b8 VB) rfl rfl 120 (b8 zb) (Blk.new _ _ _) HVS.out HVZ.out (b8_one _) w3.heap.size w3 ((Below.refl _ w3).alloc (Nat.le_refl _) _) (Nat.le_refl _) ?_; intro w4 K4 B4)
      go_wp2_with fail
      go_light
      go_ret
      rw [HXX.out]
      exact ⟨rfl, (H3.out.old B4.out).sp, HE3.out.old B4.out, Frm.of_below (below_then HB3.out B4.out (Nat.le_refl _))⟩
  · have HXX := wall (show X = (ER, v, ev) by have := HX.out; rw [if_pos h0] at this; exact this.symm)
    have hne : ((ER : Int) != 0) = true := by rw [bne_iff_ne]; omega
    have hne' : ¬ (ER : Int) = 0 := by omega
    clear HX h0 HM HIO HIN
    go_wp2_with fail
    go_light
    go_ret
    rw [HXX.out]
    exact ⟨rfl, H2.out.sp, HE2.out, Frm.of_below HB2.out⟩
end Eng
end Go.Proofs.YtmiaabpnolebhaaGreatDoor
