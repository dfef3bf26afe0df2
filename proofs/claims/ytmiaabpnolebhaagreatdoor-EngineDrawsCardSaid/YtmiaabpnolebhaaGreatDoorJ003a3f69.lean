/-
  Texts of this claim, joined: R1Roots, QTail, R1Press.
-/
import Derived.Test.YtmiaabpnolebhaaGreatDoorShaPress
set_option linter.unusedSimpArgs false
set_option linter.unusedVariables false
/-
  The reference's table of the rounds (curtilageref01.roots), and what a block's words are, one by one.
-/
namespace Go.Proofs.YtmiaabpnolebhaaGreatDoor
open Go.RowKit

namespace Sha
open Otp R1
theorem sc_at (ws : List Nat) (k : Nat) {i x : Nat} (h : (sc ws k)[i]? = some x) : ∀ j, (sc ws (k + j))[i]? = some x
  | 0 => h
  | j + 1 => by
    have := sc_at ws k h j
    rw [← Nat.add_assoc, sc, List.getElem?_append_left (List.getElem?_eq_some_iff.1 this).1]
    exact this
theorem sched_lo {bs : List Nat} {i x : Nat} (h : (words4 bs)[i]? = some x) : (sched bs)[i]? = some x := by
  have := sc_at (words4 bs) 0 (i := i) (x := x) h 48
  rwa [Nat.zero_add] at this
theorem sched_hi {bs : List Nat} (hl : bs.length = 64) {k a b c d : Nat} (hk : k < 48) (ha : (sched bs)[k]? = some a) (hb : (sched bs)[k + 1]? = some b) (hc : (sched bs)[k + 9]? = some c) (hd : (sched bs)[k + 14]? = some d) :
    (sched bs)[16 + k]? = some (nxt a b c d) := by
  have hwl : (words4 bs).length = 16 := by rw [words4_length, hl]
  have hln : (sc (words4 bs) k).length = 16 + k := by rw [sc_length, hwl]
  have hx : ∀ j y, j < 16 → (sched bs)[k + j]? = some y → (sc (words4 bs) k)[k + j]? = some y := fun j y hj hy => by
    obtain ⟨z, hz⟩ : ∃ z, (sc (words4 bs) k)[k + j]? = some z := ⟨_, List.getElem?_eq_getElem (by omega)⟩
    have h2 := sc_at _ k hz (48 - k)
    rw [show k + (48 - k) = 48 by omega] at h2
    rw [sched_eq, h2] at hy
    cases hy
    exact hz
  have hn := sc_next (hx 0 a (by omega) ha) (hx 1 b (by omega) hb) (hx 9 c (by omega) hc) (hx 14 d (by omega) hd)
  have h3 : (sc (words4 bs) (k + 1))[16 + k]? = some (nxt a b c d) := by
    rw [hn, List.getElem?_append_right (by omega), hln, Nat.sub_self]
    rfl
  have h2 := sc_at _ (k + 1) h3 (48 - (k + 1))
  rw [show k + 1 + (48 - (k + 1)) = 48 by omega] at h2
  rw [sched_eq]
  exact h2
theorem made32 (k : Nat) : madeCells #[Value.int .u32 0] k = c32 (List.replicate k 0) := by
  apply Array.ext_getElem?
  intro t
  by_cases ht : t < k
  · rw [made_get _ _ _ ht (by decide), c32_at (x := 0) (by simp [ht])]
    simp [Nat.mod_one]
  · rw [Array.getElem?_eq_none (by simp [madeCells]; omega), Array.getElem?_eq_none (by simp [c32]; omega)]
theorem u32_info : (Tryz.prog.info? 52).map (fun i => (i.zero, i.size, i.bytes)) = some (some (.int .u32 0), 1, 4) := by kernel_rfl
theorem be4_val (a b c d : Nat) : beVal [a, b, c, d] = be4 a b c d := by simp [beVal, be4]; omega
theorem turn_q (k x : Int) (n y r : Nat) (w : World) (hk : k = (n : Int)) (hx : x = y) (hy : y < 4294967296) (h0 : 0 < n) (h1 : n < 32) (hr : rotr y n = r) :
    Calls Tryz.prog 157 #[.int .u32 x, .int .i64 k] w fun e w' => e = .returned (.int .u32 (r : Int)) ∧ ∃ m, w' = w.drewN m := by
  subst hr
  exact turn_any k x n y w hk hx hy h0 h1
set_option maxRecDepth 100000 in
set_option maxHeartbeats 4000000 in
theorem roots_any (w : World) : Calls Tryz.prog 158 #[] w (fun e w' => e = .returned (.agg (c32 rK)) ∧ Below w.heap.size w w') := by
  go_enter Tryz.func158, Tryz.ntmps158
  have KZ := wall (show Blk (w.alloc (.cells (c32 (List.replicate 64 0)) 295)) w.heap.size 295 (c32 (List.replicate 64 0)) from Blk.new _ _ _)
  have HSR := wall (show (Tryz.prog.info? 295).map (·.size) = some (c32 rK).size by rw [c32_size]; exact sched_info)
  have HZR := wall (show (c32 (List.replicate 64 0)).size = (c32 rK).size by rw [c32_size, c32_size]; rfl)
  have HOR := wall (c32_one rK)
  go_upto_region 1 with fail
  change Code.wp _ _ _ _ (w.alloc (.cells (c32 (List.replicate 64 0)) 295))
  generalize hW : w.alloc (.cells (c32 (List.replicate 64 0)) 295) = W at *
  have HB := wall (show Below w.heap.size w W by rw [← hW]; exact (Below.refl _ w).alloc (Nat.le_refl _) _)
  clear hW
  go_wp2_with (refine wpList_store_row rfl 295 (.tmp 0) _ rfl w.heap.size (c32 rK) rfl rfl 295 (c32 (List.replicate 64 0)) KZ.out HSR.out HZR.out HOR.out ?_)
  have hb := setRow_heap _ _ _ (c32 rK) _ _ KZ.out
  have hB := below_setRow HB.out (Nat.le_refl _) (c32 rK)
  go_light
  exact bodyPost_ret (v := .agg (c32 rK)) (results_cell_row Tryz.results158 _ _ w.heap.size 295 (c32 rK) (0, 0) _ rfl hb Tryz.underlying295 rfl HSR.out) rfl ⟨rfl, hB⟩
end Sha
end Go.Proofs.YtmiaabpnolebhaaGreatDoor

/-
  A drawn region whose operations only read, or call what leaves a world of one class, but for a tail in one forced order (a store, an append): one walk of the text's order. The library's laws for the two cases (a class of worlds; a tail) put together.
-/
namespace Go.Proofs.YtmiaabpnolebhaaGreatDoor
open Go Go.RowKit

namespace QTail
section
variable {P : Program} {ops : Array Oper} {md : Region.Mode} {C : World → Prop}
/-- The head's operations, in whatever order; then L. -/
def anyHead (P : Program) (md : Region.Mode) (ops : Array Oper) (C : World → Prop) (n : Nat) (L : Array Bool → Act → Prop) : Nat → Array Bool → Act → Prop
  | 0, s, a => L s a
  | k + 1, s, a => Region.ready md ops s ≠ [] ∧ ∀ i ∈ Region.ready md ops s, i < n ∧ qOp P ops C i (anyHead P md ops C n L k (s.setIfInBounds i true)) a
theorem any_of_head {n g : Nat} {L : Array Bool → Act → Prop} {R : Exit → Act → World → Prop} (hL : ∀ s a w, C w → L s a → wpAny P md ops R g s a w) :
    ∀ (k : Nat) (s : Array Bool) (a : Act) (w : World), C w → anyHead P md ops C n L k s a → wpAny P md ops R (k + g) s a w
  | 0, s, a, w, hw, h => by rw [Nat.zero_add]; exact hL _ _ _ hw h
  | k + 1, s, a, w, hw, h => by
    have e : k + 1 + g = k + g + 1 := by omega
    rw [e]
    exact ⟨fun h0 => absurd h0 h.1, fun i hi => wpOp_of_qOp hw (fun a' w' hw' h' => any_of_head hL k _ a' w' hw' h') (h.2 i hi).2⟩
theorem head_first {n i : Nat} {o : Oper} {v : Value} {L : Array Bool → Act → Prop} (hi : ops[i]? = some o) (hsel : ∀ (j : Nat) (o : Oper) cs b, ops[j]? = some o → o.op ≠ .select cs b)
    (hs : Region.sinkB md ops n = true) (hc : Region.chainB md ops n = true) (hn : n < ops.size) (hin : i < n) (hdone : ∀ s a, L s a → ∀ j ∈ Region.ready md ops s, n ≤ j) :
    ∀ (k : Nat) (s : Array Bool) (a : Act), HeadInv md ops n s →
      (∀ j oj, ops[j]? = some oj → j ≠ i → s.getD j true = false → (∀ e ∈ oj.after, Region.binds md e = true → e.on ≠ i) → o.apart ops oj = true) →
      i ∈ Region.ready md ops s → YieldsIn P ops C o v a → anyHead P md ops C n L k (s.setIfInBounds i true) (a.put o.dst v) → anyHead P md ops C n L (k + 1) s a := by
  intro k
  induction k with
  | zero =>
    intro s a inv _ hr hy H
    have hun := (mem_ready.1 hr).1
    refine ⟨fun h => (by rw [h] at hr; cases hr), fun j hj => ?_⟩
    have hjn : j < n := by
      rcases Nat.lt_or_ge j n with h | h
      · exact h
      · exact absurd hj (tail_waits hs hc hn inv _ i rfl hin hun j h)
    refine ⟨hjn, ?_⟩
    by_cases hji : j = i
    · subst hji
      exact hy.qOp hi H
    · have := hdone _ _ H j (ready_mono hj hji)
      omega
  | succ k ih =>
    intro s a inv hfree hr hy H
    have hun := (mem_ready.1 hr).1
    refine ⟨fun h => (by rw [h] at hr; cases hr), fun j hj => ?_⟩
    have hjn : j < n := by
      rcases Nat.lt_or_ge j n with h | h
      · exact h
      · exact absurd hj (tail_waits hs hc hn inv _ i rfl hin hun j h)
    refine ⟨hjn, ?_⟩
    by_cases hji : j = i
    · subst hji
      exact hy.qOp hi H
    · have h1 := (H.2 j (ready_mono hj hji)).2
      obtain ⟨hjun, oj, hoj, hall⟩ := mem_ready.1 hj
      have hnot : ∀ e ∈ oj.after, Region.binds md e = true → e.on ≠ i := fun e he hb heq => by
        have h1 := hall e he hb
        rw [heq, getD_both hun] at h1
        cases h1
      have h2 := qOp_put hoj (hfree j oj hoj hji hjun hnot) (fun cs b => hsel i o cs b hi) (fun cs b => hsel j oj cs b hoj) hy h1
      have hfree' : ∀ t ot, ops[t]? = some ot → t ≠ i → (s.setIfInBounds j true).getD t true = false → (∀ e ∈ ot.after, Region.binds md e = true → e.on ≠ i) → o.apart ops ot = true := fun t ot ht hti hu hno => by
        refine hfree t ot ht hti ?_ hno
        by_cases hjt : j = t
        · subst hjt
          exact hjun
        · rw [getD_set_ne true hjt] at hu
          exact hu
      refine qOp_mono (fun a' h3 => ih (s.setIfInBounds j true) a' (inv.set hj hjn) hfree' (ready_mono hr (Ne.symm hji)) h3.1 ?_) h2
      rw [Array.setIfInBounds_comm _ _ hji]
      exact h3.2
theorem head_lex {n g : Nat} {Lq : Act → Prop} (hsel : Region.noSelect ops = true) (hs : Region.sinkB md ops n = true) (hc : Region.chainB md ops n = true) (hn : n < ops.size) :
    ∀ (l : List Oper) (k : Nat) (s : Array Bool) (a : Act), (∀ j, j < l.length → l[j]? = ops[k + j]?) → k + l.length = n → HeadInv md ops n s →
    Region.lexHead md ops g l.length k s = true → wpQuiet P ops C Lq l a → anyHead P md ops C n (fun s' a' => Region.seqB md ops g n s' = true ∧ Lq a') l.length s a
  | [], k, s, a, _, hk, _, hB, h => by
    have : k = n := by simpa using hk
    subst this
    exact ⟨by simpa [Region.lexHead] using hB, h⟩
  | o :: l, k, s, a, hl, hk, inv, hB, h => by
    have h0 : ops[k]? = some o := by simpa using (hl 0 (by simp)).symm
    simp only [List.length_cons, Region.lexHead, Bool.and_eq_true] at hB
    obtain ⟨⟨hr, hf⟩, hB'⟩ := hB
    have hkn : k < n := by simp only [List.length_cons] at hk; omega
    have hr' : k ∈ Region.ready md ops s := by simpa using hr
    have hq : qOp P ops C k (wpQuiet P ops C Lq l) a := by unfold qOp; simp only [h0]; exact h
    obtain ⟨v, hy, hK⟩ := yieldsIn_of_qOp h0 hq
    exact head_first h0 (Region.noSelect_spec hsel) hs hc hn hkn (fun s' a' hL => seqB_ready hL.1) l.length s a inv (Region.free_spec h0 hf) hr' hy
      (head_lex hsel hs hc hn l (k + 1) _ _ (fun j hj => by have := hl (j + 1) (by simp; omega); simpa [Nat.add_assoc, Nat.add_comm 1 j] using this) (by simp only [List.length_cons] at hk; omega) (inv.set hr' hkn) hB' hK)
theorem wp_region_quiet_tail {id : Nat} {Q : Exit → Act → World → Prop} {a : Act} {w : World} {l : List Oper} (n : Nat) (hm : P.follows .mixedOrders = true) (hB : Region.lexTailB .any l.toArray n = true) (hC : C { w with drawn := w.drawn + 1 })
    (h : wpQuiet P l.toArray C (fun a' => ∀ w', C w' → wpList P l.toArray Q (l.drop n) a' w') (l.take n) a) : (Code.region id l.toArray true).wp P Q a w := by
  simp only [Region.lexTailB, Bool.and_eq_true, decide_eq_true_eq] at hB
  obtain ⟨⟨⟨⟨hsel, hn⟩, hs⟩, hc⟩, hlex⟩ := hB
  have hn' : n < l.length := by simpa using hn
  have htl : (l.take n).length = n := by simp; omega
  have hdl : (l.drop n).length = l.toArray.size - n := by simp
  have inv0 : HeadInv .any l.toArray n (Array.replicate l.toArray.size false) :=
    ⟨by simp, fun j oj _ hl => (by rw [getD_replicate_false] at hl; cases hl), fun t _ ht => getD_in (by simpa using ht) (getD_replicate_false _ _)⟩
  have H := head_lex (C := C) (md := .any) (g := l.toArray.size - n) hsel hs hc hn (l.take n) 0 _ a (fun j hj => by
    have hj' : j < n := by rw [htl] at hj; exact hj
    simp [hj']) (by simpa using htl) inv0 (by rw [htl]; exact hlex) h
  refine wp_region_any hm ?_
  have := any_of_head (C := C) (R := Q) (g := l.toArray.size - n) (fun s a' w' hw' hL => by
    have := wpAny_of_seq (md := .any) (Q' := Q) (l.drop n) n s a' w' (fun j => by simp [List.getElem?_drop]) (by rw [hdl]; exact hL.1) (hL.2 w' hw')
    rwa [hdl] at this) _ _ _ { w with drawn := w.drawn + 1 } hC H
  rw [htl, show n + (l.toArray.size - n) = l.toArray.size by omega] at this
  exact this
/-- At the class 'w, some draws on'. -/
theorem wp_quiet_tail {id : Nat} {Q : Exit → Act → World → Prop} {a : Act} {w : World} {l : List Oper} (n : Nat) (hm : P.follows .mixedOrders = true) (hB : Region.lexTailB .any l.toArray n = true)
    (h : wpQuiet P l.toArray (fun w' => ∃ n, w' = w.drewN n) (fun a' => ∀ w', (∃ n, w' = w.drewN n) → wpList P l.toArray Q (l.drop n) a' w') (l.take n) a) : (Code.region id l.toArray true).wp P Q a w :=
  wp_region_quiet_tail (C := fun w' => ∃ n, w' = w.drewN n) n hm hB ⟨1, rfl⟩ h
/-- At the class 'w, new blocks behind it'. -/
theorem wp_below_tail {id : Nat} {Q : Exit → Act → World → Prop} {a : Act} {w : World} {l : List Oper} (n : Nat) (hm : P.follows .mixedOrders = true) (hB : Region.lexTailB .any l.toArray n = true)
    (h : wpQuiet P l.toArray (fun w' => ∃ p : Regrown, w' = Sort.grow (redrawn w p.d) p.os) (fun a' => ∀ w', (∃ p : Regrown, w' = Sort.grow (redrawn w p.d) p.os) → wpList P l.toArray Q (l.drop n) a' w') (l.take n) a) : (Code.region id l.toArray true).wp P Q a w :=
  wp_region_quiet_tail (C := fun w' => ∃ p : Regrown, w' = Sort.grow (redrawn w p.d) p.os) n hm hB ⟨⟨w.drawn + 1, #[]⟩, by rw [Sort.grow_empty]; rfl⟩ h
end
end QTail
end Go.Proofs.YtmiaabpnolebhaaGreatDoor

/-
  The reference's Press (curtilageref01): it is the plain one.
-/
namespace Go.Proofs.YtmiaabpnolebhaaGreatDoor
open Go.RowKit

namespace Sha
open Otp R1
set_option maxRecDepth 100000 in
set_option maxHeartbeats 8000000 in
theorem rpress_any (hs bs : List Nat) (A : Option Addr) (cap : Nat) (w : World) (hl : hs.length = 8) (hw : ∀ x ∈ hs, x < 4294967296) (bl : bs.length = 64) (hcap : 64 ≤ cap) (hz : Nats .u8 256 w w.heap.size A bs) :
    Calls Tryz.prog 83 #[.agg (c32 hs), .slice A 64 cap] w (fun e w' => e = .returned (.agg (c32 (press hs bs))) ∧ Below w.heap.size w w') := by
  obtain ⟨res, hres⟩ : ∃ r, press hs bs = r := ⟨_, rfl⟩
  rw [hres]
  have HE0 := wall hres
  have HL := wall hl
  have HWD := wall hw
  have HBL := wall bl
  have HN := wall hz
  have hA : ∃ b off, A = some ⟨b, off, none⟩ := by
    obtain ⟨x, hx⟩ : ∃ x, bs[0]? = some x := ⟨_, List.getElem?_eq_getElem (by omega)⟩
    obtain ⟨_, b, off, h, _⟩ := hz 0 x hx
    exact ⟨b, off, h⟩
  obtain ⟨b, off, rfl⟩ := hA
  have HSH := wall (show (Tryz.prog.info? 72).map (·.size) = some (c32 hs).size by rw [c32_size, hl]; exact h_info)
  have HWB := wall (show ∀ x ∈ bs, x < 256 from fun x hx => by
    obtain ⟨i, hi⟩ := List.mem_iff_getElem?.1 hx
    exact (hz i x hi).1)
  obtain ⟨ws, hws⟩ : ∃ r, sched bs = r := ⟨_, rfl⟩
  have HWS := wall hws
  have HWL := wall (show ws.length = 64 by rw [← hws]; exact sched_length bl)
  have HWW := wall (show ∀ x ∈ ws, x < 4294967296 by rw [← hws]; exact sched_word HWB.out)
  obtain ⟨i0, hi0, hz0, hz1, hz2⟩ := info_row u32_info
  have hmk := fun W => run_make_rowN (P := Tryz.prog) 55 52 i0 _ Tryz.underlying55 hi0 hz0 .i64 .i64 64 64 (Nat.le_refl _) (by rw [hz2]; omega) (by omega) W
  have e64 : ((64 : Nat) : Int) = 64 := rfl
  rw [hz1] at hmk
  simp only [Nat.mul_one, e64] at hmk
  obtain ⟨W2, hW2⟩ : ∃ W, W = (w.alloc (.cells (c32 hs) 72)).alloc (.cells (c32 (List.replicate 8 0)) 72) := ⟨_, rfl⟩
  have K0 := wall (show Blk W2 w.heap.size 72 (c32 hs) by rw [hW2]; exact (Blk.new w _ _).alloc _)
  have K2 := wall (show Blk W2 (w.heap.size + 1) 72 (c32 (List.replicate 8 0)) by rw [hW2]; exact blk_new' (by simp))
  have HB := wall (show Below w.heap.size w W2 by rw [hW2]; exact ((Below.refl _ w).alloc (Nat.le_refl _) _).alloc (by simp) _)
  have hWs : W2.heap.size = w.heap.size + 1 + 1 := by rw [hW2]; simp
  have hW2' := wall hW2
  have K3 := wall (show Blk (W2.alloc (.cells (madeCells #[Value.int .u32 0] 64) 52)) (w.heap.size + 1 + 1) 52 (c32 (List.replicate 64 0)) by rw [made32, ← hWs]; exact Blk.new _ _ _)
  replace K0 := wall (K0.out.alloc (.cells (madeCells #[Value.int .u32 0] 64) 52))
  replace K2 := wall (K2.out.alloc (.cells (madeCells #[Value.int .u32 0] 64) 52))
  replace HB := wall (HB.out.alloc (by omega) (.cells (madeCells #[Value.int .u32 0] 64) 52))
  clear hl hw bl hz hres hws hW2 hi0 hz0 hz1 hz2 e64
  go_enter Tryz.func83, Tryz.ntmps83
  go_upto_region 1 with fail
  change Code.wp _ _ _ _ ((w.alloc (.cells (c32 hs) 72)).alloc (.cells (c32 (List.replicate 8 0)) 72))
  rw [← hW2'.out]
  clear hW2'
  go_upto_region 2 with fail
  generalize hW3 : W2.alloc (.cells (madeCells #[Value.int .u32 0] 64) 52) = W3 at *
  clear hW3 hmk hWs
  go_wp2_with fail
  go_loopg [6, 24] 64 (fun g s6 s24 wr => ∃ i : Nat, i + g = 64 ∧ s24 = .int .i64 (i : Int) ∧ Wall (Blk wr w.heap.size 72 (c32 hs)) ∧ Wall (Blk wr (w.heap.size + 1) 72 (c32 (List.replicate 8 0))) ∧ Wall (Blk wr (w.heap.size + 1 + 1) 52 (c32 (ws.take i ++ List.replicate (64 - i) 0))) ∧ Wall (Below w.heap.size w wr))
  case atStart => exact ⟨0, by omega, rfl, K0, K2, K3, HB⟩
  case round =>
    clear K0 K2 K3 HB
    obtain ⟨i, hg, rfl, K0, K2, K3, HB⟩ := hrel
    have HG := wall hg
    have hi : i ≤ 64 := by omega
    clear hg
    have HTL := wall (show i < 64 → (ws.take i).length = i from fun h => by rw [List.length_take, HWL.out]; omega)
    by_cases hlt : i < 64
    · obtain ⟨y, hy⟩ : ∃ x, ws[i]? = some x := ⟨_, List.getElem?_eq_getElem (by have := HWL.out; omega)⟩
      have HX := wall (show (ws.take i ++ List.replicate (64 - i) 0).set i y = ws.take (i + 1) ++ List.replicate (64 - (i + 1)) 0 by
        rw [take_snoc hy, List.set_append_right _ _ (by rw [HTL.out hlt]; omega), HTL.out hlt, Nat.sub_self, show 64 - i = 64 - (i + 1) + 1 by omega, List.replicate_succ, List.set_cons_zero, List.append_assoc]
        rfl)
      have yM := HWW.out y (List.mem_of_getElem? hy)
      have hfr : wr.frozen? ⟨w.heap.size + 1 + 1, i, none⟩ = false := K3.out.frozen i
      obtain ⟨old, hold⟩ : ∃ v, wr.cell? ⟨w.heap.size + 1 + 1, i, none⟩ = some v := by
        rw [K3.out.cell]
        refine ⟨_, Array.getElem?_eq_getElem (i := i) ?_⟩
        rw [c32_size, List.length_append, List.length_replicate, HTL.out hlt]
        omega
      have hsz := K3.out.lt
      have HY := wall hy
      clear hy
      by_cases h16 : i < 16
      · have hx : ∀ j, j < 4 → ∃ x, bs[4 * i + j]? = some x := fun j hj => ⟨_, List.getElem?_eq_getElem (by have := HBL.out; omega)⟩
        obtain ⟨x0, h0⟩ := hx 0 (by omega)
        obtain ⟨x1, h1⟩ := hx 1 (by omega)
        obtain ⟨x2, h2⟩ := hx 2 (by omega)
        obtain ⟨x3, h3⟩ := hx 3 (by omega)
        have hye : beVal [x0, x1, x2, x3] = y := by
          have := sched_lo (words4_get bs i x0 x1 x2 x3 h0 h1 h2 h3)
          rw [HWS.out, HY.out] at this
          cases this
          exact be4_val _ _ _ _
        have HNV := wall (show Nats .u8 256 wr wr.heap.size (some ⟨b, off + 4 * i, none⟩) [x0, x1, x2, x3] from by
          have hN := (HN.out.below HB.out).more HB.out.size
          have key : ∀ (j : Nat) (z : Nat), bs[4 * i + j]? = some z → z < 256 ∧ ∃ b' off', some (⟨b, off + 4 * i, none⟩ : Addr) = some ⟨b', off', none⟩ ∧ b' < wr.heap.size ∧ wr.cell? ⟨b', off' + j, none⟩ = some (.int .u8 (z : Int)) := fun j z hz => by
            obtain ⟨hzM, b', off', he, hb', hc⟩ := hN (4 * i + j) z hz
            cases he
            exact ⟨hzM, b, off + 4 * i, rfl, hb', by rw [Nat.add_assoc]; exact hc⟩
          intro j z hz
          match j, hz with
          | 0, hz => cases hz; exact key 0 _ h0
          | 1, hz => cases hz; exact key 1 _ h1
          | 2, hz => cases hz; exact key 2 _ h2
          | 3, hz => cases hz; exact key 3 _ h3)
        have HV := wall (fun W (h : Nats .u8 256 W W.heap.size (some ⟨b, off + 4 * i, none⟩) [x0, x1, x2, x3]) C => value_any (some ⟨b, off + 4 * i, none⟩) 4 C [x0, x1, x2, x3] W W.heap.size rfl (by decide) h)
        rw [hye] at HV
        clear hx h0 h1 h2 h3 hye
        go_wp2_with fail
        (with_reducible refine (HV.out _ HNV.out _).mono ?_); rintro e w2 ⟨rfl, rfl⟩
        go_wp2_with fail
        go_light
        go_roundg (64 - (i + 1))
        case measure => have := HG.out; omega
        case rel =>
          refine ⟨i + 1, by have := HG.out; omega, by go_num, wall ?_, wall ?_, wall ?_, wall ?_⟩
          · exact (K0.out.far' _ _ (by omega) _)
          · exact (K2.out.far' _ _ (by omega) _)
          · have := K3.out.set i (.int .u32 (y : Int))
            rw [c32_set, HX.out] at this
            exact this
          · exact HB.out.setCell (p := ⟨w.heap.size + 1 + 1, i, none⟩) (by show w.heap.size ≤ w.heap.size + 1 + 1; omega) _
      · obtain ⟨k, rfl⟩ : ∃ k, i = 16 + k := ⟨i - 16, by omega⟩
        have hx : ∀ j, j < 16 → ∃ x, ws[k + j]? = some x ∧ x < 4294967296 ∧ wr.cell? ⟨w.heap.size + 1 + 1, k + j, none⟩ = some (.int .u32 (x : Int)) := fun j hj => by
          obtain ⟨x, hx⟩ : ∃ x, ws[k + j]? = some x := ⟨_, List.getElem?_eq_getElem (by have := HWL.out; omega)⟩
          refine ⟨x, hx, HWW.out x (List.mem_of_getElem? hx), ?_⟩
          rw [K3.out.cell]
          refine c32_at ?_
          rw [List.getElem?_append_left (by rw [HTL.out hlt]; omega), List.getElem?_take_of_lt (by omega)]
          exact hx
        obtain ⟨a, ha, haM, hca⟩ := hx 0 (by omega)
        obtain ⟨b1, hb, hbM, hcb⟩ := hx 1 (by omega)
        obtain ⟨c, hc, hcM, hcc⟩ := hx 9 (by omega)
        obtain ⟨d, hd, hdM, hcd⟩ := hx 14 (by omega)
        have hca' : wr.cell? ⟨w.heap.size + 1 + 1, k, none⟩ = some (.int .u32 (a : Int)) := hca
        have hyn : y = nxt a b1 c d := by
          have h := sched_hi (bs := bs) HBL.out (k := k) (a := a) (b := b1) (c := c) (d := d) (by omega) (by rw [HWS.out]; exact ha) (by rw [HWS.out]; exact hb) (by rw [HWS.out]; exact hc) (by rw [HWS.out]; exact hd)
          rw [HWS.out, HY.out] at h
          exact Option.some.inj h
        clear hx ha hca hb hc hd
        obtain ⟨r7, h7⟩ : ∃ r, rotr b1 7 = r := ⟨_, rfl⟩
        obtain ⟨r18, h18⟩ : ∃ r, rotr b1 18 = r := ⟨_, rfl⟩
        obtain ⟨r17, h17⟩ : ∃ r, rotr d 17 = r := ⟨_, rfl⟩
        obtain ⟨r19, h19⟩ : ∃ r, rotr d 19 = r := ⟨_, rfl⟩
        have l7 : r7 < 4294967296 := by rw [← h7]; exact rotr_lt hbM (by decide)
        have l18 : r18 < 4294967296 := by rw [← h18]; exact rotr_lt hbM (by decide)
        have l17 : r17 < 4294967296 := by rw [← h17]; exact rotr_lt hdM (by decide)
        have l19 : r19 < 4294967296 := by rw [← h19]; exact rotr_lt hdM (by decide)
        obtain ⟨q0, hq0⟩ : ∃ q, r7 ^^^ r18 = q := ⟨_, rfl⟩
        obtain ⟨q1, hq1⟩ : ∃ q, r17 ^^^ r19 = q := ⟨_, rfl⟩
        have lq0 : q0 < 4294967296 := by rw [← hq0]; exact xor_lt l7 l18
        have lq1 : q1 < 4294967296 := by rw [← hq1]; exact xor_lt l17 l19
        obtain ⟨u0, hu0⟩ : ∃ q, s0 b1 = q := ⟨_, rfl⟩
        obtain ⟨u1, hu1⟩ : ∃ q, s1 d = q := ⟨_, rfl⟩
        have lu0 : u0 < 4294967296 := by rw [← hu0]; unfold s0; exact xor_lt (xor_lt (rotr_lt hbM (by decide)) (rotr_lt hbM (by decide))) (Nat.lt_of_le_of_lt (Nat.div_le_self _ _) hbM)
        have lu1 : u1 < 4294967296 := by rw [← hu1]; unfold s1; exact xor_lt (xor_lt (rotr_lt hdM (by decide)) (rotr_lt hdM (by decide))) (Nat.lt_of_le_of_lt (Nat.div_le_self _ _) hdM)
        have x0 : bits .xor .u32 (r7 : Int) (r18 : Int) = (q0 : Int) := by rw [u32_xor_nat _ _ l7 l18, hq0]
        have x1 : bits .xor .u32 (r17 : Int) (r19 : Int) = (q1 : Int) := by rw [u32_xor_nat _ _ l17 l19, hq1]
        have y0 : bits .xor .u32 (q0 : Int) ((b1 : Int) / 8) = (u0 : Int) := by
          rw [show (b1 : Int) / 8 = ((b1 / 2 ^ 3 : Nat) : Int) by simp, u32_xor_nat _ _ lq0 (Nat.lt_of_le_of_lt (Nat.div_le_self _ _) hbM), ← hq0, ← h7, ← h18, ← hu0]
          rfl
        have y1 : bits .xor .u32 (q1 : Int) ((d : Int) / 1024) = (u1 : Int) := by
          rw [show (d : Int) / 1024 = ((d / 2 ^ 10 : Nat) : Int) by simp, u32_xor_nat _ _ lq1 (Nat.lt_of_le_of_lt (Nat.div_le_self _ _) hdM), ← hq1, ← h17, ← h19, ← hu1]
          rfl
        have z0 : ((a : Int) + (u0 : Int) + (c : Int) + (u1 : Int)) % 4294967296 = (y : Int) := by
          rw [hyn, ← hu0, ← hu1]
          unfold nxt
          simp
        have H7 := wall (fun W => turn_q 7 _ 7 b1 r7 W (by decide) rfl hbM (by omega) (by omega) h7)
        have H18 := wall (fun W => turn_q 18 _ 18 b1 r18 W (by decide) rfl hbM (by omega) (by omega) h18)
        have H17 := wall (fun W => turn_q 17 _ 17 d r17 W (by decide) rfl hdM (by omega) (by omega) h17)
        have H19 := wall (fun W => turn_q 19 _ 19 d r19 W (by decide) rfl hdM (by omega) (by omega) h19)
        clear h7 h18 h17 h19 hq0 hq1 hu0 hu1 hyn
        have i15 : IntKind.i64.wrap (16 + (k : Int) - 15) = (k : Int) + 1 := by rw [IntWalk.i64_in _ (by omega)]; omega
        have i2 : IntKind.i64.wrap (16 + (k : Int) - 2) = (k : Int) + 14 := by rw [IntWalk.i64_in _ (by omega)]; omega
        have i16 : IntKind.i64.wrap (16 + (k : Int) - 16) = (k : Int) := by rw [IntWalk.i64_in _ (by omega)]; omega
        have i7 : IntKind.i64.wrap (16 + (k : Int) - 7) = (k : Int) + 9 := by rw [IntWalk.i64_in _ (by omega)]; omega
        have b64 : (k : Int) < 64 := by omega
        have b16 : (16 : Int) + (k : Int) < 64 := by omega
        have b1' : (k : Int) + 1 < 64 := by omega
        have b9 : (k : Int) + 9 < 64 := by omega
        have b14 : (k : Int) + 14 < 64 := by omega
        have n16 : (0 : Int) ≤ 16 + (k : Int) := by omega
        have t16 : (16 + (k : Int)).toNat = 16 + k := by omega
        have n1 : (0 : Int) ≤ (k : Int) + 1 := by omega
        have t1' : ((k : Int) + 1).toNat = k + 1 := by omega
        have n9 : (0 : Int) ≤ (k : Int) + 9 := by omega
        have t9 : ((k : Int) + 9).toNat = k + 9 := by omega
        have n14 : (0 : Int) ≤ (k : Int) + 14 := by omega
        have t14 : ((k : Int) + 14).toNat = k + 14 := by omega
        have hn16 : ¬ (16 + (k : Int) < 16) := by omega
        have hk64 : k < 64 := by omega
        clear hlt h16 hi
        go_wp2_with fail
        refine QTail.wp_quiet_tail 55 (by kernel_rfl) (by kernel_rfl) ?_
        simp only [List.take_succ_cons, List.take_zero, List.drop_succ_cons, List.drop_zero]
        repeat (first | go_big_quiet_step ((go_at_call 157; first | with_reducible exact Calls.quiet_of (H7.out _) | with_reducible exact Calls.quiet_of (H18.out _) | with_reducible exact Calls.quiet_of (H17.out _) | with_reducible exact Calls.quiet_of (H19.out _))))
        refine wpQuiet_nil ?_
        intro _ hw'
        obtain ⟨nq, hw''⟩ := hw'
        subst hw''
        go_wp2_with fail
        go_light
        go_roundg (64 - (16 + k + 1))
        case measure => have := HG.out; omega
        case rel =>
          refine ⟨16 + k + 1, by have := HG.out; omega, by go_num, wall ?_, wall ?_, wall ?_, wall ?_⟩
          · exact ((K0.out.drewN _).far' _ _ (by omega) _)
          · exact ((K2.out.drewN _).far' _ _ (by omega) _)
          · have := (K3.out.drewN nq).set (16 + k) (.int .u32 (y : Int))
            rw [c32_set, HX.out] at this
            exact this
          · exact (Below.drewN HB.out _).setCell (p := ⟨w.heap.size + 1 + 1, 16 + k, none⟩) (by show w.heap.size ≤ w.heap.size + 1 + 1; omega) _
    · have hi64 : i = 64 := by omega
      have hni : ¬ ((i : Int) < 64) := by omega
      replace K3 := wall (show Blk wr (w.heap.size + 1 + 1) 52 (c32 ws) by
        have := K3.out
        rw [hi64, List.take_of_length_le (by have := HWL.out; omega), Nat.sub_self, List.replicate_zero, List.append_nil] at this
        exact this)
      clear hi64 HTL hlt hi
      obtain ⟨a0, b0, c0, d0, e0, f0, g0, h0, hhs⟩ := eight HL.out
      subst hhs
      have hok := HWD.out
      simp only [List.mem_cons, List.not_mem_nil, or_false, forall_eq_or_imp, forall_eq] at hok
      have HOK := wall (show (St.mk a0 b0 c0 d0 e0 f0 g0 h0).ok from hok)
      clear hok
      have ca : wr.cell? ⟨w.heap.size, 0, none⟩ = some (.int .u32 (a0 : Int)) := by rw [K0.out.cell]; rfl
      have cb : wr.cell? ⟨w.heap.size, 1, none⟩ = some (.int .u32 (b0 : Int)) := by rw [K0.out.cell]; rfl
      have cc : wr.cell? ⟨w.heap.size, 2, none⟩ = some (.int .u32 (c0 : Int)) := by rw [K0.out.cell]; rfl
      have cd : wr.cell? ⟨w.heap.size, 3, none⟩ = some (.int .u32 (d0 : Int)) := by rw [K0.out.cell]; rfl
      have ce : wr.cell? ⟨w.heap.size, 4, none⟩ = some (.int .u32 (e0 : Int)) := by rw [K0.out.cell]; rfl
      have cf : wr.cell? ⟨w.heap.size, 5, none⟩ = some (.int .u32 (f0 : Int)) := by rw [K0.out.cell]; rfl
      have cg : wr.cell? ⟨w.heap.size, 6, none⟩ = some (.int .u32 (g0 : Int)) := by rw [K0.out.cell]; rfl
      have ch' : wr.cell? ⟨w.heap.size, 7, none⟩ = some (.int .u32 (h0 : Int)) := by rw [K0.out.cell]; rfl
      obtain ⟨gO, rfl⟩ : ∃ q : Nat, q = gk := ⟨_, rfl⟩
      obtain ⟨wO, rfl⟩ : ∃ q : World, q = wr := ⟨_, rfl⟩
      go_wp2_with fail
      go_quiet (fail)
      replace K0 := wall (K0.out.drewN nq)
      replace K2 := wall (K2.out.drewN nq)
      replace K3 := wall (K3.out.drewN nq)
      replace HB := wall (Below.drewN HB.out nq)
      generalize wO.drewN nq = w1 at *
      clear ca cb cc cd ce cf cg ch'
      go_wp2_with fail
      (with_reducible refine (roots_any _).mono ?_); rintro e w5 ⟨rfl, hB⟩
      have k0 := wall (K0.out.next hB rfl)
      have k2 := wall (K2.out.next hB rfl)
      have k3 := wall (K3.out.next hB rfl)
      have HB5 := wall (below_then HB.out hB (Nat.le_refl _))
      clear hB K0 K2 K3 HB
      have HSR := wall (show (Tryz.prog.info? 295).map (·.size) = some (c32 rK).size by rw [c32_size]; exact sched_info)
      have HZR := wall (show (c32 (List.replicate 64 0)).size = (c32 rK).size by rw [c32_size, c32_size]; rfl)
      have HOR := wall (c32_one rK)
      go_upto_region 11 with (refine wpList_new_row rfl 295 (.tmp 15) (.tmp 114) rfl w5.heap.size (c32 rK) rfl rfl 295 (c32 (List.replicate 64 0)) (Blk.new _ _ _) HSR.out HZR.out HOR.out w5.heap.size w5 ((Below.refl _ w5).alloc (Nat.le_refl _) _) (Nat.le_refl _) ?_; intro w6 KR hB6)
      have hw52 : w.heap.size + 1 + 1 < w5.heap.size := k3.out.lt
      have K0 := wall (k0.out.next hB6 rfl)
      have K2 := wall (k2.out.next hB6 rfl)
      have K3 := wall (k3.out.next hB6 rfl)
      have HB := wall (below_then HB5.out hB6 (Nat.le_refl _))
      replace KR := wall KR
      clear hB6 k0 k2 k3 HB5 HSR HZR HOR
      generalize w5.heap.size = bR at *
      go_wp2_with fail
      go_loopg [7, 8, 9, 10, 11, 12, 13, 14, 16, 17, 18, 117] 64 (fun g s7 s8 s9 s10 s11 s12 s13 s14 s16 s17 s18 s117 wr => ∃ i : Nat, i + g = 64 ∧ s117 = .int .i64 (i : Int) ∧ ∃ a b c d e f g h : Nat, s7 = .int .u32 (a : Int) ∧ s8 = .int .u32 (b : Int) ∧ s9 = .int .u32 (c : Int) ∧ s10 = .int .u32 (d : Int) ∧ s11 = .int .u32 (e : Int) ∧ s12 = .int .u32 (f : Int) ∧ s13 = .int .u32 (g : Int) ∧ s14 = .int .u32 (h : Int) ∧ Wall ((St.mk a0 b0 c0 d0 e0 f0 g0 h0).run ws i = St.mk a b c d e f g h) ∧ Wall (Blk wr w.heap.size 72 (c32 [a0, b0, c0, d0, e0, f0, g0, h0])) ∧ Wall (Blk wr (w.heap.size + 1) 72 (c32 (List.replicate 8 0))) ∧ Wall (Blk wr (w.heap.size + 1 + 1) 52 (c32 ws)) ∧ Wall (Blk wr bR 295 (c32 rK)) ∧ Wall (Below w.heap.size w wr))
      case atStart => exact ⟨0, by omega, rfl, a0, b0, c0, d0, e0, f0, g0, h0, rfl, rfl, rfl, rfl, rfl, rfl, rfl, rfl, wall rfl, K0, K2, K3, KR, HB⟩
      case round =>
        clear K0 K2 K3 KR HB
        obtain ⟨i, hg, rfl, a, b, c, d, e, f, g, hh, rfl, rfl, rfl, rfl, rfl, rfl, rfl, rfl, HS, K0, K2, K3, KR, HB⟩ := hrel
        have HG := wall hg
        have hi : i ≤ 64 := by omega
        clear hg
        have hok := St.ok_run HOK.out ws i
        rw [HS.out] at hok
        obtain ⟨aM, bM, cM, dM, eM, fM, gM, hM⟩ := hok
        simp only at aM bM cM dM eM fM gM hM
        by_cases hlt : i < 64
        · obtain ⟨ww, hx⟩ : ∃ x, ws[i]? = some x := ⟨_, List.getElem?_eq_getElem (by have := HWL.out; omega)⟩
          obtain ⟨kk, hkx⟩ : ∃ x, rK[i]? = some x := ⟨_, List.getElem?_eq_getElem (show i < rK.length from hlt)⟩
          have wwM := HWW.out ww (List.mem_of_getElem? hx)
          have kkM := rK_word kk (List.mem_of_getElem? hkx)
          have hck : wr.cell? ⟨bR, i, none⟩ = some (.int .u32 (kk : Int)) := by rw [KR.out.cell]; exact c32_at hkx
          have hcw : wr.cell? ⟨w.heap.size + 1 + 1, i, none⟩ = some (.int .u32 (ww : Int)) := by rw [K3.out.cell]; exact c32_at hx
          have HRN := wall (show (St.mk a0 b0 c0 d0 e0 f0 g0 h0).run ws (i + 1) = (St.mk a b c d e f g hh).round kk ww by rw [St.run, hkx, hx, HS.out]; rfl)
          clear hx hkx HS
          obtain ⟨r6, h6⟩ : ∃ r, rotr e 6 = r := ⟨_, rfl⟩
          have l6 : r6 < 4294967296 := by rw [← h6]; exact rotr_lt eM (by decide)
          obtain ⟨r11, h11⟩ : ∃ r, rotr e 11 = r := ⟨_, rfl⟩
          have l11 : r11 < 4294967296 := by rw [← h11]; exact rotr_lt eM (by decide)
          obtain ⟨r25, h25⟩ : ∃ r, rotr e 25 = r := ⟨_, rfl⟩
          have l25 : r25 < 4294967296 := by rw [← h25]; exact rotr_lt eM (by decide)
          obtain ⟨p1, ep1⟩ : ∃ q, r6 ^^^ r11 = q := ⟨_, rfl⟩
          have lp1 : p1 < 4294967296 := by rw [← ep1]; exact xor_lt l6 l11
          have bp1 : bits .xor .u32 (r6 : Int) (r11 : Int) = (p1 : Int) := by rw [u32_xor_nat _ _ l6 l11, ep1]
          obtain ⟨u1, eu1⟩ : ∃ q, p1 ^^^ r25 = q := ⟨_, rfl⟩
          have lu1 : u1 < 4294967296 := by rw [← eu1]; exact xor_lt lp1 l25
          have bu1 : bits .xor .u32 (p1 : Int) (r25 : Int) = (u1 : Int) := by rw [u32_xor_nat _ _ lp1 l25, eu1]
          obtain ⟨ef, eef⟩ : ∃ q, e &&& f = q := ⟨_, rfl⟩
          have lef : ef < 4294967296 := by rw [← eef]; exact and_lt eM fM
          have bef : bits .and .u32 (e : Int) (f : Int) = (ef : Int) := by rw [u32_and_nat _ _ eM fM, eef]
          obtain ⟨ne, ene⟩ : ∃ q, 4294967295 - e = q := ⟨_, rfl⟩
          have lne : ne < 4294967296 := by omega
          have bne : (4294967295 - (e : Int)) % 4294967296 = (ne : Int) := by omega
          have bne2 : 4294967295 - (e : Int) = (ne : Int) := by omega
          obtain ⟨ng, eng⟩ : ∃ q, ne &&& g = q := ⟨_, rfl⟩
          have lng : ng < 4294967296 := by rw [← eng]; exact and_lt lne gM
          have bng : bits .and .u32 (ne : Int) (g : Int) = (ng : Int) := by rw [u32_and_nat _ _ lne gM, eng]
          obtain ⟨cv, ecv⟩ : ∃ q, ef ^^^ ng = q := ⟨_, rfl⟩
          have lcv : cv < 4294967296 := by rw [← ecv]; exact xor_lt lef lng
          have bcv : bits .xor .u32 (ef : Int) (ng : Int) = (cv : Int) := by rw [u32_xor_nat _ _ lef lng, ecv]
          obtain ⟨tt, ett⟩ : ∃ q, (hh + u1 + cv + kk + ww) % 4294967296 = q := ⟨_, rfl⟩
          have ltt : tt < 4294967296 := by rw [← ett]; exact Nat.mod_lt _ (by decide)
          have btt : ((hh : Int) + (u1 : Int) + (cv : Int) + (kk : Int) + (ww : Int)) % 4294967296 = (tt : Int) := by rw [← ett]; simp
          obtain ⟨r2, h2⟩ : ∃ r, rotr a 2 = r := ⟨_, rfl⟩
          have l2 : r2 < 4294967296 := by rw [← h2]; exact rotr_lt aM (by decide)
          obtain ⟨r13, h13⟩ : ∃ r, rotr a 13 = r := ⟨_, rfl⟩
          have l13 : r13 < 4294967296 := by rw [← h13]; exact rotr_lt aM (by decide)
          obtain ⟨r22, h22⟩ : ∃ r, rotr a 22 = r := ⟨_, rfl⟩
          have l22 : r22 < 4294967296 := by rw [← h22]; exact rotr_lt aM (by decide)
          obtain ⟨p0, ep0⟩ : ∃ q, r2 ^^^ r13 = q := ⟨_, rfl⟩
          have lp0 : p0 < 4294967296 := by rw [← ep0]; exact xor_lt l2 l13
          have bp0 : bits .xor .u32 (r2 : Int) (r13 : Int) = (p0 : Int) := by rw [u32_xor_nat _ _ l2 l13, ep0]
          obtain ⟨u0, eu0⟩ : ∃ q, p0 ^^^ r22 = q := ⟨_, rfl⟩
          have lu0 : u0 < 4294967296 := by rw [← eu0]; exact xor_lt lp0 l22
          have bu0 : bits .xor .u32 (p0 : Int) (r22 : Int) = (u0 : Int) := by rw [u32_xor_nat _ _ lp0 l22, eu0]
          obtain ⟨ab, eab⟩ : ∃ q, a &&& b = q := ⟨_, rfl⟩
          have lab : ab < 4294967296 := by rw [← eab]; exact and_lt aM bM
          have bab : bits .and .u32 (a : Int) (b : Int) = (ab : Int) := by rw [u32_and_nat _ _ aM bM, eab]
          obtain ⟨ac, eac⟩ : ∃ q, a &&& c = q := ⟨_, rfl⟩
          have lac : ac < 4294967296 := by rw [← eac]; exact and_lt aM cM
          have bac : bits .and .u32 (a : Int) (c : Int) = (ac : Int) := by rw [u32_and_nat _ _ aM cM, eac]
          obtain ⟨bc, ebc⟩ : ∃ q, b &&& c = q := ⟨_, rfl⟩
          have lbc : bc < 4294967296 := by rw [← ebc]; exact and_lt bM cM
          have bbc : bits .and .u32 (b : Int) (c : Int) = (bc : Int) := by rw [u32_and_nat _ _ bM cM, ebc]
          obtain ⟨abc, eabc⟩ : ∃ q, ab ^^^ ac = q := ⟨_, rfl⟩
          have labc : abc < 4294967296 := by rw [← eabc]; exact xor_lt lab lac
          have babc : bits .xor .u32 (ab : Int) (ac : Int) = (abc : Int) := by rw [u32_xor_nat _ _ lab lac, eabc]
          obtain ⟨mj, emj⟩ : ∃ q, abc ^^^ bc = q := ⟨_, rfl⟩
          have lmj : mj < 4294967296 := by rw [← emj]; exact xor_lt labc lbc
          have bmj : bits .xor .u32 (abc : Int) (bc : Int) = (mj : Int) := by rw [u32_xor_nat _ _ labc lbc, emj]
          obtain ⟨na, ena⟩ : ∃ q, (tt + u0 + mj) % 4294967296 = q := ⟨_, rfl⟩
          obtain ⟨t2, et2⟩ : ∃ q, (u0 + mj) % 4294967296 = q := ⟨_, rfl⟩
          have lt2 : t2 < 4294967296 := by rw [← et2]; exact Nat.mod_lt _ (by decide)
          have bt2 : ((u0 : Int) + (mj : Int)) % 4294967296 = (t2 : Int) := by rw [← et2]; simp
          have bna : ((tt : Int) + (t2 : Int)) % 4294967296 = (na : Int) := by rw [← ena, ← et2]; omega
          obtain ⟨nd, end_⟩ : ∃ q, (d + tt) % 4294967296 = q := ⟨_, rfl⟩
          have bnd : ((d : Int) + (tt : Int)) % 4294967296 = (nd : Int) := by rw [← end_]; simp
          have HNX := wall (show (St.mk a b c d e f g hh).round kk ww = St.mk na a b c nd e f g by
            have hu1 : S1 e = u1 := by unfold S1; rw [h6, h11, h25, ep1, eu1]
            have hu0 : S0 a = u0 := by unfold S0; rw [h2, h13, h22, ep0, eu0]
            have hcv : ch e f g = cv := by unfold ch; rw [eef, ene, eng, ecv]
            have hmj : maj a b c = mj := by unfold maj; rw [eab, eac, ebc, eabc, emj]
            have htt : t1 (St.mk a b c d e f g hh) kk ww = tt := by unfold t1; rw [hu1, hcv, ett]
            unfold St.round
            rw [htt, hu0, hmj, ena, end_])
          have H6 := wall (fun W => turn_q 6 _ 6 e r6 W (by decide) rfl eM (by omega) (by omega) h6)
          have H11 := wall (fun W => turn_q 11 _ 11 e r11 W (by decide) rfl eM (by omega) (by omega) h11)
          have H25 := wall (fun W => turn_q 25 _ 25 e r25 W (by decide) rfl eM (by omega) (by omega) h25)
          have H2 := wall (fun W => turn_q 2 _ 2 a r2 W (by decide) rfl aM (by omega) (by omega) h2)
          have H13 := wall (fun W => turn_q 13 _ 13 a r13 W (by decide) rfl aM (by omega) (by omega) h13)
          have H22 := wall (fun W => turn_q 22 _ 22 a r22 W (by decide) rfl aM (by omega) (by omega) h22)
          clear h6 h11 h25 h2 h13 h22 ep1 eu1 eef ene eng ecv ett ep0 eu0 eab eac ebc eabc emj ena end_ et2
          have b64 : (i : Int) < 64 := by omega
          have n64 : (0 : Int) ≤ (i : Int) := by omega
          rw [HNX.out] at HRN
          clear HNX
          go_wp2_with fail
          go_quiet ((go_at_call 157; first | with_reducible exact Calls.quiet_of (H6.out _) | with_reducible exact Calls.quiet_of (H11.out _) | with_reducible exact Calls.quiet_of (H25.out _)))
          replace K0 := wall (K0.out.drewN nq)
          replace K2 := wall (K2.out.drewN nq)
          replace K3 := wall (K3.out.drewN nq)
          replace KR := wall (KR.out.drewN nq)
          replace HB := wall (Below.drewN HB.out nq)
          generalize wr.drewN nq = w7 at *
          clear hck hcw H6 H11 H25
          go_wp2_with fail
          (with_reducible refine (H2.out _).mono ?_); rintro e w8 ⟨rfl, m1, rfl⟩
          go_wp2_with fail
          (with_reducible refine (H13.out _).mono ?_); rintro e w8 ⟨rfl, m2, rfl⟩
          go_wp2_with fail
          (with_reducible refine (H22.out _).mono ?_); rintro e w8 ⟨rfl, m3, rfl⟩
          replace K0 := wall (K0.out.drewN (m1 + m2 + m3))
          replace K2 := wall (K2.out.drewN (m1 + m2 + m3))
          replace K3 := wall (K3.out.drewN (m1 + m2 + m3))
          replace KR := wall (KR.out.drewN (m1 + m2 + m3))
          replace HB := wall (Below.drewN HB.out (m1 + m2 + m3))
          clear H2 H13 H22
          go_wp2_with fail
          go_light
          go_roundg (64 - (i + 1))
          case measure => have := HG.out; omega
          case rel =>
            exact ⟨i + 1, by have := HG.out; omega, by go_num, na, a, b, c, nd, e, f, g, (by first | rfl | rw [bna]), rfl, rfl, rfl, (by first | rfl | rw [bnd]), rfl, rfl, rfl, HRN, K0, K2, K3, KR, HB⟩
        · have hi64 : i = 64 := by omega
          have hni : ¬ ((i : Int) < 64) := by omega
          obtain ⟨vv, hvv⟩ : ∃ v, [a, b, c, d, e, f, g, hh] = v := ⟨_, rfl⟩
          have HRE := wall (show res = add8 [a0, b0, c0, d0, e0, f0, g0, h0] vv by
            rw [← HE0.out, press_eq, HWS.out, ← hvv, show St.of [a0, b0, c0, d0, e0, f0, g0, h0] = St.mk a0 b0 c0 d0 e0 f0 g0 h0 from rfl, ← hi64, HS.out]
            rfl)
          have HVL := wall (show vv.length = 8 by rw [← hvv]; rfl)
          have HVM := wall (show ∀ x ∈ vv, x < 4294967296 by
            rw [← hvv]
            intro x hx
            simp only [List.mem_cons, List.not_mem_nil, or_false] at hx
            rcases hx with rfl | rfl | rfl | rfl | rfl | rfl | rfl | rfl <;> assumption)
          have HRL := wall (show res.length = 8 by rw [HRE.out, add8, List.length_zipWith, HVL.out]; rfl)
          have HSV := wall (show (Tryz.prog.info? 72).map (·.size) = some (c32 [a, b, c, d, e, f, g, hh]).size from h_info)
          have HOV := wall (c32_one [a, b, c, d, e, f, g, hh])
          have hK3l := K3.out.lt
          clear HE0 HWS hi64 HS KR aM bM cM dM eM fM gM hM
          obtain ⟨gO, rfl⟩ : ∃ q : Nat, q = gk := ⟨_, rfl⟩
          obtain ⟨wP, rfl⟩ : ∃ q : World, q = wr := ⟨_, rfl⟩
          go_upto_region 19 with (refine wpList_new_row rfl 72 (.tmp 19) (.tmp 189) rfl wP.heap.size (c32 [a, b, c, d, e, f, g, hh]) rfl rfl 72 (c32 (List.replicate 8 0)) (Blk.new _ _ _) HSV.out rfl HOV.out wP.heap.size wP ((Below.refl _ wP).alloc (Nat.le_refl _) _) (Nat.le_refl _) ?_; intro w6 KO hB6)
          have k0 := wall (K0.out.next hB6 rfl)
          have k2 := wall (K2.out.next hB6 rfl)
          have hb6 := wall (below_then HB.out hB6 (Nat.le_refl _))
          rw [hvv] at KO
          replace KO := wall KO
          clear hB6 K0 K2 K3 HB hvv
          generalize wP.heap.size = bO at *
          go_wp2_with fail
          go_loopg [20, 190] 8 (fun g s20 s190 wr => ∃ j : Nat, j + g = 8 ∧ s190 = .int .i64 (j : Int) ∧ Wall (Blk wr w.heap.size 72 (c32 [a0, b0, c0, d0, e0, f0, g0, h0])) ∧ Wall (Blk wr (w.heap.size + 1) 72 (c32 (List.replicate 8 0))) ∧ Wall (Blk wr bO 72 (c32 (res.take j ++ vv.drop j))) ∧ Wall (Below w.heap.size w wr))
          case atStart => exact ⟨0, by omega, rfl, k0, k2, KO, hb6⟩
          case round =>
            clear k0 k2 KO hb6
            obtain ⟨j, hg, rfl, K0, K2, K3, HB⟩ := hrel
            have HG := wall hg
            have hj : j ≤ 8 := by omega
            clear hg
            by_cases hlt : j < 8
            · obtain ⟨x, hx⟩ : ∃ x, [a0, b0, c0, d0, e0, f0, g0, h0][j]? = some x := ⟨_, List.getElem?_eq_getElem (by have := HL.out; omega)⟩
              obtain ⟨y, hy⟩ : ∃ x, vv[j]? = some x := ⟨_, List.getElem?_eq_getElem (by have := HVL.out; omega)⟩
              have xM := HWD.out x (List.mem_of_getElem? hx)
              have yM := HVM.out y (List.mem_of_getElem? hy)
              have htl : (res.take j).length = j := by rw [List.length_take, HRL.out]; omega
              have hcx : wr.cell? ⟨w.heap.size, j, none⟩ = some (.int .u32 (x : Int)) := by rw [K0.out.cell]; exact c32_at hx
              have hcy : wr.cell? ⟨bO, j, none⟩ = some (.int .u32 (y : Int)) := by
                rw [K3.out.cell]
                refine c32_at ?_
                rw [List.getElem?_append_right (by omega), htl, Nat.sub_self, List.getElem?_drop, Nat.add_zero]
                exact hy
              have hfr : wr.frozen? ⟨bO, j, none⟩ = false := K3.out.frozen _
              have hrj : res[j]? = some ((x + y) % 4294967296) := by rw [HRE.out, add8, List.getElem?_zipWith, hx, hy]
              obtain ⟨z, hz⟩ : ∃ z, (x + y) % 4294967296 = z := ⟨_, rfl⟩
              rw [hz] at hrj
              have hzz : ((y : Int) + (x : Int)) % 4294967296 = (z : Int) := by rw [← hz]; simp [Int.add_comm]
              have HSET := wall (show (res.take j ++ vv.drop j).set j z = res.take (j + 1) ++ vv.drop (j + 1) by
                rw [take_snoc hrj, List.set_append_right _ _ (by omega), htl, Nat.sub_self, List.drop_eq_getElem_cons (by have := HVL.out; omega), List.set_cons_zero, List.append_assoc]
                rfl)
              have b8' : (j : Int) < 8 := by omega
              have n8 : (0 : Int) ≤ (j : Int) := by omega
              clear hx hy htl hrj hz
              go_wp2_with fail
              go_still_tail 8, (by kernel_rfl)
              change wpList _ _ _ _ _ wr.drew
              go_wp2_with fail
              go_light
              go_roundg (8 - (j + 1))
              case measure => have := HG.out; omega
              case rel =>
                refine ⟨j + 1, by have := HG.out; omega, by go_num, wall ?_, wall ?_, wall ?_, wall ?_⟩
                · exact (K0.out.far' _ _ (by omega) _)
                · exact (K2.out.far' _ _ (by omega) _)
                · have := K3.out.set j (.int .u32 (z : Int))
                  rw [c32_set, HSET.out] at this
                  exact this
                · exact Below.drewN (HB.out.setCell (p := ⟨bO, j, none⟩) (by show w.heap.size ≤ bO; omega) _) 1
            · have hj8 : j = 8 := by omega
              have hnl : ¬ ((j : Int) < 8) := by omega
              have K8 := wall (show Blk wr bO 72 (c32 res) by
                have := K3.out
                rw [hj8, List.take_of_length_le (by have := HRL.out; omega), List.drop_of_length_le (by have := HVL.out; omega), List.append_nil] at this
                exact this)
              have HSR := wall (show (Tryz.prog.info? 72).map (·.size) = some (c32 res).size by rw [c32_size, HRL.out]; exact h_info)
              have HZR := wall (show (c32 (List.replicate 8 0)).size = (c32 res).size by rw [c32_size, c32_size, HRL.out]; rfl)
              have HOR := wall (c32_one res)
              clear K3 hj8
              go_upto_region 24 with fail
              go_wp2_with (first | refine wpList_load_row rfl 72 _ rfl bO rfl 72 (c32 res) (0, 0) _ K8.out Tryz.underlying72 rfl HSR.out ?_ | refine wpList_store_row rfl 72 (.tmp 4) _ rfl (w.heap.size + 1) (c32 res) rfl rfl 72 (c32 (List.replicate 8 0)) K2.out HSR.out HZR.out HOR.out ?_)
              have hb := setRow_heap _ _ _ (c32 res) _ _ K2.out
              have hB := below_setRow HB.out (show w.heap.size ≤ w.heap.size + 1 by omega) (c32 res)
              go_light
              exact bodyPost_ret (v := .agg (c32 res)) (results_cell_row Tryz.results83 _ _ (w.heap.size + 1) 72 (c32 res) (0, 0) _ rfl hb Tryz.underlying72 rfl HSR.out) rfl ⟨rfl, hB⟩
end Sha
end Go.Proofs.YtmiaabpnolebhaaGreatDoor
