/-
  The walk of OtpRows.
-/
import Derived.Test.YtpakdcgcgekcfaaDoorProg
import Derived.Test.YtpakdcgcgekcfaaDoorMem
import Derived.Test.YtpakdcgcgekcfaaDoorNext
import Derived.Test.YtpakdcgcgekcfaaDoorOtpRowP
import Derived.Test.YtpakdcgcgekcfaaDoorOtpSeal
import Derived.Test.YtpakdcgcgekcfaaDoorOtpKilled
import Derived.Test.YtpakdcgcgekcfaaDoorOtpDo
import Derived.Test.YtpakdcgcgekcfaaDoorOtpOps
import Derived.Test.YtpakdcgcgekcfaaDoorOtpAwake
import Derived.Test.YtpakdcgcgekcfaaDoorOtpAct
import Derived.Test.YtpakdcgcgekcfaaDoorEqDig
import Derived.Deep.LoopGhost
import Derived.Deep.MidRow
import Derived.Deep.CutRange
import Derived.Deep.CutBlock
import Derived.Deep.DeepCutAuto
import Derived.Laws.CopyOwn
import Derived.Laws.Tables
namespace Go.Proofs.YtpakdcgcgekcfaaDoor
open Go.RowKit

namespace Otp
open Fuse R1
/-- An array stored into a new block. -/
theorem wpList_new_row {P : Program} {ops : Array Oper} {rest : List Oper} {o : Oper} {a : Act} {w : World} {Q : Exit → Act → World → Prop} (hgd : o.guard = none) (ty : TypeId) (x y : Operand) (ho : o.op = .store ty x y)
    (g : Nat) (cells : Array Value) (hx : a.eval x = .pointer (some ⟨g, 0, none⟩)) (hy : a.eval y = .agg cells)
    (t : TypeId) (old : Array Value) (hg : Blk w g t old) (hi : (P.info? ty).map (·.size) = some cells.size)
    (hold : old.size = cells.size) (h1 : cells.all (·.oneCell') = true) (B : Nat) (w0 : World) (hb : Below B w0 w) (hBg : B ≤ g)
    (h : ∀ w', Hid (Blk w' g t cells) → Hid (Below B w0 w') → wpList P ops Q rest (a.put o.dst undef) w') : wpList P ops Q (o :: rest) a w :=
  wpList_store_row hgd ty x y ho g cells hx hy t old hg hi hold h1 (h _ (Lib.hid (setRow_heap _ _ _ cells _ _ hg)) (Lib.hid (below_setRow hb hBg cells)))
/-- Two digests in memory, a chip, since a world W. -/
structure Sz (W : World) (k0 m0 : Nat) (K M : List Nat) (c p b : Nat) (vs : List Nat) (ls : List Bool) (sd : Bool) (w : World) : Prop where
  cz : Cz w c p b vs ls sd
  bk : Blk w k0 23 (b8 K)
  bm : Blk w m0 23 (b8 M)
  tab : Tab w
  bel : Below W.heap.size W w
  ltc : W.heap.size ≤ c
  ltp : W.heap.size ≤ p
  ltb : W.heap.size ≤ b
  lt0 : W.heap.size ≤ k0
  lt1 : W.heap.size ≤ m0
  tabW : Tab W
section
variable {W w w' : World} {k0 m0 : Nat} {K M : List Nat} {c p b : Nat} {vs vs' : List Nat} {ls ls' : List Bool} {sd sd' : Bool}
theorem Sz.old (h : Sz W k0 m0 K M c p b vs ls sd w) (hB : Below w.heap.size w w') : Sz W k0 m0 K M c p b vs ls sd w' :=
  ⟨h.cz.old hB, h.bk.next hB rfl, h.bm.next hB rfl, h.tab.old hB, below_then h.bel hB (Nat.le_refl _), h.ltc, h.ltp, h.ltb, h.lt0, h.lt1, h.tabW⟩
theorem Sz.turn (h : Sz W k0 m0 K M c p b vs ls sd w) {S : List Nat} (hC : Cz w' c p b vs' ls' sd') (hF : Frm S w w') (hS : ∀ x, x ∈ S → x = c ∨ x = b) (hk : k0 ∉ S) (hm : m0 ∉ S) : Sz W k0 m0 K M c p b vs' ls' sd' w' :=
  ⟨hC, h.bk.frm hF hk, h.bm.frm hF hm, h.tab.frm hF (fun hx => by
    have := h.tabW.lt
    rcases hS _ hx with e | e <;> have := h.ltc <;> have := h.ltb <;> omega), Below.frm h.bel hF (by have := h.bel.size; omega) (fun x hx => by rcases hS x hx with e | e <;> subst e; exact h.ltc; exact h.ltb), h.ltc, h.ltp, h.ltb, h.lt0, h.lt1, h.tabW⟩
theorem Sz.nes (h : Sz W k0 m0 K M c p b vs ls sd w) : k0 ≠ c ∧ k0 ≠ b ∧ m0 ≠ c ∧ m0 ≠ b := by
  obtain ⟨_, h2, _⟩ := h.cz.fz.row
  exact ⟨h.bk.ne h.cz.head (by decide), h.bk.ne h2 (by decide), h.bm.ne h.cz.head (by decide), h.bm.ne h2 (by decide)⟩
theorem Sz.did (h : Sz W k0 m0 K M c p b vs ls sd w) (hC : Cz w' c p b vs' ls' sd') (hF : Frm [b] w w') : Sz W k0 m0 K M c p b vs' ls' sd' w' :=
  h.turn hC hF (fun x hx => by simp at hx; exact .inr hx) (by have := h.nes; simp; omega) (by have := h.nes; simp; omega)
theorem Sz.seal (h : Sz W k0 m0 K M c p b vs ls sd w) (hC : Cz w' c p b vs' ls' sd') (hF : Frm [c, b] w w') : Sz W k0 m0 K M c p b vs' ls' sd' w' :=
  h.turn hC hF (fun x hx => by simp at hx; exact hx) (by have := h.nes; simp; omega) (by have := h.nes; simp; omega)
end
theorem torow_as {c p b : Nat} {vs : List Nat} {ls : List Bool} {sd : Bool} (k : Nat) (ds : List Nat) (w : World) (er : Int) (rl : List (Nat × Nat)) (h : Cz w c p b vs ls sd) (hl : ds.length = 32) (hd : ∀ x ∈ ds, x < 256) (he : trE vs (k : Int) = er) (hr : trL vs (k : Int) ds = rl) :
    Calls Tryd.prog 17 #[.pointer (some ⟨c, 0, none⟩), .int .i64 (k : Int), .agg (b8 ds)] w (ToOut w er rl) := by
  subst he hr
  exact torow_any (k : Int) ds w h hl hd
theorem rowp_as {c p b : Nat} {vs : List Nat} {ls : List Bool} {sd : Bool} (k : Nat) (w : World) (D : List Nat) (E : Int) (h : Cz w c p b vs ls sd) (hD : prD vs sd (k : Int) = D) (hE : prE vs sd (k : Int) = E) :
    Calls Tryd.prog 19 #[.pointer (some ⟨c, 0, none⟩), .int .i64 (k : Int)] w (RowOut w D E) := by
  subst hD hE
  exact rowp_any (k : Int) w h
theorem kill_as {c p b : Nat} {vs : List Nat} {ls : List Bool} {sd : Bool} (k : Nat) (w : World) (rl : List (Nat × Nat)) (h : Cz w c p b vs ls sd) (hk : k < 4) (hr : klL vs (k : Int) = rl) :
    Calls Tryd.prog 20 #[.pointer (some ⟨c, 0, none⟩), .int .i64 (k : Int)] w (ToOut w 0 rl) := by
  subst hr
  have := kill_any (k : Int) w h
  rw [show atE (k : Int) = 0 by unfold atE; rw [if_pos (by omega)]] at this
  exact this
theorem pr_open {vs : List Nat} {k : Nat} (hk : k < 4) : prE vs false (k : Int) = rowE vs k := by
  unfold prE
  rw [if_pos (by omega)]
  simp
theorem pr_key {vs : List Nat} {k : Nat} {D : List Nat} (hk : k < 4) (h : rowE vs k = 0) (hD : wordsB (rowKey vs k) = D) : prD vs false (k : Int) = D := by
  unfold prD
  rw [pr_open hk, if_pos h]
  exact hD
theorem pr_none {vs : List Nat} {k : Nat} {sd : Bool} (h : prE vs sd (k : Int) ≠ 0) : prD vs sd (k : Int) = z32 := by
  unfold prD
  rw [if_neg h]
theorem pr_sealed {vs : List Nat} {k : Nat} (hk : k < 4) : prE vs true (k : Int) = 12 := by
  unfold prE
  rw [if_pos (by omega), if_pos rfl]
theorem z64_zero (k : Nat) (hk : k < 4) : rowZ z64 k = true := by
  have : k = 0 ∨ k = 1 ∨ k = 2 ∨ k = 3 := by omega
  rcases this with rfl | rfl | rfl | rfl <;> decide +kernel
theorem z64_word (i x : Nat) (h : z64[i]? = some x) : x < 4294967296 := by
  unfold z64 at h
  rw [List.getElem?_replicate] at h
  split at h
  · cases h; decide
  · cases h
set_option maxRecDepth 100000 in
set_option maxHeartbeats 8000000 in
theorem rows_any (K M : List Nat) (i j : Int) (kill : Bool) (r o : Nat) (w : World) (hT : Tab w) (hK : K.length = 32) (bK : ∀ x ∈ K, x < 256) (hM : M.length = 32) (bM : ∀ x ∈ M, x < 256) (hi : i % 4 = (r : Int)) (hj : j % 4 = (o : Int)) (hi0 : 0 ≤ i) (hj0 : 0 ≤ j) (hr : r < 4) (ho : o < 4) :
    Calls Tryd.prog 3 #[.agg (b8 K), .agg (b8 M), .int .u8 i, .int .u8 j, .bool kill] w (TrueBelow w) := by
  obtain ⟨L1, hL1⟩ : ∃ L, rowL r (words4 K) = L := ⟨_, rfl⟩
  obtain ⟨vs1, hvs1⟩ : ∃ v, setAll z64 L1 = v := ⟨_, rfl⟩
  have hb1 := burn z64 r K rfl z64_word hr (z64_zero r hr) hK bK
  rw [hL1, hvs1] at hb1
  have H1 := Lib.hid hb1
  clear hb1 hvs1 hL1
  have HT := Lib.hid (hT.old (((Below.refl _ w).alloc (Nat.le_refl _) (.cells (b8 K) 23)).alloc (by simp) (.cells (b8 M) 23)))
  have HTW := Lib.hid hT
  have HBK := Lib.hid ((Blk.new w 23 (b8 K)).alloc (.cells (b8 M) 23))
  have HBM := Lib.hid (show Blk ((w.alloc (.cells (b8 K) 23)).alloc (.cells (b8 M) 23)) (w.heap.size + 1) 23 (b8 M) from blk_new' (by simp))
  have HB := Lib.hid (((Below.refl _ w).alloc (Nat.le_refl _) (.cells (b8 K) 23)).alloc (by simp) (.cells (b8 M) 23))
  have HKL := Lib.hid hK
  have HML := Lib.hid hM
  have HKB := Lib.hid bK
  have HMB := Lib.hid bM
  have HSK := Lib.hid (show (Tryd.prog.info? 23).map (·.size) = some (b8 K).size by rw [b8_size, hK]; exact dig_info)
  have HSM := Lib.hid (show (Tryd.prog.info? 23).map (·.size) = some (b8 M).size by rw [b8_size, hM]; exact dig_info)
  have HSZ := Lib.hid (show (Tryd.prog.info? 23).map (·.size) = some (b8 z32).size from dig_info)
  have HZK := Lib.hid (show (b8 (List.replicate 32 0)).size = (b8 K).size by rw [b8_size, b8_size, hK]; rfl)
  have HZM := Lib.hid (show (b8 (List.replicate 32 0)).size = (b8 M).size by rw [b8_size, b8_size, hM]; rfl)
  have HOK := Lib.hid (b8_one K)
  have HOM := Lib.hid (b8_one M)
  have HOZ := Lib.hid (b8_one z32)
  clear hT hK bK hM bM
  go_enter Tryd.func3, Tryd.ntmps3
  go_wp2_with fail
  have hw0 : w.heap.size + 1 < ((w.alloc (.cells (b8 K) 23)).alloc (.cells (b8 M) 23)).heap.size := by simp
  generalize (w.alloc (.cells (b8 K) 23)).alloc (.cells (b8 M) 23) = w0 at *
  (with_reducible refine (awake_any _ HT.out).mono ?_); rintro e w1 ⟨rfl, hB⟩
  have HT1 := Lib.hid (HT.out.old hB)
  have HK1 := Lib.hid (HBK.out.next hB rfl)
  have HM1 := Lib.hid (HBM.out.next hB rfl)
  have HB1 := Lib.hid (below_then HB.out hB (Nat.le_refl _))
  have hw1 : w.heap.size + 1 < w1.heap.size := by have := hB.size; omega
  clear hB HT HBK HBM HB hw0
  go_wp2_with fail
  (with_reducible refine (new_chip _).mono ?_); rintro e w2 ⟨c, p, b, rfl, hC, hc, hp, hb, hB⟩
  have S2 := Lib.hid (show Sz w w.heap.size (w.heap.size + 1) K M c p b z64 f64 false w2 from ⟨hC, HK1.out.next hB rfl, HM1.out.next hB rfl, HT1.out.old hB, below_then HB1.out hB (Nat.le_refl _), by omega, by omega, by omega, Nat.le_refl _, by omega, HTW.out⟩)
  clear hC hB HT1 HK1 HM1 HB1 hc hp hb hw1
  go_wp2_with (refine wpList_load_row rfl 23 _ rfl w.heap.size rfl 23 (b8 K) (0, 0) _ S2.out.bk Tryd.underlying23 rfl HSK.out ?_)
  (with_reducible refine (torow_as r K _ 0 L1 S2.out.cz HKL.out HKB.out H1.out.trE H1.out.trL).mono ?_); rintro e w3 ⟨v, rfl, hO, hB⟩
  obtain ⟨A1, c1, rfl, hc1, hm1, -⟩ := hO.at_
  rw [H1.out.ten] at hc1 ⊢
  have HO3 := Lib.hid (show OwnW w3 w2.heap.size (.slice A1 10 c1) L1 by rw [← H1.out.ten]; exact hO)
  have S3 := Lib.hid (S2.out.old hB)
  have hb2 : b < w2.heap.size := S2.out.cz.fz.ltb
  clear hO hB hm1 hc1 S2
  go_wp2_with fail
  (with_reducible refine (do_to _ w2.heap.size L1 _ 0 vs1 S3.out.cz HO3.out hb2 H1.out.val H1.out.idx H1.out.do_).mono ?_); rintro e w4 ⟨rfl, hC, hF⟩
  have S4 := Lib.hid (S3.out.did hC hF)
  have E4 := Lib.hid H1.out.full
  have P4 := Lib.hid (show prE vs1 false (r : Int) = 0 by rw [pr_open hr]; exact H1.out.rowE)
  have Q4 := Lib.hid (pr_key hr H1.out.rowE H1.out.key)
  clear hC hF HO3 S3 hb2
  go_wp2_with (refine wpList_load_row rfl 23 _ rfl (w.heap.size + 1) rfl 23 (b8 M) (0, 0) _ S4.out.bm Tryd.underlying23 rfl HSM.out ?_)
  (with_reducible refine (torow_as r M _ 14 [] S4.out.cz HML.out HMB.out E4.out (by unfold trL; rw [E4.out]; exact if_neg (by decide))).mono ?_); rintro e w5 ⟨v, rfl, -, hB⟩
  have S5 := Lib.hid (S4.out.old hB)
  clear hB S4 E4
  go_wp2_with fail
  (with_reducible refine (rowp_as r _ K 0 S5.out.cz Q4.out P4.out).mono ?_); rintro e w6 ⟨rfl, hB⟩
  have S6 := Lib.hid (S5.out.old hB)
  clear hB S5
  go_upto_region 10 with (refine wpList_new_row rfl 23 (.tmp 18) (.tmp 70) rfl w6.heap.size (b8 K) rfl rfl 23 (b8 (List.replicate 32 0)) (Blk.new _ _ _) HSK.out HZK.out HOK.out w6.heap.size w6 ((Below.refl _ w6).alloc (Nat.le_refl _) _) (Nat.le_refl _) ?_; intro w7 HX hB7)
  have S7 := Lib.hid (S6.out.old hB7.out)
  have heq : ∀ W : World, (Op.equalIn 10000 23 (.agg (b8 K)) (.agg (b8 K))).run Tryd.prog W = .ok true W := fun W => by
    rw [eq_arr W 32 23 K K HKL.out HKL.out Tryd.underlying23]
    simp
  go_upto_if 85 with (first | refine load_row_g (by rfl) 23 _ rfl w6.heap.size rfl 23 (b8 K) _ HX.out Tryd.underlying23 rfl HSK.out ?_ | refine load_row_g (by rfl) 23 _ rfl w.heap.size rfl 23 (b8 K) _ S7.out.bk Tryd.underlying23 rfl HSK.out ?_)
  clear P4 Q4 HX hB7 S6 heq
  go_cut [14] (fun v w' => ∃ vs2, Hid (Sz w w.heap.size (w.heap.size + 1) K M c p b vs2 f64 false w') ∧ Hid (rowE vs2 r = 0 ∧ wordsB (rowKey vs2 r) = K ∧ (o ≠ r → rowE vs2 o = 0 ∧ wordsB (rowKey vs2 o) = M)))
  case first =>
    by_cases e : o = r
    · subst e
      go_wp2_with fail
      go_meet
      exact ⟨vs1, S7, Lib.hid ⟨H1.out.rowE, H1.out.key, fun h => absurd rfl h⟩⟩
    · have hne : ((o : Int) != (r : Int)) = true := by rw [bne_iff_ne]; omega
      obtain ⟨L2, hL2⟩ : ∃ L, rowL o (words4 M) = L := ⟨_, rfl⟩
      obtain ⟨vs2, hvs2⟩ : ∃ v, setAll vs1 L2 = v := ⟨_, rfl⟩
      have hz : rowZ vs1 o = true := by rw [H1.out.farZ o ho e]; exact z64_zero o ho
      have hb2 := burn vs1 o M H1.out.len H1.out.word ho hz HML.out HMB.out
      rw [hL2, hvs2] at hb2
      have H2 := Lib.hid hb2
      have P7 := Lib.hid (show prE vs1 false (o : Int) = 3 by rw [pr_open ho]; exact rowZ_E H1.out.len ho hz)
      have Q7 := Lib.hid (show prD vs1 false (o : Int) = z32 from pr_none (by rw [P7.out]; decide))
      have EO := Lib.hid e
      clear hb2 hvs2 hL2 hz e
      go_wp2_with (refine wpList_load_row rfl 23 _ rfl (w.heap.size + 1) rfl 23 (b8 M) (0, 0) _ S7.out.bm Tryd.underlying23 rfl HSM.out ?_)
      (with_reducible refine (torow_as o M _ 0 L2 S7.out.cz HML.out HMB.out H2.out.trE H2.out.trL).mono ?_); rintro e w8 ⟨v, rfl, hO, hB⟩
      obtain ⟨A2, c2, rfl, hc2, hm2, -⟩ := hO.at_
      rw [H2.out.ten] at hc2 ⊢
      have HO8 := Lib.hid (show OwnW w8 w7.heap.size (.slice A2 10 c2) L2 by rw [← H2.out.ten]; exact hO)
      have S8 := Lib.hid (S7.out.old hB)
      have hb7 : b < w7.heap.size := S7.out.cz.fz.ltb
      clear hO hB hm2 hc2 S7
      go_wp2_with fail
      (with_reducible refine (rowp_as o _ z32 3 S8.out.cz Q7.out P7.out).mono ?_); rintro e w9 ⟨rfl, hB⟩
      have S9 := Lib.hid (S8.out.old hB)
      have HO9 := Lib.hid (show OwnW w9 w7.heap.size (.slice A2 10 c2) L2 from own_frm HO8.out (Frm.of_below (S := []) hB) (by simp))
      clear hB S8 HO8 P7 Q7
      go_upto_region 15 with (refine wpList_new_row rfl 23 (.tmp 20) (.tmp 97) rfl w9.heap.size (b8 z32) rfl rfl 23 (b8 (List.replicate 32 0)) (Blk.new _ _ _) HSZ.out rfl HOZ.out w9.heap.size w9 ((Below.refl _ w9).alloc (Nat.le_refl _) _) (Nat.le_refl _) ?_; intro w10 HX hB10)
      have S10 := Lib.hid (S9.out.old hB10.out)
      have HO10 := Lib.hid (show OwnW w10 w7.heap.size (.slice A2 10 c2) L2 from own_frm HO9.out (Frm.of_below (S := []) hB10.out) (by simp))
      have hx10 : b ≠ w9.heap.size := by have := S9.out.cz.fz.ltb; omega
      clear S9 HO9 hB10
      go_wp2_with fail
      (with_reducible refine (do_to _ w7.heap.size L2 _ 0 vs2 S10.out.cz HO10.out hb7 H2.out.val H2.out.idx H2.out.do_).mono ?_); rintro e w11 ⟨rfl, hC, hF⟩
      have S11 := Lib.hid (S10.out.did hC hF)
      have HX11 := Lib.hid (HX.out.frm hF (by simpa using fun h => hx10 h.symm))
      have heq : ∀ W : World, (Op.equalIn 10000 23 (.agg (b8 z32)) (.agg (b8 z32))).run Tryd.prog W = .ok true W := fun W => by
        rw [eq_arr W 32 23 z32 z32 rfl rfl Tryd.underlying23]
        simp
      have heq' : ∀ W : World, (Op.equalIn 10000 23 (.agg (b8 z32)) (.agg #[.int .u8 0, .int .u8 0, .int .u8 0, .int .u8 0, .int .u8 0, .int .u8 0, .int .u8 0, .int .u8 0, .int .u8 0, .int .u8 0, .int .u8 0, .int .u8 0, .int .u8 0, .int .u8 0, .int .u8 0, .int .u8 0, .int .u8 0, .int .u8 0, .int .u8 0, .int .u8 0, .int .u8 0, .int .u8 0, .int .u8 0, .int .u8 0, .int .u8 0, .int .u8 0, .int .u8 0, .int .u8 0, .int .u8 0, .int .u8 0, .int .u8 0, .int .u8 0])).run Tryd.prog W = .ok true W := heq
      clear hC hF S10 HO10 HX hb7 hx10 heq
      go_wp2_with (first | refine load_row_g (by rfl) 23 _ rfl w9.heap.size rfl 23 (b8 z32) _ HX11.out Tryd.underlying23 rfl HSZ.out ?_)
      go_meet
      exact ⟨vs2, S11, Lib.hid ⟨by rw [H2.out.farE r hr (fun h => EO.out h.symm)]; exact H1.out.rowE, by rw [H2.out.farK r hr (fun h => EO.out h.symm)]; exact H1.out.key, fun _ => ⟨H2.out.rowE, H2.out.key⟩⟩⟩
  case rest =>
    obtain ⟨vs2, S7', HF2⟩ := hcut
    clear S7
    obtain ⟨w8, rfl⟩ : ∃ wo : World, wo = wc := ⟨_, rfl⟩
    go_upto_if 112 with fail
    go_cut [14] (fun v w' => ∃ vs3, Hid (Sz w w.heap.size (w.heap.size + 1) K M c p b vs3 f64 false w') ∧ Hid (rowE vs3 r = (if kill = true then 17 else 0) ∧ wordsB (rowKey vs3 r) = K ∧ (o ≠ r → rowE vs3 o = 0 ∧ wordsB (rowKey vs3 o) = M)))
    case first =>
      cases kill with
      | false =>
        go_wp2_with fail
        go_meet
        exact ⟨vs2, S7', Lib.hid ⟨HF2.out.1, HF2.out.2.1, HF2.out.2.2⟩⟩
      | true =>
        obtain ⟨L3, vs3, hk3⟩ := kill_law vs2 r S7'.out.cz.len S7'.out.cz.fz.word hr
        have H3 := Lib.hid hk3
        clear hk3
        go_wp2_with fail
        (with_reducible refine (kill_as r _ L3 S7'.out.cz hr H3.out.klL).mono ?_); rintro e w9 ⟨v, rfl, hO, hB⟩
        obtain ⟨A3, c3, rfl, hc3, hm3, -⟩ := hO.at_
        have HO9 := Lib.hid hO
        have S9 := Lib.hid (S7'.out.old hB)
        have hb8 : b < w8.heap.size := S7'.out.cz.fz.ltb
        clear hO hB hm3 hc3 S7'
        go_wp2_with fail
        (with_reducible refine (do_to _ w8.heap.size L3 _ 0 vs3 S9.out.cz HO9.out hb8 H3.out.val H3.out.idx H3.out.do_).mono ?_); rintro e w10 ⟨rfl, hC, hF⟩
        have S10 := Lib.hid (S9.out.did hC hF)
        clear hC hF S9 HO9 hb8
        go_wp2_with fail
        go_meet
        exact ⟨vs3, S10, Lib.hid ⟨H3.out.rowE, by rw [H3.out.farK r hr]; exact HF2.out.2.1, fun h => ⟨by rw [H3.out.farE o ho h]; exact (HF2.out.2.2 h).1, by rw [H3.out.farK o ho]; exact (HF2.out.2.2 h).2⟩⟩⟩
    case rest =>
      clear S7' HF2
      obtain ⟨vs3, S9, HF3⟩ := hcut
      obtain ⟨w9, rfl⟩ : ∃ wo : World, wo = wc := ⟨_, rfl⟩
      have P9 := Lib.hid (show prE vs3 false (r : Int) = (if kill = true then 17 else 0) by rw [pr_open hr]; exact HF3.out.1)
      obtain ⟨D9, hD9⟩ : ∃ D, prD vs3 false (r : Int) = D := ⟨_, rfl⟩
      have Q9 := Lib.hid hD9
      have hD9' : kill = false → D9 = K := fun hk => by
        rw [← hD9]
        refine pr_key hr ?_ HF3.out.2.1
        rw [HF3.out.1, hk]
        rfl
      have hl9 : D9.length = 32 := by
        rw [← hD9]
        unfold prD
        split
        · rw [wordsB_length]
          unfold rowKey
          rw [List.length_take, List.length_drop]
          have := S9.out.cz.len
          simp
          omega
        · rfl
      have HQ9 := Lib.hid hD9'
      have HL9 := Lib.hid hl9
      have HS9 := Lib.hid (show (Tryd.prog.info? 23).map (·.size) = some (b8 D9).size by rw [b8_size, hl9]; exact dig_info)
      have HZ9 := Lib.hid (show (b8 (List.replicate 32 0)).size = (b8 D9).size by rw [b8_size, b8_size, hl9]; rfl)
      have HO9 := Lib.hid (b8_one D9)
      obtain ⟨E9, hE9⟩ : ∃ E : Int, (if kill = true then 17 else 0) = E := ⟨_, rfl⟩
      rw [hE9] at P9
      have HE9 := Lib.hid hE9
      clear hD9 hD9' hl9 hE9
      go_wp2_with fail
      (with_reducible refine (rowp_as r _ D9 E9 S9.out.cz Q9.out P9.out).mono ?_); rintro e w10 ⟨rfl, hB⟩
      have S10 := Lib.hid (S9.out.old hB)
      clear hB S9 Q9 P9
      go_upto_region 21 with (refine wpList_new_row rfl 23 (.tmp 22) (.tmp 126) rfl w10.heap.size (b8 D9) rfl rfl 23 (b8 (List.replicate 32 0)) (Blk.new _ _ _) HS9.out HZ9.out HO9.out w10.heap.size w10 ((Below.refl _ w10).alloc (Nat.le_refl _) _) (Nat.le_refl _) ?_; intro w11 HX hB11)
      have S11 := Lib.hid (S10.out.old hB11.out)
      clear S10 hB11
      go_cut [140] (fun v w' => v = .bool false ∧ w' = w11)
      case first =>
        cases kill with
        | false =>
          have hDK : D9 = K := HQ9.out rfl
          have hE0 : E9 = 0 := by rw [← HE9.out]; rfl
          subst hDK hE0
          have heq : ∀ W : World, (Op.equalIn 10000 23 (.agg (b8 D9)) (.agg (b8 D9))).run Tryd.prog W = .ok true W := fun W => by
            rw [eq_arr W 32 23 D9 D9 HL9.out HL9.out Tryd.underlying23]
            simp
          go_wp2_with (first | refine load_row_g (by rfl) 23 _ rfl w10.heap.size rfl 23 (b8 D9) _ HX.out Tryd.underlying23 rfl HS9.out ?_ | refine load_row_g (by rfl) 23 _ rfl w.heap.size rfl 23 (b8 D9) _ S11.out.bk Tryd.underlying23 rfl HS9.out ?_)
          go_meet
          exact ⟨rfl, rfl⟩
        | true =>
          have hE17 : E9 = 17 := by rw [← HE9.out]; rfl
          subst hE17
          go_wp2_with fail
          go_meet
          exact ⟨rfl, rfl⟩
      case rest =>
        obtain ⟨rfl, rfl⟩ := hcut
        obtain ⟨w11, rfl⟩ : ∃ wo : World, wo = wc := ⟨_, rfl⟩
        clear HX HS9 HZ9 HO9 HQ9 HL9 HE9
        have hcc := S11.out.cz.cell.1
        go_wp2_with fail
        (with_reducible refine (words_any _ S11.out.cz.fz).mono ?_); rintro e w12 ⟨v, rfl, hO, hB⟩
        obtain ⟨A4, c4, rfl, hc4, hm4, hN⟩ := hO.form S11.out.cz.fz.word
        have hvl := S11.out.cz.len
        rw [hvl] at hc4 ⊢
        have HVL := Lib.hid hvl
        have HN := Lib.hid hN
        have S12 := Lib.hid (S11.out.old hB)
        clear hO hB hN hvl hm4 hcc S11
        go_wp2_with fail
        (with_reducible refine (of_chip _ _ _ vs3 _ HN.out HVL.out rfl).mono ?_); rintro e w13 ⟨d, pd, bd, rfl, hC, hd, hpd, hbd, hB⟩
        have S13 := Lib.hid (S12.out.old hB)
        have HC13 := Lib.hid hC
        have hcb : c < w12.heap.size ∧ b < w12.heap.size := ⟨S12.out.cz.head.lt, S12.out.cz.fz.ltb⟩
        have HCB := Lib.hid hcb
        clear hC hB HN HVL S12 hcb hc4
        go_wp2_with fail
        (with_reducible refine (seal_any _ S13.out.cz).mono ?_); rintro e w14 ⟨rfl, ⟨ls', hC⟩, hF⟩
        have S14 := Lib.hid (S13.out.seal hC hF)
        have HC14 := Lib.hid (HC13.out.frm hF (by have := HCB.out; simp; omega) (by have := HCB.out; simp; omega) (by have := HCB.out; simp; omega))
        have P14 := Lib.hid (pr_sealed (vs := vs3) ho)
        have Q14 := Lib.hid (show prD vs3 true (o : Int) = z32 from pr_none (by rw [P14.out]; decide))
        clear hC hF S13 HC13 HCB hd hpd hbd
        go_wp2_with fail
        (with_reducible refine (rowp_as o _ z32 12 S14.out.cz Q14.out P14.out).mono ?_); rintro e w15 ⟨rfl, hB⟩
        have S15 := Lib.hid (S14.out.old hB)
        have HC15 := Lib.hid (HC14.out.old hB)
        clear hB S14 HC14 P14 Q14
        go_upto_region 26 with (refine wpList_new_row rfl 23 (.tmp 26) (.tmp 156) rfl w15.heap.size (b8 z32) rfl rfl 23 (b8 (List.replicate 32 0)) (Blk.new _ _ _) HSZ.out rfl HOZ.out w15.heap.size w15 ((Below.refl _ w15).alloc (Nat.le_refl _) _) (Nat.le_refl _) ?_; intro w16 HX hB16)
        have S16 := Lib.hid (S15.out.old hB16.out)
        have HC16 := Lib.hid (HC15.out.old hB16.out)
        clear S15 HC15 hB16 HX
        obtain ⟨D16, hD16⟩ : ∃ D, prD vs3 false (o : Int) = D := ⟨_, rfl⟩
        obtain ⟨E16, hE16⟩ : ∃ E, prE vs3 false (o : Int) = E := ⟨_, rfl⟩
        have hne : o ≠ r → E16 = 0 ∧ D16 = M := fun h => by
          obtain ⟨h1, h2⟩ := HF3.out.2.2 h
          exact ⟨by rw [← hE16, pr_open ho, h1], by rw [← hD16]; exact pr_key ho h1 h2⟩
        have hl16 : D16.length = 32 := by
          rw [← hD16]
          unfold prD
          split
          · rw [wordsB_length]
            unfold rowKey
            rw [List.length_take, List.length_drop]
            have := HC16.out.len
            simp
            omega
          · rfl
        have HQ := Lib.hid hD16
        have HP := Lib.hid hE16
        have HNE := Lib.hid hne
        have HSD := Lib.hid (show (Tryd.prog.info? 23).map (·.size) = some (b8 D16).size by rw [b8_size, hl16]; exact dig_info)
        have HZD := Lib.hid (show (b8 (List.replicate 32 0)).size = (b8 D16).size by rw [b8_size, b8_size, hl16]; rfl)
        have HOD := Lib.hid (b8_one D16)
        clear hD16 hE16 hne hl16 HF3
        go_wp2_with fail
        (with_reducible refine (rowp_as o _ D16 E16 HC16.out HQ.out HP.out).mono ?_); rintro e w17 ⟨rfl, hB⟩
        have S17 := Lib.hid (S16.out.old hB)
        clear hB S16 HC16 HQ HP
        go_upto_region 27 with (refine wpList_new_row rfl 23 (.tmp 28) (.tmp 162) rfl w17.heap.size (b8 D16) rfl rfl 23 (b8 (List.replicate 32 0)) (Blk.new _ _ _) HSD.out HZD.out HOD.out w17.heap.size w17 ((Below.refl _ w17).alloc (Nat.le_refl _) _) (Nat.le_refl _) ?_; intro w18 HX hB18)
        have S18 := Lib.hid (S17.out.old hB18.out)
        clear S17 hB18
        by_cases e : o = r
        · subst e
          go_wp2_with fail
          go_light
          go_ret
          exact ⟨rfl, S18.out.bel⟩
        · have hne : ((o : Int) == (r : Int)) = false := by simp; omega
          obtain ⟨rfl, rfl⟩ := HNE.out e
          have heq : ∀ W : World, (Op.equalIn 10000 23 (.agg (b8 D16)) (.agg (b8 D16))).run Tryd.prog W = .ok true W := fun W => by
            rw [eq_arr W 32 23 D16 D16 HML.out HML.out Tryd.underlying23]
            simp
          go_wp2_with (first | refine load_row_g (by rfl) 23 _ rfl w17.heap.size rfl 23 (b8 D16) _ HX.out Tryd.underlying23 rfl HSD.out ?_ | refine load_row_g (by rfl) 23 _ rfl (w.heap.size + 1) rfl 23 (b8 D16) _ S18.out.bm Tryd.underlying23 rfl HSD.out ?_)
          go_light
          go_ret
          exact ⟨rfl, S18.out.bel⟩
end Otp
end Go.Proofs.YtpakdcgcgekcfaaDoor
