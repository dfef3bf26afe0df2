/-
  Texts of this claim, joined: SlotC, SlotD, SlotE, SlotF.
-/
import Derived.Test.YtmiaabpnolebhaaGreatDoorJ4a2fdec8
import Derived.Test.YtmiaabpnolebhaaGreatDoorMacE
set_option linter.unusedSimpArgs false
set_option linter.unusedVariables false
/-
  Package slot: Lay, Lock, Locked, Dead.
-/
namespace Go.Proofs.YtmiaabpnolebhaaGreatDoor
open Go.RowKit

namespace Slot
open Otp R1 Sha
def layE (s : Slt) (h kind : Int) : Nat := if mayE s [h] ≠ 0 then mayE s [h] else if kind < 1 ∨ 3 < kind then 1 else if s.lk = true ∧ kind = 1 then 12 else if kindE s h ≠ 0 then 13 else 0
def laySt (s : Slt) (h kind : Int) (key : List Nat) : Slt := if layE s h kind = 0 then s.put h.toNat (kind.toNat, key) else s
/-- A call that may write into the chip's places. -/
def WrOut (w : World) (g : Nat) (z : Int) (s' : Slt) (e : Ending) (w' : World) : Prop := e = .returned (.int .i64 z) ∧ Sl w' g s' ∧ Frm [g] w w'
theorem place_info : (Tryz.prog.info? 236).map (·.size) = some 33 := by kernel_rfl
theorem place_built (k : Nat) (y : List Nat) (hy : y.length = 32) : Tryz.prog.built 236 [(0, .int .i64 (k : Int)), (1, .agg (b8 y))] = some (row (k, y)).toArray := by
  have h : Tryz.prog.built 236 [(0, .int .i64 (k : Int)), (1, .agg (b8 y))] = Instr.fill ((#[(0, 1), (1, 32)] : Array (Nat × Nat))[·]?) (Value.int .i64 0 :: v8 (List.replicate 32 0)).toArray [(0, .int .i64 (k : Int)), (1, .agg (b8 y))] := by kernel_rfl
  have hz : (Value.int .i64 0 :: v8 (List.replicate 32 0)).length = 33 := rfl
  have hp := fill_part ((#[(0, 1), (1, 32)] : Array (Nat × Nat))[·]?) ((Value.int .i64 0 :: v8 (List.replicate 32 0)).set 0 (.int .i64 (k : Int))) 1 (v8 y) [] 1 (by rw [v8_length, hy]; rfl) (by rw [List.length_set, hz, v8_length, hy]; decide)
  rw [h, fill_one _ _ 0 (.int .i64 (k : Int)) _ 0 rfl rfl (by decide)]
  have hs : splice ((Value.int .i64 0 :: v8 (List.replicate 32 0)).set 0 (.int .i64 (k : Int))) 1 (v8 y) = row (k, y) := by
    unfold splice
    rw [List.drop_of_length_le (by rw [List.length_set, hz, v8_length, hy]; decide), List.append_nil, List.set_cons_zero, List.take_succ_cons, List.take_zero]
    rfl
  rw [hs] at hp
  exact hp
theorem row_one (p : Nat × List Nat) : ∀ v ∈ row p, v.oneCell' = true := fun v hv => by
  rcases List.mem_cons.1 hv with rfl | hv
  · rfl
  · obtain ⟨_, _, rfl⟩ := List.mem_map.1 hv
    rfl
theorem row_size {p : Nat × List Nat} (h : p.2.length = 32) : (row p).toArray.size = 33 := by simp [row, v8_length, h]
set_option maxRecDepth 100000 in
set_option maxHeartbeats 4000000 in
theorem lay_any (g : Nat) (s : Slt) (h kind : Int) (key : List Nat) (w : World) (hS : Sl w g s) (hw : wfI h) (hkl : key.length = 32) (hkb : ∀ x ∈ key, x < 256) :
    Calls Tryz.prog 50 #[.pointer (some ⟨g, 0, none⟩), .int .i64 h, .int .i64 kind, .agg (b8 key)] w (WrOut w g (layE s h kind) (laySt s h kind key)) := by
  obtain ⟨W1, hW1⟩ : ∃ W, W = w.alloc (.cells (b8 key) 23) := ⟨_, rfl⟩
  have HB1 := Lib.hid (show Below w.heap.size w W1 by rw [hW1]; exact (Below.refl _ w).alloc (Nat.le_refl _) _)
  have HK1 := Lib.hid (show Blk W1 w.heap.size 23 (b8 key) by rw [hW1]; exact Blk.new _ _ _)
  have HW1 := Lib.hid hW1
  obtain ⟨W2, hW2⟩ : ∃ W, W = W1.alloc (.cells #[.int .i64 h] 3) := ⟨_, rfl⟩
  have HW2 := Lib.hid hW2
  have HB2 := Lib.hid (show Below w.heap.size w W2 by rw [hW2]; exact HB1.out.alloc HB1.out.size _)
  have HK2 := Lib.hid (show Blk W2 w.heap.size 23 (b8 key) by rw [hW2]; exact HK1.out.alloc _)
  have HS2 := Lib.hid (hS.old HB2.out)
  have HM := Lib.hid (may_any g s (some ⟨W1.heap.size, 0, none⟩) [h] 1 1 W2 HS2.out rfl (by decide) (by rw [hW2]; exact ints_one W1 h hw))
  obtain ⟨E, hE⟩ : ∃ E, mayE s [h] = E := ⟨_, rfl⟩
  rw [hE] at HM
  have hok := HS2.out.ok
  have HEND := Lib.hid (show Frm [g] w W2 from Frm.of_below HB2.out)
  clear hW1 hW2 hS
  by_cases h0 : E = 0
  · subst h0
    obtain ⟨hdd, h1, h2⟩ := mayE_zero hE
    obtain ⟨i, rfl⟩ : ∃ i : Nat, h = i := ⟨h.toNat, by omega⟩
    obtain ⟨p, hp, hpl, hpb, hp3⟩ := row_at hok (show i < 8 by omega)
    have hkd : kindE s (i : Int) = p.1 := by rw [kindE, if_pos hE, Int.toNat_natCast, hp]; rfl
    have hck : W2.cell? ⟨g, i * 33, none⟩ = some (.int .i64 (p.1 : Int)) := HS2.out.cellAt (by rw [Nat.mul_comm]; exact hok.kindAt hp)
    have hcl : W2.cell? ⟨g, 264, none⟩ = some (.bool s.lk) := HS2.out.cellAt hok.lockAt
    have hi8 : (i : Int) < 8 := h2
    by_cases hkr : kind < 1 ∨ 3 < kind
    · have HE := Lib.hid (show layE s (i : Int) kind = 1 by rw [layE, hE, if_neg (by decide), if_pos hkr])
      have HL := Lib.hid (show laySt s (i : Int) kind key = s by rw [laySt, HE.out]; rfl)
      rw [HE.out, HL.out]
      clear hE hdd hp h1 h2 hw hkd hck hcl HE HL hok
      by_cases hk1 : kind < 1
      all_goals
        (try have hk3 : kind > 3 := by omega)
        go_enter Tryz.func50, Tryz.ntmps50
        go_upto_region 1 with fail
        change Code.wp _ _ _ _ (w.alloc (.cells (b8 key) 23))
        rw [← HW1.out]
        go_upto_region 2 with (go_at_call 118; change Calls _ _ _ (W1.alloc (.cells #[.int .i64 (i : Int)] 3)) _; rw [← HW2.out]; (with_reducible refine HM.out.mono ?_); rintro e w2 ⟨rfl, rfl⟩)
        go_wp2_with fail
        go_light
        go_ret
        exact ⟨rfl, HS2.out, HEND.out⟩
    · have hk1 : ¬ kind < 1 := by omega
      have hk3 : ¬ kind > 3 := by omega
      by_cases hlk : s.lk = true ∧ kind = 1
      · obtain ⟨hl, hk⟩ := hlk
        have HE := Lib.hid (show layE s (i : Int) kind = 12 by rw [layE, hE, if_neg (by decide), if_neg hkr, if_pos ⟨hl, hk⟩])
        have HL := Lib.hid (show laySt s (i : Int) kind key = s by rw [laySt, HE.out]; rfl)
        rw [HE.out, HL.out]
        rw [hl] at hcl
        subst hk
        clear hE hdd hp h1 h2 hw hkd hck hl HE HL hok hkr hk1 hk3
        go_enter Tryz.func50, Tryz.ntmps50
        go_upto_region 1 with fail
        change Code.wp _ _ _ _ (w.alloc (.cells (b8 key) 23))
        rw [← HW1.out]
        go_upto_region 2 with (go_at_call 118; change Calls _ _ _ (W1.alloc (.cells #[.int .i64 (i : Int)] 3)) _; rw [← HW2.out]; (with_reducible refine HM.out.mono ?_); rintro e w2 ⟨rfl, rfl⟩)
        go_wp2_with fail
        go_light
        go_ret
        exact ⟨rfl, HS2.out, HEND.out⟩
      · have hb33 : s.lk = false ∨ (s.lk = true ∧ (kind == 1) = false) := by
          cases hl : s.lk
          · exact .inl rfl
          · exact .inr ⟨rfl, by rw [beq_eq_false_iff_ne]; exact fun h => hlk ⟨hl, h⟩⟩
        by_cases hkk : p.1 = 0
        · have HE := Lib.hid (show layE s (i : Int) kind = 0 by rw [layE, hE, if_neg (by decide), if_neg hkr, if_neg hlk, hkd, hkk]; rfl)
          obtain ⟨kn, rfl⟩ : ∃ n : Nat, kind = n := ⟨kind.toNat, by omega⟩
          have HL := Lib.hid (show laySt s (i : Int) (kn : Int) key = s.put i (kn, key) by rw [laySt, HE.out, if_pos rfl]; rfl)
          rw [HE.out, HL.out]
          rw [hkk] at hck
          have HSP := Lib.hid (show splice (slC s) (i * 33) (row (kn, key)).toArray.toList = slC (s.put i (kn, key)) by
            rw [Nat.mul_comm]
            exact hok.splice (by omega) hkl)
          have HOK := Lib.hid (hok.put i (p := (kn, key)) hkl hkb (by simp only; omega))
          have HSZ := Lib.hid (show (Tryz.prog.info? 236).map (·.size) = some (row (kn, key)).toArray.size by rw [row_size hkl]; exact place_info)
          have HFT := Lib.hid (show i * 33 + (row (kn, key)).toArray.size ≤ (slC s).length by rw [row_size hkl, hok.size]; omega)
          have HSK := Lib.hid (show (Tryz.prog.info? 23).map (·.size) = some (b8 key).size by rw [b8_size, hkl]; exact dig_info)
          have HPB := Lib.hid (place_built kn key hkl)
          clear hE hdd hp h1 h2 hw hkd HE HL hok hkr hlk hkl hkb
          rcases hb33 with hl | ⟨hl, hkb1⟩
          all_goals
            rw [hl] at hcl
            clear hl
            go_enter Tryz.func50, Tryz.ntmps50
            go_upto_region 1 with fail
            change Code.wp _ _ _ _ (w.alloc (.cells (b8 key) 23))
            rw [← HW1.out]
            go_upto_region 2 with (go_at_call 118; change Calls _ _ _ (W1.alloc (.cells #[.int .i64 (i : Int)] 3)) _; rw [← HW2.out]; (with_reducible refine HM.out.mono ?_); rintro e w2 ⟨rfl, rfl⟩)
            go_wp2_with fail
            refine Rel.wp_region_rel 8 [(48, .const (.pointer (some ⟨g, 0, none⟩)))] (by kernel_rfl) (by kernel_rfl) ?_
            simp only [List.take_succ_cons, List.take_zero, List.drop_succ_cons, List.drop_zero, Act.put, List.setIfInBounds_toArray, List.set_cons_zero, List.set_cons_succ]
            repeat (refine Rel.tree_quiet rfl rfl rfl (fun K hK => ?_); go_big_quiet_op; refine hK _ ?_; clear hK K)
            refine Rel.tree_pure rfl rfl rfl (.agg (b8 key)) (fun W hW _ => Rel.exec_load _ _ rfl w.heap.size 0 rfl _ _ (Blk.range (hW.blk HK2.out.drew)) Tryz.underlying23 rfl HSK.out) ?_
            simp only [Act.put, List.setIfInBounds_toArray, List.set_cons_zero, List.set_cons_succ]
            refine Rel.tree_pure rfl rfl rfl (.agg (row (kn, key)).toArray) (fun W hW _ => Rel.exec_build _ _ rfl _ HPB.out) ?_
            simp only [Act.put, List.setIfInBounds_toArray, List.set_cons_zero, List.set_cons_succ]
            refine Rel.tree_const rfl (.pointer (some ⟨g, 0, none⟩)) rfl (fun W hW _ => ?_) ?_
            · unfold Rel.relAt; go_simp; exact ⟨Rel.Grow.refl _, rfl⟩
            simp only [Act.put, List.setIfInBounds_toArray, List.set_cons_zero, List.set_cons_succ]
            repeat (refine Rel.tree_quiet rfl rfl rfl (fun K hK => ?_); go_big_quiet_op; refine hK _ ?_; clear hK K)
            intro W hW _
            have KS := Lib.hid (hW.blk HS2.out.blk.drew)
            have HBW := Lib.hid (below_then HB2.out hW.undrew (Nat.le_refl _))
            clear hW
            go_wp2_with (refine wpList_store_frm rfl 236 (.tmp 50) (.tmp 47) rfl g (i * 33) (row (kn, key)).toArray rfl rfl 239 (slC s) KS.out HFT.out HSZ.out (all_oneCell_toArray (row_one _)) ?_; intro w7 K7 F7)
            rw [HSP.out] at K7
            go_light
            go_ret
            exact ⟨rfl, ⟨HOK.out, K7⟩, (Frm.of_below HBW.out).trans' F7 (fun x hx _ => hx)⟩
        · have HE := Lib.hid (show layE s (i : Int) kind = 13 by rw [layE, hE, if_neg (by decide), if_neg hkr, if_neg hlk, hkd, if_pos hkk])
          have HL := Lib.hid (show laySt s (i : Int) kind key = s by rw [laySt, HE.out]; rfl)
          rw [HE.out, HL.out]
          have hne : (((p.1 : Nat) : Int) != 0) = true := by rw [bne_iff_ne]; omega
          clear hE hdd hp h1 h2 hw hkd HE HL hok hkr hlk
          rcases hb33 with hl | ⟨hl, hkb1⟩
          all_goals
            rw [hl] at hcl
            clear hl
            go_enter Tryz.func50, Tryz.ntmps50
            go_upto_region 1 with fail
            change Code.wp _ _ _ _ (w.alloc (.cells (b8 key) 23))
            rw [← HW1.out]
            go_upto_region 2 with (go_at_call 118; change Calls _ _ _ (W1.alloc (.cells #[.int .i64 (i : Int)] 3)) _; rw [← HW2.out]; (with_reducible refine HM.out.mono ?_); rintro e w2 ⟨rfl, rfl⟩)
            go_wp2_with fail
            go_light
            go_ret
            exact ⟨rfl, HS2.out, HEND.out⟩
  · have HE := Lib.hid (show layE s h kind = E by rw [layE, hE, if_pos h0])
    have HL := Lib.hid (show laySt s h kind key = s by rw [laySt, HE.out, if_neg h0])
    have hne : (((E : Nat) : Int) != 0) = true := by rw [bne_iff_ne]; omega
    rw [HE.out, HL.out]
    clear hE hw HE HL hok
    go_enter Tryz.func50, Tryz.ntmps50
    go_upto_region 1 with fail
    change Code.wp _ _ _ _ (w.alloc (.cells (b8 key) 23))
    rw [← HW1.out]
    go_upto_region 2 with (go_at_call 118; change Calls _ _ _ (W1.alloc (.cells #[.int .i64 h] 3)) _; rw [← HW2.out]; (with_reducible refine HM.out.mono ?_); rintro e w2 ⟨rfl, rfl⟩)
    go_wp2_with fail
    go_light
    go_ret
    exact ⟨rfl, HS2.out, HEND.out⟩
set_option maxHeartbeats 1000000 in
theorem lay_nil (h kind : Int) (key : List Nat) (w : World) : Calls Tryz.prog 50 #[.pointer none, .int .i64 h, .int .i64 kind, .agg (b8 key)] w (IntBelow w 3) := by
  have HB := Lib.hid (((Below.refl _ w).alloc (Nat.le_refl _) (.cells (b8 key) 23)).alloc (by simp) (.cells #[.int .i64 h] 3))
  go_enter Tryz.func50, Tryz.ntmps50
  go_wp2_with fail
  (with_reducible refine (may_nil _ _ _ _).mono ?_); rintro e w2 ⟨rfl, rfl⟩
  go_wp2_with fail
  go_light
  go_ret
  exact ⟨rfl, HB.out⟩
end Slot
end Go.Proofs.YtmiaabpnolebhaaGreatDoor

/-
  Package slot: Derive, Mac.
-/
namespace Go.Proofs.YtmiaabpnolebhaaGreatDoor
open Go.RowKit

namespace Slot
open Otp R1 Sha Mac
theorem dig_end {fn : Func} {p u : Tmp} (h : fn.results = #[.cell p 23, .tmp u]) {tmps : Array Value} {w : World} (g : Nat) (E : Int) (D : List Nat) (h1 : tmps.getD p undef = .pointer (some ⟨g, 0, none⟩)) (h2 : tmps.getD u undef = .int .i64 E) (hb : Blk w g 23 (b8 D)) (hl : D.length = 32) :
    (results fn tmps).run Tryz.prog w = .ok (.tuple #[.agg (b8 D), .int .i64 E]) w := by
  rw [results_cell_tmp h, h1, h2]
  have := run_loadVar_row (P := Tryz.prog) w g 23 23 (b8 D) (0, 0) _ hb Tryz.underlying23 rfl (by rw [b8_size, hl]; kernel_rfl)
  simp only [asAddr, Sem.run_pure, Result.andThen_ok, this]
def derE (s : Slt) (a b : Int) : Nat := if mayE s [a, b] ≠ 0 then mayE s [a, b] else if keyE s a ≠ 0 then keyE s a else if kindE s b ≠ 0 then 13 else 0
def derSt (s : Slt) (a b : Int) (lb : List Nat) (ps : List (List Nat)) : Slt := if derE s a b = 0 then s.put b.toNat (2, deriveB (keyOf s a) lb ps) else s
theorem mayE_two {s : Slt} {a b : Int} (h : mayE s [a, b] = 0) : mayE s [a] = 0 ∧ mayE s [b] = 0 := by
  unfold mayE at *
  split at h
  · cases h
  · rename_i hd
    rw [if_neg hd, if_neg hd]
    split at h
    · rename_i h2
      simp only [List.all_cons, List.all_nil, Bool.and_true, Bool.and_eq_true] at h2
      simp [h2.1, h2.2]
    · cases h
theorem keyE_row {s : Slt} {h : Int} (hk : keyE s h = 0) (hok : s.Ok) : (keyOf s h).length = 32 ∧ ∀ x ∈ keyOf s h, x < 256 := by
  unfold keyE at hk
  split at hk
  · rename_i h1; exact absurd hk h1
  · rename_i h1
    obtain ⟨_, h2, h3⟩ := mayE_zero (Decidable.not_not.1 h1)
    obtain ⟨p, hp, hl, hb, _⟩ := row_at hok (show h.toNat < 8 by omega)
    unfold keyOf
    rw [hp]
    exact ⟨hl, hb⟩
set_option maxRecDepth 100000 in
set_option maxHeartbeats 4000000 in
theorem sderive_any (g : Nat) (s : Slt) (a b : Int) (lb : ByteArray) (ps : List (List Nat)) (PA : Option Addr) (pn pc : Nat) (w : World) (hT : STab w) (hS : Sl w g s) (ha : wfI a) (hb : wfI b)
    (hlb : lb.size ≤ 100000) (hpn : ps.length = pn) (hpm : pn ≤ 1000) (hP : Parts w w.heap.size PA ps) (hm : ps.flatten.length ≤ 100000) :
    Calls Tryz.prog 205 #[.pointer (some ⟨g, 0, none⟩), .int .i64 a, .int .i64 b, .string lb, .slice PA pn pc] w (WrOut w g (derE s a b) (derSt s a b (sB lb) ps)) := by
  obtain ⟨W2, hW2⟩ : ∃ W, W = w.alloc (.cells #[.int .i64 a, .int .i64 b] 3) := ⟨_, rfl⟩
  have HW2 := Lib.hid hW2
  have HB2 := Lib.hid (show Below w.heap.size w W2 by rw [hW2]; exact (Below.refl _ w).alloc (Nat.le_refl _) _)
  have HS2 := Lib.hid (hS.old HB2.out)
  have HM := Lib.hid (may_any g s (some ⟨w.heap.size, 0, none⟩) [a, b] 2 2 W2 HS2.out rfl (by decide) (by rw [hW2]; exact ints_two w a b ha hb))
  have HEND := Lib.hid (show Frm [g] w W2 from Frm.of_below HB2.out)
  have HKY := Lib.hid (key_any g s a W2 HS2.out ha)
  obtain ⟨E, hE⟩ : ∃ E, mayE s [a, b] = E := ⟨_, rfl⟩
  rw [hE] at HM
  have hok := HS2.out.ok
  have HT := Lib.hid hT
  have HP := Lib.hid hP
  clear hW2 hS hT hP
  by_cases h0 : E = 0
  · subst h0
    obtain ⟨ma, mb⟩ := mayE_two hE
    obtain ⟨_, h1, h2⟩ := mayE_zero mb
    obtain ⟨i, rfl⟩ : ∃ i : Nat, b = i := ⟨b.toNat, by omega⟩
    obtain ⟨p, hp, hpl, hpb, hp3⟩ := row_at hok (show i < 8 by omega)
    have hkd : kindE s (i : Int) = p.1 := by rw [kindE, if_pos mb, Int.toNat_natCast, hp]; rfl
    have hi8 : (i : Int) < 8 := h2
    obtain ⟨K, hK⟩ : ∃ K, keyE s a = K := ⟨_, rfl⟩
    obtain ⟨k, hk⟩ : ∃ k, keyOf s a = k := ⟨_, rfl⟩
    rw [hK, hk] at HKY
    by_cases hK0 : K = 0
    · subst hK0
      have hkr := keyE_row hK hok
      rw [hk] at hkr
      have HKB := Lib.hid hkr.2
      by_cases hkk : p.1 = 0
      · obtain ⟨d, hd⟩ : ∃ d, deriveB k (sB lb) ps = d := ⟨_, rfl⟩
        have HE := Lib.hid (show derE s a (i : Int) = 0 by rw [derE, hE, if_neg (by decide), hK, if_neg (by decide), hkd, hkk]; rfl)
        have HL := Lib.hid (show derSt s a (i : Int) (sB lb) ps = s.put i (2, d) by rw [derSt, HE.out, if_pos rfl, hk, hd]; rfl)
        rw [HE.out, HL.out]
        have hdl : d.length = 32 := by rw [← hd]; exact deriveB_length _ _ _
        have hdb : ∀ x ∈ d, x < 256 := by rw [← hd]; exact deriveB_byte _ _ _
        have HSP := Lib.hid (show splice (slC s) (i * 33) (row (2, d)).toArray.toList = slC (s.put i (2, d)) by
          rw [Nat.mul_comm]
          exact hok.splice (by omega) hdl)
        have HOK := Lib.hid (hok.put i (p := (2, d)) hdl hdb (show 2 ≤ 3 by decide))
        have HSZ := Lib.hid (show (Tryz.prog.info? 236).map (·.size) = some (row (2, d)).toArray.size by rw [row_size hdl]; exact place_info)
        have HFT := Lib.hid (show i * 33 + (row (2, d)).toArray.size ≤ (slC s).length by rw [row_size hdl, hok.size]; omega)
        have HPB := Lib.hid (place_built 2 d hdl)
        have HDV := Lib.hid (fun W (h : Below W2.heap.size W2 W) A n c (hn : n = 32) (hN : Nats .u8 256 W W.heap.size A k) (hP : Parts W W.heap.size PA ps) => mderive_any k A n c lb ps PA pn pc W (HT.out.old (below_then HB2.out h (Nat.le_refl _))) (by rw [hn]; exact hkr.1) (by omega) hN hkr.2 hlb hpn hpm hP hm)
        rw [hd] at HDV
        have HKAT := Lib.hid (hok.kindAt hp)
        clear hE hp h1 h2 hkd HE HL hok ma mb hK hk hd hdl hdb hkr ha hb
        go_enter Tryz.func205, Tryz.ntmps205
        go_upto_region 2 with (go_at_call 118; change Calls _ _ _ (w.alloc (.cells #[.int .i64 a, .int .i64 (i : Int)] 3)) _; rw [← HW2.out]; (with_reducible refine HM.out.mono ?_); rintro e w2 ⟨rfl, rfl⟩)
        go_wp2_with fail
        (with_reducible refine HKY.out.mono ?_); rintro e w3 ⟨A, n, c, rfl, hkey, hB3⟩
        obtain ⟨hn32, hnc, hkl, hN⟩ := hkey rfl
        have HKEY := Lib.hid hN
        have HB3 := Lib.hid (below_then HB2.out hB3 (Nat.le_refl _))
        have HB23 := Lib.hid hB3
        have HS3 := Lib.hid (HS2.out.old hB3)
        have HP3 := Lib.hid ((HP.out.below HB3.out).more HB3.out.size)
        have hck : w3.cell? ⟨g, i * 33, none⟩ = some (.int .i64 (p.1 : Int)) := HS3.out.cellAt (by rw [Nat.mul_comm]; exact HKAT.out)
        rw [hkk] at hck
        have HN32 := Lib.hid hn32
        clear hkey hB3 hN hn32 HM HKY HS2 HEND HP hkl hnc
        go_wp2_with fail
        refine Rel.wp_region_rel 10 [(46, .const (.agg (b8 d))), (48, .const (.pointer (some ⟨g, 0, none⟩)))] (by kernel_rfl) (by kernel_rfl) ?_
        simp only [List.take_succ_cons, List.take_zero, List.drop_succ_cons, List.drop_zero, Act.put, List.setIfInBounds_toArray, List.set_cons_zero, List.set_cons_succ]
        repeat (refine Rel.tree_quiet rfl rfl rfl (fun K hK => ?_); go_big_quiet_op; refine hK _ ?_; clear hK K)
        refine Rel.tree_const rfl (.agg (b8 d)) rfl (fun W hW _ => ?_) ?_
        · unfold Rel.relAt; go_simp; show Calls _ _ _ _ _
          exact const_call (HDV.out W (HB23.out.trans (hW.undrew.mono HB23.out.size)) A n c HN32.out (nats_step HKEY.out hW.undrew) ((HP3.out.below hW.undrew).more hW.undrew.size))
        simp only [Act.put, List.setIfInBounds_toArray, List.set_cons_zero, List.set_cons_succ]
        refine Rel.tree_pure rfl rfl rfl (.agg (row (2, d)).toArray) (fun W hW _ => Rel.exec_build _ _ rfl _ HPB.out) ?_
        simp only [Act.put, List.setIfInBounds_toArray, List.set_cons_zero, List.set_cons_succ]
        refine Rel.tree_const rfl (.pointer (some ⟨g, 0, none⟩)) rfl (fun W hW _ => ?_) ?_
        · unfold Rel.relAt; go_simp; exact ⟨Rel.Grow.refl _, rfl⟩
        simp only [Act.put, List.setIfInBounds_toArray, List.set_cons_zero, List.set_cons_succ]
        repeat (refine Rel.tree_quiet rfl rfl rfl (fun K hK => ?_); go_big_quiet_op; refine hK _ ?_; clear hK K)
        intro W hW _
        have KS := Lib.hid (hW.blk HS3.out.blk.drew)
        have HBW := Lib.hid (below_then HB3.out hW.undrew (Nat.le_refl _))
        clear hW
        go_wp2_with (refine wpList_store_frm rfl 236 (.tmp 50) (.tmp 47) rfl g (i * 33) (row (2, d)).toArray rfl rfl 239 (slC s) KS.out HFT.out HSZ.out (all_oneCell_toArray (row_one _)) ?_; intro w7 K7 F7)
        rw [HSP.out] at K7
        go_light
        go_ret
        exact ⟨rfl, ⟨HOK.out, K7⟩, (Frm.of_below HBW.out).trans' F7 (fun x hx _ => hx)⟩
      · have HE := Lib.hid (show derE s a (i : Int) = 13 by rw [derE, hE, if_neg (by decide), hK, if_neg (by decide), hkd, if_pos hkk])
        have HL := Lib.hid (show derSt s a (i : Int) (sB lb) ps = s by rw [derSt, HE.out]; rfl)
        rw [HE.out, HL.out]
        have hne : (((p.1 : Nat) : Int) != 0) = true := by rw [bne_iff_ne]; omega
        have HKAT := Lib.hid (hok.kindAt hp)
        clear hE hp h1 h2 hkd HE HL hok ma mb hK hk hkr ha hb
        go_enter Tryz.func205, Tryz.ntmps205
        go_upto_region 2 with (go_at_call 118; change Calls _ _ _ (w.alloc (.cells #[.int .i64 a, .int .i64 (i : Int)] 3)) _; rw [← HW2.out]; (with_reducible refine HM.out.mono ?_); rintro e w2 ⟨rfl, rfl⟩)
        go_wp2_with fail
        (with_reducible refine HKY.out.mono ?_); rintro e w3 ⟨A, n, c, rfl, hkey, hB3⟩
        have HB3 := Lib.hid (below_then HB2.out hB3 (Nat.le_refl _))
        have HS3 := Lib.hid (HS2.out.old hB3)
        have hck : w3.cell? ⟨g, i * 33, none⟩ = some (.int .i64 (p.1 : Int)) := HS3.out.cellAt (by rw [Nat.mul_comm]; exact HKAT.out)
        clear hkey hB3 HM HKY HS2 HEND HP
        go_wp2_with fail
        go_light
        go_ret
        exact ⟨rfl, HS3.out, Frm.of_below HB3.out⟩
    · have HE := Lib.hid (show derE s a (i : Int) = K by rw [derE, hE, if_neg (by decide), hK, if_pos hK0])
      have HL := Lib.hid (show derSt s a (i : Int) (sB lb) ps = s by rw [derSt, HE.out, if_neg hK0])
      rw [HE.out, HL.out]
      have hne : (((K : Nat) : Int) != 0) = true := by rw [bne_iff_ne]; omega
      clear hE hp h1 h2 hkd HE HL hok ma mb hK hk ha hb
      go_enter Tryz.func205, Tryz.ntmps205
      go_upto_region 2 with (go_at_call 118; change Calls _ _ _ (w.alloc (.cells #[.int .i64 a, .int .i64 (i : Int)] 3)) _; rw [← HW2.out]; (with_reducible refine HM.out.mono ?_); rintro e w2 ⟨rfl, rfl⟩)
      go_wp2_with fail
      (with_reducible refine HKY.out.mono ?_); rintro e w3 ⟨A, n, c, rfl, hkey, hB3⟩
      have HB3 := Lib.hid (below_then HB2.out hB3 (Nat.le_refl _))
      have HS3 := Lib.hid (HS2.out.old hB3)
      clear hkey hB3 HM HKY HS2 HEND HP
      go_wp2_with fail
      go_light
      go_ret
      exact ⟨rfl, HS3.out, Frm.of_below HB3.out⟩
  · have HE := Lib.hid (show derE s a b = E by rw [derE, hE, if_pos h0])
    have HL := Lib.hid (show derSt s a b (sB lb) ps = s by rw [derSt, HE.out, if_neg h0])
    have hne : (((E : Nat) : Int) != 0) = true := by rw [bne_iff_ne]; omega
    rw [HE.out, HL.out]
    clear hE HE HL hok ha hb HKY HP
    go_enter Tryz.func205, Tryz.ntmps205
    go_upto_region 2 with (go_at_call 118; change Calls _ _ _ (w.alloc (.cells #[.int .i64 a, .int .i64 b] 3)) _; rw [← HW2.out]; (with_reducible refine HM.out.mono ?_); rintro e w2 ⟨rfl, rfl⟩)
    go_wp2_with fail
    go_light
    go_ret
    exact ⟨rfl, HS2.out, HEND.out⟩
set_option maxHeartbeats 1000000 in
theorem sderive_nil (a b : Int) (lb : ByteArray) (PA : Option Addr) (pn pc : Nat) (w : World) : Calls Tryz.prog 205 #[.pointer none, .int .i64 a, .int .i64 b, .string lb, .slice PA pn pc] w (IntBelow w 3) := by
  have HB := Lib.hid ((Below.refl _ w).alloc (Nat.le_refl _) (.cells #[.int .i64 a, .int .i64 b] 3))
  go_enter Tryz.func205, Tryz.ntmps205
  go_wp2_with fail
  (with_reducible refine (may_nil _ _ _ _).mono ?_); rintro e w2 ⟨rfl, rfl⟩
  go_wp2_with fail
  go_light
  go_ret
  exact ⟨rfl, HB.out⟩
end Slot
end Go.Proofs.YtmiaabpnolebhaaGreatDoor

/-
  Package slot: Mac, Lock, Locked, Dead.
-/
namespace Go.Proofs.YtmiaabpnolebhaaGreatDoor
open Go.RowKit

namespace Slot
open Otp R1 Sha Mac
def macD (s : Slt) (h : Int) (ps : List (List Nat)) : List Nat := if keyE s h = 0 then macB (keyOf s h) ps.flatten else List.replicate 32 0
def DigErr (w : World) (D : List Nat) (E : Int) (e : Ending) (w' : World) : Prop := e = .returned (.tuple #[.agg (b8 D), .int .i64 E]) ∧ Below w.heap.size w w'
set_option maxRecDepth 100000 in
set_option maxHeartbeats 4000000 in
theorem smac_of (q : Value) (h : Int) (E : Nat) (k : List Nat) (ps : List (List Nat)) (PA : Option Addr) (pn pc : Nat) (w : World) (hT : STab w) (hkb : E = 0 → ∀ x ∈ k, x < 256)
    (HK : ∀ W, Below w.heap.size w W → Calls Tryz.prog 248 #[q, .int .i64 h] W (KeyOut W E k)) (hpn : ps.length = pn) (hpm : pn ≤ 1000) (hP : Parts w w.heap.size PA ps) (hm : ps.flatten.length ≤ 100000) :
    Calls Tryz.prog 202 #[q, .int .i64 h, .slice PA pn pc] w (DigErr w (if E = 0 then macB k ps.flatten else List.replicate 32 0) E) := by
  obtain ⟨W1, hW1⟩ : ∃ W, W = w.alloc (.cells (b8 (List.replicate 32 0)) 23) := ⟨_, rfl⟩
  have HW1 := Lib.hid hW1
  have HB1 := Lib.hid (show Below w.heap.size w W1 by rw [hW1]; exact (Below.refl _ w).alloc (Nat.le_refl _) _)
  have HR1 := Lib.hid (show Blk W1 w.heap.size 23 (b8 (List.replicate 32 0)) by rw [hW1]; exact Blk.new _ _ _)
  have HKY := Lib.hid (HK W1 HB1.out)
  have HT := Lib.hid hT
  have HP := Lib.hid hP
  have HKB := Lib.hid hkb
  clear hW1 HK hT hP hkb
  by_cases h0 : E = 0
  · subst h0
    obtain ⟨d, hd⟩ : ∃ d, macB k ps.flatten = d := ⟨_, rfl⟩
    rw [if_pos rfl, hd]
    have HDL := Lib.hid (show d.length = 32 by rw [← hd]; exact macB_length _ _)
    have HSD := Lib.hid (show (Tryz.prog.info? 23).map (·.size) = some (b8 d).size by rw [b8_size, HDL.out]; exact dig_info)
    have HZD := Lib.hid (show (b8 (List.replicate 32 0)).size = (b8 d).size by rw [b8_size, b8_size, HDL.out]; rfl)
    have HDV := Lib.hid (fun W (h : Below w.heap.size w W) A n c (hn : n = 32) (hkl : k.length = 32) (hN : Nats .u8 256 W W.heap.size A k) => macsum_any k A n c ps PA pn pc W (HT.out.old h) (by rw [hn]; exact hkl) (by omega) hN (HKB.out rfl) hpn (by omega) ((HP.out.below h).more h.size) (by omega))
    rw [hd] at HDV
    clear hd
    go_enter Tryz.func202, Tryz.ntmps202
    go_upto_region 1 with fail
    change Code.wp _ _ _ _ (w.alloc (.cells (b8 (List.replicate 32 0)) 23))
    rw [← HW1.out]
    go_wp2_with fail
    (with_reducible refine HKY.out.mono ?_); rintro e w3 ⟨A, n, c, rfl, hkey, hB3⟩
    obtain ⟨hn32, hnc, hkl, hN⟩ := hkey rfl
    have HKEY := Lib.hid hN
    have HB3 := Lib.hid (below_then HB1.out hB3 (Nat.le_refl _))
    have HR3 := Lib.hid (HR1.out.next hB3 rfl)
    have HN32 := Lib.hid hn32
    have HKL := Lib.hid hkl
    clear hkey hB3 hN hn32 HKY HR1 hkl hnc
    go_wp2_with fail
    (with_reducible refine (HDV.out w3 HB3.out A n c HN32.out HKL.out HKEY.out).mono ?_); rintro e w4 ⟨rfl, hB4⟩
    have HR4 := Lib.hid (HR3.out.next hB4 rfl)
    have HB4 := Lib.hid (below_then HB3.out hB4 (Nat.le_refl _))
    clear hB4 HR3 HKEY
    go_wp2_with (refine wpList_store_row rfl 23 (.tmp 6) _ rfl w.heap.size (b8 d) rfl rfl 23 (b8 (List.replicate 32 0)) HR4.out HSD.out HZD.out (b8_one _) ?_)
    have hb := setRow_heap _ _ _ (b8 d) _ _ HR4.out
    have hB := below_setRow HB4.out (Nat.le_refl _) (b8 d)
    go_light
    exact bodyPost_ret (v := .tuple #[.agg (b8 d), .int .i64 0]) (dig_end Tryz.results202 w.heap.size 0 d rfl rfl hb HDL.out) rfl ⟨rfl, hB⟩
  · have hne : (((E : Nat) : Int) != 0) = true := by rw [bne_iff_ne]; omega
    rw [if_neg h0]
    have HSD := Lib.hid (show (Tryz.prog.info? 23).map (·.size) = some (b8 (List.replicate 32 0)).size by rw [b8_size]; exact dig_info)
    clear HKB HP HT
    go_enter Tryz.func202, Tryz.ntmps202
    go_upto_region 1 with fail
    change Code.wp _ _ _ _ (w.alloc (.cells (b8 (List.replicate 32 0)) 23))
    rw [← HW1.out]
    go_wp2_with fail
    (with_reducible refine HKY.out.mono ?_); rintro e w3 ⟨A, n, c, rfl, hkey, hB3⟩
    have HB3 := Lib.hid (below_then HB1.out hB3 (Nat.le_refl _))
    have HR3 := Lib.hid (HR1.out.next hB3 rfl)
    clear hkey hB3 HKY HR1
    go_wp2_with (refine wpList_store_row rfl 23 (.tmp 6) _ rfl w.heap.size (b8 (List.replicate 32 0)) rfl rfl 23 (b8 (List.replicate 32 0)) HR3.out HSD.out rfl (b8_one _) ?_)
    have hb := setRow_heap _ _ _ (b8 (List.replicate 32 0)) _ _ HR3.out
    have hB := below_setRow HB3.out (Nat.le_refl _) (b8 (List.replicate 32 0))
    go_light
    exact bodyPost_ret (v := .tuple #[.agg (b8 (List.replicate 32 0)), .int .i64 (E : Int)]) (dig_end Tryz.results202 w.heap.size E (List.replicate 32 0) rfl rfl hb (by rw [List.length_replicate])) rfl ⟨rfl, hB⟩
theorem smac_any (g : Nat) (s : Slt) (h : Int) (ps : List (List Nat)) (PA : Option Addr) (pn pc : Nat) (w : World) (hT : STab w) (hS : Sl w g s) (hw : wfI h) (hpn : ps.length = pn) (hpm : pn ≤ 1000) (hP : Parts w w.heap.size PA ps) (hm : ps.flatten.length ≤ 100000) :
    Calls Tryz.prog 202 #[.pointer (some ⟨g, 0, none⟩), .int .i64 h, .slice PA pn pc] w (DigErr w (macD s h ps) (keyE s h)) :=
  smac_of _ h (keyE s h) (keyOf s h) ps PA pn pc w hT (fun h => (keyE_row h hS.ok).2) (fun W hb => key_any g s h W (hS.old hb) hw) hpn hpm hP hm
theorem smac_nil (h : Int) (ps : List (List Nat)) (PA : Option Addr) (pn pc : Nat) (w : World) (hT : STab w) (hpn : ps.length = pn) (hpm : pn ≤ 1000) (hP : Parts w w.heap.size PA ps) (hm : ps.flatten.length ≤ 100000) :
    Calls Tryz.prog 202 #[.pointer none, .int .i64 h, .slice PA pn pc] w (DigErr w (List.replicate 32 0) 3) :=
  smac_of _ h 3 [] ps PA pn pc w hT (fun h => by cases h) (fun W _ => key_nil h W) hpn hpm hP hm
def LkOut (w : World) (g : Nat) (s' : Slt) (e : Ending) (w' : World) : Prop := e = .returned (.tuple #[]) ∧ Sl w' g s' ∧ Frm [g] w w'
theorem slC_lock (s : Slt) (b : Bool) (h : s.Ok) : (slC s).set 264 (.bool b) = slC { s with lk := b } := by
  unfold slC
  rw [List.set_append_right _ _ (by rw [flat_len _ h.rows, List.length_map, h.len]; decide), flat_len _ h.rows, List.length_map, h.len]
  rfl
theorem slC_dead (s : Slt) (b : Bool) (h : s.Ok) : (slC s).set 265 (.bool b) = slC { s with dd := b } := by
  unfold slC
  rw [List.set_append_right _ _ (by rw [flat_len _ h.rows, List.length_map, h.len]; decide), flat_len _ h.rows, List.length_map, h.len]
  rfl
theorem Slt.Ok.flags {s : Slt} (h : s.Ok) (a b : Bool) : Slt.Ok { s with lk := a, dd := b } := ⟨h.len, h.key, h.byte, h.kind⟩
def BoolSame (w : World) (b : Bool) (e : Ending) (w' : World) : Prop := e = .returned (.bool b) ∧ w = w'
/-- Nothing in any place. -/
def zRow : Nat × List Nat := (0, List.replicate 32 0)
def zRows : List (Nat × List Nat) := List.replicate 8 zRow
def killSt (s : Slt) : Slt := { rs := zRows, lk := s.lk, dd := true }
theorem zRows_ok (a b : Bool) : Slt.Ok { rs := zRows, lk := a, dd := b } := by
  have h : ∀ p ∈ zRows, p = zRow := fun p hp => (List.mem_replicate.1 hp).2
  refine ⟨rfl, fun p hp => ?_, fun p hp x hx => ?_, fun p hp => ?_⟩ <;> rw [h p hp] at *
  · rfl
  · rw [(List.mem_replicate.1 hx).2]; decide
  · decide
theorem places_info : (Tryz.prog.info? 237).map (·.size) = some 264 := by kernel_rfl
end Slot
end Go.Proofs.YtmiaabpnolebhaaGreatDoor

/-
  Package slot: New, Count, Wipe.
-/
namespace Go.Proofs.YtmiaabpnolebhaaGreatDoor
open Go.RowKit

namespace Slot
open Otp R1 Sha Mac
def newSt : Slt := { rs := zRows, lk := false, dd := false }
set_option maxRecDepth 100000 in
set_option maxHeartbeats 1000000 in
theorem snew_any (w : World) : Calls Tryz.prog 116 #[] w (fun e w' => e = .returned (.pointer (some ⟨w.heap.size, 0, none⟩)) ∧ Sl w' w.heap.size newSt ∧ Below w.heap.size w w') := by
  have HZ : (slC newSt).toArray = Tryz.zeroCells239 := by kernel_rfl
  have HK := Lib.hid (show Blk (w.alloc (.cells Tryz.zeroCells239 239)) w.heap.size 239 (slC newSt).toArray by rw [HZ]; exact Blk.new _ _ _)
  have HB := Lib.hid ((Below.refl _ w).alloc (Nat.le_refl _) (.cells Tryz.zeroCells239 239))
  clear HZ
  go_enter Tryz.func116, Tryz.ntmps116
  go_wp2_with fail
  go_light
  go_ret
  exact ⟨rfl, ⟨zRows_ok _ _, HK.out⟩, HB.out⟩
/-- How many of the first places aren't empty. -/
def cntE (s : Slt) : Nat → Nat
  | 0 => 0
  | i + 1 => cntE s i + (if kindE s (i : Int) = 0 then 0 else 1)
theorem cntE_le (s : Slt) : ∀ i, cntE s i ≤ i
  | 0 => Nat.le_refl _
  | i + 1 => by have := cntE_le s i; unfold cntE; split <;> omega
theorem wfI_small {h : Int} (h1 : -1000 ≤ h) (h2 : h ≤ 1000) : wfI h := by
  unfold wfI
  simp only [Lit.wf]
  have hm : IntKind.i64.min = -9223372036854775808 := by decide
  have hx : IntKind.i64.max = 9223372036854775807 := by decide
  rw [hm, hx]
  simp only [Bool.and_eq_true, decide_eq_true_eq]
  omega
end Slot
end Go.Proofs.YtmiaabpnolebhaaGreatDoor
