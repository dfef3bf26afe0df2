/-
  A nil chip: the rest of the package, and the law's plan.
-/
import Derived.Test.YtpakdcgcgekcfaaDoorProg
import Derived.Test.YtpakdcgcgekcfaaDoorMem
import Derived.Test.YtpakdcgcgekcfaaDoorNext
import Derived.Test.YtpakdcgcgekcfaaDoorOtpAct
import Derived.Test.YtpakdcgcgekcfaaDoorOtpOps
import Derived.Test.YtpakdcgcgekcfaaDoorOtpTo
import Derived.Test.YtpakdcgcgekcfaaDoorOtpKey
import Derived.Test.YtpakdcgcgekcfaaDoorOtpRow
import Derived.Test.YtpakdcgcgekcfaaDoorR1Join
import Derived.Test.YtpakdcgcgekcfaaDoorOtpRise2
import Derived.Deep.MidRow
import Derived.Laws.Cover3
import Derived.Deep.Onto
import Derived.RegionTactic
import Derived.Deep.RegionHeld3
import Derived.BigRegion
import Derived.Test.YtpakdcgcgekcfaaDoorOtpNil
import Derived.Test.YtpakdcgcgekcfaaDoorOtpPln
import Derived.Laws.Rows
import Derived.Laws.CopyOwn
import Derived.Laws.ResultCell
namespace Go.Proofs.YtpakdcgcgekcfaaDoor
open Go.RowKit

namespace Otp
open Fuse R1
def NilOut (w : World) (e : Ending) (w' : World) : Prop := ToOut w 3 [] e w'
theorem nil_out {w w' : World} (hB : Below w.heap.size w w') : ToOut w 3 [] (.returned (.tuple #[.slice none 0 0, .int .i64 3])) w' := ⟨_, rfl, World.ownsRow_nil _ _ _ _, hB⟩
theorem tolife_nil (i : Int) (w : World) : Calls Tryd.prog 76 #[.pointer none, .int .i64 i] w (ToOut w 3 []) := by
  go_enter Tryd.func76, Tryd.ntmps76
  go_wp2_with fail
  go_light
  go_ret2
  exact nil_out (Below.refl _ w)
theorem tocounter_nil (i : Int) (w : World) : Calls Tryd.prog 65 #[.pointer none, .int .i64 i] w (ToOut w 3 []) := by
  go_enter Tryd.func65, Tryd.ntmps65
  go_wp2_with fail
  go_light
  go_ret2
  exact nil_out (Below.refl _ w)
theorem tokey_nil (A : Option Addr) (len cap : Nat) (C : Array Value) (w : World) : Calls Tryd.prog 77 #[.pointer none, .slice A len cap, .agg C] w (ToOut w 3 []) := by
  go_enter Tryd.func77, Tryd.ntmps77
  go_wp2_with fail
  go_light
  go_ret2
  exact nil_out ((Below.refl _ w).alloc (Nat.le_refl _) _)
theorem at_any (i : Int) (w : World) : Calls Tryd.prog 67 #[.int .i64 i] w fun e w' => e = .returned (.tuple #[.int .i64 (atV i), .int .i64 (atE i)]) ∧ w = w' := by
  by_cases h : 0 ≤ i ∧ i < 4
  · rw [show atV i = 27 + 9 * i by unfold atV; rw [if_pos h], show atE i = 0 by unfold atE; rw [if_pos h]]
    exact at_in i w h.1 h.2
  · rw [show atV i = 0 by unfold atV; rw [if_neg h], show atE i = 1 by unfold atE; rw [if_neg h]]
    exact at_out i w (by omega)
theorem torow_nil (i : Int) (C : Array Value) (w : World) : Calls Tryd.prog 17 #[.pointer none, .int .i64 i, .agg C] w (ToOut w 3 []) := by
  go_enter Tryd.func17, Tryd.ntmps17
  go_wp2_with fail
  (with_reducible refine (at_any _ _).mono ?_); rintro e w1 ⟨rfl, rfl⟩
  generalize atE i = a at *
  generalize atV i = b at *
  go_wp2_with fail
  go_light
  go_ret2
  exact nil_out ((Below.refl _ w).alloc (Nat.le_refl _) _)
theorem kill_nil (i : Int) (w : World) : Calls Tryd.prog 20 #[.pointer none, .int .i64 i] w (ToOut w 3 []) := by
  go_enter Tryd.func20, Tryd.ntmps20
  go_wp2_with fail
  (with_reducible refine (at_any _ _).mono ?_); rintro e w1 ⟨rfl, rfl⟩
  generalize atE i = a at *
  generalize atV i = b at *
  go_wp2_with fail
  go_light
  go_ret2
  exact nil_out (Below.refl _ w)
theorem seal_nil (w : World) : Calls Tryd.prog 23 #[.pointer none] w (fun e w' => e = .returned (.tuple #[]) ∧ w = w') := by
  go_enter Tryd.func23, Tryd.ntmps23
  go_wp2_with fail
  go_light
  (try simp only [Exit.inBlock, Exit.then])
  exact bodyPost_ret (results_none rfl _ _ _) rfl ⟨rfl, rfl⟩
theorem do_nil (v : Value) (w : World) : Calls Tryd.prog 18 #[.pointer none, v] w (fun e w' => e = .returned (.int .i64 3) ∧ w = w') := by
  go_enter Tryd.func18, Tryd.ntmps18
  go_wp2_with fail
  go_light
  go_ret
  exact ⟨rfl, rfl⟩
theorem key_nil (w : World) : Calls Tryd.prog 30 #[.pointer none] w (fun e w' => e = .returned (.slice none 0 0) ∧ w = w') := by
  go_enter Tryd.func30, Tryd.ntmps30
  go_wp2_with fail
  go_light
  go_ret
  exact ⟨rfl, rfl⟩
theorem tear_nil (C : Array Value) (g : Int) (w : World) : Calls Tryd.prog 32 #[.pointer none, .agg C, .int .u32 g] w (fun e w' => e = .returned (.int .i64 3) ∧ Below w.heap.size w w') := by
  go_enter Tryd.func32, Tryd.ntmps32
  go_wp2_with fail
  go_light
  go_ret
  exact ⟨rfl, (Below.refl _ w).alloc (Nat.le_refl _) _⟩
set_option maxHeartbeats 1000000 in
theorem row_nil (i : Int) (w : World) : Calls Tryd.prog 19 #[.pointer none, .int .i64 i] w (RowOut w z32 3) := by
  go_enter Tryd.func19, Tryd.ntmps19
  go_wp2_with fail
  (with_reducible refine (at_any _ _).mono ?_); rintro e w1 ⟨rfl, rfl⟩
  generalize atE i = a at *
  generalize atV i = b at *
  have HK := Lib.hid (show Blk (w.alloc (.cells (b8 (List.replicate 32 0)) 23)) w.heap.size 23 (b8 (List.replicate 32 0)) from Blk.new w _ _)
  have HB := Lib.hid ((Below.refl _ w).alloc (Nat.le_refl _) (.cells (b8 (List.replicate 32 0)) 23))
  have HA := Lib.hid (show (b8 (List.replicate 32 0)).all (·.oneCell') = true from b8_one _)
  go_wp2_with (refine wpList_store_row rfl 23 (.tmp 4) _ rfl w.heap.size (b8 (List.replicate 32 0)) rfl rfl 23 (b8 (List.replicate 32 0)) HK.out (by kernel_rfl) rfl HA.out ?_)
  have hb := setRow_heap _ _ _ (b8 (List.replicate 32 0)) _ _ HK.out
  have hB := below_setRow HB.out (Nat.le_refl _) (b8 (List.replicate 32 0))
  go_light
  exact bodyPost_ret (v := .tuple #[.agg (b8 (List.replicate 32 0)), .int .i64 3]) (rowp_end w.heap.size 3 (List.replicate 32 0) rfl rfl hb rfl) rfl ⟨rfl, hB⟩
set_option maxRecDepth 100000 in
set_option maxHeartbeats 1000000 in
theorem plan_nil2 (zd n : Int) (d : Nat) (ks : List Nat) (m : Int) (tn : Bool) (g : Int) (w : World) (hzd : zd = d) (hd : d < 256) (q2 : d % 5 = 2) (hl : ks.length = 32) (hk : ∀ x ∈ ks, x < 256) :
    Calls Tryd.prog 25 #[.pointer none, .agg (actC zd n ks m tn g)] w (ToOut w 3 []) := by
  have HL := Lib.hid hl
  have HK := Lib.hid hk
  have HZ := Lib.hid hzd
  have hz0 : 0 ≤ zd := by omega
  have hz1 : zd < 256 := by omega
  clear hl hk hzd
  have hC0 : (actC zd n ks m tn g)[0]? = some (.int .u8 zd) := actC_d
  have hC1 : (actC zd n ks m tn g)[1]? = some (.int .i64 n) := actC_n
  have HCK := Lib.hid (fun (j : Nat) (v : Value) (h : (ks.map fun x => Value.int .u8 ((x : Nat) : Int))[j]? = some v) => actC_key (d := zd) (n := n) (m := m) (tn := tn) (g := g) j v h)
  generalize actC zd n ks m tn g = C at *
  have hq : zd % 5 = ((d % 5 : Nat) : Int) := by have := HZ.out; omega
  have h5 : d % 5 < 5 := Nat.mod_lt _ (by decide)
  have done : ∀ (w1 : World) (v : Value) (E : Int) (l : List (Nat × Nat)), OwnW w1 (w.alloc (.cells C 46)).heap.size v l → Below (w.alloc (.cells C 46)).heap.size (w.alloc (.cells C 46)) w1 → ToOut w E l (.returned (.tuple #[v, .int .i64 E])) w1 := fun w1 v E l hO hB =>
    ⟨_, rfl, World.ownsRow.mono hO (by simp), below_then ((Below.refl _ w).alloc (Nat.le_refl _) _) hB (Nat.le_refl _)⟩
  have HDone := Lib.hid done
  clear done
  have t0 : (zd % 5 == 0) = false := by rw [hq, q2]; rfl
  have t1 : (zd % 5 == 1) = false := by rw [hq, q2]; rfl
  have t2 : (zd % 5 == 2) = true := by rw [hq, q2]; rfl
  have hW : Blk (w.alloc (.cells C 46)) w.heap.size 46 C := Blk.new w _ _
  have HW := Lib.hid hW
  have HN : Hid (Nats .u8 256 (w.alloc (.cells C 46)) (w.heap.size + 1) (some ⟨w.heap.size, 2, none⟩) ks) := Lib.hid (fun i z hz => ⟨HK.out z (List.mem_of_getElem? hz), w.heap.size, 2, rfl, by omega, by rw [hW.cell]; exact HCK.out i _ (by rw [List.getElem?_map, hz]; rfl)⟩)
  have HWB := Lib.hid (show ∀ x ∈ ks ++ ks.take 24, x < 256 from fun x hx => by
    rcases List.mem_append.1 hx with h | h
    · exact HK.out x h
    · exact HK.out x (List.mem_of_mem_take h))
  have HWL := Lib.hid (show (ks ++ ks.take 24).length = 56 by rw [List.length_append, List.length_take, HL.out]; rfl)
  have hsa := fun W => run_arrayAt (P := Tryd.prog) (w := W) 50 5 16 (some ⟨w.heap.size, 2, none⟩) 16 32 Tryd.underlying50 (Nat.le_refl _)
  have hJ := (blk_new' (w := w.alloc (.cells C 46)) (t := 53) (cs := #[.slice (some ⟨w.heap.size, 2, none⟩) 32 32, .slice (some ⟨w.heap.size, 2, none⟩) 24 32]) (n := w.heap.size + 1) (by simp))
  have HN2 : Hid (Nats .u8 256 ((w.alloc (.cells C 46)).alloc (.cells #[.slice (some ⟨w.heap.size, 2, none⟩) 32 32, .slice (some ⟨w.heap.size, 2, none⟩) 24 32] 53)).drew (w.heap.size + 1 + 1) (some ⟨w.heap.size, 2, none⟩) ks) := Lib.hid (((HN.out.below ((Below.refl _ _).alloc (by simp) _)).more (by omega)))
  have hC16 : ∀ (j : Nat) (v : Value), ((ks.take 16).map fun x => Value.int .u8 ((x : Nat) : Int))[j]? = some v → C[2 + j]? = some v := fun j v hv => by
      refine HCK.out j v ?_
      rw [List.map_take, List.getElem?_take] at hv
      split at hv
      · exact hv
      · cases hv
  have H16L := Lib.hid (show (ks.take 16).length = 16 by rw [List.length_take, HL.out]; rfl)
  have H16B := Lib.hid (show ∀ x ∈ ks.take 16, x < 256 from fun x hx => HK.out x (List.mem_of_mem_take hx))
  generalize ks.take 16 = k16 at *
  have HR16 : Hid (∀ (W : World), (∀ i, W.cell? ⟨w.heap.size, i, none⟩ = C[i]?) → (Instr.loadAt 50 (.pointer (some ⟨w.heap.size, 2, none⟩))).run Tryd.prog W = .ok (.agg (b8 k16)) W) := Lib.hid (fun W hb => run_loadAt_mid (P := Tryd.prog) W w.heap.size 2 50 (k16.map fun x => Value.int .u8 ((x : Nat) : Int)) _ (fun j v hv => by
      rw [hb]
      exact hC16 j v hv) Tryd.underlying50 rfl (by rw [List.length_map, H16L.out]; kernel_rfl))
  have HJ0 := Lib.hid (show ((w.alloc (.cells C 46)).alloc (.cells #[.slice (some ⟨w.heap.size, 2, none⟩) 32 32, .slice (some ⟨w.heap.size, 2, none⟩) 24 32] 53)).drew.cell? ⟨w.heap.size + 1, 0, none⟩ = some (.slice (some ⟨w.heap.size, 2, none⟩) 32 32) from (hJ.cell 0).trans rfl)
  have HJ1 := Lib.hid (show ((w.alloc (.cells C 46)).alloc (.cells #[.slice (some ⟨w.heap.size, 2, none⟩) 32 32, .slice (some ⟨w.heap.size, 2, none⟩) 24 32] 53)).drew.cell? ⟨w.heap.size + 1, 1, none⟩ = some (.slice (some ⟨w.heap.size, 2, none⟩) 24 32) from (hJ.cell 1).trans rfl)
  clear hq h5 q2 hW hJ hC16
  have HSZ : (w.alloc (.cells C 46)).heap.size = w.heap.size + 1 := by simp
  have hcw := HW.out.cell
  go_enter Tryd.func25, Tryd.ntmps25
  go_upto_region 7 with fail
  go_cut [4, 5] (fun v4 v5 w' => v5 = .int .i64 3 ∧ Hid (OwnW w' (w.heap.size + 1) v4 []) ∧ Hid (Below (w.alloc (.cells C 46)).heap.size (w.alloc (.cells C 46)) w'))
  case first =>
    clear HDone HCK HN hC0 hC1
    generalize w.alloc (.cells C 46) = wa at *
    have hwa : w.heap.size < wa.heap.size := by omega
    have hld0 := HR16.out wa.drew HW.out.cell
    have hld1 := HR16.out (wa.alloc (.cells #[.slice (some ⟨w.heap.size, 2, none⟩) 32 32, .slice (some ⟨w.heap.size, 2, none⟩) 24 32] 53)).drew (HW.out.alloc _).cell
    clear hcw
    simp [go_sem, hwa] at hld0 hld1
    go_region_law (first
      | (go_simp; go_at_call 31; (with_reducible refine (join_two _ w.heap.size ks _ HL.out (by simp; omega) (by exact HJ0.out) (by exact HJ1.out) (by have := HN2.out; simpa [HSZ] using this)).mono ?_); rintro e w1 ⟨v, rfl, hO, hB⟩; obtain ⟨A, c2, rfl, hc2, hm2, hN⟩ := ownB_form hO HWB.out; rw [HWL.out] at hc2 ⊢; have hld2 := HR16.out w1 ((HW.out.alloc _).drew.next hB rfl).cell; simp [go_sem] at hld2; have HM2 := Lib.hid hm2; have HN3 := Lib.hid hN; have HB1 := Lib.hid hB; clear hO hB hm2 hN)
      | (go_simp; go_at_call 77; (with_reducible refine (tokey_nil _ _ _ _ _).mono ?_); rintro e w2 ⟨v2, rfl, hO2, hB2⟩))
    all_goals go_wp2_with fail
    all_goals go_meet
    all_goals have hB0 := below_nxt ((Below.refl _ wa).alloc (Nat.le_refl _) (.cells #[.slice (some ⟨w.heap.size, 2, none⟩) 32 32, .slice (some ⟨w.heap.size, 2, none⟩) 24 32] 53)) HB1.out (Nat.le_refl _) rfl rfl rfl rfl
    all_goals exact ⟨rfl, Lib.hid (World.ownsRow.mono hO2 (by have := hB0.size; omega)), Lib.hid (below_then hB0 hB2 (Nat.le_refl _))⟩
  case rest =>
    obtain ⟨rfl, HO, HB⟩ := hcut
    go_wp2_with fail
    go_light
    go_ret2
    exact HDone.out _ _ _ _ (by rw [HSZ]; exact HO.out) HB.out
set_option maxRecDepth 100000 in
set_option maxHeartbeats 1000000 in
theorem plan_nilA (zd n : Int) (d : Nat) (ks : List Nat) (m : Int) (tn : Bool) (g : Int) (w : World) (hzd : zd = d) (hd : d < 256) (hl : ks.length = 32) (hk : ∀ x ∈ ks, x < 256) :
    Calls Tryd.prog 25 #[.pointer none, .agg (actC zd n ks m tn g)] w (ToOut w 3 []) := by
  have HL := Lib.hid hl
  have HK := Lib.hid hk
  have HZ := Lib.hid hzd
  have hz0 : 0 ≤ zd := by omega
  have hz1 : zd < 256 := by omega
  clear hl hk hzd
  have hC0 : (actC zd n ks m tn g)[0]? = some (.int .u8 zd) := actC_d
  have hC1 : (actC zd n ks m tn g)[1]? = some (.int .i64 n) := actC_n
  have HCK := Lib.hid (fun (j : Nat) (v : Value) (h : (ks.map fun x => Value.int .u8 ((x : Nat) : Int))[j]? = some v) => actC_key (d := zd) (n := n) (m := m) (tn := tn) (g := g) j v h)
  generalize hCC : actC zd n ks m tn g = C at *
  have hq : zd % 5 = ((d % 5 : Nat) : Int) := by have := HZ.out; omega
  have h5 : d % 5 < 5 := Nat.mod_lt _ (by decide)
  have done : ∀ (w1 : World) (v : Value) (E : Int) (l : List (Nat × Nat)), OwnW w1 (w.alloc (.cells C 46)).heap.size v l → Below (w.alloc (.cells C 46)).heap.size (w.alloc (.cells C 46)) w1 → ToOut w E l (.returned (.tuple #[v, .int .i64 E])) w1 := fun w1 v E l hO hB =>
    ⟨_, rfl, World.ownsRow.mono hO (by simp), below_then ((Below.refl _ w).alloc (Nat.le_refl _) _) hB (Nat.le_refl _)⟩
  have HDone := Lib.hid done
  clear done
  by_cases q0 : d % 5 = 0
  · have t0 : (zd % 5 == 0) = true := by rw [hq, q0]; rfl
    clear hq h5 q0
    go_enter Tryd.func25, Tryd.ntmps25
    go_wp2_with fail
    (with_reducible refine (tolife_nil _ _).mono ?_); rintro e w1 ⟨v, rfl, hO, hB⟩
    go_wp2_with fail
    go_light
    go_ret2
    exact HDone.out _ _ _ _ hO hB
  by_cases q1 : d % 5 = 1
  · have t0 : (zd % 5 == 0) = false := by rw [hq, q1]; rfl
    have t1 : (zd % 5 == 1) = true := by rw [hq, q1]; rfl
    clear hq h5 q0 q1
    go_enter Tryd.func25, Tryd.ntmps25
    go_wp2_with fail
    (with_reducible refine (tocounter_nil _ _).mono ?_); rintro e w1 ⟨v, rfl, hO, hB⟩
    go_wp2_with fail
    go_light
    go_ret2
    exact HDone.out _ _ _ _ hO hB
  by_cases q3 : d % 5 = 3
  · have t0 : (zd % 5 == 0) = false := by rw [hq, q3]; rfl
    have t1 : (zd % 5 == 1) = false := by rw [hq, q3]; rfl
    have t2 : (zd % 5 == 2) = false := by rw [hq, q3]; rfl
    have t3 : (zd % 5 == 3) = true := by rw [hq, q3]; rfl
    have HKR : Hid ((w.alloc (.cells C 46)).rangeAt w.heap.size 2 (ks.map fun x => Value.int .u8 ((x : Nat) : Int))) := Lib.hid (fun j v hv => by rw [(Blk.new w _ _).cell]; exact HCK.out j v hv)
    have HKZ := Lib.hid (show (Tryd.prog.info? 23).map (·.size) = some (ks.map fun x => Value.int .u8 ((x : Nat) : Int)).length by rw [List.length_map, HL.out]; kernel_rfl)
    clear hq h5 q0 q1 q3
    go_enter Tryd.func25, Tryd.ntmps25
    go_wp2_with (refine wpList_load_mid rfl 23 _ rfl w.heap.size 2 rfl _ _ HKR.out Tryd.underlying23 rfl HKZ.out ?_)
    (with_reducible refine (torow_nil _ _ _).mono ?_); rintro e w1 ⟨v, rfl, hO, hB⟩
    go_wp2_with fail
    go_light
    go_ret2
    exact HDone.out _ _ _ _ hO hB
  by_cases q4 : d % 5 = 4
  · have t0 : (zd % 5 == 0) = false := by rw [hq, q4]; rfl
    have t1 : (zd % 5 == 1) = false := by rw [hq, q4]; rfl
    have t2 : (zd % 5 == 2) = false := by rw [hq, q4]; rfl
    have t3 : (zd % 5 == 3) = false := by rw [hq, q4]; rfl
    clear hq h5 q0 q1 q3 q4
    go_enter Tryd.func25, Tryd.ntmps25
    go_wp2_with fail
    (with_reducible refine (kill_nil _ _).mono ?_); rintro e w1 ⟨v, rfl, hO, hB⟩
    go_wp2_with fail
    go_light
    go_ret2
    exact HDone.out _ _ _ _ hO hB
  have q2 : d % 5 = 2 := by omega
  subst hCC
  exact plan_nil2 zd n d ks m tn g w HZ.out hd q2 HL.out HK.out
end Otp
end Go.Proofs.YtpakdcgcgekcfaaDoor
