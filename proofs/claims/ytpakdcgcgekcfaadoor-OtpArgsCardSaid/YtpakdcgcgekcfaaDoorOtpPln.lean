/-
  The law's plan (curtilagelaw11): what an act would program.
-/
import Derived.Test.YtpakdcgcgekcfaaDoorProg
import Derived.Test.YtpakdcgcgekcfaaDoorMem
import Derived.Test.YtpakdcgcgekcfaaDoorNext
import Derived.Test.YtpakdcgcgekcfaaDoorOtpAct
import Derived.Test.YtpakdcgcgekcfaaDoorOtpOps
import Derived.Test.YtpakdcgcgekcfaaDoorOtpTo
import Derived.Test.YtpakdcgcgekcfaaDoorOtpKey
import Derived.Test.YtpakdcgcgekcfaaDoorOtpRow
import Derived.Test.YtpakdcgcgekcfaaDoorR1Join
import Derived.Test.YtpakdcgcgekcfaaDoorOtpRise2
import Derived.Deep.MidRow
import Derived.Laws.Cover3
import Derived.Deep.Onto
import Derived.RegionTactic
import Derived.Deep.RegionHeld3
import Derived.BigRegion
namespace Go.Proofs.YtpakdcgcgekcfaaDoor
open Go.RowKit

namespace Otp
open Fuse
variable {w : World} {c p b : Nat} {vs : List Nat} {ls : List Bool} {sd : Bool}
theorem actC_d {d n : Int} {ks : List Nat} {m : Int} {tn : Bool} {g : Int} : (actC d n ks m tn g)[0]? = some (.int .u8 d) := by
  unfold actC
  rw [Array.getElem?_append_left (by simp; omega), Array.getElem?_append_left (by simp)]
  rfl
theorem join_two (J g : Nat) (ks : List Nat) (w : World) (hl : ks.length = 32) (hJ : J < w.heap.size) (hc0 : w.cell? ⟨J, 0, none⟩ = some (.slice (some ⟨g, 2, none⟩) 32 32)) (hc1 : w.cell? ⟨J, 1, none⟩ = some (.slice (some ⟨g, 2, none⟩) 24 32)) (hn : Nats .u8 256 w w.heap.size (some ⟨g, 2, none⟩) ks) :
    Calls Tryd.prog 31 #[.slice (some ⟨J, 0, none⟩) 2 2] w (R1.BytesOut w (ks ++ ks.take 24)) := by
  have h24 : (ks.take 24).length = 24 := by rw [List.length_take]; omega
  have := R1.join_any J 0 2 2 [⟨g, 2, 32, ks⟩, ⟨g, 2, 32, ks.take 24⟩] w rfl (by decide) hJ (fun i p hp => ?_) (fun p hp => ?_)
  · simpa [R1.joinB] using this
  · match i, hp with
    | 0, hp => obtain rfl := Option.some.inj hp; simp only [hl]; exact hc0
    | 1, hp => obtain rfl := Option.some.inj hp; simp only [h24]; exact hc1
    | _ + 2, hp => simp at hp
  · simp only [List.mem_cons, List.not_mem_nil, or_false] at hp
    rcases hp with rfl | rfl
    · exact ⟨by rw [hl]; decide, hn⟩
    · exact ⟨by rw [h24]; decide, hn.take 24⟩
theorem tokey_16 (A : Option Addr) (len cap : Nat) (l : List Nat) (ns : List Nat) (er : Int) (rl : List (Nat × Nat)) (w : World) (h : Cz w c p b vs ls sd) (hl : l.length = len) (hlc : len ≤ cap) (hcm : cap ≤ maxLen) (hz : Nats .u8 256 w w.heap.size A l) (hns : ns.length = 16) (hb : ∀ x ∈ ns, x < 256) (hE : tkE vs l ns = er) (hL : tkL vs l ns = rl) :
    Calls Tryd.prog 77 #[.pointer (some ⟨c, 0, none⟩), .slice A len cap, .agg (b8 ns)] w (ToOut w er rl) := by
  subst hE hL
  exact tokey_any A len cap l ns w h hl hlc hcm hz hns hb
set_option maxRecDepth 100000 in
set_option maxHeartbeats 1000000 in
theorem plan_2 (zd n : Int) (d : Nat) (ks : List Nat) (m : Int) (tn : Bool) (g : Int) (w : World) (h : Cz w c p b vs ls sd) (hT : Tab w) (hzd : zd = d) (hd : d < 256) (q2 : d % 5 = 2) (hl : ks.length = 32) (hk : ∀ x ∈ ks, x < 256) :
    Calls Tryd.prog 25 #[.pointer (some ⟨c, 0, none⟩), .agg (actC zd n ks m tn g)] w (ToOut w (plE vs d n ks) (plL vs d n ks)) := by
  have H := Lib.hid h
  have HL := Lib.hid hl
  have HK := Lib.hid hk
  have HT := Lib.hid hT
  have HZ := Lib.hid hzd
  have hz0 : 0 ≤ zd := by omega
  have hz1 : zd < 256 := by omega
  clear h hl hk hT hzd
  have hC0 : (actC zd n ks m tn g)[0]? = some (.int .u8 zd) := actC_d
  have hC1 : (actC zd n ks m tn g)[1]? = some (.int .i64 n) := actC_n
  have HCK := Lib.hid (fun (j : Nat) (v : Value) (h : (ks.map fun x => Value.int .u8 ((x : Nat) : Int))[j]? = some v) => actC_key (d := zd) (n := n) (m := m) (tn := tn) (g := g) j v h)
  generalize actC zd n ks m tn g = C at *
  have hq : zd % 5 = ((d % 5 : Nat) : Int) := by have := HZ.out; omega
  have h5 : d % 5 < 5 := Nat.mod_lt _ (by decide)
  have done : ∀ (w1 : World) (v : Value) (E : Int) (l : List (Nat × Nat)), OwnW w1 (w.alloc (.cells C 46)).heap.size v l → Below (w.alloc (.cells C 46)).heap.size (w.alloc (.cells C 46)) w1 → ToOut w E l (.returned (.tuple #[v, .int .i64 E])) w1 := fun w1 v E l hO hB =>
    ⟨_, rfl, World.ownsRow.mono hO (by simp), below_then ((Below.refl _ w).alloc (Nat.le_refl _) _) hB (Nat.le_refl _)⟩
  have HDone := Lib.hid done
  clear done
  have t0 : (zd % 5 == 0) = false := by rw [hq, q2]; rfl
  have t1 : (zd % 5 == 1) = false := by rw [hq, q2]; rfl
  have t2 : (zd % 5 == 2) = true := by rw [hq, q2]; rfl
  rw [show plE vs d n ks = tkE vs (ks ++ ks.take 24) (ks.take 16) by simp [plE, q2], show plL vs d n ks = tkL vs (ks ++ ks.take 24) (ks.take 16) by simp [plL, q2]]
  have hW : Blk (w.alloc (.cells C 46)) w.heap.size 46 C := Blk.new w _ _
  have HW := Lib.hid hW
  have HN : Hid (Nats .u8 256 (w.alloc (.cells C 46)) (w.heap.size + 1) (some ⟨w.heap.size, 2, none⟩) ks) := Lib.hid (fun i z hz => ⟨HK.out z (List.mem_of_getElem? hz), w.heap.size, 2, rfl, by omega, by rw [hW.cell]; exact HCK.out i _ (by rw [List.getElem?_map, hz]; rfl)⟩)
  have HWB := Lib.hid (show ∀ x ∈ ks ++ ks.take 24, x < 256 from fun x hx => by
    rcases List.mem_append.1 hx with h | h
    · exact HK.out x h
    · exact HK.out x (List.mem_of_mem_take h))
  have HWL := Lib.hid (show (ks ++ ks.take 24).length = 56 by rw [List.length_append, List.length_take, HL.out]; rfl)
  have hsa := fun W => run_arrayAt (P := Tryd.prog) (w := W) 50 5 16 (some ⟨w.heap.size, 2, none⟩) 16 32 Tryd.underlying50 (Nat.le_refl _)
  have hJ := (blk_new' (w := w.alloc (.cells C 46)) (t := 53) (cs := #[.slice (some ⟨w.heap.size, 2, none⟩) 32 32, .slice (some ⟨w.heap.size, 2, none⟩) 24 32]) (n := w.heap.size + 1) (by simp))
  have HN2 : Hid (Nats .u8 256 ((w.alloc (.cells C 46)).alloc (.cells #[.slice (some ⟨w.heap.size, 2, none⟩) 32 32, .slice (some ⟨w.heap.size, 2, none⟩) 24 32] 53)).drew (w.heap.size + 1 + 1) (some ⟨w.heap.size, 2, none⟩) ks) := Lib.hid (((HN.out.below ((Below.refl _ _).alloc (by simp) _)).more (by omega)))
  have hC16 : ∀ (j : Nat) (v : Value), ((ks.take 16).map fun x => Value.int .u8 ((x : Nat) : Int))[j]? = some v → C[2 + j]? = some v := fun j v hv => by
      refine HCK.out j v ?_
      rw [List.map_take, List.getElem?_take] at hv
      split at hv
      · exact hv
      · cases hv
  have H16L := Lib.hid (show (ks.take 16).length = 16 by rw [List.length_take, HL.out]; rfl)
  have H16B := Lib.hid (show ∀ x ∈ ks.take 16, x < 256 from fun x hx => HK.out x (List.mem_of_mem_take hx))
  generalize ks.take 16 = k16 at *
  have HR16 : Hid (∀ (W : World), (∀ i, W.cell? ⟨w.heap.size, i, none⟩ = C[i]?) → (Instr.loadAt 50 (.pointer (some ⟨w.heap.size, 2, none⟩))).run Tryd.prog W = .ok (.agg (b8 k16)) W) := Lib.hid (fun W hb => run_loadAt_mid (P := Tryd.prog) W w.heap.size 2 50 (k16.map fun x => Value.int .u8 ((x : Nat) : Int)) _ (fun j v hv => by
      rw [hb]
      exact hC16 j v hv) Tryd.underlying50 rfl (by rw [List.length_map, H16L.out]; kernel_rfl))
  have HJ0 := Lib.hid (show ((w.alloc (.cells C 46)).alloc (.cells #[.slice (some ⟨w.heap.size, 2, none⟩) 32 32, .slice (some ⟨w.heap.size, 2, none⟩) 24 32] 53)).drew.cell? ⟨w.heap.size + 1, 0, none⟩ = some (.slice (some ⟨w.heap.size, 2, none⟩) 32 32) from (hJ.cell 0).trans rfl)
  have HJ1 := Lib.hid (show ((w.alloc (.cells C 46)).alloc (.cells #[.slice (some ⟨w.heap.size, 2, none⟩) 32 32, .slice (some ⟨w.heap.size, 2, none⟩) 24 32] 53)).drew.cell? ⟨w.heap.size + 1, 1, none⟩ = some (.slice (some ⟨w.heap.size, 2, none⟩) 24 32) from (hJ.cell 1).trans rfl)
  clear hq h5 q2 hW hJ hC16
  obtain ⟨er, hE⟩ : ∃ e, tkE vs (ks ++ ks.take 24) k16 = e := ⟨_, rfl⟩
  obtain ⟨rl, hL⟩ : ∃ e, tkL vs (ks ++ ks.take 24) k16 = e := ⟨_, rfl⟩
  rw [hE, hL]
  have HE := Lib.hid hE
  have HLL := Lib.hid hL
  clear hE hL
  have HSZ : (w.alloc (.cells C 46)).heap.size = w.heap.size + 1 := by simp
  have HCW := Lib.hid (H.out.alloc (.cells C 46))
  have hcw := HW.out.cell
  go_enter Tryd.func25, Tryd.ntmps25
  go_upto_region 7 with fail
  go_cut [4, 5] (fun v4 v5 w' => v5 = .int .i64 er ∧ Hid (OwnW w' (w.heap.size + 1) v4 rl) ∧ Hid (Below (w.alloc (.cells C 46)).heap.size (w.alloc (.cells C 46)) w'))
  case first =>
    clear HDone HCK HN hC0 hC1
    generalize w.alloc (.cells C 46) = wa at *
    have hwa : w.heap.size < wa.heap.size := by omega
    have hld0 := HR16.out wa.drew HW.out.cell
    have hld1 := HR16.out (wa.alloc (.cells #[.slice (some ⟨w.heap.size, 2, none⟩) 32 32, .slice (some ⟨w.heap.size, 2, none⟩) 24 32] 53)).drew (HW.out.alloc _).cell
    clear hcw
    simp [go_sem, hwa] at hld0 hld1
    go_region_law (first
      | (go_simp; go_at_call 31; (with_reducible refine (join_two _ w.heap.size ks _ HL.out (by simp; omega) (by exact HJ0.out) (by exact HJ1.out) (by have := HN2.out; simpa [HSZ] using this)).mono ?_); rintro e w1 ⟨v, rfl, hO, hB⟩; obtain ⟨A, c2, rfl, hc2, hm2, hN⟩ := ownB_form hO HWB.out; rw [HWL.out] at hc2 ⊢; have hld2 := HR16.out w1 ((HW.out.alloc _).drew.next hB rfl).cell; simp [go_sem] at hld2; have HC1 := Lib.hid ((HCW.out.alloc _).drew.old hB); have HM2 := Lib.hid hm2; have HN3 := Lib.hid hN; have HB1 := Lib.hid hB; clear hO hB hm2 hN)
      | (go_simp; go_at_call 77; (with_reducible refine (tokey_16 A 56 c2 (ks ++ ks.take 24) k16 er rl _ HC1.out HWL.out hc2 HM2.out HN3.out H16L.out H16B.out HE.out HLL.out).mono ?_); rintro e w2 ⟨v2, rfl, hO2, hB2⟩))
    all_goals go_wp2_with fail
    all_goals go_meet
    all_goals have hB0 := below_nxt ((Below.refl _ wa).alloc (Nat.le_refl _) (.cells #[.slice (some ⟨w.heap.size, 2, none⟩) 32 32, .slice (some ⟨w.heap.size, 2, none⟩) 24 32] 53)) HB1.out (Nat.le_refl _) rfl rfl rfl rfl
    all_goals exact ⟨rfl, Lib.hid (World.ownsRow.mono hO2 (by have := hB0.size; omega)), Lib.hid (below_then hB0 hB2 (Nat.le_refl _))⟩
  case rest =>
    obtain ⟨rfl, HO, HB⟩ := hcut
    go_wp2_with fail
    go_light
    go_ret2
    exact HDone.out _ _ _ _ (by rw [HSZ]; exact HO.out) HB.out
set_option maxRecDepth 100000 in
set_option maxHeartbeats 1000000 in
theorem plan_act (zd n : Int) (d : Nat) (ks : List Nat) (m : Int) (tn : Bool) (g : Int) (w : World) (h : Cz w c p b vs ls sd) (hT : Tab w) (hzd : zd = d) (hd : d < 256) (hl : ks.length = 32) (hk : ∀ x ∈ ks, x < 256) :
    Calls Tryd.prog 25 #[.pointer (some ⟨c, 0, none⟩), .agg (actC zd n ks m tn g)] w (ToOut w (plE vs d n ks) (plL vs d n ks)) := by
  have H := Lib.hid h
  have HL := Lib.hid hl
  have HK := Lib.hid hk
  have HT := Lib.hid hT
  have HZ := Lib.hid hzd
  have hz0 : 0 ≤ zd := by omega
  have hz1 : zd < 256 := by omega
  clear h hl hk hT hzd
  have hC0 : (actC zd n ks m tn g)[0]? = some (.int .u8 zd) := actC_d
  have hC1 : (actC zd n ks m tn g)[1]? = some (.int .i64 n) := actC_n
  have HCK := Lib.hid (fun (j : Nat) (v : Value) (h : (ks.map fun x => Value.int .u8 ((x : Nat) : Int))[j]? = some v) => actC_key (d := zd) (n := n) (m := m) (tn := tn) (g := g) j v h)
  generalize hCC : actC zd n ks m tn g = C at *
  have hq : zd % 5 = ((d % 5 : Nat) : Int) := by have := HZ.out; omega
  have h5 : d % 5 < 5 := Nat.mod_lt _ (by decide)
  have done : ∀ (w1 : World) (v : Value) (E : Int) (l : List (Nat × Nat)), OwnW w1 (w.alloc (.cells C 46)).heap.size v l → Below (w.alloc (.cells C 46)).heap.size (w.alloc (.cells C 46)) w1 → ToOut w E l (.returned (.tuple #[v, .int .i64 E])) w1 := fun w1 v E l hO hB =>
    ⟨_, rfl, World.ownsRow.mono hO (by simp), below_then ((Below.refl _ w).alloc (Nat.le_refl _) _) hB (Nat.le_refl _)⟩
  have HDone := Lib.hid done
  clear done
  by_cases q0 : d % 5 = 0
  · have t0 : (zd % 5 == 0) = true := by rw [hq, q0]; rfl
    rw [show plE vs d n ks = tlE vs n by simp [plE, q0], show plL vs d n ks = tlL vs n by simp [plL, q0]]
    clear hq h5 q0
    go_enter Tryd.func25, Tryd.ntmps25
    go_wp2_with fail
    (with_reducible refine (tolife_any _ _ (H.out.alloc _)).mono ?_); rintro e w1 ⟨v, rfl, hO, hB⟩
    go_wp2_with fail
    go_light
    go_ret2
    exact HDone.out _ _ _ _ hO hB
  by_cases q1 : d % 5 = 1
  · have t0 : (zd % 5 == 0) = false := by rw [hq, q1]; rfl
    have t1 : (zd % 5 == 1) = true := by rw [hq, q1]; rfl
    rw [show plE vs d n ks = tcE vs n by simp [plE, q1], show plL vs d n ks = tcL vs n by simp [plL, q1]]
    clear hq h5 q0 q1
    go_enter Tryd.func25, Tryd.ntmps25
    go_wp2_with fail
    (with_reducible refine (tocounter_any _ _ (H.out.alloc _) (HT.out.old ((Below.refl _ w).alloc (Nat.le_refl _) _))).mono ?_); rintro e w1 ⟨v, rfl, hO, hB⟩
    generalize tcE vs n = er at *
    generalize tcL vs n = rl at *
    go_wp2_with fail
    go_light
    go_ret2
    exact HDone.out _ _ _ _ hO hB
  by_cases q3 : d % 5 = 3
  · have t0 : (zd % 5 == 0) = false := by rw [hq, q3]; rfl
    have t1 : (zd % 5 == 1) = false := by rw [hq, q3]; rfl
    have t2 : (zd % 5 == 2) = false := by rw [hq, q3]; rfl
    have t3 : (zd % 5 == 3) = true := by rw [hq, q3]; rfl
    rw [show plE vs d n ks = trE vs n by simp [plE, q3], show plL vs d n ks = trL vs n ks by simp [plL, q3]]
    have HKR : Hid ((w.alloc (.cells C 46)).rangeAt w.heap.size 2 (ks.map fun x => Value.int .u8 ((x : Nat) : Int))) := Lib.hid (fun j v hv => by rw [(Blk.new w _ _).cell]; exact HCK.out j v hv)
    have HKZ := Lib.hid (show (Tryd.prog.info? 23).map (·.size) = some (ks.map fun x => Value.int .u8 ((x : Nat) : Int)).length by rw [List.length_map, HL.out]; kernel_rfl)
    clear hq h5 q0 q1 q3
    go_enter Tryd.func25, Tryd.ntmps25
    go_wp2_with (refine wpList_load_mid rfl 23 _ rfl w.heap.size 2 rfl _ _ HKR.out Tryd.underlying23 rfl HKZ.out ?_)
    (with_reducible refine (torow_to _ ks _ (H.out.alloc _) HL.out HK.out).mono ?_); rintro e w1 ⟨v, rfl, hO, hB⟩
    generalize trE vs n = er at *
    generalize trL vs n ks = rl at *
    go_wp2_with fail
    go_light
    go_ret2
    exact HDone.out _ _ _ _ hO hB
  by_cases q4 : d % 5 = 4
  · have t0 : (zd % 5 == 0) = false := by rw [hq, q4]; rfl
    have t1 : (zd % 5 == 1) = false := by rw [hq, q4]; rfl
    have t2 : (zd % 5 == 2) = false := by rw [hq, q4]; rfl
    have t3 : (zd % 5 == 3) = false := by rw [hq, q4]; rfl
    rw [show plE vs d n ks = atE n by simp [plE, q4], show plL vs d n ks = klL vs n by simp [plL, q4]]
    clear hq h5 q0 q1 q3 q4
    go_enter Tryd.func25, Tryd.ntmps25
    go_wp2_with fail
    (with_reducible refine (kill_any _ _ (H.out.alloc _)).mono ?_); rintro e w1 ⟨v, rfl, hO, hB⟩
    generalize atE n = er at *
    generalize klL vs n = rl at *
    go_wp2_with fail
    go_light
    go_ret2
    exact HDone.out _ _ _ _ hO hB
  have q2 : d % 5 = 2 := by omega
  subst hCC
  exact plan_2 zd n d ks m tn g w H.out HT.out HZ.out hd q2 HL.out HK.out
end Otp
end Go.Proofs.YtpakdcgcgekcfaaDoor
