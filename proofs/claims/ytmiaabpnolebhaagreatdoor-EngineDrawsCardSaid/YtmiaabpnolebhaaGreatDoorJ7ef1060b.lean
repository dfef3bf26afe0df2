/-
  Texts of this claim, joined: RmA, EngG.
-/
import Derived.Test.YtmiaabpnolebhaaGreatDoorJ116bd45f
import Derived.Test.YtmiaabpnolebhaaGreatDoorJ77e99bb7
import Derived.Test.YtmiaabpnolebhaaGreatDoorJd14f291d
set_option linter.unusedSimpArgs false
set_option linter.unusedVariables false
/-
  The reference's memory (curtilageref18): span, Load.
-/
namespace Go.Proofs.YtmiaabpnolebhaaGreatDoor
open Go.RowKit

namespace Core
open Otp Sha Grant Spc R1 Fla
def rg {α : Type} (x1 x2 x3 x4 x5 : α) (r : Nat) : α := if r = 1 then x1 else if r = 2 then x2 else if r = 3 then x3 else if r = 4 then x4 else x5
theorem Mf.at_ {w : World} {m b1 b2 b3 b4 b5 : Nat} {st : Int} {l1 l2 l3 l4 l5 : List Nat} (h : Mf w m b1 b2 b3 b4 b5 st l1 l2 l3 l4 l5) {r : Nat} (hr : r = 1 ∨ r = 2 ∨ r = 3 ∨ r = 4 ∨ r = 5) :
    w.cell? ⟨m, 1 + r, none⟩ = some (.slice (some ⟨rg b1 b2 b3 b4 b5 r, 0, none⟩) (regS r) (regS r)) ∧ Blk w (rg b1 b2 b3 b4 b5 r) 5 (b8 (rg l1 l2 l3 l4 l5 r)) ∧ (rg l1 l2 l3 l4 l5 r).length = regS r ∧ ∀ x ∈ rg l1 l2 l3 l4 l5 r, x < 256 := by
  rcases hr with rfl | rfl | rfl | rfl | rfl
  · exact ⟨by rw [h.k.cell]; rfl, h.k1, h.n1.1, h.n1.2⟩
  · exact ⟨by rw [h.k.cell]; rfl, h.k2, h.n2.1, h.n2.2⟩
  · exact ⟨by rw [h.k.cell]; rfl, h.k3, h.n3.1, h.n3.2⟩
  · exact ⟨by rw [h.k.cell]; rfl, h.k4, h.n4.1, h.n4.2⟩
  · exact ⟨by rw [h.k.cell]; rfl, h.k5, h.n5.1, h.n5.2⟩
theorem chk_err {who st size : Int} {a : Nat} {wr fe : Bool} (h : (chk who st a size wr fe).2.2 ≠ 0) : chk who st a size wr fe = (0, 0, (chk who st a size wr fe).2.2) := by
  unfold chk at h ⊢
  split
  · rfl
  · split
    · rfl
    · split
      · rfl
      · split
        · rfl
        · rename_i h1 h2 h3 h4
          rw [if_neg h1, if_neg h2, if_neg h3, if_neg h4] at h
          exact absurd rfl h
theorem chk_reg {who st size : Int} {a : Nat} {wr fe : Bool} (h : (chk who st a size wr fe).2.2 = 0) : ((chk who st a size wr fe).1 = 1 ∨ (chk who st a size wr fe).1 = 2 ∨ (chk who st a size wr fe).1 = 3 ∨ (chk who st a size wr fe).1 = 4 ∨ (chk who st a size wr fe).1 = 5) ∧ (chk who st a size wr fe).2.1 < regS (chk who st a size wr fe).1 ∧ (sp.getD (chk who st a size wr fe).1 (0, 0)).2 = regS (chk who st a size wr fe).1 := by
  obtain ⟨f, s, h1, h2, h3, -⟩ := chk_good h
  generalize (chk who st a size wr fe).1 = r at *
  generalize (chk who st a size wr fe).2.1 = o at *
  have hr6 : r < 6 := by
    have := (List.getElem?_eq_some_iff.1 h2).1
    simpa [sp] using this
  have hc : r = 1 ∨ r = 2 ∨ r = 3 ∨ r = 4 ∨ r = 5 := by omega
  have hs : s = regS r := by
    rcases hc with rfl | rfl | rfl | rfl | rfl <;> (simp [sp] at h2; rw [← h2.2]; rfl)
  exact ⟨hc, by rw [← hs]; exact h3, by rw [List.getD_eq_getElem?_getD, h2]; exact hs⟩
theorem regS_le (r : Nat) : regS r ≤ 10240 := by
  unfold regS
  (repeat' split) <;> decide
set_option maxRecDepth 100000 in
set_option maxHeartbeats 4000000 in
theorem span_any {m b1 b2 b3 b4 b5 : Nat} {l1 l2 l3 l4 l5 : List Nat} (st who at_ : Int) (a n : Nat) (wr : Bool) (w : World) (hM : Mf w m b1 b2 b3 b4 b5 st l1 l2 l3 l4 l5) (ha : at_ = a) (hm : at_ < 4294967296) (hn : n ≤ 1000000) :
    Calls Tryz.prog 93 #[.pointer (some ⟨m, 0, none⟩), .int .i64 who, .int .u32 at_, .int .i64 (n : Int), .bool wr] w (W3 (wth who st a n wr) w) := by
  have HM := wall hM
  have HCK := wall (fun W => ref_check who st at_ 1 a wr false W ha hm)
  have HG := wall (fun h => chk_reg (who := who) (st := st) (a := a) (size := 1) (wr := wr) (fe := false) h)
  have HGE := wall (fun h => chk_err (who := who) (st := st) (a := a) (size := 1) (wr := wr) (fe := false) h)
  have HW := wall (show wth who st a n wr = (if (chk who st a 1 wr false).2.2 ≠ 0 then (0, 0, (chk who st a 1 wr false).2.2) else if (sp.getD (chk who st a 1 wr false).1 (0, 0)).2 < n + (chk who st a 1 wr false).2.1 then (0, 0, 9) else ((chk who st a 1 wr false).1, (chk who st a 1 wr false).2.1, 0)) from rfl)
  obtain ⟨R, hR⟩ : ∃ y, wth who st a n wr = y := ⟨_, rfl⟩
  rw [hR] at HW ⊢
  clear hR
  obtain ⟨⟨r, o, e⟩, hr⟩ : ∃ y, chk who st a 1 wr false = y := ⟨_, rfl⟩
  rw [hr] at HCK HG HW HGE
  unfold ChkOut at HCK
  simp only at HCK HG HW HGE
  have kst : w.cell? ⟨m, 0, none⟩ = some (.int .i64 st) := by rw [hM.k.cell]; rfl
  clear hr ha hm hM
  go_enter Tryz.func93, Tryz.ntmps93
  go_wp2_with fail
  (with_reducible refine (HCK.out _).mono ?_); rintro ee w1 ⟨rfl, hB1⟩
  have HB1 := wall hB1
  have HM1 := wall (HM.out.old hB1)
  clear hB1 HCK HM kst
  try simp only [Act.put, List.setIfInBounds_toArray, List.set_cons_zero, List.set_cons_succ]
  by_cases he : e = 0
  · obtain ⟨hrc, hlo, hsp⟩ := HG.out he
    have HW2 := wall (show R = if regS r < n + o then (0, 0, 9) else (r, o, 0) by rw [HW.out, if_neg (by simpa using he), hsp])
    have kr := (HM1.out.at_ hrc).1
    have hs := regS_le r
    have he' : (((e : Nat) : Int) == 0) = true := by rw [he]; rfl
    have HEZ := wall he
    generalize rg b1 b2 b3 b4 b5 r = br at kr
    generalize regS r = s at *
    have i1 : (r : Int) < 6 := by omega
    have i0 : (o : Int) < (s : Int) := by omega
    have is : (s : Int) ≤ 10240 := by omega
    have hn1 : (n : Int) ≤ 1000000 := by omega
    clear HG HW HGE hsp hrc hs he
    by_cases hlt : s < n + o
    · have HR := wall (show R = (0, 0, 9) by rw [HW2.out, if_pos hlt])
      have i2 : (s : Int) - (o : Int) < (n : Int) := by omega
      clear HW2 hlt hlo
      go_wp2_with fail
      go_light
      go_ret3
      exact ⟨by rw [HR.out]; rfl, HB1.out⟩
    · have HR := wall (show R = (r, o, 0) by rw [HW2.out, if_neg hlt])
      have i2 : ¬ (s : Int) - (o : Int) < (n : Int) := by omega
      clear HW2 hlt hlo
      go_wp2_with fail
      go_light
      go_ret3
      exact ⟨by rw [HR.out, HEZ.out]; rfl, HB1.out⟩
  · have HR := wall (show R = (0, 0, e) by rw [HW.out, if_pos (by simpa using he)])
    have HZ := wall (HGE.out he)
    have he' : (((e : Nat) : Int) == 0) = false := by rw [beq_eq_false_iff_ne]; omega
    clear HG HW HGE he
    go_wp2_with fail
    go_light
    go_ret3
    refine ⟨?_, HB1.out⟩
    have hz := HZ.out
    simp only [Prod.mk.injEq, and_true] at hz
    rw [HR.out, hz.1, hz.2]
    rfl
/-- The fuses' bytes. -/
def fuL (vs : List Nat) : List Nat := (List.range 256).map (fuB vs)
/-- The reference's memory beside a space's. -/
structure Sm (w : World) (m b1 b2 b3 b4 b5 : Nat) (v : SpV) (F vs : List Nat) (ls : List Bool) : Prop where
  mf : Mf w m b1 b2 b3 b4 b5 v.st (v.ram.take 4096) (v.ram.drop 4096) F v.prt (fuL vs)
  open_ : ∀ i : Nat, ls[i]? ≠ some true
theorem Sm.old {w w' : World} {m b1 b2 b3 b4 b5 : Nat} {v : SpV} {F vs : List Nat} {ls : List Bool} (h : Sm w m b1 b2 b3 b4 b5 v F vs ls) (hb : Below w.heap.size w w') : Sm w' m b1 b2 b3 b4 b5 v F vs ls := ⟨h.mf.old hb, h.open_⟩
/-- Load of any region is a part of its bytes. -/
theorem ld_rg {v : SpV} {F vs : List Nat} {ls : List Bool} (hls : ∀ i : Nat, ls[i]? ≠ some true) {who : Int} {a n : Nat} (h0 : n ≠ 0) (h : (wth who v.st a n false).2.2 = 0) :
    ldR v F vs ls who a n = (0, ((rg (v.ram.take 4096) (v.ram.drop 4096) F v.prt (fuL vs) (wth who v.st a n false).1).drop (wth who v.st a n false).2.1).take n) := by
  obtain ⟨hrc, hro⟩ := wth_in h
  unfold ldR
  rw [if_neg h0, if_neg (by simpa using h)]
  generalize (wth who v.st a n false).1 = r at *
  generalize (wth who v.st a n false).2.1 = o at *
  rcases hrc with rfl | rfl | rfl | rfl | rfl
  · rfl
  · rfl
  · rfl
  · rfl
  · rw [if_neg (by decide), if_pos rfl, fu_open (fun j _ => hls _)]
    congr 1
    have hro' : o + n ≤ 256 := hro
    show _ = ((fuL vs).drop o).take n
    apply List.ext_getElem?
    intro i
    unfold fuL
    by_cases hi : i < n
    · rw [List.getElem?_map, List.getElem?_range hi, List.getElem?_take_of_lt hi, List.getElem?_drop, List.getElem?_map, List.getElem?_range (by omega)]
      rfl
    · rw [List.getElem?_eq_none (by simp; omega), List.getElem?_eq_none (by simp; omega)]
theorem rg_nats {w : World} {b : Nat} {l : List Nat} (h : Blk w b 5 (b8 l)) (hb : ∀ x ∈ l, x < 256) (o : Nat) : Nats .u8 256 w w.heap.size (some ⟨b, o, none⟩) (l.drop o) := fun i x hx => by
  rw [List.getElem?_drop] at hx
  exact ⟨hb x (List.mem_of_getElem? hx), b, o, rfl, h.lt, by rw [h.cell, b8_at hx]⟩
set_option maxRecDepth 100000 in
set_option maxHeartbeats 4000000 in
theorem rload_any {m b1 b2 b3 b4 b5 : Nat} (v : SpV) (F vs : List Nat) (ls : List Bool) (who at_ z : Int) (a n : Nat) (w : World) (hM : Sm w m b1 b2 b3 b4 b5 v F vs ls) (ha : at_ = a) (hm : at_ < 4294967296) (hz : z = n) (hn : n ≤ 1000000) :
    Calls Tryz.prog 124 #[.pointer (some ⟨m, 0, none⟩), .int .i64 who, .int .u32 at_, .int .i64 z] w (LdOut (ldR v F vs ls who a n) w) := by
  subst hz
  have HM := wall hM
  have HWI := wall (span_any v.st who at_ a n false w hM.mf ha hm hn)
  unfold W3 at HWI
  have HIN := wall (fun h => wth_in (who := who) (st := v.st) (a := a) (n := n) (wr := false) h)
  have HLD := wall (fun h0 h => ld_rg (v := v) (F := F) (vs := vs) hM.open_ (who := who) (a := a) (n := n) h0 h)
  obtain ⟨R, hR⟩ : ∃ R, ldR v F vs ls who a n = R := ⟨_, rfl⟩
  rw [hR] at HLD
  rw [hR]
  have HR := wall hR
  unfold ldR at HR
  obtain ⟨⟨r, o, e⟩, hre⟩ : ∃ y, wth who v.st a n false = y := ⟨_, rfl⟩
  rw [hre] at HWI HR HIN HLD
  simp only at HWI HR HIN HLD
  have hnn : (n : Int) ≤ 1000000 := by omega
  have HNN := wall hn
  clear hM ha hm hR hre hn
  by_cases h0 : n = 0
  · have HE := wall (show R = (0, []) by rw [← HR.out, if_pos h0])
    subst h0
    clear HWI HIN HR HLD
    go_enter Tryz.func124, Tryz.ntmps124
    go_wp2_with fail
    go_light
    go_ret2
    refine ⟨_, by rw [HE.out]; rfl, ?_, Below.refl _ _⟩
    rw [HE.out]
    exact World.ownsRow_nil _ _ _ _
  · have hz0 : ¬ (n : Int) ≤ 0 := by omega
    by_cases he : e = 0
    · obtain ⟨hrc, hro⟩ := HIN.out he
      have he' : (((e : Nat) : Int) != 0) = false := by rw [he]; rfl
      have HE := wall (HLD.out h0 he)
      have k7 : w.cell? ⟨m, 7, none⟩ = some (.bool false) := by rw [HM.out.mf.k.cell]; rfl
      clear HR HIN HLD h0 he
      go_enter Tryz.func124, Tryz.ntmps124
      go_wp2_with fail
      (with_reducible refine (HWI.out).mono ?_); rintro ee w1 ⟨rfl, hB1⟩
      have HB1 := wall hB1
      have HM1 := wall (HM.out.old hB1)
      clear hB1 HWI HM k7
      have k7 : w1.cell? ⟨m, 7, none⟩ = some (.bool false) := by rw [HM1.out.mf.k.cell]; rfl
      have HAT := wall (HM1.out.mf.at_ hrc)
      have kr := HAT.out.1
      have hs := regS_le r
      obtain ⟨L, hL⟩ : ∃ y, rg (v.ram.take 4096) (v.ram.drop 4096) F v.prt (fuL vs) r = y := ⟨_, rfl⟩
      rw [hL] at HE HAT
      clear hL HM1
      by_cases h5 : r = 5
      · subst h5
        generalize rg b1 b2 b3 b4 b5 5 = br at *
        generalize regS 5 = s at *
        have i0 : (o : Int) ≤ (s : Int) := by omega
        have is : (s : Int) ≤ 10240 := by omega
        have hso : ¬ s = o := by omega
        have HRO := wall hro
        clear hrc hro hs
        replace kr : w1.cell? ⟨m, 6, none⟩ = some (.slice (some ⟨br, 0, none⟩) s s) := kr
        try simp only [Act.put, List.setIfInBounds_toArray, List.set_cons_zero, List.set_cons_succ]
        go_wp2_with fail
        have HCU := wall (cut_any (some ⟨br, o, none⟩) (s - o) (s - o) (L.drop o) (n : Int) n w1 (by rw [List.length_drop, HAT.out.2.2.1]) (Nat.le_trans (Nat.le_trans (Nat.sub_le _ _) (by omega : s ≤ 10240)) (by decide)) rfl HNN.out (rg_nats HAT.out.2.1 HAT.out.2.2.2 o))
        (with_reducible refine (HCU.out).mono ?_); rintro ee w2 ⟨v2, rfl, hO, hB2⟩
        have HO := wall (show OwnB w2 w.heap.size v2 _ from Cln.own_less hO HB1.out.size)
        have HB2 := wall (below_then HB1.out hB2 (Nat.le_refl _))
        clear hO hB2 HCU
        try simp only [Act.put, List.setIfInBounds_toArray, List.set_cons_zero, List.set_cons_succ]
        go_wp2_with fail
        go_light
        go_ret2
        refine ⟨_, by rw [HE.out]; rfl, ?_, HB2.out⟩
        rw [HE.out]
        exact HO.out
      · have h5' : ((r : Int) == 5) = false := by rw [beq_eq_false_iff_ne]; omega
        generalize rg b1 b2 b3 b4 b5 r = br at *
        generalize regS r = s at *
        have i1 : (r : Int) < 6 := by omega
        have i0 : (o : Int) ≤ (s : Int) := by omega
        have is : (s : Int) ≤ 10240 := by omega
        have hso : ¬ s = o := by omega
        have HRO := wall hro
        clear hrc hro hs h5
        try simp only [Act.put, List.setIfInBounds_toArray, List.set_cons_zero, List.set_cons_succ]
        go_wp2_with fail
        have HCU := wall (cut_any (some ⟨br, o, none⟩) (s - o) (s - o) (L.drop o) (n : Int) n w1 (by rw [List.length_drop, HAT.out.2.2.1]) (Nat.le_trans (Nat.le_trans (Nat.sub_le _ _) (by omega : s ≤ 10240)) (by decide)) rfl HNN.out (rg_nats HAT.out.2.1 HAT.out.2.2.2 o))
        (with_reducible refine (HCU.out).mono ?_); rintro ee w2 ⟨v2, rfl, hO, hB2⟩
        have HO := wall (show OwnB w2 w.heap.size v2 _ from Cln.own_less hO HB1.out.size)
        have HB2 := wall (below_then HB1.out hB2 (Nat.le_refl _))
        clear hO hB2 HCU
        try simp only [Act.put, List.setIfInBounds_toArray, List.set_cons_zero, List.set_cons_succ]
        go_wp2_with fail
        go_light
        go_ret2
        refine ⟨_, by rw [HE.out]; rfl, ?_, HB2.out⟩
        rw [HE.out]
        exact HO.out
    · have HE := wall (show R = (e, []) by rw [← HR.out, if_neg h0, if_pos (by simpa using he)])
      have he' : (((e : Nat) : Int) != 0) = true := by rw [bne_iff_ne]; omega
      clear HR HIN HLD h0 he
      go_enter Tryz.func124, Tryz.ntmps124
      go_wp2_with fail
      (with_reducible refine (HWI.out).mono ?_); rintro ee w1 ⟨rfl, hB1⟩
      have HB1 := wall hB1
      clear hB1 HWI
      try simp only [Act.put, List.setIfInBounds_toArray, List.set_cons_zero, List.set_cons_succ]
      go_wp2_with fail
      go_light
      go_ret2
      refine ⟨_, by rw [HE.out]; rfl, ?_, HB1.out⟩
      rw [HE.out]
      exact World.ownsRow_nil _ _ _ _
end Core
end Go.Proofs.YtmiaabpnolebhaaGreatDoor

/-
  Law 18: lay.
-/
namespace Go.Proofs.YtmiaabpnolebhaaGreatDoor
open Go.RowKit

namespace Eng
open Otp Sha R1 Spc Grant Fla Core
theorem fuL_z : fuL Otp.z64 = z256 := by decide +kernel
theorem f64_o : ∀ i : Nat, f64[i]? ≠ some true := fun i h => by
  have := List.eq_of_mem_replicate (List.mem_of_getElem? h)
  cases this
/-- A space and the document's memory, alike. -/
structure Bo (w : World) (B N g f pf c p b m b1 b2 b3 b4 b5 : Nat) (v : SpV) : Prop where
  sw : Sw w g f pf c p b v erased Otp.z64 f64 false
  sm : Sm w m b1 b2 b3 b4 b5 v erased Otp.z64 f64
  lo : B ≤ g ∧ B ≤ f ∧ B ≤ pf ∧ B ≤ c ∧ B ≤ p ∧ B ≤ b
  hi : g < N ∧ f < N ∧ pf < N ∧ c < N ∧ p < N ∧ b < N
  mm : N ≤ m ∧ N ≤ b1 ∧ N ≤ b2 ∧ N ≤ b3 ∧ N ≤ b4 ∧ N ≤ b5
theorem Bo.old {w w' : World} {B N g f pf c p b m b1 b2 b3 b4 b5 : Nat} {v : SpV} (h : Bo w B N g f pf c p b m b1 b2 b3 b4 b5 v) (hb : Below w.heap.size w w') : Bo w' B N g f pf c p b m b1 b2 b3 b4 b5 v := ⟨h.sw.old hb, h.sm.old hb, h.lo, h.hi, h.mm⟩
theorem wp_any {P : Program} {k : Code} {Q : Exit → Act → World → Prop} {a : Act} {w' : World} (R : World → Prop) (h1 : R w') (h : ∀ w8, R w8 → Code.wp P k Q a w8) : Code.wp P k Q a w' := h w' h1
def LayE (st : Int) (w : World) (e : Ending) (w' : World) : Prop := ∃ N g f pf c p b m b1 b2 b3 b4 b5 v, e = .returned (.tuple #[.pointer (some ⟨g, 0, none⟩), .pointer (some ⟨m, 0, none⟩)]) ∧ Bo w' w.heap.size N g f pf c p b m b1 b2 b3 b4 b5 v ∧ v.st = st ∧ v.ram = List.replicate 8192 0 ∧ v.prt = List.replicate 64 0 ∧ Below w.heap.size w w'
set_option maxRecDepth 100000 in
set_option maxHeartbeats 4000000 in
theorem elay_any (stage : Nat) (hst : stage < 256) (w : World) :
    Calls Tryz.prog 49 #[.int .u8 (stage : Int)] w (LayE ((stage % 3 : Nat) : Int) w) := by
  have hst' : (stage : Int) % 3 = ((stage % 3 : Nat) : Int) := by simp
  have hs3 : stage % 3 < 3 := Nat.mod_lt _ (by decide)
  obtain ⟨st, hse⟩ : ∃ y, stage % 3 = y := ⟨_, rfl⟩
  rw [hse] at hst' hs3 ⊢
  clear hst hse
  go_enter Tryz.func49, Tryz.ntmps49
  go_wp2_with fail
  (with_reducible refine (Fla.flash_new _).mono ?_); rintro e w1 ⟨f, pf, rfl, hf, hpf, hFl, hB1⟩
  have HB1 := wall hB1
  have HFL := wall hFl
  have HFB := wall (And.intro hf hpf)
  clear hf hpf hFl hB1
  try simp only [Act.put, List.setIfInBounds_toArray, List.set_cons_zero, List.set_cons_succ]
  go_wp2_with fail
  (with_reducible refine (new_chip _).mono ?_); rintro e w2 ⟨c, pc, bc, rfl, hC, hc, hp, hb, hB2⟩
  have HCB := wall (show w.heap.size ≤ c ∧ w.heap.size ≤ pc ∧ w.heap.size ≤ bc from by have := HB1.out.size; omega)
  have HB2 := wall (below_then HB1.out hB2 (Nat.le_refl _))
  have HFC2 := wall (And.intro (HFL.out.old hB2) hC)
  clear hC hc hp hb hB2 HB1 HFL
  try simp only [Act.put, List.setIfInBounds_toArray, List.set_cons_zero, List.set_cons_succ]
  go_wp2_with fail
  (with_reducible refine (newspace_any _ _ _).mono ?_); rintro e w3 ⟨g, rfl, hg, hSp, hB3⟩
  have HG := wall (show w.heap.size ≤ g ∧ g < w3.heap.size from ⟨Nat.le_trans HB2.out.size hg, Blk.lt hSp⟩)
  have HFC3 := wall (And.intro (HFC2.out.1.old hB3) (HFC2.out.2.old hB3))
  have HGF := wall (show (f < g ∧ pf < g) ∧ c < g ∧ pc < g ∧ bc < g from ⟨⟨Nat.lt_of_lt_of_le HFC2.out.1.lt.1 hg, Nat.lt_of_lt_of_le HFC2.out.1.lt.2 hg⟩, Nat.lt_of_lt_of_le HFC2.out.2.head.lt hg, Nat.lt_of_lt_of_le HFC2.out.2.fz.ltp hg, Nat.lt_of_lt_of_le HFC2.out.2.fz.ltb hg⟩)
  have HB3 := wall (below_then HB2.out hB3 (Nat.le_refl _))
  obtain ⟨v6, hv6, hok6, hr6, hp6⟩ : ∃ v6 : SpV, Sp w3 g v6 ∧ v6.Ok ∧ v6.ram = List.replicate 8192 0 ∧ v6.prt = List.replicate 64 0 ∧ v6.fl = some ⟨f, 0, none⟩ ∧ v6.ch = some ⟨c, 0, none⟩ := ⟨_, hSp, spN_ok _ _, rfl, rfl, rfl, rfl⟩
  have HV6 := wall (And.intro hv6 (And.intro hok6 (And.intro hr6 hp6)))
  have c0 : w3.cell? ⟨g, 0, none⟩ = some (.int .i64 v6.st) := hv6.st
  have f0 : w3.frozen? ⟨g, 0, none⟩ = false := Blk.frozen hv6 0
  clear hg hSp hB3 HB2 HFC2 hv6 hok6 hr6 hp6
  try simp only [Act.put, List.setIfInBounds_toArray, List.set_cons_zero, List.set_cons_succ]
  go_upto_region 5 with fail
  refine wp_any (fun w' => Sp w' g { v6 with st := (st : Int) } ∧ Below w.heap.size w w' ∧ Frm [g] w3 w' ∧ w'.heap.size = w3.heap.size) ?_ ?_
  · refine ⟨?_, HB3.out.setCell (p := ⟨g, 0, none⟩) HG.out.1 _, (Frm.refl _ _).setCell (p := ⟨g, 0, none⟩) (.inl (by simp)) _, by simp⟩
    have := HV6.out.1.set 0 (.int .i64 (st : Int))
    simp only [List.setIfInBounds_toArray] at this
    exact this
  intro w4 h4
  have H4 := wall h4
  clear h4 c0 f0 HB3
  go_wp2_with fail
  (with_reducible refine (mem_new _ _).mono ?_); rintro e w5 ⟨m, b1, b2, b4, rfl, hMs, hB5⟩
  have HMS := wall hMs
  have HB5 := wall (below_then H4.out.2.1 hB5 (Nat.le_refl _))
  have HSP := wall (Blk.next H4.out.1 hB5 rfl)
  have HX := wall (show Frm [g] w3 w5 from H4.out.2.2.1.trans (Frm.of_below hB5))
  have HSZ := wall H4.out.2.2.2
  clear hMs hB5 H4
  try simp only [Act.put, List.setIfInBounds_toArray, List.set_cons_zero, List.set_cons_succ]
  go_wp2_with fail
  go_light
  go_ret2
  obtain ⟨b3, b5, hF, h3, h5⟩ := HMS.out.full
  have hm := HMS.out
  have hgf := HGF.out
  have hx := HX.out
  have hsz := HSZ.out
  have hg := HG.out
  obtain ⟨T, k1, k2⟩ := HFC3.out.1
  refine ⟨w3.heap.size, g, f, pf, c, pc, bc, m, b1, b2, b3, b4, b5, { v6 with st := (st : Int) }, rfl, ⟨⟨HV6.out.2.1.stage _, HSP.out, HV6.out.2.2.2.2.1, HV6.out.2.2.2.2.2, ⟨T, k1.frm hx (by simp; omega), k2.frm hx (by simp; omega)⟩, fun y hy => by rw [List.eq_of_mem_replicate hy]; decide, erased_len, HFC3.out.2.frm hx (by simp; omega) (by simp; omega) (by simp; omega)⟩, ⟨?_, f64_o⟩, ⟨hg.1, HFB.out.1, HFB.out.2, HCB.out.1, HCB.out.2.1, HCB.out.2.2⟩, ⟨hg.2, by omega, by omega, by omega, by omega, by omega⟩, ⟨?_, ?_, ?_, ?_, ?_, ?_⟩⟩, rfl, HV6.out.2.2.1, HV6.out.2.2.2.1, HB5.out⟩
  · show Mf w5 m b1 b2 b3 b4 b5 (st : Int) (v6.ram.take 4096) (v6.ram.drop 4096) erased v6.prt (fuL Otp.z64)
    rw [HV6.out.2.2.1, HV6.out.2.2.2.1, fuL_z, List.take_replicate, List.drop_replicate]
    exact hF
  · rw [← hsz]; exact hm.hm
  · rw [← hsz]; exact hm.h1
  · rw [← hsz]; exact hm.h2
  · rw [← hsz]; exact h3
  · rw [← hsz]; exact hm.h4
  · rw [← hsz]; exact h5
end Eng
end Go.Proofs.YtmiaabpnolebhaaGreatDoor
